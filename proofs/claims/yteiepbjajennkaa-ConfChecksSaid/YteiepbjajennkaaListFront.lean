/- A node is put ahead of a row, ahead of another node; refusals. Conditions: none. -/
import Derived.Test.YteiepbjajennkaaListBack
import Derived.Deep.RegionWith
namespace Go.Proofs.Yteiepbjajennkaa.ListHand
set_option linter.unusedVariables false
open Go.RowKit Go.Proofs.YteiepbjajennkaaW.PrintWords
variable {w0 W : World} {g a b N H : Nat} {R : Nat → List Nat}
theorem reads_one (w : World) (x : Int) : ReadsInt (w.alloc (.cells #[.int .i64 x] 3)) .i64 (some ⟨w.heap.size, 0, none⟩) 1 [x] :=
  ⟨rfl, by decide, fun _ => ⟨_, rfl, fun j hj => by
    have hb : (w.alloc (.cells #[.int .i64 x] 3)).heap[w.heap.size]? = some (.cells #[.int .i64 x] 3 (0, 0)) := heap_alloc_new w _
    have : j = 0 := by omega
    subst this
    exact (blk_cell hb 0).trans rfl⟩⟩
/-- What may says of the nodes, if it does not let them in. -/
theorem back_no {hd : Int} {A : Option Addr} {m c : Nat} {r : Int} (hr : r ≠ 0) (hc : Calls Try.prog 39 #[.pointer (some ⟨g, 0, none⟩), .int .i64 hd, .slice A m c] W fun e w' => e = .returned (.int .i64 r) ∧ Below W.heap.size W w') :
    Calls Try.prog 15 #[.pointer (some ⟨g, 0, none⟩), .int .i64 hd, .slice A m c] W fun e w' => e = .returned (.int .i64 r) ∧ Below W.heap.size W w' := by
  have hb : (r == 0) = false := beq_eq_false_iff_ne.2 hr
  go_enter Try.func15, Try.ntmps15
  go_wp2_with fail
  refine hc.mono ?_
  rintro e w' ⟨rfl, h⟩
  have HB := Aside0.mk h; clear h
  go_wp2
  go_ret
  exact ⟨rfl, HB.out⟩
theorem front_no {hd n : Int} {r : Int} (hr : r ≠ 0) (hc : Calls Try.prog 39 #[.pointer (some ⟨g, 0, none⟩), .int .i64 hd, .slice (some ⟨W.heap.size, 0, none⟩) 1 1] (W.alloc (.cells #[.int .i64 n] 3)) fun e w' => e = .returned (.int .i64 r) ∧ Below (W.alloc (.cells #[.int .i64 n] 3)).heap.size (W.alloc (.cells #[.int .i64 n] 3)) w') :
    Calls Try.prog 22 #[.pointer (some ⟨g, 0, none⟩), .int .i64 hd, .int .i64 n] W fun e w' => e = .returned (.int .i64 r) ∧ Below W.heap.size W w' := by
  have hb : (r == 0) = false := beq_eq_false_iff_ne.2 hr
  go_enter Try.func22, Try.ntmps22
  go_wp2_with fail
  refine hc.mono ?_
  rintro e w' ⟨rfl, h⟩
  have HB := Aside0.mk h; clear h
  go_wp2
  go_ret
  refine ⟨rfl, (below_alloc (Below.refl _ _) _).trans ⟨HB.out.os, HB.out.tape, HB.out.output, HB.out.size, fun i hi => HB.out.block i (Nat.lt_of_lt_of_le hi (by simp))⟩⟩
theorem front_calls (h : LR w0 W g a b N H R) (x : Nat) (hx : x < H) (n : Nat) (hn : n < N) (hfree : ∀ j, j < H → n ∉ R j) :
    Calls Try.prog 22 #[.pointer (some ⟨g, 0, none⟩), .int .i64 x, .int .i64 n] W fun e w' => e = .returned (.int .i64 0) ∧ LR w0 w' g a b N H (setR R x (n :: R x)) ∧ KB W w' a b := by
  have HL := Aside0.mk h; clear h
  have HF := Aside0.mk hfree; clear hfree
  obtain ⟨N0, N1, H0, H1⟩ := HL.out.bounds
  have HA := Aside0.mk (HL.out.alloc (.cells #[.int .i64 n] 3))
  go_enter Try.func22, Try.ntmps22
  go_wp2_with fail
  obtain ⟨ca, cb, hl1, hl2⟩ := HA.out
  refine (may_all hl1 x hx [(n : Int)] (by simp) _ 1 1 rfl (reads_one W n) (fun y hy => by
    rw [List.mem_singleton] at hy; subst hy; exact ⟨by omega, by omega⟩) 1 (by simp) (fun j hj => by
    have : j = 0 := by omega
    subst this
    exact ⟨(hl2.inn hn).2 HF.out, by simp⟩) (fun hj => absurd hj (by simp)) 0 (by rw [if_neg (by simp)])).mono ?_
  rintro e w1 ⟨rfl, hb1⟩
  have HL1 := Aside0.mk (HA.out.below hb1)
  have HK1 := Aside0.mk ((KB.of_below (below_alloc (Below.refl _ _) (.cells #[.int .i64 (n : Int)] 3)) a b).trans (KB.of_below hb1 a b))
  clear hl1 hl2 hb1 ca cb
  obtain ⟨c1, c2, c3, c4⟩ := HL1.out.cells hx
  have HP := Aside0.mk (HL1.out.put x 0 n hx (Nat.zero_le _) hn HF.out (-1) _ rfl rfl)
  clear c3 c4
  generalize atI (R x) 0 = v at *
  go_wp2_with fail
  refine HP.out.mono ?_
  rintro e w2 ⟨rfl, h2, k2⟩
  have H2 := Aside0.mk h2
  have K2 := Aside0.mk (HK1.out.trans k2)
  clear h2 k2
  go_wp2
  go_ret
  exact ⟨rfl, H2.out, K2.out⟩
/-- What a node's cells hold. -/
theorem LR.node (h : LR w0 W g a b N H R) {x k n : Nat} (hx : x < H) (hk : (R x)[k]? = some n) : n < N ∧ W.cell? ⟨g, 0, none⟩ = some (.slice (some ⟨a, 0, none⟩) N N) ∧ W.cell? ⟨a, n * 3, none⟩ = some (.int .i64 (x : Int)) ∧
    W.cell? ⟨a, n * 3 + 1, none⟩ = some (.int .i64 (atI (R x) (k + 1))) ∧ W.cell? ⟨a, n * 3 + 2, none⟩ = some (.int .i64 (preI (R x) k)) := by
  obtain ⟨ca, cb, h1, h2⟩ := h
  obtain ⟨hn, e⟩ := h2.nodes x hx k n hk
  have d0 : ca (n * 3) = (x : Int) := congrArg (·.1) e
  have d1 : ca (n * 3 + 1) = atI (R x) (k + 1) := congrArg (·.2.1) e
  have d2 : ca (n * 3 + 2) = preI (R x) k := congrArg (·.2.2) e
  exact ⟨hn, h1.cg0, by rw [← d0]; exact h1.ca _ (by omega), by rw [← d1]; exact h1.ca _ (by omega), by rw [← d2]; exact h1.ca _ (by omega)⟩
theorem LR.isNode (h : LR w0 W g a b N H R) (n : Int) (r : Bool) (hr : decide (0 ≤ n ∧ n < N) = r) : Calls Try.prog 42 #[.pointer (some ⟨g, 0, none⟩), .int .i64 n] W fun e w' => e = .returned (.bool r) ∧ W = w' := by
  obtain ⟨ca, cb, h1, h2⟩ := h
  exact node_calls h1 n r hr
theorem LR.inIs (h : LR w0 W g a b N H R) (n : Nat) (hn : n < N) {x : Nat} (hx : x < H) (hm : n ∈ R x) : Calls Try.prog 43 #[.pointer (some ⟨g, 0, none⟩), .int .i64 n] W fun e w' => e = .returned (.bool true) ∧ W = w' := by
  obtain ⟨ca, cb, h1, h2⟩ := h
  refine in_calls h1 n hn true ?_
  have : ca (n * 3) = (x : Int) := (h2.head hx hm).2
  rw [this]; simp only [bne_iff_ne, ne_eq]; omega
theorem LR.inNot (h : LR w0 W g a b N H R) (n : Nat) (hn : n < N) (hm : ∀ j, j < H → n ∉ R j) : Calls Try.prog 43 #[.pointer (some ⟨g, 0, none⟩), .int .i64 n] W fun e w' => e = .returned (.bool false) ∧ W = w' := by
  obtain ⟨ca, cb, h1, h2⟩ := h
  refine in_calls h1 n hn false ?_
  have : ca (n * 3) = -1 := (h2.inn hn).2 hm
  rw [this]; rfl
set_option maxHeartbeats 2000000 in
theorem before_calls (h : LR w0 W g a b N H R) (n : Nat) (hn : n < N) (hfree : ∀ j, j < H → n ∉ R j) (x k at_ : Nat) (hx : x < H) (hk : (R x)[k]? = some at_) :
    Calls Try.prog 20 #[.pointer (some ⟨g, 0, none⟩), .int .i64 n, .int .i64 at_] W fun e w' => e = .returned (.int .i64 0) ∧ LR w0 w' g a b N H (setR R x ((R x).insertIdx k n)) ∧ KB W w' a b := by
  have HL := Aside0.mk h; clear h
  have HF := Aside0.mk hfree; clear hfree
  obtain ⟨N0, N1, H0, H1⟩ := HL.out.bounds
  obtain ⟨hat, c0, c1, c2, c3⟩ := HL.out.node hx hk
  have hmem := List.mem_of_getElem? hk
  have hkl : k < (R x).length := (List.getElem?_eq_some_iff.1 hk).1
  have HP := Aside0.mk (fun (w' : World) (k2 : Below W.heap.size W w') => (HL.out.below k2).put x k n hx (Nat.le_of_lt hkl) hn HF.out _ (at_ : Int) rfl (atI_some hk))
  have HM := Aside0.mk hmem
  clear hk c2 hmem
  generalize preI (R x) k = v at *
  go_enter Try.func20, Try.ntmps20
  go_wp2_with fail
  refine (HL.out.isNode n true (by simp; omega)).mono ?_
  rintro e w' ⟨rfl, rfl⟩
  go_wp2_with fail
  refine (HL.out.isNode at_ true (by simp; omega)).mono ?_
  rintro e w' ⟨rfl, rfl⟩
  go_wp2_with fail
  refine (HL.out.inIs at_ hat hx HM.out).mono ?_
  rintro e w' ⟨rfl, rfl⟩
  go_wp2_with fail
  refine (HL.out.inNot n hn HF.out).mono ?_
  rintro e w' ⟨rfl, rfl⟩
  go_wp2
  go_region_with (go_at_call 40; refine (HP.out W.drew (below_drew (Below.refl _ _))).mono ?_; rintro e w2 ⟨rfl, h2, k2⟩; have H2 := Aside0.mk h2; have K2 := Aside0.mk k2; clear h2 k2)
  all_goals (go_wp2; go_ret; exact ⟨rfl, H2.out, (KB.of_below (below_drew (Below.refl _ _)) a b).trans K2.out⟩)
end Go.Proofs.Yteiepbjajennkaa.ListHand
