/- A mutex that is made, the program's way. Conditions: none. -/
import Derived.Test.YteiepbjajennkaaConfLeaf
import Derived.OwnWalk
import Derived.Laws.AppendOwn
import Derived.Outline
namespace Go.Proofs.Yteiepbjajennkaa.ConfHand
set_option linter.unusedVariables false
set_option linter.unusedSimpArgs false
open Go.RowKit Go.Proofs.YteiepbjajennkaaW.PrintWords Go.Proofs.YteiepbjajennkaaW.PrintMore
def mtxB (attr ceil : Int) : Bool := decide ((attr = 0 ∨ attr = 1 ∨ attr = 2) ∧ ceil = 0 ∨ attr = 3 ∧ 1 ≤ ceil ∧ ceil ≤ 16)
theorem may_calls (n : Int) (r : Bool) (hr : decide (1 ≤ n ∧ n ≤ 16) = r) (W : World) : Calls Try.prog 82 #[.int .i64 n] W fun e w' => e = .returned (.bool r) ∧ W = w' := by
  by_cases h0 : 1 ≤ n
  · by_cases h2 : n ≤ 16
    · rw [decide_eq_true ⟨h0, h2⟩] at hr; subst hr
      go_enter Try.func82, Try.ntmps82
      go_wp2
      go_ret
      exact ⟨rfl, rfl⟩
    · rw [decide_eq_false (fun e => h2 e.2)] at hr; subst hr
      go_enter Try.func82, Try.ntmps82
      go_wp2
      go_ret
      exact ⟨rfl, rfl⟩
  · rw [decide_eq_false (fun e => h0 e.1)] at hr; subst hr
    go_enter Try.func82, Try.ntmps82
    go_wp2
    go_ret
    exact ⟨rfl, rfl⟩
theorem right_calls (attr ceil : Int) (r : Bool) (hr : mtxB attr ceil = r) (W : World) : Calls Try.prog 77 #[.agg #[.int .i64 attr, .int .i64 ceil]] W fun e w' => e = .returned (.bool r) ∧ W.alloc (.cells #[.int .i64 attr, .int .i64 ceil] 89) = w' := by
  subst hr
  by_cases a0 : attr = 0
  · subst a0
    have e : mtxB 0 ceil = (ceil == 0) := by unfold mtxB; rw [Bool.eq_iff_iff]; simp
    rw [e]; clear e
    go_enter Try.func77, Try.ntmps77
    go_wp2
    go_ret
    exact ⟨rfl, rfl⟩
  · have b0 : (attr == 0) = false := beq_eq_false_iff_ne.2 a0
    by_cases a1 : attr = 1
    · subst a1
      have e : mtxB 1 ceil = (ceil == 0) := by unfold mtxB; rw [Bool.eq_iff_iff]; simp
      rw [e]; clear e
      go_enter Try.func77, Try.ntmps77
      go_wp2
      go_ret
      exact ⟨rfl, rfl⟩
    · have b1 : (attr == 1) = false := beq_eq_false_iff_ne.2 a1
      by_cases a2 : attr = 2
      · subst a2
        have e : mtxB 2 ceil = (ceil == 0) := by unfold mtxB; rw [Bool.eq_iff_iff]; simp
        rw [e]; clear e
        go_enter Try.func77, Try.ntmps77
        go_wp2
        go_ret
        exact ⟨rfl, rfl⟩
      · have b2 : (attr == 2) = false := beq_eq_false_iff_ne.2 a2
        by_cases a3 : attr = 3
        · subst a3
          have e : mtxB 3 ceil = (decide (1 ≤ ceil) && decide (ceil ≤ 16)) := by unfold mtxB; simp
          rw [e]; clear e
          go_enter Try.func77, Try.ntmps77
          go_wp2_with fail
          refine (may_calls ceil (decide (1 ≤ ceil) && decide (ceil ≤ 16)) (by simp) _).mono ?_
          rintro e w' ⟨rfl, rfl⟩
          go_wp2
          go_ret
          exact ⟨rfl, rfl⟩
        · have b3 : (attr == 3) = false := beq_eq_false_iff_ne.2 a3
          have e : mtxB attr ceil = false := by unfold mtxB; simp [a0, a1, a2, a3]
          rw [e]; clear e
          go_enter Try.func77, Try.ntmps77
          go_wp2
          go_ret
          exact ⟨rfl, rfl⟩
def mtxC (attr ceil : Int) : Int := if mtxB attr ceil = true then 0 else -17
theorem making (w : World) : (Instr.makeSlice 186 (.int .i64 1) (.int .i64 2)).run Try.prog w = .ok (.slice (some ⟨w.heap.size, 0, none⟩) 1 2) (w.alloc (.cells #[.int .i64 0, .int .i64 0, .int .i64 0, .slice none 0 0, .int .i64 0, .int .i64 0, .int .i64 0, .slice none 0 0] 193)) := by kernel_rfl
theorem mtx_no (attr ceil : Int) (h : mtxB attr ceil = false) (W : World) (B : Nat) (x0 : W.cell? ⟨B, 0, none⟩ = some (.int .i64 attr)) (x1 : W.cell? ⟨B, 1, none⟩ = some (.int .i64 ceil)) :
    Calls Try.prog 59 #[.slice (some ⟨B, 0, none⟩) 1 1] W (RetPC (-17) W) := by
  have H := Aside0.mk h; clear h
  have hB := World.block_lt_of_cell? W _ x0
  have hmk := making
  go_enter Try.func59, Try.ntmps59
  go_wp2
  go_loop [19] (fun i => i = .int .i64 0) (fun i => 0)
  case atStart => rfl
  case round =>
    subst hrel
    go_wp2_with fail
    refine (right_calls attr ceil false H.out _).mono ?_
    rintro e w' ⟨rfl, rfl⟩
    go_wp2
    go_ret2
    exact ⟨⟨_, rfl⟩, below_alloc (below_alloc (below_alloc (below_alloc (Below.refl _ _) _) _) _) _⟩
/-- The mutexes' block: a slice, and 51 numbers. -/
structure MB (W w' : World) : Prop where
  be : Below W.heap.size W w'
  lt : W.heap.size + 1 < w'.heap.size
  ce : ∀ j, j < 52 → ∃ v, w'.cell? ⟨W.heap.size + 1, j, none⟩ = some v
  fr : ∀ j, w'.frozen? ⟨W.heap.size + 1, j, none⟩ = false
theorem MB.below {W w' w2 : World} (h : MB W w') (k : Below w'.heap.size w' w2) : MB W w2 :=
  ⟨below_next h.be k, Nat.lt_of_lt_of_le h.lt k.size, fun j hj => by obtain ⟨v, e⟩ := h.ce j hj; exact ⟨v, (k.cell (p := ⟨W.heap.size + 1, j, none⟩) h.lt).trans e⟩, fun j => (World.frozen?_of_block (a := ⟨W.heap.size + 1, j, none⟩) (k.block _ h.lt)).trans (h.fr j)⟩
theorem MB.alloc {W w' : World} (h : MB W w') (o : Obj) : MB W (w'.alloc o) := h.below (below_alloc (Below.refl _ _) o)
theorem MB.drawnN {W w' : World} (h : MB W w') (n : Nat) : MB W (w'.drewN n) := h.below (below_drewN (Below.refl _ _) n)
theorem MB.grown {W w' w2 : World} {row : Option Nat} (h : MB W w') (k : w'.grownBy w2 row) (hr : row = some W.heap.size) : MB W w2 := by
  have hb : w2.heap[W.heap.size + 1]? = w'.heap[W.heap.size + 1]? := k.block _ h.lt (by rw [hr]; simp)
  exact ⟨pw_below_grown h.be row (by have := h.be.size; exact this) k (fun j hj => by rw [hr] at hj; cases hj; exact Nat.le_refl _), Nat.lt_of_lt_of_le h.lt k.size, fun j hj => by obtain ⟨v, e⟩ := h.ce j hj; exact ⟨v, (World.cell?_of_block (a := ⟨W.heap.size + 1, j, none⟩) hb).trans e⟩, fun j => (World.frozen?_of_block (a := ⟨W.heap.size + 1, j, none⟩) hb).trans (h.fr j)⟩
theorem MB.set {W w' : World} (h : MB W w') (j : Nat) (v : Value) : MB W (w'.setCell ⟨W.heap.size + 1, j, none⟩ v) := by
  refine ⟨below_set h.be (by simp), by rw [World.size_setCell]; exact h.lt, fun i hi => ?_, fun i => by rw [World.frozen?_setCell]; exact h.fr i⟩
  obtain ⟨u, e⟩ := h.ce i hi
  by_cases q : i = j
  · subst q; exact ⟨v, World.cell?_setCell_same _ _ _ e⟩
  · exact ⟨u, by rw [World.cell?_setCell_other _ _ _ _ (by intro z; injection z with _ z; omega)]; exact e⟩
theorem cells_new (w : World) (l : Array Value) (e : TypeId) : ∀ (j : Nat) (u : Value), l.toList[j]? = some u → (w.alloc (.cells l e)).cell? ((⟨w.heap.size, 0, none⟩ : Addr).add j) = some u := by
  intro j u hj
  rw [add_plain, World.cell?_alloc_at _ _ _ _ rfl]
  simpa using hj
theorem own_slice {W : World} {B e s n : Nat} {v : Value} {ys : List Value} (h : W.ownsRow B e s v n ys) : ∃ A c, v = .slice A n c := by
  rcases h.2 with ⟨rfl, rfl⟩ | ⟨g, cap, cur, rfl, _⟩
  · exact ⟨none, 0, rfl⟩
  · exact ⟨_, cap, rfl⟩
theorem own_drewN {w : World} {B e s n : Nat} {v : Value} {xs : List Value} (h : w.ownsRow B e s v n xs) (k : Nat) : (w.drewN k).ownsRow B e s v n xs := h
theorem info193 : (Try.prog.info? 193).map (fun i => (i.zero, i.size, i.bytes)) = some (some (.agg #[.int .i64 0, .int .i64 0, .int .i64 0, .slice none 0 0]), 4, 48) := by kernel_rfl
/-- .. as they were made. -/
structure M0 (W w' : World) : Prop where
  mb : MB W w'
  c0 : w'.cell? ⟨W.heap.size + 1, 0, none⟩ = some (.slice (some ⟨W.heap.size, 0, none⟩) 1 2)
  own : w'.ownsRow W.heap.size 193 4 (.slice (some ⟨W.heap.size, 0, none⟩) 1 2) 1 [.int .i64 0, .int .i64 0, .int .i64 0, .slice none 0 0]
theorem blk_get {b : Nat} {w' : World} {l : Array Value} {e : TypeId} (hb : w'.heap[b]? = some (.cells l e (0, 0))) (j : Nat) : w'.cell? ⟨b, j, none⟩ = l[j]? := blk_cell hb j
theorem M0.made (W : World) : M0 W ((W.alloc (.cells #[.int .i64 0, .int .i64 0, .int .i64 0, .slice none 0 0, .int .i64 0, .int .i64 0, .int .i64 0, .slice none 0 0] 193)).alloc (.cells #[.slice (some ⟨W.heap.size, 0, none⟩) 1 2, .int .i64 0, .int .i64 0, .int .i64 0, .int .i64 0, .int .i64 0, .int .i64 0, .int .i64 0, .int .i64 0, .int .i64 0, .int .i64 0, .int .i64 0, .int .i64 0, .int .i64 0, .int .i64 0, .int .i64 0, .int .i64 0, .int .i64 0, .int .i64 0, .int .i64 0, .int .i64 0, .int .i64 0, .int .i64 0, .int .i64 0, .int .i64 0, .int .i64 0, .int .i64 0, .int .i64 0, .int .i64 0, .int .i64 0, .int .i64 0, .int .i64 0, .int .i64 0, .int .i64 0, .int .i64 0, .int .i64 0, .int .i64 0, .int .i64 0, .int .i64 0, .int .i64 0, .int .i64 0, .int .i64 0, .int .i64 0, .int .i64 0, .int .i64 0, .int .i64 0, .int .i64 0, .int .i64 0, .int .i64 0, .int .i64 0, .int .i64 0, .int .i64 0] 191)) := by
  have be : Below W.heap.size W ((W.alloc (.cells #[.int .i64 0, .int .i64 0, .int .i64 0, .slice none 0 0, .int .i64 0, .int .i64 0, .int .i64 0, .slice none 0 0] 193)).alloc (.cells #[.slice (some ⟨W.heap.size, 0, none⟩) 1 2, .int .i64 0, .int .i64 0, .int .i64 0, .int .i64 0, .int .i64 0, .int .i64 0, .int .i64 0, .int .i64 0, .int .i64 0, .int .i64 0, .int .i64 0, .int .i64 0, .int .i64 0, .int .i64 0, .int .i64 0, .int .i64 0, .int .i64 0, .int .i64 0, .int .i64 0, .int .i64 0, .int .i64 0, .int .i64 0, .int .i64 0, .int .i64 0, .int .i64 0, .int .i64 0, .int .i64 0, .int .i64 0, .int .i64 0, .int .i64 0, .int .i64 0, .int .i64 0, .int .i64 0, .int .i64 0, .int .i64 0, .int .i64 0, .int .i64 0, .int .i64 0, .int .i64 0, .int .i64 0, .int .i64 0, .int .i64 0, .int .i64 0, .int .i64 0, .int .i64 0, .int .i64 0, .int .i64 0, .int .i64 0, .int .i64 0, .int .i64 0, .int .i64 0] 191)) := below_alloc (below_alloc (Below.refl _ _) _) _
  refine ⟨⟨be, by simp, fun j hj => ?_, fun j => ?_⟩, ?_, ?_⟩
  · rw [World.cell?_alloc_at _ _ _ _ (by simp)]
    exact ⟨_, Array.getElem?_eq_getElem (show j < 52 from hj)⟩
  · rw [World.frozen?_alloc_at _ _ _ _ (by simp)]
  · rw [World.cell?_alloc_at _ _ _ _ (by simp)]; rfl
  · refine World.ownsRow.alloc ?_ _
    exact ⟨rfl, .inr ⟨_, 2, _, rfl, Nat.le_refl _, heap_alloc_new _ _, by decide, by decide, rfl, rfl⟩⟩
set_option maxHeartbeats 2000000 in
set_option maxRecDepth 100000 in
theorem mtx_yes (attr ceil : Int) (h : mtxB attr ceil = true) (W : World) (B : Nat) (x0 : W.cell? ⟨B, 0, none⟩ = some (.int .i64 attr)) (x1 : W.cell? ⟨B, 1, none⟩ = some (.int .i64 ceil)) :
    Calls Try.prog 59 #[.slice (some ⟨B, 0, none⟩) 1 1] W (RetPC 0 W) := by
  have H := Aside0.mk h; clear h
  have hB := World.block_lt_of_cell? W _ x0
  have hmk := making
  obtain ⟨i0, hi, hz0, hz1, hz2⟩ := info_parts info193
  have HI := Aside0.mk (And.intro hi (And.intro hz0 (And.intro hz1 hz2))); clear hi hz0 hz1 hz2
  have HM := Aside0.mk (M0.made W)
  go_enter Try.func59, Try.ntmps59
  go_wp2
  go_loopw [19, 6] (fun i _ w' => (i = .int .i64 0 ∧ Aside0 (M0 W w')) ∨ (i = .int .i64 1 ∧ Aside0 (MB W w'))) (fun i _ _ => 1 - (intOf i).toNat)
  case atStart => exact .inl ⟨rfl, HM⟩
  case round =>
    rcases hrel with ⟨rfl, HM⟩ | ⟨rfl, HM⟩
    · have y0 := (HM.out.mb.be.cell (p := ⟨B, 0, none⟩) hB).trans x0
      have y1 := (HM.out.mb.be.cell (p := ⟨B, 1, none⟩) hB).trans x1
      have c0 := HM.out.c0
      have hsz := HM.out.mb.lt
      go_wp2_with fail
      refine (right_calls attr ceil true H.out _).mono ?_
      rintro e w' ⟨rfl, rfl⟩
      go_wp2
      refine Rgn.wp_region_full ⟨[0], [1, 2, 3, 4], [5, 6], [7], [8, 9, 10, 11], 12⟩ (by kernel_rfl) (by kernel_rfl) (by kernel_rfl) (by kernel_rfl) ?_
      simp only [List.map_cons, List.map_nil, List.getD_cons_succ, List.getD_cons_zero, List.drop_succ_cons, List.drop_zero]
      intro W2 B2 hW2 hB2
      have z0 : W2.cell? ⟨wr.heap.size, 0, none⟩ = some (.int .i64 attr) := by rw [hW2]; simp
      have z1 : W2.cell? ⟨wr.heap.size, 1, none⟩ = some (.int .i64 ceil) := by rw [hW2]; simp
      have HO := Aside0.mk HM.out.own
      have HB2 := Aside0.mk (show Below wr.heap.size wr W2 by rw [hW2]; exact below_alloc (below_alloc (Below.refl _ _) _) _)
      have HS2 := Aside0.mk hB2
      have HZ2 := Aside0.mk (show W2.heap.size = wr.heap.size + 2 by rw [hW2]; simp)
      have HW2 := Aside0.mk hW2
      have f0 : ∀ x : Rgn.Old W2 B2, x.now.cell? ⟨W.heap.size + 1, 0, none⟩ = some (.slice (some ⟨W.heap.size, 0, none⟩) 1 2) := fun x => by
        rw [x.be.cell (p := ⟨W.heap.size + 1, 0, none⟩) (by rw [HS2.out, HZ2.out]; simp; omega)]
        exact (HB2.out.cell hsz).trans c0
      clear hW2 hB2
      repeat (go_big_quiet_step (fail))
      refine wpQuiet_nil ?_
      repeat (go_big_quiet_step (fail))
      refine wpQuiet_nil ?_
      repeat (go_big_quiet_step (fail))
      refine wpQuiet_nil ?_
      intro nq
      refine Rgn.keep_step ?_
      go_wp2
      refine Rgn.keep_end (Rgn.grown.of (by rw [HS2.out]; exact below_alloc Rgn.below_drawn _)) (Rgn.keep_nil ?_)
      have HO2 := own_drewN (own_move HO.out (fun k hk => HB2.out.block k (own_lt HO.out k hk))) nq
      have HO1 := Aside0.mk (HO2.alloc (.cells #[.int .i64 attr, .int .i64 ceil, .int .i64 0, .slice none 0 0] 193)); clear HO2
      have HM1 := Aside0.mk (((HM.out.mb.below HB2.out).drawnN nq).alloc (.cells #[.int .i64 attr, .int .i64 ceil, .int .i64 0, .slice none 0 0] 193))
      go_wp2_with (at_builtin; refine wpList_append_own _ rfl _ _ 186 rfl W.heap.size 193 i0 (.agg #[.int .i64 0, .int .i64 0, .int .i64 0, .slice none 0 0]) 4 48 Try.underlying186 HI.out.1 HI.out.2.1 HI.out.2.2.1 HI.out.2.2.2 rfl (by decide) _ _ _ rfl HO1.out ⟨W2.heap.size, 0, none⟩ 1 1 [.int .i64 attr, .int .i64 ceil, .int .i64 0, .slice none 0 0] rfl rfl (cells_new (W2.drewN nq) _ 193) (fun u hu => by simp at hu; rcases hu with rfl | rfl | rfl | rfl <;> rfl) (by decide) (by decide) (by have := HM1.out.be.size; exact this) ?_; intro v2 w3 hown2 hgrow2 _; have HM3 := Aside0.mk (HM1.out.grown hgrow2 rfl); clear hgrow2; obtain ⟨A2, c2, rfl⟩ := own_slice hown2; clear hown2; obtain ⟨vo, d0⟩ := HM3.out.ce 0 (by decide); have d1 := HM3.out.fr 0)
      refine Rgn.rest_end ?_
      go_wp2
      go_roundw
      case rel => exact .inr ⟨rfl, ⟨HM3.out.set _ _⟩⟩
      case measure => simp [intOf]
    · go_wp2
      go_loopw [38, 7] (fun i _ w' => ∃ k : Nat, k ≤ 17 ∧ i = .int .i64 k ∧ Aside0 (MB W w')) (fun i _ _ => 17 - (intOf i).toNat)
      case atStart => exact ⟨0, Nat.zero_le _, rfl, HM⟩
      case round =>
        clear HM
        obtain ⟨k, hk, rfl, HM⟩ := hrel
        by_cases hlt : k < 17
        · obtain ⟨v0, c0⟩ := HM.out.ce (1 + k * 3) (by omega)
          obtain ⟨v1, c1⟩ := HM.out.ce (1 + k * 3 + 1) (by omega)
          obtain ⟨v2, c2⟩ := HM.out.ce (1 + k * 3 + 2) (by omega)
          have f0 := HM.out.fr (1 + k * 3)
          have f1 := HM.out.fr (1 + k * 3 + 1)
          have f2 := HM.out.fr (1 + k * 3 + 2)
          go_wp2
          go_roundw
          case rel => exact ⟨k + 1, by omega, by go_num, ⟨((HM.out.set _ _).set _ _).set _ _⟩⟩
          case measure => simp [intOf]; omega
        · obtain rfl : k = 17 := by omega
          go_wp2
          go_ret2
          exact ⟨⟨_, rfl⟩, HM.out.be⟩
theorem mtx_calls (attr ceil : Int) (W : World) (B : Nat) (x0 : W.cell? ⟨B, 0, none⟩ = some (.int .i64 attr)) (x1 : W.cell? ⟨B, 1, none⟩ = some (.int .i64 ceil)) :
    Calls Try.prog 59 #[.slice (some ⟨B, 0, none⟩) 1 1] W (RetPC (mtxC attr ceil) W) := by
  unfold mtxC
  cases h : mtxB attr ceil with
  | true => rw [if_pos rfl]; exact mtx_yes attr ceil h W B x0 x1
  | false => rw [if_neg (by decide)]; exact mtx_no attr ceil h W B x0 x1
end Go.Proofs.Yteiepbjajennkaa.ConfHand
