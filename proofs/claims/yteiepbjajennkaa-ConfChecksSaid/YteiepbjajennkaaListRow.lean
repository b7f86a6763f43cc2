/- A row that is told; rows that are made. Conditions: none. -/
import Derived.Test.YteiepbjajennkaaListFront
import Derived.Test.YteiepbjajennkaaWMore
import Derived.Laws.AppendOwn
import Derived.OwnWalk
import Derived.Laws.NewBlocks
namespace Go.Proofs.Yteiepbjajennkaa.ListHand
set_option linter.unusedVariables false
open Go.RowKit Go.Proofs.YteiepbjajennkaaW.PrintWords Go.Proofs.YteiepbjajennkaaW.PrintMore
variable {w0 W : World} {g a b N H : Nat} {R : Nat → List Nat}
theorem info3 : (Try.prog.info? 3).map (fun i => (i.zero, i.size, i.bytes)) = some (some (.int .i64 0), 1, 8) := by kernel_rfl
def slLen : Value → Nat | .slice _ n _ => n | _ => 0
theorem one_new (w : World) (v : Value) (e : TypeId) : ∀ (j : Nat) (u : Value), [v][j]? = some u → (w.alloc (.cells #[v] e)).cell? ((⟨w.heap.size, 0, none⟩ : Addr).add j) = some u := by
  intro j u hj
  have hb : (w.alloc (.cells #[v] e)).heap[w.heap.size]? = some (.cells #[v] e (0, 0)) := heap_alloc_new w _
  have h0 : j = 0 := by
    by_cases h : j = 0
    · exact h
    · rw [List.getElem?_eq_none (by simp; omega)] at hj; cases hj
  subst h0
  have : v = u := by simpa using hj
  subst this
  exact (blk_cell hb 0).trans rfl
theorem LR.isHead (h : LR w0 W g a b N H R) (n : Int) (r : Bool) (hr : decide (0 ≤ n ∧ n < H) = r) : Calls Try.prog 41 #[.pointer (some ⟨g, 0, none⟩), .int .i64 n] W fun e w' => e = .returned (.bool r) ∧ W = w' := by
  obtain ⟨ca, cb, h1, h2⟩ := h
  exact head_calls h1 n r hr
theorem LR.len (h : LR w0 W g a b N H R) {x : Nat} (hx : x < H) : (R x).length ≤ N := by obtain ⟨_, _, _, h2⟩ := h; exact h2.len hx
theorem slLen_own {w : World} {B e s n : Nat} {v : Value} {xs : List Value} (h : w.ownsRow B e s v n xs) : slLen v = n := by
  rcases h.2 with ⟨rfl, rfl⟩ | ⟨g, cap, cur, rfl, _⟩ <;> rfl
set_option maxHeartbeats 4000000 in
theorem row_calls (h : LR w0 W g a b N H R) (x : Nat) (hx : x < H) :
    Calls Try.prog 18 #[.pointer (some ⟨g, 0, none⟩), .int .i64 x] W fun e w' => ∃ v, e = .returned v ∧ w'.ownsRow W.heap.size 3 1 v (R x).length (nums .i64 (ints (R x))) ∧ Below W.heap.size W w' := by
  obtain ⟨i0, hi, hz0, hz1, hz2⟩ := info_parts info3
  have HI := Aside0.mk (And.intro hi (And.intro hz0 (And.intro hz1 hz2))); clear hi hz0 hz1 hz2
  have HL := Aside0.mk h; clear h
  obtain ⟨N0, N1, H0, H1⟩ := HL.out.bounds
  have hlen := HL.out.len hx
  obtain ⟨c1, c2, c3, c4⟩ := HL.out.cells hx
  clear c3 c4
  have HB0 := Aside0.mk (Below.refl W.heap.size W)
  go_enter Try.func18, Try.ntmps18
  go_wp2_with fail
  refine (HL.out.isHead x true (by simp; omega)).mono ?_
  rintro e w' ⟨rfl, rfl⟩
  go_wp2
  go_loopw [5, 6] (fun l i w' => ∃ j : Nat, j ≤ (R x).length ∧ i = .int .i64 (atI (R x) j) ∧ Aside0 (Below W.heap.size W w') ∧ w'.ownsRow W.heap.size 3 1 l j (nums .i64 (ints ((R x).take j)))) (fun l _ _ => (R x).length - slLen l)
  case atStart => exact ⟨0, Nat.zero_le _, rfl, HB0, own_nil _ _ _ _⟩
  case round =>
    obtain ⟨j, hj, rfl, HB, hown⟩ := hrel
    have hsl := slLen_own hown
    by_cases hlt : j < (R x).length
    · have hk : (R x)[j]? = some (R x)[j] := List.getElem?_eq_getElem hlt
      have HT := Aside0.mk (List.take_succ_eq_append_getElem hlt)
      have ei : atI (R x) j = ((R x)[j] : Int) := atI_some hk
      have HK := Aside0.mk hk; clear hk
      rw [ei]
      obtain ⟨hnN, hn0, _, hn1, _⟩ := HL.out.node hx HK.out
      have HC1 := Aside0.mk hn0; have HC2 := Aside0.mk hn1
      clear hn0 hn1 ei c1 c2
      have hlq : ((R x).take j).length = j := by rw [List.length_take]; omega
      have HLQ := Aside0.mk hlq; clear hlq
      generalize (R x)[j] = n at *
      generalize hv : atI (R x) (j + 1) = v at *
      have HV := Aside0.mk hv; clear hv
      obtain ⟨hi, hz0, hz1, hz2⟩ := HI.out
      have HI0 := Aside0.mk hi; have HI1 := Aside0.mk hz0; have HI2 := Aside0.mk hz1; have HI3 := Aside0.mk hz2
      clear hi hz0 hz1 hz2
      have HO := Aside0.mk hown; clear hown
      have HQ := Aside0.mk (show j + 1 ≤ maxLen ∧ (j + 1) * 8 ≤ 140737488355328 by unfold maxLen; omega)
      have HCF := Aside0.mk (show ∀ (w1 w3 : World) (row : Option Nat), w1 = wr.alloc (.cells #[.int .i64 (n : Int)] 3) → w1.grownBy w3 row → (∀ k, row = some k → W.heap.size ≤ k) →
          Below W.heap.size W w3 from by
        rintro w1 w3 row rfl hg hr
        have b1 := below_alloc HB.out (.cells #[.int .i64 (n : Int)] 3)
        exact pw_below_grown b1 row b1.size hg hr)
      go_wp2_with (at_builtin; refine wpList_append_own _ rfl _ _ 28 rfl W.heap.size 3 i0 (.int .i64 0) 1 8 Try.underlying28 HI0.out HI1.out HI2.out HI3.out rfl (by decide) _ _ _ rfl (HO.out.alloc _) ⟨wr.heap.size, 0, none⟩ 1 1 [.int .i64 (n : Int)] rfl rfl (one_new _ _ _) (by simp [Value.oneCell']) HQ.out.1 HQ.out.2 (by have := HB.out.size; simp; omega) ?_; intro v' w3 hown3 hgrow3 _; have hb3 := HCF.out _ _ _ rfl hgrow3 (fun k hk => own_base HO.out k hk); have hb3 := Aside0.mk hb3; have hd1 := (hb3.out.cell (p := ⟨g, 0, none⟩) HL.out.lt.1).trans HC1.out; have hd2 := (hb3.out.cell (p := ⟨a, n * 3 + 1, none⟩) HL.out.lt.2.1).trans HC2.out)
      have hsl3 := slLen_own hown3
      go_roundw
      case rel => exact ⟨j + 1, by omega, by rw [HV.out], hb3, by rw [HT.out, ints, List.map_append, nums_append]; exact hown3⟩
      case measure => rw [hsl, hsl3]; omega
    · obtain rfl : j = (R x).length := by omega
      have ei : atI (R x) (R x).length = -1 := atI_none (Nat.le_refl _)
      rw [ei]
      rw [List.take_length] at hown
      go_wp2
      go_ret
      exact ⟨_, rfl, hown, HB.out⟩
theorem row_out (h : LR w0 W g a b N H R) (n : Int) (hn : n < 0 ∨ H ≤ n) :
    Calls Try.prog 18 #[.pointer (some ⟨g, 0, none⟩), .int .i64 n] W fun e w' => e = .returned (.slice none 0 0) ∧ W = w' := by
  have HL := Aside0.mk h; clear h
  have HN := Aside0.mk hn; clear hn
  go_enter Try.func18, Try.ntmps18
  go_wp2_with fail
  refine (HL.out.isHead n false (by have := HN.out; simp; omega)).mono ?_
  rintro e w' ⟨rfl, rfl⟩
  go_wp2
  go_ret
  exact ⟨rfl, rfl⟩
end Go.Proofs.Yteiepbjajennkaa.ListHand
