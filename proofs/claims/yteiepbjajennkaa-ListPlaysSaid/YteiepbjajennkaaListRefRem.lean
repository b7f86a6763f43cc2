/- The document's lists: a node is taken out. Conditions: none. -/
import Derived.Test.YteiepbjajennkaaListRefOps
import Derived.RegionTactic
import Derived.BigRegion
import Derived.ChangeAlike
import Derived.Deep.RegionLaw
import Derived.Deep.AppendLies
import Derived.Deep.DrawnRows
namespace Go.Proofs.Yteiepbjajennkaa.ListHand
set_option linter.unusedVariables false
open Go.RowKit Go.Proofs.YteiepbjajennkaaW.PrintWords Go.Proofs.YteiepbjajennkaaW.PrintMore
attribute [local go_sem ↓] Go.wp_at_zero Go.wp_at_succ
variable {w0 W : World} {lo q s N H : Nat} {R : Nat → List Nat}
theorem nums_era (l : List Nat) (k : Nat) (hk : k < l.length) : ([] ++ (nums .i64 (ints l)).take k) ++ (nums .i64 (ints l)).drop (k + 1) = nums .i64 (ints (l.eraseIdx k)) := by
  rw [List.eraseIdx_eq_take_drop_succ]
  simp [nums, ints, List.map_take, List.map_drop]
set_option maxHeartbeats 4000000 in
set_option maxRecDepth 100000 in
theorem ref_rem (h : Rf w0 lo W q s N H R) (x k n : Nat) (hx : x < H) (hkn : (R x)[k]? = some n) :
    Calls Try.prog 27 #[.pointer (some ⟨q, 0, none⟩), .int .i64 n] W fun e w' => e = .returned (.int .i64 0) ∧
      (∃ v w1, w' = w1.setCell ⟨s, x, none⟩ v ∧ Below W.heap.size W w1 ∧ w1.ownsRow W.heap.size 3 1 v ((R x).length - 1) (nums .i64 (ints ((R x).eraseIdx k)))) := by
  obtain ⟨i0, hi, hz0, hz1, hz2⟩ := info_parts info3
  have HI := Aside0.mk (And.intro hi (And.intro hz0 (And.intro hz1 hz2))); clear hi hz0 hz1 hz2
  have hk : k < (R x).length := (List.getElem?_eq_some_iff.1 hkn).1
  have hN := h.nod x hx n (List.mem_of_getElem? hkn)
  have hlen : (R x).length ≤ 1024 := by have := h.len x hx; have := h.N1; omega
  have h1 := h.H1
  have c1 := h.c1
  obtain ⟨v, e1, e2, e3⟩ := h.row x hx
  have HL := Aside0.mk h; clear h
  have HE2 := Aside0.mk e2
  have HKN := Aside0.mk hkn; have HNN := Aside0.mk hN; clear hkn hN
  rcases e2 with ⟨f1, ⟨rfl, f2⟩ | ⟨g, cap, cur, rfl, f2, f3, f4, f5, f6, f7⟩⟩
  · omega
  · have f5' : cap ≤ 9223372036854775807 := f5
    clear f3
    have HB0 := Aside0.mk (below_alloc (Below.refl W.heap.size W) (.cells #[] 3))
    have d1 := (HB0.out.cell (p := ⟨q, 1, none⟩) HL.out.lt.1).trans c1
    have d2 := (HB0.out.cell (p := ⟨s, x, none⟩) HL.out.lt.2).trans e1
    have HO0 : (W.alloc (.cells #[] 3)).ownsRow W.heap.size 3 1 (.slice (some ⟨W.heap.size, 0, none⟩) 0 0) 0 [] := own_lit W W.heap.size 3 .i64 [] (Nat.le_refl _) (by simp)
    have HO0 := Aside0.mk HO0
    have HN := Aside0.mk (show ∀ j u, ((nums .i64 (ints (R x))).take k)[j]? = some u → (W.alloc (.cells #[] 3)).cell? ((⟨g, 0, none⟩ : Addr).add j) = some u from by
      intro j u hj
      rw [List.getElem?_take] at hj
      split at hj
      · exact (HE2.out.alloc _).cells rfl j u hj
      · cases hj)
    have HNl := Aside0.mk (show ((nums .i64 (ints (R x))).take k).length = k * 1 from by simp [nums, ints]; omega)
    have HM := Aside0.mk (show 0 + k ≤ maxLen ∧ (0 + k) * 8 ≤ 140737488355328 by unfold maxLen; omega)
    obtain ⟨hi, hz0, hz1, hz2⟩ := HI.out
    have HI0 := Aside0.mk hi; have HI1 := Aside0.mk hz0; have HI2 := Aside0.mk hz1; have HI3 := Aside0.mk hz2
    have HE1 := Aside0.mk e1
    clear hi hz0 hz1 hz2 c1 e1 f1 f6 f7
    have hkl : (k : Int) ≤ ((R x).length : Int) := by omega
    have hkl2 : (k : Int) + 1 ≤ ((R x).length : Int) := by omega
    have hk0 : (0 : Int) ≤ (k : Int) + 1 := by omega
    have hlc : ((R x).length : Int) ≤ (cap : Int) := by omega
    have hw : IntKind.i64.wrap ((k : Int) + 1) = (k : Int) + 1 := by rw [IntKind.wrap_i64]; omega
    have ht : ((k : Int) + 1).toNat = k + 1 := by omega
    go_enter Try.func27, Try.ntmps27
    go_wp2_with fail
    refine (ref_node HL.out n true (by have := HNN.out; simp; omega)).mono ?_
    rintro e w' ⟨rfl, rfl⟩
    go_wp2_with fail
    refine (of_at HL.out n x k hx HKN.out).mono ?_
    rintro e w' ⟨rfl, rfl⟩
    go_wp2_with (at_builtin; refine wpList_append_own _ rfl _ _ 28 rfl W.heap.size 3 i0 (.int .i64 0) 1 8 Try.underlying28 HI0.out HI1.out HI2.out HI3.out rfl (by decide) _ _ _ rfl HO0.out ⟨g, 0, none⟩ k cap ((nums .i64 (ints (R x))).take k) rfl HNl.out HN.out (fun u hu => nums_one _ u (List.mem_of_mem_take hu)) HM.out.1 HM.out.2 (by simp) ?_; intro v2 w2 hown1 hgrow1 _; have HB3 := Aside0.mk (pw_below_grown HB0.out _ HB0.out.size hgrow1 (fun k hk => own_base HO0.out k hk)); have HO2 := Aside0.mk hown1; clear hown1 hgrow1; have c1 := (HB3.out.cell (p := ⟨q, 1, none⟩) HL.out.lt.1).trans HL.out.c1; have c2 := (HB3.out.cell (p := ⟨s, x, none⟩) HL.out.lt.2).trans HE1.out; have fz := (World.frozen?_of_block (a := ⟨s, x, none⟩) (HB3.out.block s HL.out.lt.2)).trans (HL.out.fr x))
    by_cases hck : cap = k + 1
    · have nq : some q ≠ v2.ownBlock := fun e => by have := own_base HO2.out q e.symm; have := HL.out.lt.1; omega
      have ns : some s ≠ v2.ownBlock := fun e => by have := own_base HO2.out s e.symm; have := HL.out.lt.2; omega
      have HN2 := Aside0.mk (show ∀ j u, ((nums .i64 (ints (R x))).drop (k + 1))[j]? = some u → w2.drew.cell? ((⟨g, 0, none⟩ : Addr).add j) = some u from by
        intro j u hj
        rw [List.drop_eq_nil_of_le (by simp [nums, ints]; omega)] at hj
        simp at hj)
      have HN2l := Aside0.mk (show ((nums .i64 (ints (R x))).drop (k + 1)).length = ((R x).length - (k + 1)) * 1 from by simp [nums, ints])
      go_region_law
        ((refine step_append_own (by rfl) _ _ 28 (by rfl) W.heap.size 3 i0 (.int .i64 0) 1 8 Try.underlying28 HI0.out HI1.out HI2.out HI3.out rfl (by decide) v2 (0 + k) _ (by rfl) HO2.out.drew ⟨g, 0, none⟩ ((R x).length - (k + 1)) 0 ((nums .i64 (ints (R x))).drop (k + 1)) (by first | rfl | (simp; done) | (simp [hck]; done)) HN2l.out HN2.out (fun u hu => nums_one _ u (List.mem_of_mem_drop hu)) (by unfold maxLen; omega) (by omega) (by have := HB3.out.size; simpa using this) ?_; intro v3 w3 hown3 hgrow3; obtain ⟨A3, c3, rfl⟩ := own_slice hown3; have z1 := hgrow3.cell (show w2.drew.cell? ⟨q, 1, none⟩ = _ from c1) nq; have z2 := hgrow3.cell (show w2.drew.cell? ⟨s, x, none⟩ = _ from c2) ns; have z3 := (hgrow3.frozen_far ⟨s, x, none⟩ (by have := HB3.out.size; have := HL.out.lt.2; simp; omega) ns).trans fz))
      all_goals (go_wp2)
      all_goals go_ret
      all_goals exact ⟨rfl, _, w3, rfl, (pw_below_grown (below_drew1 HB3.out) _ (by have := HB3.out.size; simpa using this) hgrow3 (fun k hk => own_base HO2.out k hk)), by rw [← nums_era (R x) k hk]; rw [show (R x).length - 1 = k + ((R x).length - (k + 1)) by omega]; simpa only [Nat.zero_add] using hown3⟩
    · have nq : some q ≠ v2.ownBlock := fun e => by have := own_base HO2.out q e.symm; have := HL.out.lt.1; omega
      have ns : some s ≠ v2.ownBlock := fun e => by have := own_base HO2.out s e.symm; have := HL.out.lt.2; omega
      have HN2 := Aside0.mk (show ∀ j u, ((nums .i64 (ints (R x))).drop (k + 1))[j]? = some u → w2.drew.cell? ((⟨g, k + 1, none⟩ : Addr).add j) = some u from by
        intro j u hj
        rw [List.getElem?_drop] at hj
        rw [add_at]
        exact (own_move HE2.out (fun b hb => HB3.out.block b (own_lt HE2.out b hb))).drew.cells rfl (k + 1 + j) u hj)
      have HN2l := Aside0.mk (show ((nums .i64 (ints (R x))).drop (k + 1)).length = ((R x).length - (k + 1)) * 1 from by simp [nums, ints])
      go_region_law
        ((refine step_append_own (by rfl) _ _ 28 (by rfl) W.heap.size 3 i0 (.int .i64 0) 1 8 Try.underlying28 HI0.out HI1.out HI2.out HI3.out rfl (by decide) v2 (0 + k) _ (by rfl) HO2.out.drew ⟨g, k + 1, none⟩ ((R x).length - (k + 1)) (cap - (k + 1)) ((nums .i64 (ints (R x))).drop (k + 1)) (by first | rfl | (simp; done) | (simp [hck]; done)) HN2l.out HN2.out (fun u hu => nums_one _ u (List.mem_of_mem_drop hu)) (by unfold maxLen; omega) (by omega) (by have := HB3.out.size; simpa using this) ?_; intro v3 w3 hown3 hgrow3; obtain ⟨A3, c3, rfl⟩ := own_slice hown3; have z1 := hgrow3.cell (show w2.drew.cell? ⟨q, 1, none⟩ = _ from c1) nq; have z2 := hgrow3.cell (show w2.drew.cell? ⟨s, x, none⟩ = _ from c2) ns; have z3 := (hgrow3.frozen_far ⟨s, x, none⟩ (by have := HB3.out.size; have := HL.out.lt.2; simp; omega) ns).trans fz))
      all_goals (go_wp2)
      all_goals go_ret
      all_goals exact ⟨rfl, _, w3, rfl, (pw_below_grown (below_drew1 HB3.out) _ (by have := HB3.out.size; simpa using this) hgrow3 (fun k hk => own_base HO2.out k hk)), by rw [← nums_era (R x) k hk]; rw [show (R x).length - 1 = k + ((R x).length - (k + 1)) by omega]; simpa only [Nat.zero_add] using hown3⟩
end Go.Proofs.Yteiepbjajennkaa.ListHand
