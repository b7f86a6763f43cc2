/- The document's lists: a node is put into a row. Conditions: none. -/
import Derived.Test.YteiepbjajennkaaListRef
import Derived.RegionTactic
import Derived.BigRegion
import Derived.ChangeAlike
import Derived.Laws.AppendOwnNone
import Derived.Deep.RegionHeld3
import Derived.Deep.RegionLaw
import Derived.Deep.AppendLies
import Derived.Deep.DrawnRows
namespace Go.Proofs.Yteiepbjajennkaa.ListHand
set_option linter.unusedVariables false
open Go.RowKit Go.Proofs.YteiepbjajennkaaW.PrintWords Go.Proofs.YteiepbjajennkaaW.PrintMore
attribute [local go_sem ↓] Go.wp_at_zero Go.wp_at_succ
/-- An append to a row of the call's own, at a step of a region that draws its order. -/
theorem step_append_own {P : Program} {w : World} {ops : Array Oper} {o : Oper} {a : Act} {K : Act → World → Prop} {Q : Exit → Act → World → Prop} {E : Prop} (hgd : o.guard = none) (s x : Operand) (t : TypeId)
    (ho : o.op = .call { callee := .builtin .append, args := #[s, x], argTypes := #[t, t] })
    (base : Nat) (e : TypeId) (i : TypeInfo) (z : Value) (size bytes : Nat) (ht : P.underlying t = some (.slice e)) (hi : P.info? e = some i) (hz : i.zero = some z)
    (hsize : i.size = size) (hby : i.bytes = bytes) (hzs : z.cells.size = size) (hsz : 0 < size)
    (v : Value) (n : Nat) (xs : List Value) (hs : a.eval s = v) (hown : w.ownsRow base e size v n xs)
    (ad : Addr) (m c : Nat) (news : List Value) (hx : a.eval x = .slice (some ad) m c) (hl : news.length = m * size) (hnews : ∀ j u, news[j]? = some u → w.cell? (ad.add j) = some u) (h1 : ∀ u ∈ news, u.oneCell' = true)
    (h63 : n + m ≤ maxLen) (hbytes : (n + m) * bytes ≤ 140737488355328) (hbase : base ≤ w.heap.size)
    (h : ∀ v' w', w'.ownsRow base e size v' (n + m) (xs ++ news) → w.grownBy w' v.ownBlock → K (a.put o.dst v') w') :
    if Region.wanted o (yielded ops a.tmps) = true then Oper.wp P o a w K Q else E := by
  have hw : Region.wanted o (yielded ops a.tmps) = true := by simp [Region.wanted, hgd]
  rw [if_pos hw]
  exact wp_append_own w s x t ho base e i z size bytes ht hi hz hsize hby hzs hsz v n xs hs hown ad m c news hx hl hnews h1 h63 hbytes hbase fun v' w' h2 h3 _ => h v' w' h2 h3
/-- .. of nothing. -/
theorem step_append_none {P : Program} {w : World} {ops : Array Oper} {o : Oper} {a : Act} {K : Act → World → Prop} {Q : Exit → Act → World → Prop} {E : Prop} (hgd : o.guard = none) (s x : Operand) (t : TypeId)
    (ho : o.op = .call { callee := .builtin .append, args := #[s, x], argTypes := #[t, t] })
    (base : Nat) (e : TypeId) (i : TypeInfo) (size : Nat) (ht : P.underlying t = some (.slice e)) (hi : P.info? e = some i)
    (v : Value) (n : Nat) (xs : List Value) (hs : a.eval s = v) (hown : w.ownsRow base e size v n xs) (hx : a.eval x = .slice none 0 0)
    (h : K (a.put o.dst v) w) : if Region.wanted o (yielded ops a.tmps) = true then Oper.wp P o a w K Q else E := by
  have hw : Region.wanted o (yielded ops a.tmps) = true := by simp [Region.wanted, hgd]
  rw [if_pos hw]
  have hrun := run_append_owned_none (P := P) (w := w) base t o.type e i size ht hi v n xs hown
  unfold Oper.wp
  simp [execOp, ho, resolve, invoke, builtin, hs, hx, hrun, Result.andThen]
  exact h
theorem add_at (g k j : Nat) : (⟨g, k, none⟩ : Addr).add j = (⟨g, 0, none⟩ : Addr).add (k + j) := by
  unfold Addr.add
  by_cases hj : j = 0
  · subst hj
    by_cases hk : k = 0
    · subst hk; rfl
    · rw [if_pos rfl, if_neg (by omega)]; simp
  · rw [if_neg hj, if_neg (by omega)]; simp
theorem nums_one (xs : List Int) : ∀ u ∈ nums .i64 xs, u.oneCell' = true := by
  intro u hu
  unfold nums at hu
  obtain ⟨y, _, rfl⟩ := List.mem_map.1 hu
  rfl
theorem nums_ins (l : List Nat) (k n : Nat) (hk : k ≤ l.length) : (([] ++ (nums .i64 (ints l)).take k) ++ [Value.int .i64 (n : Int)]) ++ (nums .i64 (ints l)).drop k = nums .i64 (ints (l.insertIdx k n)) := by
  have : l.insertIdx k n = l.take k ++ n :: l.drop k := by
    apply List.ext_getElem?
    intro j
    rw [List.getElem?_insertIdx, List.getElem?_append, List.length_take, Nat.min_eq_left hk, List.getElem?_take, List.getElem?_cons, List.getElem?_drop]
    by_cases h1 : j < k
    · rw [if_pos h1, if_pos h1, if_pos h1]
    · rw [if_neg h1, if_neg h1]
      by_cases h2 : j = k
      · subst h2; simp [hk]
      · rw [if_neg h2, if_neg (by omega)]
        congr 1; omega
  rw [this]
  simp [nums, ints, List.map_take, List.map_drop]
variable {w0 W : World} {lo q s N H : Nat} {R : Nat → List Nat}
set_option maxHeartbeats 4000000 in
set_option maxRecDepth 100000 in
theorem ref_put (h : Rf w0 lo W q s N H R) (x k n : Nat) (hx : x < H) (hk : k ≤ (R x).length) (hl : lo ≤ W.heap.size) (hlen : (R x).length ≤ 1024) :
    Calls Try.prog 48 #[.pointer (some ⟨q, 0, none⟩), .int .i64 x, .int .i64 k, .int .i64 n] W fun e w' => e = .returned (.tuple #[]) ∧
      (∃ v w1, w' = w1.setCell ⟨s, x, none⟩ v ∧ Below W.heap.size W w1 ∧ w1.ownsRow W.heap.size 3 1 v ((R x).length + 1) (nums .i64 (ints ((R x).insertIdx k n)))) := by
  obtain ⟨i0, hi, hz0, hz1, hz2⟩ := info_parts info3
  have HI := Aside0.mk (And.intro hi (And.intro hz0 (And.intro hz1 hz2))); clear hi hz0 hz1 hz2
  have c1 := h.c1
  have h1 := h.H1
  obtain ⟨v, e1, e2, e3⟩ := h.row x hx
  have HL := Aside0.mk h; clear h
  have HE2 := Aside0.mk e2
  rcases e2 with ⟨f1, ⟨rfl, f2⟩ | ⟨g, cap, cur, rfl, f2, f3, f4, f5, f6, f7⟩⟩
  · have hk0 : k = 0 := by omega
    subst hk0
    have hl0 : (R x) = [] := List.length_eq_zero_iff.1 (by omega)
    have HB0 := Aside0.mk (below_alloc (Below.refl W.heap.size W) (.cells #[] 3))
    have d1 := (HB0.out.cell (p := ⟨q, 1, none⟩) HL.out.lt.1).trans c1
    have d2 := (HB0.out.cell (p := ⟨s, x, none⟩) HL.out.lt.2).trans e1
    have HO0 : (W.alloc (.cells #[] 3)).ownsRow W.heap.size 3 1 (.slice (some ⟨W.heap.size, 0, none⟩) 0 0) 0 [] := own_lit W W.heap.size 3 .i64 [] (Nat.le_refl _) (by simp)
    have HO1 := Aside0.mk (HO0.alloc (.cells #[.int .i64 (n : Int)] 3))
    have HO0 := Aside0.mk HO0
    have HB2 := Aside0.mk (below_alloc HB0.out (.cells #[.int .i64 (n : Int)] 3))
    obtain ⟨hi, hz0, hz1, hz2⟩ := HI.out
    have HI0 := Aside0.mk hi; have HI1 := Aside0.mk hz0; have HI2 := Aside0.mk hz1; have HI3 := Aside0.mk hz2
    have HE1 := Aside0.mk e1
    have hn1 := one_new (W.alloc (.cells #[] 3)) (.int .i64 (n : Int)) 3
    rw [show (W.alloc (.cells #[] 3)).heap.size = W.heap.size + 1 by simp] at hn1
    have HN1 := Aside0.mk hn1
    clear hi hz0 hz1 hz2 c1 e1 f1 hn1
    go_enter Try.func48, Try.ntmps48
    go_wp2_with (first | (at_builtin; refine wpList_append_own_none rfl _ _ 28 rfl W.heap.size 3 i0 1 Try.underlying28 HI0.out _ _ _ rfl HO0.out rfl ?_) | (at_builtin; refine wpList_append_own _ rfl _ _ 28 rfl W.heap.size 3 i0 (.int .i64 0) 1 8 Try.underlying28 HI0.out HI1.out HI2.out HI3.out rfl (by decide) _ _ _ rfl HO1.out ⟨W.heap.size + 1, 0, none⟩ 1 1 [.int .i64 (n : Int)] rfl rfl HN1.out (by simp [Value.oneCell']) (by unfold maxLen; omega) (by omega) HB2.out.size ?_; intro v2 w2 hown2 hgrow2 _; have HB3 := Aside0.mk (pw_below_grown HB2.out _ HB2.out.size hgrow2 (fun k hk => own_base HO1.out k hk)); have HO2 := Aside0.mk hown2; clear hgrow2; obtain ⟨A2, k2, rfl⟩ := own_slice hown2; clear hown2; have c1 := (HB3.out.cell (p := ⟨q, 1, none⟩) HL.out.lt.1).trans HL.out.c1; have c2 := (HB3.out.cell (p := ⟨s, x, none⟩) HL.out.lt.2).trans HE1.out; have fz := (World.frozen?_of_block (a := ⟨s, x, none⟩) (HB3.out.block s HL.out.lt.2)).trans (HL.out.fr x)))
    go_region_law
      ((refine step_append_none (by rfl) _ _ 28 (by rfl) W.heap.size 3 i0 1 Try.underlying28 HI0.out _ _ _ (by rfl) HO2.out.drew (by rfl) ?_))
    all_goals (go_wp2)
    all_goals go_end0
    all_goals exact ⟨rfl, _, w2.drew, rfl, below_drew1 HB3.out, by rw [hl0]; exact HO2.out.drew⟩
  · have f5' : cap ≤ 9223372036854775807 := f5
    have HF3 := Aside0.mk f3; clear f3
    have HB0 := Aside0.mk (below_alloc (Below.refl W.heap.size W) (.cells #[] 3))
    have d1 := (HB0.out.cell (p := ⟨q, 1, none⟩) HL.out.lt.1).trans c1
    have d2 := (HB0.out.cell (p := ⟨s, x, none⟩) HL.out.lt.2).trans e1
    have hg := World.block_lt_of_cell? W ⟨s, x, none⟩ e1
    have HO0 : (W.alloc (.cells #[] 3)).ownsRow W.heap.size 3 1 (.slice (some ⟨W.heap.size, 0, none⟩) 0 0) 0 [] := own_lit W W.heap.size 3 .i64 [] (Nat.le_refl _) (by simp)
    have HO0 := Aside0.mk HO0
    have HN := Aside0.mk (show ∀ j u, ((nums .i64 (ints (R x))).take k)[j]? = some u → (W.alloc (.cells #[] 3)).cell? ((⟨g, 0, none⟩ : Addr).add j) = some u from by
      intro j u hj
      rw [List.getElem?_take] at hj
      split at hj
      · exact (HE2.out.alloc _).cells rfl j u hj
      · cases hj)
    have HNl := Aside0.mk (show ((nums .i64 (ints (R x))).take k).length = k * 1 from by simp [nums, ints]; omega)
    have HM := Aside0.mk (show 0 + k ≤ maxLen ∧ (0 + k) * 8 ≤ 140737488355328 by unfold maxLen; omega)
    obtain ⟨hi, hz0, hz1, hz2⟩ := HI.out
    have HI0 := Aside0.mk hi; have HI1 := Aside0.mk hz0; have HI2 := Aside0.mk hz1; have HI3 := Aside0.mk hz2
    have HE1 := Aside0.mk e1
    clear hi hz0 hz1 hz2 c1 e1 f1 f6 f7
    have hkl : (k : Int) ≤ ((R x).length : Int) := by omega
    go_enter Try.func48, Try.ntmps48
    go_wp2_with (first | (at_builtin; refine wpList_append_own _ rfl _ _ 28 rfl W.heap.size 3 i0 (.int .i64 0) 1 8 Try.underlying28 HI0.out HI1.out HI2.out HI3.out rfl (by decide) _ _ _ rfl HO0.out ⟨g, 0, none⟩ k cap ((nums .i64 (ints (R x))).take k) rfl HNl.out HN.out (fun u hu => nums_one _ u (List.mem_of_mem_take hu)) HM.out.1 HM.out.2 (by simp) ?_; intro v1 w1 hown1 hgrow1 _; have HB1 := Aside0.mk (pw_below_grown HB0.out _ HB0.out.size hgrow1 (fun k hk => own_base HO0.out k hk)); have HO1 := Aside0.mk (hown1.alloc (.cells #[.int .i64 (n : Int)] 3)); clear hown1 hgrow1; have HB2 := Aside0.mk (below_alloc HB1.out (.cells #[.int .i64 (n : Int)] 3))) | (at_builtin; refine wpList_append_own _ rfl _ _ 28 rfl W.heap.size 3 i0 (.int .i64 0) 1 8 Try.underlying28 HI0.out HI1.out HI2.out HI3.out rfl (by decide) _ _ _ rfl HO1.out ⟨w1.heap.size, 0, none⟩ 1 1 [.int .i64 (n : Int)] rfl rfl (one_new _ _ _) (by simp [Value.oneCell']) (by have := HM.out.1; unfold maxLen; omega) (by omega) HB2.out.size ?_; intro v2 w2 hown2 hgrow2 _; have HB3 := Aside0.mk (pw_below_grown HB2.out _ HB2.out.size hgrow2 (fun k hk => own_base HO1.out k hk)); have HO2 := Aside0.mk hown2; clear hown2 hgrow2; have c1 := (HB3.out.cell (p := ⟨q, 1, none⟩) HL.out.lt.1).trans HL.out.c1; have c2 := (HB3.out.cell (p := ⟨s, x, none⟩) HL.out.lt.2).trans HE1.out; have fz := (World.frozen?_of_block (a := ⟨s, x, none⟩) (HB3.out.block s HL.out.lt.2)).trans (HL.out.fr x)))
    by_cases hck : cap = k
    · have nq : some q ≠ v2.ownBlock := fun e => by have := own_base HO2.out q e.symm; have := HL.out.lt.1; omega
      have ns : some s ≠ v2.ownBlock := fun e => by have := own_base HO2.out s e.symm; have := HL.out.lt.2; omega
      have HN2 := Aside0.mk (show ∀ j u, ((nums .i64 (ints (R x))).drop k)[j]? = some u → w2.drew.cell? ((⟨g, 0, none⟩ : Addr).add j) = some u from by
        intro j u hj
        rw [List.drop_eq_nil_of_le (by simp [nums, ints]; omega)] at hj
        simp at hj)
      have HN2l := Aside0.mk (show ((nums .i64 (ints (R x))).drop k).length = ((R x).length - k) * 1 from by simp [nums, ints])
      go_region_law
        ((refine step_append_own (by rfl) _ _ 28 (by rfl) W.heap.size 3 i0 (.int .i64 0) 1 8 Try.underlying28 HI0.out HI1.out HI2.out HI3.out rfl (by decide) v2 (0 + k + 1) _ (by rfl) HO2.out.drew ⟨g, 0, none⟩ ((R x).length - k) 0 ((nums .i64 (ints (R x))).drop k) (by first | rfl | (simp; done) | (simp [hck]; done)) HN2l.out HN2.out (fun u hu => nums_one _ u (List.mem_of_mem_drop hu)) (by unfold maxLen; omega) (by omega) (by have := HB3.out.size; simpa using this) ?_; intro v3 w3 hown3 hgrow3; obtain ⟨A3, c3, rfl⟩ := own_slice hown3; have z1 := hgrow3.cell (show w2.drew.cell? ⟨q, 1, none⟩ = _ from c1) nq; have z2 := hgrow3.cell (show w2.drew.cell? ⟨s, x, none⟩ = _ from c2) ns; have z3 := (hgrow3.frozen_far ⟨s, x, none⟩ (by have := HB3.out.size; have := HL.out.lt.2; simp; omega) ns).trans fz))
      all_goals (go_wp2)
      all_goals go_end0
      all_goals exact ⟨rfl, _, w3, rfl, (pw_below_grown (below_drew1 HB3.out) _ (by have := HB3.out.size; simpa using this) hgrow3 (fun k hk => own_base HO2.out k hk)), by rw [← nums_ins (R x) k n hk]; rw [show (R x).length + 1 = k + 1 + ((R x).length - k) by omega]; simpa only [Nat.zero_add] using hown3⟩
    · have nq : some q ≠ v2.ownBlock := fun e => by have := own_base HO2.out q e.symm; have := HL.out.lt.1; omega
      have ns : some s ≠ v2.ownBlock := fun e => by have := own_base HO2.out s e.symm; have := HL.out.lt.2; omega
      have HN2 := Aside0.mk (show ∀ j u, ((nums .i64 (ints (R x))).drop k)[j]? = some u → w2.drew.cell? ((⟨g, k, none⟩ : Addr).add j) = some u from by
        intro j u hj
        rw [List.getElem?_drop] at hj
        rw [add_at]
        exact (own_move HE2.out (fun b hb => HB3.out.block b (own_lt HE2.out b hb))).drew.cells rfl (k + j) u hj)
      have HN2l := Aside0.mk (show ((nums .i64 (ints (R x))).drop k).length = ((R x).length - k) * 1 from by simp [nums, ints])
      go_region_law
        ((refine step_append_own (by rfl) _ _ 28 (by rfl) W.heap.size 3 i0 (.int .i64 0) 1 8 Try.underlying28 HI0.out HI1.out HI2.out HI3.out rfl (by decide) v2 (0 + k + 1) _ (by rfl) HO2.out.drew ⟨g, k, none⟩ ((R x).length - k) (cap - k) ((nums .i64 (ints (R x))).drop k) (by rfl) HN2l.out HN2.out (fun u hu => nums_one _ u (List.mem_of_mem_drop hu)) (by unfold maxLen; omega) (by omega) (by have := HB3.out.size; simpa using this) ?_; intro v3 w3 hown3 hgrow3; obtain ⟨A3, c3, rfl⟩ := own_slice hown3; have z1 := hgrow3.cell (show w2.drew.cell? ⟨q, 1, none⟩ = _ from c1) nq; have z2 := hgrow3.cell (show w2.drew.cell? ⟨s, x, none⟩ = _ from c2) ns; have z3 := (hgrow3.frozen_far ⟨s, x, none⟩ (by have := HB3.out.size; have := HL.out.lt.2; simp; omega) ns).trans fz))
      all_goals (go_wp2)
      all_goals go_end0
      all_goals exact ⟨rfl, _, w3, rfl, (pw_below_grown (below_drew1 HB3.out) _ (by have := HB3.out.size; simpa using this) hgrow3 (fun k hk => own_base HO2.out k hk)), by rw [← nums_ins (R x) k n hk]; rw [show (R x).length + 1 = k + 1 + ((R x).length - k) by omega]; simpa only [Nat.zero_add] using hown3⟩
end Go.Proofs.Yteiepbjajennkaa.ListHand
