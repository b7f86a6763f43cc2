/- The greatest and the least of at most 200 numbers are among them, and none goes beyond. Conditions: none beside the statement's own. -/
import Derived.Test.YtphapbleailinaaPTimesMostx2
namespace Go.Proofs.Ytphapbleailinaa.Pure
open Go Go.RowKit Go.Proofs.Ytphapbleailinaa.PTimesMost Go.Proofs.YtphapbleailinaaW.PrintWords Go.Proofs.YtphapbleailinaaW.PrintLast

theorem bu64 {n : Int} (h : (Lit.int .u64 n).wf = true) : 0 ≤ n ∧ n ≤ 18446744073709551615 := by
  simp [Lit.wf, IntKind.min, IntKind.max, IntKind.signed, IntKind.bits] at h
  omega
theorem bi64 {n : Int} (h : (Lit.int .i64 n).wf = true) : -9223372036854775808 ≤ n ∧ n ≤ 9223372036854775807 := by
  simp [Lit.wf, IntKind.min, IntKind.max, IntKind.signed, IntKind.bits] at h
  omega
theorem bu32 {n : Int} (h : (Lit.int .u32 n).wf = true) : 0 ≤ n ∧ n ≤ 4294967295 := by
  simp [Lit.wf, IntKind.min, IntKind.max, IntKind.signed, IntKind.bits] at h
  omega
theorem bu16 {n : Int} (h : (Lit.int .u16 n).wf = true) : 0 ≤ n ∧ n ≤ 65535 := by
  simp [Lit.wf, IntKind.min, IntKind.max, IntKind.signed, IntKind.bits] at h
  omega

theorem u64w (x : Int) : IntKind.u64.wrap x = x % 18446744073709551616 := by
  simp [IntKind.wrap, IntKind.signed, IntKind.bits]
theorem tm (a b : Int) (h : 0 ≤ a) : a.tmod b = a % b := Int.tmod_eq_emod_of_nonneg h
theorem td (a b : Int) (h : 0 ≤ a) : a.tdiv b = a / b := Int.tdiv_eq_ediv_of_nonneg h
theorem add_is (a b : Int) : nums_Add.f a b = some ((a + b) % 281474976710656) := by
  unfold nums_Add.f
  rw [u64w, tm _ _ (by omega)]
  congr 1
  omega
/-- How far b is ahead of a, round 2^48. -/
def gp (a b : Int) : Int := if (b - a) % 281474976710656 ≥ 140737488355328 then (b - a) % 281474976710656 - 281474976710656 else (b - a) % 281474976710656
theorem gap_is (a b : Int) : nums_Gap.f a b = some (gp a b) := by
  unfold nums_Gap.f gp
  simp only [u64w, tm _ _ (show 0 ≤ (b - a) % 18446744073709551616 by omega)]
  rw [show (b - a) % 18446744073709551616 % 281474976710656 = (b - a) % 281474976710656 by omega]
  split
  · unfold wrap64; congr 1; omega
  · unfold wrap64; congr 1; omega
theorem due_is (a b : Int) : nums_Due.f a b = some (decide (gp a b ≥ 0)) := by
  unfold nums_Due.f
  rw [gap_is]; rfl
theorem known_is (k : Nat) : detentlaw1_known.f (k + 4) = some true := by
  simp [detentlaw1_known.f, nums_Rel.f, add_is, gap_is, due_is, gp, nums_Ticks.f, nums_Align.f, nums_Max.f, nums_Min.f, nums_Max.l0, nums_Min.l0, wrap64, u64w, rd]

theorem rd_mem (l : List Int) (i : Int) (h0 : 0 ≤ i) (h1 : i < l.length) : rd l i ∈ l := by
  have h : i.toNat < l.length := by omega
  have : rd l i = l[i.toNat] := by simp [rd, h]
  rw [this]; exact List.getElem_mem h
/-- What a loop over the first i numbers has found: it is among them, and none goes beyond. -/
def Top (le : Int → Int → Prop) (l : List Int) (i : Int) (m : Int) : Prop :=
  (i = 0 → m = 0) ∧ (0 < i → (∃ j, 0 ≤ j ∧ j < i ∧ rd l j = m) ∧ ∀ j, 0 ≤ j → j < i → le (rd l j) m)
theorem max_loop (l : List Int) (hn : l.length ≤ 200) (d : Nat) : ∀ (k : Nat) (m i : Int), 0 ≤ i → i ≤ l.length → (l.length : Int) - i = d → d < k → Top (· ≤ ·) l i m →
    ∃ r, nums_Max.l0 k m l l.length i = some r ∧ Top (· ≤ ·) l l.length r := by
  induction d with
  | zero =>
    intro k m i i0 i1 hd hk ht
    obtain ⟨k, rfl⟩ : ∃ m, k = m + 1 := ⟨k - 1, by omega⟩
    obtain rfl : i = l.length := by omega
    exact ⟨m, by simp only [nums_Max.l0]; rw [if_neg (by omega)], ht⟩
  | succ d ih =>
    intro k m i i0 i1 hd hk ht
    obtain ⟨k, rfl⟩ : ∃ m, k = m + 1 := ⟨k - 1, by omega⟩
    have e1 : wrap64 (i + 1) = i + 1 := by unfold wrap64; omega
    simp only [nums_Max.l0]
    rw [if_pos (by omega), if_pos i0, if_pos (by omega), e1]
    obtain ⟨tz, tp⟩ := ht
    by_cases c : i = 0
    · rw [if_pos c]
      refine ih k _ _ (by omega) (by omega) (by omega) (by omega) ⟨by omega, fun _ => ⟨⟨i, by omega, by omega, rfl⟩, fun j j0 j1 => ?_⟩⟩
      obtain rfl : j = i := by omega
      exact Int.le_refl _
    · rw [if_neg c]
      obtain ⟨⟨j, j0, j1, j2⟩, hall⟩ := tp (by omega)
      by_cases c2 : rd l i > m
      · rw [if_pos c2]
        refine ih k _ _ (by omega) (by omega) (by omega) (by omega) ⟨by omega, fun _ => ⟨⟨i, by omega, by omega, rfl⟩, fun q q0 q1 => ?_⟩⟩
        by_cases e : q = i
        · rw [e]; exact Int.le_refl _
        · have := hall q q0 (by omega); omega
      · rw [if_neg c2]
        refine ih k _ _ (by omega) (by omega) (by omega) (by omega) ⟨by omega, fun _ => ⟨⟨j, by omega, by omega, j2⟩, fun q q0 q1 => ?_⟩⟩
        by_cases e : q = i
        · rw [e]; omega
        · exact hall q q0 (by omega)
theorem min_loop (l : List Int) (hn : l.length ≤ 200) (d : Nat) : ∀ (k : Nat) (m i : Int), 0 ≤ i → i ≤ l.length → (l.length : Int) - i = d → d < k → Top (fun a b => b ≤ a) l i m →
    ∃ r, nums_Min.l0 k m l l.length i = some r ∧ Top (fun a b => b ≤ a) l l.length r := by
  induction d with
  | zero =>
    intro k m i i0 i1 hd hk ht
    obtain ⟨k, rfl⟩ : ∃ m, k = m + 1 := ⟨k - 1, by omega⟩
    obtain rfl : i = l.length := by omega
    exact ⟨m, by simp only [nums_Min.l0]; rw [if_neg (by omega)], ht⟩
  | succ d ih =>
    intro k m i i0 i1 hd hk ht
    obtain ⟨k, rfl⟩ : ∃ m, k = m + 1 := ⟨k - 1, by omega⟩
    have e1 : wrap64 (i + 1) = i + 1 := by unfold wrap64; omega
    simp only [nums_Min.l0]
    rw [if_pos (by omega), if_pos i0, if_pos (by omega), e1]
    obtain ⟨tz, tp⟩ := ht
    by_cases c : i = 0
    · rw [if_pos c]
      refine ih k _ _ (by omega) (by omega) (by omega) (by omega) ⟨by omega, fun _ => ⟨⟨i, by omega, by omega, rfl⟩, fun j j0 j1 => ?_⟩⟩
      obtain rfl : j = i := by omega
      exact Int.le_refl _
    · rw [if_neg c]
      obtain ⟨⟨j, j0, j1, j2⟩, hall⟩ := tp (by omega)
      by_cases c2 : rd l i < m
      · rw [if_pos c2]
        refine ih k _ _ (by omega) (by omega) (by omega) (by omega) ⟨by omega, fun _ => ⟨⟨i, by omega, by omega, rfl⟩, fun q q0 q1 => ?_⟩⟩
        by_cases e : q = i
        · rw [e]; exact Int.le_refl _
        · have := hall q q0 (by omega); omega
      · rw [if_neg c2]
        refine ih k _ _ (by omega) (by omega) (by omega) (by omega) ⟨by omega, fun _ => ⟨⟨j, by omega, by omega, j2⟩, fun q q0 q1 => ?_⟩⟩
        by_cases e : q = i
        · rw [e]; omega
        · exact hall q q0 (by omega)
theorem law_loop (l : List Int) (hi lo : Int) (hn : l.length ≤ 200) (h1 : Top (· ≤ ·) l l.length hi) (h2 : Top (fun a b => b ≤ a) l l.length lo) (hp : 0 < l.length) (d : Nat) :
    ∀ (k : Nat) (u v : Bool) (i : Int), 0 ≤ i → i ≤ l.length → (l.length : Int) - i = d → d < k → (u = true ∨ ∃ j, i ≤ j ∧ j < l.length ∧ rd l j = hi) → (v = true ∨ ∃ j, i ≤ j ∧ j < l.length ∧ rd l j = lo) →
      detentlaw1_TimesMost.l0 k l hi lo u v i = some true := by
  obtain ⟨_, a1⟩ := h1.2 (by omega)
  obtain ⟨_, a2⟩ := h2.2 (by omega)
  induction d with
  | zero =>
    intro k u v i i0 i1 hd hk hu hv
    obtain ⟨k, rfl⟩ : ∃ m, k = m + 1 := ⟨k - 1, by omega⟩
    simp only [detentlaw1_TimesMost.l0]
    rw [if_neg (by omega)]
    have eu : u = true := by
      rcases hu with h | ⟨j, x, y, _⟩
      · exact h
      · omega
    have ev : v = true := by
      rcases hv with h | ⟨j, x, y, _⟩
      · exact h
      · omega
    rw [eu, ev]; rfl
  | succ d ih =>
    intro k u v i i0 i1 hd hk hu hv
    obtain ⟨k, rfl⟩ : ∃ m, k = m + 1 := ⟨k - 1, by omega⟩
    have e1 : wrap64 (i + 1) = i + 1 := by unfold wrap64; omega
    have b1 := a1 i i0 (by omega)
    have b2 := a2 i i0 (by omega)
    simp only [detentlaw1_TimesMost.l0]
    rw [if_pos (by omega), if_pos i0, if_neg (by omega), if_neg (by omega), e1]
    have nu : ((rd l i == hi) = true) ∨ ∃ j, i + 1 ≤ j ∧ j < l.length ∧ rd l j = hi ∨ u = true := by
      rcases hu with h | ⟨j, x, y, z⟩
      · exact .inr ⟨0, .inr h⟩
      · by_cases e : j = i
        · subst e; exact .inl (by simp [z])
        · exact .inr ⟨j, .inl ⟨by omega, y, z⟩⟩
    have nv : ((rd l i == lo) = true) ∨ ∃ j, i + 1 ≤ j ∧ j < l.length ∧ rd l j = lo ∨ v = true := by
      rcases hv with h | ⟨j, x, y, z⟩
      · exact .inr ⟨0, .inr h⟩
      · by_cases e : j = i
        · subst e; exact .inl (by simp [z])
        · exact .inr ⟨j, .inl ⟨by omega, y, z⟩⟩
    cases u <;> cases v <;> simp only [if_true, Bool.false_eq_true, if_false]
    all_goals
      refine ih k _ _ _ (by omega) (by omega) (by omega) (by omega) ?_ ?_
    all_goals first
      | exact .inl rfl
      | (rcases nu with h | ⟨j, h | h⟩
         · exact .inl h
         · exact .inr ⟨j, h⟩
         · exact absurd h (by simp))
      | (rcases nv with h | ⟨j, h | h⟩
         · exact .inl h
         · exact .inr ⟨j, h⟩
         · exact absurd h (by simp))
theorem TimesMost : detentlaw1_TimesMost.Pure := by
  intro l _ _ hw
  refine ⟨l.length + 1 + 4, ?_⟩
  unfold detentlaw1_TimesMost.f
  rw [known_is]
  simp only [Option.bind_some, if_true]
  by_cases c : (l.length : Int) > 200
  · rw [if_pos c]
  · rw [if_neg c]
    obtain ⟨hi, e1, t1⟩ := max_loop l (by omega) l.length (l.length + 1 + 4) 0 0 (by omega) (by omega) (by omega) (by omega) ⟨fun _ => rfl, fun h => by omega⟩
    obtain ⟨lo, e2, t2⟩ := min_loop l (by omega) l.length (l.length + 1 + 4) 0 0 (by omega) (by omega) (by omega) (by omega) ⟨fun _ => rfl, fun h => by omega⟩
    unfold nums_Max.f nums_Min.f
    rw [e1, e2]
    simp only [Option.bind_some]
    by_cases z : (l.length : Int) = 0
    · rw [if_pos z, t1.1 z, t2.1 z]; rfl
    · rw [if_neg z]
      obtain ⟨⟨j, j0, j1, j2⟩, _⟩ := t1.2 (by omega)
      obtain ⟨⟨q, q0, q1, q2⟩, _⟩ := t2.2 (by omega)
      exact law_loop l hi lo (by omega) t1 t2 (by omega) l.length _ false false 0 (by omega) (by omega) (by omega) (by omega) (.inr ⟨j, j0, j1, j2⟩) (.inr ⟨q, q0, q1, q2⟩)

end Go.Proofs.Ytphapbleailinaa.Pure
