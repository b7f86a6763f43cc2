/- Any number as a relative time, as ticks and to any multiple is what the document says. Conditions: none beside the statement's own. -/
import Derived.Test.YtphapbleailinaaPTimesRelx2
namespace Go.Proofs.Ytphapbleailinaa.Pure
open Go Go.RowKit Go.Proofs.Ytphapbleailinaa.PTimesRel Go.Proofs.YtphapbleailinaaW.PrintWords Go.Proofs.YtphapbleailinaaW.PrintLast

theorem bu64 {n : Int} (h : (Lit.int .u64 n).wf = true) : 0 ≤ n ∧ n ≤ 18446744073709551615 := by
  simp [Lit.wf, IntKind.min, IntKind.max, IntKind.signed, IntKind.bits] at h
  omega
theorem bi64 {n : Int} (h : (Lit.int .i64 n).wf = true) : -9223372036854775808 ≤ n ∧ n ≤ 9223372036854775807 := by
  simp [Lit.wf, IntKind.min, IntKind.max, IntKind.signed, IntKind.bits] at h
  omega
theorem bu32 {n : Int} (h : (Lit.int .u32 n).wf = true) : 0 ≤ n ∧ n ≤ 4294967295 := by
  simp [Lit.wf, IntKind.min, IntKind.max, IntKind.signed, IntKind.bits] at h
  omega
theorem bu16 {n : Int} (h : (Lit.int .u16 n).wf = true) : 0 ≤ n ∧ n ≤ 65535 := by
  simp [Lit.wf, IntKind.min, IntKind.max, IntKind.signed, IntKind.bits] at h
  omega

theorem u64w (x : Int) : IntKind.u64.wrap x = x % 18446744073709551616 := by
  simp [IntKind.wrap, IntKind.signed, IntKind.bits]
theorem tm (a b : Int) (h : 0 ≤ a) : a.tmod b = a % b := Int.tmod_eq_emod_of_nonneg h
theorem td (a b : Int) (h : 0 ≤ a) : a.tdiv b = a / b := Int.tdiv_eq_ediv_of_nonneg h
theorem add_is (a b : Int) : nums_Add.f a b = some ((a + b) % 281474976710656) := by
  unfold nums_Add.f
  rw [u64w, tm _ _ (by omega)]
  congr 1
  omega
/-- How far b is ahead of a, round 2^48. -/
def gp (a b : Int) : Int := if (b - a) % 281474976710656 ≥ 140737488355328 then (b - a) % 281474976710656 - 281474976710656 else (b - a) % 281474976710656
theorem gap_is (a b : Int) : nums_Gap.f a b = some (gp a b) := by
  unfold nums_Gap.f gp
  simp only [u64w, tm _ _ (show 0 ≤ (b - a) % 18446744073709551616 by omega)]
  rw [show (b - a) % 18446744073709551616 % 281474976710656 = (b - a) % 281474976710656 by omega]
  split
  · unfold wrap64; congr 1; omega
  · unfold wrap64; congr 1; omega
theorem due_is (a b : Int) : nums_Due.f a b = some (decide (gp a b ≥ 0)) := by
  unfold nums_Due.f
  rw [gap_is]; rfl
theorem known_is (k : Nat) : detentlaw1_known.f (k + 4) = some true := by
  simp [detentlaw1_known.f, nums_Rel.f, add_is, gap_is, due_is, gp, nums_Ticks.f, nums_Align.f, nums_Max.f, nums_Min.f, nums_Max.l0, nums_Min.l0, wrap64, u64w, rd]

theorem ticks_same (a b : Int) : nums_Ticks.f a b = detentref1_Ticks.f a b := rfl
theorem align_is (n a : Int) (h0 : 0 ≤ n) (h1 : n ≤ 1073741824) (a0 : 1 ≤ a) (a1 : a ≤ 4096) : nums_Align.f n a = some ((n + a - 1) / a * a) := by
  unfold nums_Align.f
  rw [if_neg (by omega), if_neg (by omega), if_neg (by omega), if_neg (by omega), if_neg (by omega)]
  have e1 : wrap64 (wrap64 (n + a) - 1) = n + a - 1 := by unfold wrap64; omega
  rw [e1, td _ _ (by omega)]
  have hq : 0 ≤ (n + a - 1) / a := Int.ediv_nonneg (by omega) (by omega)
  have hm : (n + a - 1) / a * a ≤ n + a - 1 := Int.ediv_mul_le _ (by omega)
  have hz : 0 ≤ (n + a - 1) / a * a := Int.mul_nonneg hq (by omega)
  have hd : (n + a - 1) / a ≤ n + a - 1 := Int.ediv_le_self _ (by omega)
  have e2 : wrap64 ((n + a - 1) / a) = (n + a - 1) / a := by unfold wrap64; omega
  rw [e2]
  congr 1
  unfold wrap64; omega
theorem align_facts (n a : Int) (a0 : 1 ≤ a) : n ≤ (n + a - 1) / a * a ∧ (n + a - 1) / a * a - n < a := by
  have h1 := Int.emod_nonneg (n + a - 1) (show a ≠ 0 by omega)
  have h2 := Int.emod_lt_of_pos (n + a - 1) (show 0 < a by omega)
  have h3 := Int.mul_ediv_add_emod (n + a - 1) a
  rw [Int.mul_comm] at h3
  omega
theorem ralign_is (n a : Int) (h0 : 0 ≤ n) (h1 : n ≤ 1073741824) (a0 : 1 ≤ a) (a1 : a ≤ 4096) : detentref1_Align.f n a = some ((n + a - 1) / a * a) := by
  unfold detentref1_Align.f
  rw [if_neg (by omega), if_neg (by omega), if_neg (by omega), if_neg (by omega), if_neg (by omega), tm _ _ h0]
  have h2 := Int.emod_nonneg n (show a ≠ 0 by omega)
  have h3 := Int.emod_lt_of_pos n (show 0 < a by omega)
  have h4 := Int.mul_ediv_add_emod n a
  have h5 := Int.emod_nonneg (n + a - 1) (show a ≠ 0 by omega)
  have h6 := Int.emod_lt_of_pos (n + a - 1) (show 0 < a by omega)
  have h7 := Int.mul_ediv_add_emod (n + a - 1) a
  rw [Int.mul_comm] at h4 h7
  have key : (n + a - 1) / a = if n % a = 0 then n / a else n / a + 1 := by
    split
    · rename_i hz
      have hn : n + a - 1 = (a - 1) + a * (n / a) := by have := Int.mul_comm (n / a) a; omega
      rw [hn, Int.add_mul_ediv_left _ _ (by omega), Int.ediv_eq_zero_of_lt (by omega) (by omega)]; omega
    · rename_i hz
      have hn : n + a - 1 = (n % a - 1) + a * (n / a + 1) := by have := Int.mul_comm (n / a) a; have := Int.mul_add a (n / a) 1; omega
      rw [hn, Int.add_mul_ediv_left _ _ (by omega), Int.ediv_eq_zero_of_lt (by omega) (by omega)]; omega
  by_cases hz : n % a = 0
  · rw [if_pos hz, key, if_pos hz]; congr 1; omega
  · rw [if_neg hz, key, if_neg hz]
    congr 1
    have e : (n / a + 1) * a = n / a * a + a := by rw [Int.add_mul]; omega
    rw [e]; unfold wrap64; omega
theorem TimesRel : detentlaw1_TimesRel.Pure := by
  intro d u tic n a wd wu wtic wn wa
  obtain ⟨n0, n1⟩ := bi64 wn
  refine ⟨4, ?_⟩
  unfold detentlaw1_TimesRel.f
  rw [known_is 0]
  have hrel : nums_Rel.f d = detentref1_Rel.f d := rfl
  obtain ⟨r, hr⟩ : ∃ r, detentref1_Rel.f d = some r := by unfold detentref1_Rel.f; split <;> (try split) <;> exact ⟨_, rfl⟩
  obtain ⟨q, hq⟩ : ∃ q, detentref1_Ticks.f u tic = some q := by unfold detentref1_Ticks.f; split <;> (try split) <;> exact ⟨_, rfl⟩
  simp only [Option.bind_some, if_true, hrel, hr, ticks_same, hq]
  by_cases hin : 0 ≤ n ∧ n ≤ 1073741824 ∧ 1 ≤ a ∧ a ≤ 4096
  · obtain ⟨h0, h1, a0, a1⟩ := hin
    have hf := align_facts n a a0
    simp only [align_is n a h0 h1 a0 a1, ralign_is n a h0 h1 a0 a1, Option.bind_some]
    generalize hv : (n + a - 1) / a * a = v at hf ⊢
    have hmod : Int.tmod v a = 0 := by rw [tm _ _ (by omega), ← hv]; exact Int.mul_emod_left _ _
    simp only [bne_self_eq_false, detentlaw1_TimesRel.j0]
    rw [if_neg (by simp), if_neg (by omega), if_neg (by omega), if_neg (by omega), if_neg (by omega), if_pos (by omega), if_pos (by unfold wrap64; omega), if_neg (by omega), hmod]
    rfl
  · have e1 : nums_Align.f n a = some n := by
      unfold nums_Align.f
      by_cases c1 : n < 0
      · rw [if_pos c1]
      · rw [if_neg c1]
        by_cases c2 : n > 1073741824
        · rw [if_pos c2]
        · rw [if_neg c2]
          by_cases c3 : a < 1
          · rw [if_pos c3]
          · rw [if_neg c3, if_pos (by omega)]
    have e2 : detentref1_Align.f n a = some n := by
      unfold detentref1_Align.f
      by_cases c1 : n < 0
      · rw [if_pos c1]
      · rw [if_neg c1]
        by_cases c2 : n > 1073741824
        · rw [if_pos c2]
        · rw [if_neg c2]
          by_cases c3 : a < 1
          · rw [if_pos c3]
          · rw [if_neg c3, if_pos (by omega)]
    simp only [e1, e2, Option.bind_some, if_true, bne_self_eq_false, detentlaw1_TimesRel.j0]
    rw [if_neg (by simp)]
    by_cases c1 : n < 0
    · rw [if_pos c1]; simp
    · rw [if_neg c1]
      by_cases c2 : n > 1073741824
      · rw [if_pos c2]; simp
      · rw [if_neg c2]
        by_cases c3 : a < 1
        · rw [if_pos c3]; simp
        · rw [if_neg c3, if_pos (by omega)]; simp

end Go.Proofs.Ytphapbleailinaa.Pure
