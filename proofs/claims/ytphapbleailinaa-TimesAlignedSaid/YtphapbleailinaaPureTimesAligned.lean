/- What is aligned stays, one more goes to the next multiple, and multiples are apart by just that. Conditions: none beside the statement's own. -/
import Derived.Test.YtphapbleailinaaPTimesAlignedx2
namespace Go.Proofs.Ytphapbleailinaa.Pure
open Go Go.RowKit Go.Proofs.Ytphapbleailinaa.PTimesAligned Go.Proofs.YtphapbleailinaaW.PrintWords Go.Proofs.YtphapbleailinaaW.PrintLast

theorem bu64 {n : Int} (h : (Lit.int .u64 n).wf = true) : 0 ≤ n ∧ n ≤ 18446744073709551615 := by
  simp [Lit.wf, IntKind.min, IntKind.max, IntKind.signed, IntKind.bits] at h
  omega
theorem bi64 {n : Int} (h : (Lit.int .i64 n).wf = true) : -9223372036854775808 ≤ n ∧ n ≤ 9223372036854775807 := by
  simp [Lit.wf, IntKind.min, IntKind.max, IntKind.signed, IntKind.bits] at h
  omega
theorem bu32 {n : Int} (h : (Lit.int .u32 n).wf = true) : 0 ≤ n ∧ n ≤ 4294967295 := by
  simp [Lit.wf, IntKind.min, IntKind.max, IntKind.signed, IntKind.bits] at h
  omega
theorem bu16 {n : Int} (h : (Lit.int .u16 n).wf = true) : 0 ≤ n ∧ n ≤ 65535 := by
  simp [Lit.wf, IntKind.min, IntKind.max, IntKind.signed, IntKind.bits] at h
  omega

theorem u64w (x : Int) : IntKind.u64.wrap x = x % 18446744073709551616 := by
  simp [IntKind.wrap, IntKind.signed, IntKind.bits]
theorem tm (a b : Int) (h : 0 ≤ a) : a.tmod b = a % b := Int.tmod_eq_emod_of_nonneg h
theorem td (a b : Int) (h : 0 ≤ a) : a.tdiv b = a / b := Int.tdiv_eq_ediv_of_nonneg h
theorem add_is (a b : Int) : nums_Add.f a b = some ((a + b) % 281474976710656) := by
  unfold nums_Add.f
  rw [u64w, tm _ _ (by omega)]
  congr 1
  omega
/-- How far b is ahead of a, round 2^48. -/
def gp (a b : Int) : Int := if (b - a) % 281474976710656 ≥ 140737488355328 then (b - a) % 281474976710656 - 281474976710656 else (b - a) % 281474976710656
theorem gap_is (a b : Int) : nums_Gap.f a b = some (gp a b) := by
  unfold nums_Gap.f gp
  simp only [u64w, tm _ _ (show 0 ≤ (b - a) % 18446744073709551616 by omega)]
  rw [show (b - a) % 18446744073709551616 % 281474976710656 = (b - a) % 281474976710656 by omega]
  split
  · unfold wrap64; congr 1; omega
  · unfold wrap64; congr 1; omega
theorem due_is (a b : Int) : nums_Due.f a b = some (decide (gp a b ≥ 0)) := by
  unfold nums_Due.f
  rw [gap_is]; rfl
theorem known_is (k : Nat) : detentlaw1_known.f (k + 4) = some true := by
  simp [detentlaw1_known.f, nums_Rel.f, add_is, gap_is, due_is, gp, nums_Ticks.f, nums_Align.f, nums_Max.f, nums_Min.f, nums_Max.l0, nums_Min.l0, wrap64, u64w, rd]

theorem align_is (n a : Int) (h0 : 0 ≤ n) (h1 : n ≤ 1073741824) (a0 : 1 ≤ a) (a1 : a ≤ 4096) : nums_Align.f n a = some ((n + a - 1) / a * a) := by
  unfold nums_Align.f
  rw [if_neg (by omega), if_neg (by omega), if_neg (by omega), if_neg (by omega), if_neg (by omega)]
  have e1 : wrap64 (wrap64 (n + a) - 1) = n + a - 1 := by unfold wrap64; omega
  rw [e1, td _ _ (by omega)]
  have hq : 0 ≤ (n + a - 1) / a := Int.ediv_nonneg (by omega) (by omega)
  have hm : (n + a - 1) / a * a ≤ n + a - 1 := Int.ediv_mul_le _ (by omega)
  have hz : 0 ≤ (n + a - 1) / a * a := Int.mul_nonneg hq (by omega)
  have hd : (n + a - 1) / a ≤ n + a - 1 := Int.ediv_le_self _ (by omega)
  have e2 : wrap64 ((n + a - 1) / a) = (n + a - 1) / a := by unfold wrap64; omega
  rw [e2]
  congr 1
  unfold wrap64; omega
theorem align_facts (n a : Int) (a0 : 1 ≤ a) : n ≤ (n + a - 1) / a * a ∧ (n + a - 1) / a * a - n < a := by
  have h1 := Int.emod_nonneg (n + a - 1) (show a ≠ 0 by omega)
  have h2 := Int.emod_lt_of_pos (n + a - 1) (show 0 < a by omega)
  have h3 := Int.mul_ediv_add_emod (n + a - 1) a
  rw [Int.mul_comm] at h3
  omega

theorem again (m a : Int) (a0 : 1 ≤ a) (j : Int) (h0 : 0 ≤ j) (h1 : j < a) : (m * a + j + a - 1) / a * a = if j = 0 then m * a else m * a + a := by
  split
  · rename_i h
    subst h
    rw [show m * a + 0 + a - 1 = (a - 1) + a * m by rw [Int.mul_comm a m]; omega, Int.add_mul_ediv_left _ _ (by omega), Int.ediv_eq_zero_of_lt (by omega) (by omega)]
    rw [Int.zero_add]
  · rename_i h
    rw [show m * a + j + a - 1 = (j - 1) + a * (m + 1) by rw [Int.mul_add, Int.mul_comm a m]; omega, Int.add_mul_ediv_left _ _ (by omega), Int.ediv_eq_zero_of_lt (by omega) (by omega)]
    rw [Int.zero_add, Int.add_mul]; omega
theorem TimesAligned : detentlaw1_TimesAligned.Pure := by
  intro n a wn wa
  obtain ⟨n0, n1⟩ := bi64 wn
  refine ⟨4, ?_⟩
  unfold detentlaw1_TimesAligned.f
  rw [known_is 0]
  simp only [Option.bind_some, if_true]
  by_cases c1 : n < 0
  · rw [if_pos c1]; simp [detentlaw1_TimesAligned.j0]
  rw [if_neg c1]
  by_cases c2 : n > 536870912
  · rw [if_pos c2]; simp [detentlaw1_TimesAligned.j0]
  rw [if_neg c2]
  by_cases c3 : a < 1
  · rw [if_pos c3]; simp [detentlaw1_TimesAligned.j0]
  rw [if_neg c3]
  by_cases c4 : a > 4096
  · simp [detentlaw1_TimesAligned.j0, c4]
  simp only [detentlaw1_TimesAligned.j0]
  rw [if_neg (by simp [c4])]
  have hf := align_facts n a (by omega)
  rw [align_is n a (by omega) (by omega) (by omega) (by omega)]
  simp only [Option.bind_some]
  generalize hq : (n + a - 1) / a = q at hf ⊢
  have hz : 0 ≤ q * a := by omega
  have s1 := again q a (by omega) 0 (by omega) (by omega)
  rw [if_pos rfl] at s1
  rw [align_is (q * a) a (by omega) (by omega) (by omega) (by omega)]
  simp only [Option.bind_some]
  rw [show q * a + a - 1 = q * a + 0 + a - 1 by omega, s1, if_pos rfl]
  have e1 : wrap64 (q * a + 1) = q * a + 1 := by unfold wrap64; omega
  rw [e1, align_is (q * a + 1) a (by omega) (by omega) (by omega) (by omega)]
  simp only [Option.bind_some]
  have e2 : wrap64 (q * a + a) = q * a + a := by unfold wrap64; omega
  have s2 : (q * a + 1 + a - 1) / a * a = q * a + a := by
    rw [show q * a + 1 + a - 1 = 0 + a * (q + 1) by rw [Int.mul_add, Int.mul_comm a q]; omega, Int.add_mul_ediv_left _ _ (by omega)]
    simp; rw [Int.add_mul]; omega
  rw [s2, e2, if_pos rfl]
  by_cases c5 : q * a = n
  · rw [if_pos c5]
  · rw [if_neg c5]
    have e3 : wrap64 (n + 1) = n + 1 := by unfold wrap64; omega
    rw [e3, align_is (n + 1) a (by omega) (by omega) (by omega) (by omega)]
    simp only [Option.bind_some]
    have s3 : (n + 1 + a - 1) / a * a = q * a := by
      have hj : n + 1 + a - 1 = (n + a - q * a) + a * q := by rw [Int.mul_comm a q]; omega
      rw [hj, Int.add_mul_ediv_left _ _ (by omega), Int.ediv_eq_zero_of_lt (by omega) (by omega)]; simp
    rw [s3]; simp

end Go.Proofs.Ytphapbleailinaa.Pure
