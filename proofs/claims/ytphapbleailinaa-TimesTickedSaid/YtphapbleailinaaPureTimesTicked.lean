/- As many ticks as a time wants bring so much, and one fewer does not. Conditions: none beside the statement's own. -/
import Derived.Test.YtphapbleailinaaPTimesTickedx1
namespace Go.Proofs.Ytphapbleailinaa.Pure
open Go Go.RowKit Go.Proofs.Ytphapbleailinaa.PTimesTicked Go.Proofs.YtphapbleailinaaW.PrintWords Go.Proofs.YtphapbleailinaaW.PrintLast

theorem bu64 {n : Int} (h : (Lit.int .u64 n).wf = true) : 0 ≤ n ∧ n ≤ 18446744073709551615 := by
  simp [Lit.wf, IntKind.min, IntKind.max, IntKind.signed, IntKind.bits] at h
  omega
theorem bi64 {n : Int} (h : (Lit.int .i64 n).wf = true) : -9223372036854775808 ≤ n ∧ n ≤ 9223372036854775807 := by
  simp [Lit.wf, IntKind.min, IntKind.max, IntKind.signed, IntKind.bits] at h
  omega
theorem bu32 {n : Int} (h : (Lit.int .u32 n).wf = true) : 0 ≤ n ∧ n ≤ 4294967295 := by
  simp [Lit.wf, IntKind.min, IntKind.max, IntKind.signed, IntKind.bits] at h
  omega
theorem bu16 {n : Int} (h : (Lit.int .u16 n).wf = true) : 0 ≤ n ∧ n ≤ 65535 := by
  simp [Lit.wf, IntKind.min, IntKind.max, IntKind.signed, IntKind.bits] at h
  omega

theorem u64w (x : Int) : IntKind.u64.wrap x = x % 18446744073709551616 := by
  simp [IntKind.wrap, IntKind.signed, IntKind.bits]
theorem tm (a b : Int) (h : 0 ≤ a) : a.tmod b = a % b := Int.tmod_eq_emod_of_nonneg h
theorem td (a b : Int) (h : 0 ≤ a) : a.tdiv b = a / b := Int.tdiv_eq_ediv_of_nonneg h
theorem add_is (a b : Int) : nums_Add.f a b = some ((a + b) % 281474976710656) := by
  unfold nums_Add.f
  rw [u64w, tm _ _ (by omega)]
  congr 1
  omega
/-- How far b is ahead of a, round 2^48. -/
def gp (a b : Int) : Int := if (b - a) % 281474976710656 ≥ 140737488355328 then (b - a) % 281474976710656 - 281474976710656 else (b - a) % 281474976710656
theorem gap_is (a b : Int) : nums_Gap.f a b = some (gp a b) := by
  unfold nums_Gap.f gp
  simp only [u64w, tm _ _ (show 0 ≤ (b - a) % 18446744073709551616 by omega)]
  rw [show (b - a) % 18446744073709551616 % 281474976710656 = (b - a) % 281474976710656 by omega]
  split
  · unfold wrap64; congr 1; omega
  · unfold wrap64; congr 1; omega
theorem due_is (a b : Int) : nums_Due.f a b = some (decide (gp a b ≥ 0)) := by
  unfold nums_Due.f
  rw [gap_is]; rfl
theorem known_is (k : Nat) : detentlaw1_known.f (k + 4) = some true := by
  simp [detentlaw1_known.f, nums_Rel.f, add_is, gap_is, due_is, gp, nums_Ticks.f, nums_Align.f, nums_Max.f, nums_Min.f, nums_Max.l0, nums_Min.l0, wrap64, u64w, rd]

theorem TimesTicked : detentlaw1_TimesTicked.Pure := by
  intro d t wd wt
  obtain ⟨d0, d1⟩ := bu32 wd
  obtain ⟨t0, t1⟩ := bu16 wt
  refine ⟨4, ?_⟩
  unfold detentlaw1_TimesTicked.f
  rw [known_is 0]
  simp only [Option.bind_some, if_true, u64w]
  have ed : d % 18446744073709551616 = d := by omega
  have et : t % 18446744073709551616 = t := by omega
  rw [ed, et]
  by_cases c : t = 0
  · rw [if_pos c]; simp [nums_Ticks.f]
  rw [if_neg c]
  have hp : 0 < t := by omega
  have h1 := Int.emod_nonneg d (show t ≠ 0 by omega)
  have h2 := Int.emod_lt_of_pos d hp
  have h3 := Int.mul_ediv_add_emod d t
  have h4 : 0 ≤ d / t := Int.ediv_nonneg d0 t0
  have h5 : d / t ≤ d := Int.ediv_le_self _ d0
  have hk : nums_Ticks.f d t = some (if d % t > 0 then d / t + 1 else d / t) := by
    unfold nums_Ticks.f
    simp only [u64w, tm _ _ d0, td _ _ d0]
    rw [if_neg c]
    split
    · congr 1; omega
    · congr 1; omega
  rw [hk]
  simp only [Option.bind_some]
  have hm : d / t * t = t * (d / t) := Int.mul_comm _ _
  have hz : 0 ≤ d / t * t := Int.mul_nonneg h4 t0
  by_cases c2 : d % t > 0
  · simp only [if_pos c2]
    have e1 : (d / t + 1) * t = d / t * t + t := by rw [Int.add_mul]; omega
    have e2 : (d / t + 1 - 1) % 18446744073709551616 = d / t := by omega
    rw [e1, e2, if_pos (by omega), if_neg (by omega)]
    congr 1
    simp; omega
  · simp only [if_neg c2]
    by_cases c3 : d / t = 0
    · rw [if_pos (by rw [hm]; omega), if_pos c3]
    · have e2 : (d / t - 1) % 18446744073709551616 = d / t - 1 := by omega
      have e3 : (d / t - 1) * t = d / t * t - t := by rw [Int.sub_mul]; omega
      rw [if_pos (by rw [hm]; omega), if_neg c3, e2, e3]
      have : 0 ≤ (d / t - 1) * t := Int.mul_nonneg (by omega) (by omega)
      congr 1
      simp; omega

end Go.Proofs.Ytphapbleailinaa.Pure
