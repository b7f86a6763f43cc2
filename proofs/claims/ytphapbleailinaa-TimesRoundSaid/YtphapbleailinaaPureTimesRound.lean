/- Any two times and any distance are added, and held against each other, round 2^48, as the document's. Conditions: none beside the statement's own. -/
import Derived.Test.YtphapbleailinaaPTimesRoundx2
namespace Go.Proofs.Ytphapbleailinaa.Pure
open Go Go.RowKit Go.Proofs.Ytphapbleailinaa.PTimesRound Go.Proofs.YtphapbleailinaaW.PrintWords Go.Proofs.YtphapbleailinaaW.PrintLast

theorem bu64 {n : Int} (h : (Lit.int .u64 n).wf = true) : 0 ≤ n ∧ n ≤ 18446744073709551615 := by
  simp [Lit.wf, IntKind.min, IntKind.max, IntKind.signed, IntKind.bits] at h
  omega
theorem bi64 {n : Int} (h : (Lit.int .i64 n).wf = true) : -9223372036854775808 ≤ n ∧ n ≤ 9223372036854775807 := by
  simp [Lit.wf, IntKind.min, IntKind.max, IntKind.signed, IntKind.bits] at h
  omega
theorem bu32 {n : Int} (h : (Lit.int .u32 n).wf = true) : 0 ≤ n ∧ n ≤ 4294967295 := by
  simp [Lit.wf, IntKind.min, IntKind.max, IntKind.signed, IntKind.bits] at h
  omega
theorem bu16 {n : Int} (h : (Lit.int .u16 n).wf = true) : 0 ≤ n ∧ n ≤ 65535 := by
  simp [Lit.wf, IntKind.min, IntKind.max, IntKind.signed, IntKind.bits] at h
  omega

theorem u64w (x : Int) : IntKind.u64.wrap x = x % 18446744073709551616 := by
  simp [IntKind.wrap, IntKind.signed, IntKind.bits]
theorem tm (a b : Int) (h : 0 ≤ a) : a.tmod b = a % b := Int.tmod_eq_emod_of_nonneg h
theorem td (a b : Int) (h : 0 ≤ a) : a.tdiv b = a / b := Int.tdiv_eq_ediv_of_nonneg h
theorem add_is (a b : Int) : nums_Add.f a b = some ((a + b) % 281474976710656) := by
  unfold nums_Add.f
  rw [u64w, tm _ _ (by omega)]
  congr 1
  omega
/-- How far b is ahead of a, round 2^48. -/
def gp (a b : Int) : Int := if (b - a) % 281474976710656 ≥ 140737488355328 then (b - a) % 281474976710656 - 281474976710656 else (b - a) % 281474976710656
theorem gap_is (a b : Int) : nums_Gap.f a b = some (gp a b) := by
  unfold nums_Gap.f gp
  simp only [u64w, tm _ _ (show 0 ≤ (b - a) % 18446744073709551616 by omega)]
  rw [show (b - a) % 18446744073709551616 % 281474976710656 = (b - a) % 281474976710656 by omega]
  split
  · unfold wrap64; congr 1; omega
  · unfold wrap64; congr 1; omega
theorem due_is (a b : Int) : nums_Due.f a b = some (decide (gp a b ≥ 0)) := by
  unfold nums_Due.f
  rw [gap_is]; rfl
theorem known_is (k : Nat) : detentlaw1_known.f (k + 4) = some true := by
  simp [detentlaw1_known.f, nums_Rel.f, add_is, gap_is, due_is, gp, nums_Ticks.f, nums_Align.f, nums_Max.f, nums_Min.f, nums_Max.l0, nums_Min.l0, wrap64, u64w, rd]

theorem radd_is (a b : Int) : detentref1_Add.f a b = some ((a.tmod 281474976710656 + b.tmod 281474976710656) % 18446744073709551616 % 281474976710656) := by
  unfold detentref1_Add.f
  rw [u64w, tm _ _ (by omega)]
theorem rgap_is (a b : Int) (ha : 0 ≤ a) (hb : 0 ≤ b) : detentref1_Gap.f a b = some (gp a b) := by
  unfold detentref1_Gap.f gp
  simp only [u64w, tm _ _ ha, tm _ _ hb]
  have e : ((b % 281474976710656 + 281474976710656) % 18446744073709551616 - a % 281474976710656) % 18446744073709551616 % 281474976710656 = (b - a) % 281474976710656 := by omega
  have e2 : wrap64 (Int.tmod (((b % 281474976710656 + 281474976710656) % 18446744073709551616 - a % 281474976710656) % 18446744073709551616) 281474976710656) = (b - a) % 281474976710656 := by
    rw [tm _ _ (by omega), e]; unfold wrap64; omega
  simp only [e2]
  split
  · unfold wrap64; congr 1; omega
  · rfl
theorem TimesRound : detentlaw1_TimesRound.Pure := by
  intro a b d wa wb wd
  obtain ⟨a0, a1⟩ := bu64 wa
  obtain ⟨b0, b1⟩ := bu64 wb
  obtain ⟨d0, d1⟩ := bu64 wd
  refine ⟨4, ?_⟩
  unfold detentlaw1_TimesRound.f
  rw [known_is 0]
  simp only [Option.bind_some, if_true, add_is, gap_is, due_is, radd_is, rgap_is a b a0 b0, tm _ _ a0, tm _ _ b0, tm _ _ d0]
  rw [if_pos (by omega), if_pos (by omega)]
  simp only [if_true, beq_self_eq_true]
  have h1 : (a + Int.tmod (IntKind.u64.wrap (gp a b)) 281474976710656) % 281474976710656 = b % 281474976710656 := by
    rw [u64w, tm _ _ (by omega)]; unfold gp; split <;> omega
  rw [if_pos h1]
  have h2 : gp a ((a + d % 140737488355328) % 281474976710656) = wrap64 (d % 140737488355328) := by
    unfold gp wrap64; split <;> omega
  rw [h2]; simp

end Go.Proofs.Ytphapbleailinaa.Pure
