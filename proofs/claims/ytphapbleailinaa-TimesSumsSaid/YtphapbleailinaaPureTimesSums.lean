/- At most 100 times that are added one by one are the whole, and what goes once round is where it was. Conditions: none beside the statement's own. -/
import Derived.Test.YtphapbleailinaaPTimesSumsx2
namespace Go.Proofs.Ytphapbleailinaa.Pure
open Go Go.RowKit Go.Proofs.Ytphapbleailinaa.PTimesSums Go.Proofs.YtphapbleailinaaW.PrintWords Go.Proofs.YtphapbleailinaaW.PrintLast

theorem bu64 {n : Int} (h : (Lit.int .u64 n).wf = true) : 0 ≤ n ∧ n ≤ 18446744073709551615 := by
  simp [Lit.wf, IntKind.min, IntKind.max, IntKind.signed, IntKind.bits] at h
  omega
theorem bi64 {n : Int} (h : (Lit.int .i64 n).wf = true) : -9223372036854775808 ≤ n ∧ n ≤ 9223372036854775807 := by
  simp [Lit.wf, IntKind.min, IntKind.max, IntKind.signed, IntKind.bits] at h
  omega
theorem bu32 {n : Int} (h : (Lit.int .u32 n).wf = true) : 0 ≤ n ∧ n ≤ 4294967295 := by
  simp [Lit.wf, IntKind.min, IntKind.max, IntKind.signed, IntKind.bits] at h
  omega
theorem bu16 {n : Int} (h : (Lit.int .u16 n).wf = true) : 0 ≤ n ∧ n ≤ 65535 := by
  simp [Lit.wf, IntKind.min, IntKind.max, IntKind.signed, IntKind.bits] at h
  omega

theorem u64w (x : Int) : IntKind.u64.wrap x = x % 18446744073709551616 := by
  simp [IntKind.wrap, IntKind.signed, IntKind.bits]
theorem tm (a b : Int) (h : 0 ≤ a) : a.tmod b = a % b := Int.tmod_eq_emod_of_nonneg h
theorem td (a b : Int) (h : 0 ≤ a) : a.tdiv b = a / b := Int.tdiv_eq_ediv_of_nonneg h
theorem add_is (a b : Int) : nums_Add.f a b = some ((a + b) % 281474976710656) := by
  unfold nums_Add.f
  rw [u64w, tm _ _ (by omega)]
  congr 1
  omega
/-- How far b is ahead of a, round 2^48. -/
def gp (a b : Int) : Int := if (b - a) % 281474976710656 ≥ 140737488355328 then (b - a) % 281474976710656 - 281474976710656 else (b - a) % 281474976710656
theorem gap_is (a b : Int) : nums_Gap.f a b = some (gp a b) := by
  unfold nums_Gap.f gp
  simp only [u64w, tm _ _ (show 0 ≤ (b - a) % 18446744073709551616 by omega)]
  rw [show (b - a) % 18446744073709551616 % 281474976710656 = (b - a) % 281474976710656 by omega]
  split
  · unfold wrap64; congr 1; omega
  · unfold wrap64; congr 1; omega
theorem due_is (a b : Int) : nums_Due.f a b = some (decide (gp a b ≥ 0)) := by
  unfold nums_Due.f
  rw [gap_is]; rfl
theorem known_is (k : Nat) : detentlaw1_known.f (k + 4) = some true := by
  simp [detentlaw1_known.f, nums_Rel.f, add_is, gap_is, due_is, gp, nums_Ticks.f, nums_Align.f, nums_Max.f, nums_Min.f, nums_Max.l0, nums_Min.l0, wrap64, u64w, rd]

theorem sums_loop (t : Int) (l : List Int) (t0 : 0 ≤ t) (hl : l.length ≤ 100) (hw : ∀ x ∈ l, (Lit.int .u32 x).wf = true) (d : Nat) : ∀ (k : Nat) (a s i : Int), 0 ≤ i → i ≤ l.length → (l.length : Int) - i = d → d < k →
    0 ≤ s → s ≤ i * 4294967295 → a % 281474976710656 = (t + s) % 281474976710656 → detentlaw1_TimesSums.l0 k t l a s i = some true := by
  induction d with
  | zero =>
    intro k a s i i0 i1 hd hk s0 s1 ha
    obtain ⟨k, rfl⟩ : ∃ m, k = m + 1 := ⟨k - 1, by omega⟩
    simp only [detentlaw1_TimesSums.l0]
    rw [if_neg (by omega)]
    simp only [add_is, gap_is, Option.bind_some, tm _ _ t0]
    rw [if_pos (by omega), if_pos (by omega)]
    have : gp t ((t + s) % 281474976710656) = wrap64 s := by unfold gp wrap64; split <;> omega
    rw [this]; simp
  | succ d ih =>
    intro k a s i i0 i1 hd hk s0 s1 ha
    obtain ⟨k, rfl⟩ : ∃ m, k = m + 1 := ⟨k - 1, by omega⟩
    have hlt : i.toNat < l.length := by omega
    have hx : rd l i = l[i.toNat] := by simp [rd, hlt]
    obtain ⟨x0, x1⟩ := bu32 (hw _ (List.getElem_mem hlt))
    simp only [detentlaw1_TimesSums.l0]
    rw [if_pos (by omega), if_pos i0, hx]
    generalize l[i.toNat] = x at x0 x1
    simp only [add_is, Option.bind_some, u64w]
    have e1 : wrap64 (i + 1) = i + 1 := by unfold wrap64; omega
    have e2 : x % 18446744073709551616 = x := by omega
    have e3 : (s + x) % 18446744073709551616 = s + x := by omega
    rw [e1, e2, e3]
    exact ih k _ _ _ (by omega) (by omega) (by omega) (by omega) (by omega) (by omega) (by omega)
theorem TimesSums : detentlaw1_TimesSums.Pure := by
  intro t l wt _ _ hw
  obtain ⟨t0, t1⟩ := bu64 wt
  refine ⟨l.length + 1 + 4, ?_⟩
  unfold detentlaw1_TimesSums.f
  rw [known_is]
  simp only [Option.bind_some, if_true]
  by_cases c : (l.length : Int) > 100
  · rw [if_pos c]
  · rw [if_neg c]
    exact sums_loop t l t0 (by omega) hw l.length _ t 0 0 (by omega) (by omega) (by omega) (by omega) (by omega) (by omega) (by rw [Int.add_zero])

end Go.Proofs.Ytphapbleailinaa.Pure
