/- Activations, wakeups and suspensions wait up to their bound, not one more, and each is given back once. Conditions: none beside the statement's own. -/
import Derived.Test.YtgkemmhpfekoaaaPTaskCountsx4
namespace Go.Proofs.Ytgkemmhpfekoaaa.Pure
open Go Go.RowKit Go.Proofs.Ytgkemmhpfekoaaa.PTaskCounts Go.Proofs.YtgkemmhpfekoaaaW.PrintWords Go.Proofs.YtgkemmhpfekoaaaW.PrintLast

theorem known_is : detentlaw10_known.f 200 = some true := by decide +kernel
/-- What waits of n: seven at the most. -/
def mo (n : Nat) : Int := if n > 7 then 7 else n
theorem e0 (x1 x2 : Int) (k : Nat) : ∀ n : Nat, n < 21 → detentlaw10_TaskCounts.l0 (k + 40) n x1 x2 0 0 0 0 2 false = detentlaw10_TaskCounts.l1 (k + 39 - n) n x1 x2 0 (mo n) 0 0 2 false := by
  intro n hn
  have : n = 0 ∨ n = 1 ∨ n = 2 ∨ n = 3 ∨ n = 4 ∨ n = 5 ∨ n = 6 ∨ n = 7 ∨ n = 8 ∨ n = 9 ∨ n = 10 ∨ n = 11 ∨ n = 12 ∨ n = 13 ∨ n = 14 ∨ n = 15 ∨ n = 16 ∨ n = 17 ∨ n = 18 ∨ n = 19 ∨ n = 20 := by omega
  rcases this with rfl | rfl | rfl | rfl | rfl | rfl | rfl | rfl | rfl | rfl | rfl | rfl | rfl | rfl | rfl | rfl | rfl | rfl | rfl | rfl | rfl <;> (refine (?_ : _ = _); kernel_rfl)
theorem e1 (x0 x2 : Int) (k : Nat) (a : Int) : ∀ n : Nat, n < 21 → detentlaw10_TaskCounts.l1 (k + 60) x0 n x2 0 a 0 0 2 false = detentlaw10_TaskCounts.l3 (k + 57 - n - 2 * (mo n).toNat) x0 x2 0 a 0 0 2 false := by
  intro n hn
  have : n = 0 ∨ n = 1 ∨ n = 2 ∨ n = 3 ∨ n = 4 ∨ n = 5 ∨ n = 6 ∨ n = 7 ∨ n = 8 ∨ n = 9 ∨ n = 10 ∨ n = 11 ∨ n = 12 ∨ n = 13 ∨ n = 14 ∨ n = 15 ∨ n = 16 ∨ n = 17 ∨ n = 18 ∨ n = 19 ∨ n = 20 := by omega
  rcases this with rfl | rfl | rfl | rfl | rfl | rfl | rfl | rfl | rfl | rfl | rfl | rfl | rfl | rfl | rfl | rfl | rfl | rfl | rfl | rfl | rfl <;> (refine (?_ : _ = _); kernel_rfl)
theorem all_of : ∀ a : Nat, a < 21 → ∀ c : Nat, c < 21 → detentlaw10_TaskCounts.l3 60 (a : Int) (c : Int) 0 (mo a) 0 0 2 false = some true := by decide +kernel
theorem mo_le (n : Nat) : (mo n).toNat ≤ 7 := by unfold mo; split <;> omega
theorem TaskCounts : detentlaw10_TaskCounts.Pure := by
  intro a b c _ _ _
  refine ⟨200, ?_⟩
  unfold detentlaw10_TaskCounts.f
  rw [known_is]
  simp only [Option.bind_some, if_true]
  by_cases h : 0 ≤ a ∧ 0 ≤ b ∧ 0 ≤ c ∧ a ≤ 20 ∧ b ≤ 20 ∧ c ≤ 20
  · obtain ⟨a0, b0, c0, a1, b1, c1⟩ := h
    rw [if_neg (by omega), if_neg (by omega), if_neg (by omega), if_neg (by omega), if_neg (by omega)]
    have hc : decide (c > 20) = false := by simp; omega
    rw [hc]
    obtain ⟨n, rfl⟩ := Int.eq_ofNat_of_zero_le a0
    obtain ⟨m, rfl⟩ := Int.eq_ofNat_of_zero_le b0
    obtain ⟨q, rfl⟩ := Int.eq_ofNat_of_zero_le c0
    have hj : detentlaw10_TaskCounts.j0 200 n m q false = detentlaw10_TaskCounts.l0 (159 + 40) n m q 0 0 0 0 2 false := rfl
    rw [hj, e0 m q 159 n (by omega)]
    obtain ⟨r, hr⟩ : ∃ r, 159 + 39 - n = r + 60 := ⟨159 + 39 - n - 60, by omega⟩
    rw [hr, e1 n q r (mo n) m (by omega)]
    have h7 := mo_le m
    exact at_rounds (fun k => (detentlaw10_TaskCounts.mono_l k).2.2.2.2.2.1 _ _ _ _ _ _ _ _) (by omega) (all_of n (by omega) q (by omega))
  · by_cases c1 : a < 0
    · rw [if_pos c1]; rfl
    rw [if_neg c1]
    by_cases c2 : b < 0
    · rw [if_pos c2]; rfl
    rw [if_neg c2]
    by_cases c3 : c < 0
    · rw [if_pos c3]; rfl
    rw [if_neg c3]
    by_cases c4 : a > 20
    · rw [if_pos c4]; rfl
    rw [if_neg c4]
    by_cases c5 : b > 20
    · rw [if_pos c5]; rfl
    rw [if_neg c5]
    have : decide (c > 20) = true := by simp; omega
    rw [this]; rfl

end Go.Proofs.Ytgkemmhpfekoaaa.Pure
