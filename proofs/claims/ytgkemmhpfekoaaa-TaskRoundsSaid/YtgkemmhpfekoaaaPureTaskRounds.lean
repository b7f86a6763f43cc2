/- Each activation that waits begins the task anew, once, and then the task is Dormant. Conditions: none beside the statement's own. -/
import Derived.Test.YtgkemmhpfekoaaaPTaskRoundsx3
namespace Go.Proofs.Ytgkemmhpfekoaaa.Pure
open Go Go.RowKit Go.Proofs.Ytgkemmhpfekoaaa.PTaskRounds Go.Proofs.YtgkemmhpfekoaaaW.PrintWords Go.Proofs.YtgkemmhpfekoaaaW.PrintLast

theorem known_is : detentlaw10_known.f 40 = some true := by decide +kernel
theorem all_of : ∀ n : Nat, n < 9 → detentlaw10_TaskRounds.f 40 (n : Int) = some true := by decide +kernel
theorem TaskRounds : detentlaw10_TaskRounds.Pure := by
  intro a _
  refine ⟨40, ?_⟩
  by_cases h : 0 ≤ a ∧ a ≤ 8
  · have := all_of a.toNat (by omega)
    rwa [Int.toNat_of_nonneg h.1] at this
  · unfold detentlaw10_TaskRounds.f
    rw [known_is]
    simp only [Option.bind_some, if_true]
    by_cases c : a < 1
    · rw [if_pos c]; simp [detentlaw10_TaskRounds.j0]
    · rw [if_neg c]
      have : a > 8 := by omega
      simp [detentlaw10_TaskRounds.j0, this]

end Go.Proofs.Ytgkemmhpfekoaaa.Pure
