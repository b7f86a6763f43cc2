/- Suspended while it waits, a task that is woken is suspended still, and resumed it waits on, in either order. Conditions: none beside the statement's own. -/
import Derived.Test.YtgkemmhpfekoaaaPTaskBothx4
namespace Go.Proofs.Ytgkemmhpfekoaaa.Pure
open Go Go.RowKit Go.Proofs.Ytgkemmhpfekoaaa.PTaskBoth Go.Proofs.YtgkemmhpfekoaaaW.PrintWords Go.Proofs.YtgkemmhpfekoaaaW.PrintLast

theorem all_of : ∀ a b : Bool, detentlaw10_TaskBoth.f 40 a b = some true := by decide +kernel
theorem TaskBoth : detentlaw10_TaskBoth.Pure := fun a b => ⟨40, all_of a b⟩

end Go.Proofs.Ytgkemmhpfekoaaa.Pure
