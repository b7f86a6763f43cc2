/- 'detentlaw10.TaskPlays' answers true: in the form that the row wants. Conditions: none. -/
import Derived.Test.YtgkemmhpfekoaaaWTaskPlays
namespace Go.Proofs.Ytgkemmhpfekoaaa.taskPlays
open Go.Rse Go.RowKit
theorem walk_row (a0 : Option Addr) (len0 cap0 : Nat) (z0 : List Int) (w : World) (w0 : (a0 = none ∧ len0 = 0 ∧ cap0 = 0 ∧ z0 = []) ∨ ∃ x, a0 = some x ∧ len0 ≤ cap0 ∧ cap0 ≤ maxLen ∧ z0.length = cap0 ∧ (∀ i, i < z0.length → w.cell? (x.add i) = some (.int .i64 (z0.getD i 0))) ∧ ∀ n ∈ z0, (Lit.int .i64 n).wf = true)
    (_ : len0 * 8 ≤ 140737488351232) : Calls Try.prog 11 #[.slice a0 len0 cap0] w fun e w' => e = .returned (.bool true) ∧ Below w.heap.size w w' := walk a0 len0 cap0 z0 w w0
end Go.Proofs.Ytgkemmhpfekoaaa.taskPlays
