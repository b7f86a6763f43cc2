/- Runs of detenttop.TopPipes, of some numbers of data. Conditions: none. -/
import Derived.Test.YtjodpodmeobciaaGreatDoorYR
import Derived.Test.YtjodpodmeobciaaGreatDoorZL
namespace Go.Proofs.YtjodpodmeobciaaGreatDoor.topPipes
open Go.Rse Go.RowKit
set_option maxRecDepth 1000000
theorem run2 : callN xs 400 100 14 k14 [.inS (.int .i64 (.ofNat 2)) .i8 (.all 0)] (st0 tab (List.replicate 2 ⟨-128, 127, 0⟩)) isT = true := by kernel_rfl
theorem run11 : callN xs 400 100 14 k14 [.inS (.int .i64 (.ofNat 11)) .i8 (.all 0)] (st0 tab (List.replicate 11 ⟨-128, 127, 0⟩)) isT = true := by kernel_rfl
theorem run14 : callN xs 400 100 14 k14 [.inS (.int .i64 (.ofNat 14)) .i8 (.all 0)] (st0 tab (List.replicate 14 ⟨-128, 127, 0⟩)) isT = true := by kernel_rfl
theorem run23 : callN xs 400 100 14 k14 [.inS (.int .i64 (.ofNat 23)) .i8 (.all 0)] (st0 tab (List.replicate 23 ⟨-128, 127, 0⟩)) isT = true := by kernel_rfl
theorem run26 : callN xs 400 100 14 k14 [.inS (.int .i64 (.ofNat 26)) .i8 (.all 0)] (st0 tab (List.replicate 26 ⟨-128, 127, 0⟩)) isT = true := by kernel_rfl
end Go.Proofs.YtjodpodmeobciaaGreatDoor.topPipes
