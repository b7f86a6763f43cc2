/- Runs of detenttop.TopPipes, of some numbers of data. Conditions: none. -/
import Derived.Test.YtjodpodmeobciaaGreatDoorYR
import Derived.Test.YtjodpodmeobciaaGreatDoorZL
namespace Go.Proofs.YtjodpodmeobciaaGreatDoor.topPipes
open Go.Rse Go.RowKit
set_option maxRecDepth 1000000
theorem run0 : callN xs 400 100 14 k14 [.inS (.int .i64 (.ofNat 0)) .i8 (.all 0)] (st0 tab (List.replicate 0 ⟨-128, 127, 0⟩)) isT = true := by kernel_rfl
theorem run1 : callN xs 400 100 14 k14 [.inS (.int .i64 (.ofNat 1)) .i8 (.all 0)] (st0 tab (List.replicate 1 ⟨-128, 127, 0⟩)) isT = true := by kernel_rfl
theorem run12 : callN xs 400 100 14 k14 [.inS (.int .i64 (.ofNat 12)) .i8 (.all 0)] (st0 tab (List.replicate 12 ⟨-128, 127, 0⟩)) isT = true := by kernel_rfl
theorem run13 : callN xs 400 100 14 k14 [.inS (.int .i64 (.ofNat 13)) .i8 (.all 0)] (st0 tab (List.replicate 13 ⟨-128, 127, 0⟩)) isT = true := by kernel_rfl
theorem run24 : callN xs 400 100 14 k14 [.inS (.int .i64 (.ofNat 24)) .i8 (.all 0)] (st0 tab (List.replicate 24 ⟨-128, 127, 0⟩)) isT = true := by kernel_rfl
theorem run25 : callN xs 400 100 14 k14 [.inS (.int .i64 (.ofNat 25)) .i8 (.all 0)] (st0 tab (List.replicate 25 ⟨-128, 127, 0⟩)) isT = true := by kernel_rfl
end Go.Proofs.YtjodpodmeobciaaGreatDoor.topPipes
