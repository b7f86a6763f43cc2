/- Runs of detenttop.TopPipes, of some numbers of data. Conditions: none. -/
import Derived.Test.YtjodpodmeobciaaGreatDoorYR
import Derived.Test.YtjodpodmeobciaaGreatDoorZL
namespace Go.Proofs.YtjodpodmeobciaaGreatDoor.topPipes
open Go.Rse Go.RowKit
set_option maxRecDepth 1000000
theorem run5 : callN xs 400 100 14 k14 [.inS (.int .i64 (.ofNat 5)) .i8 (.all 0)] (st0 tab (List.replicate 5 ⟨-128, 127, 0⟩)) isT = true := by kernel_rfl
theorem run8 : callN xs 400 100 14 k14 [.inS (.int .i64 (.ofNat 8)) .i8 (.all 0)] (st0 tab (List.replicate 8 ⟨-128, 127, 0⟩)) isT = true := by kernel_rfl
theorem run17 : callN xs 400 100 14 k14 [.inS (.int .i64 (.ofNat 17)) .i8 (.all 0)] (st0 tab (List.replicate 17 ⟨-128, 127, 0⟩)) isT = true := by kernel_rfl
theorem run20 : callN xs 400 100 14 k14 [.inS (.int .i64 (.ofNat 20)) .i8 (.all 0)] (st0 tab (List.replicate 20 ⟨-128, 127, 0⟩)) isT = true := by kernel_rfl
theorem run29 : callN xs 400 100 14 k14 [.inS (.int .i64 (.ofNat 29)) .i8 (.all 0)] (st0 tab (List.replicate 29 ⟨-128, 127, 0⟩)) isT = true := by kernel_rfl
end Go.Proofs.YtjodpodmeobciaaGreatDoor.topPipes
