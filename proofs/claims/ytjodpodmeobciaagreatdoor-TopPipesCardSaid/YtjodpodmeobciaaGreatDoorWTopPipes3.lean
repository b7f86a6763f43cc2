/- Runs of detenttop.TopPipes, of some numbers of data. Conditions: none. -/
import Derived.Test.YtjodpodmeobciaaGreatDoorYR
import Derived.Test.YtjodpodmeobciaaGreatDoorZL
namespace Go.Proofs.YtjodpodmeobciaaGreatDoor.topPipes
open Go.Rse Go.RowKit
set_option maxRecDepth 1000000
theorem run3 : callN xs 400 100 14 k14 [.inS (.int .i64 (.ofNat 3)) .i8 (.all 0)] (st0 tab (List.replicate 3 ⟨-128, 127, 0⟩)) isT = true := by kernel_rfl
theorem run10 : callN xs 400 100 14 k14 [.inS (.int .i64 (.ofNat 10)) .i8 (.all 0)] (st0 tab (List.replicate 10 ⟨-128, 127, 0⟩)) isT = true := by kernel_rfl
theorem run15 : callN xs 400 100 14 k14 [.inS (.int .i64 (.ofNat 15)) .i8 (.all 0)] (st0 tab (List.replicate 15 ⟨-128, 127, 0⟩)) isT = true := by kernel_rfl
theorem run22 : callN xs 400 100 14 k14 [.inS (.int .i64 (.ofNat 22)) .i8 (.all 0)] (st0 tab (List.replicate 22 ⟨-128, 127, 0⟩)) isT = true := by kernel_rfl
theorem run27 : callN xs 400 100 14 k14 [.inS (.int .i64 (.ofNat 27)) .i8 (.all 0)] (st0 tab (List.replicate 27 ⟨-128, 127, 0⟩)) isT = true := by kernel_rfl
end Go.Proofs.YtjodpodmeobciaaGreatDoor.topPipes
