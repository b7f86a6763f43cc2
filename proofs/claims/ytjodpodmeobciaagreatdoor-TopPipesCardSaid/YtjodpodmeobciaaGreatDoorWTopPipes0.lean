/- Runs of detenttop.TopPipes, of some numbers of data. Conditions: none. -/
import Derived.Test.YtjodpodmeobciaaGreatDoorYR
import Derived.Test.YtjodpodmeobciaaGreatDoorZL
namespace Go.Proofs.YtjodpodmeobciaaGreatDoor.topPipes
open Go.Rse Go.RowKit
set_option maxRecDepth 1000000
theorem run6 : callN xs 400 100 14 k14 [.inS (.int .i64 (.ofNat 6)) .i8 (.all 0)] (st0 tab (List.replicate 6 ⟨-128, 127, 0⟩)) isT = true := by kernel_rfl
theorem run7 : callN xs 400 100 14 k14 [.inS (.int .i64 (.ofNat 7)) .i8 (.all 0)] (st0 tab (List.replicate 7 ⟨-128, 127, 0⟩)) isT = true := by kernel_rfl
theorem run18 : callN xs 400 100 14 k14 [.inS (.int .i64 (.ofNat 18)) .i8 (.all 0)] (st0 tab (List.replicate 18 ⟨-128, 127, 0⟩)) isT = true := by kernel_rfl
theorem run19 : callN xs 400 100 14 k14 [.inS (.int .i64 (.ofNat 19)) .i8 (.all 0)] (st0 tab (List.replicate 19 ⟨-128, 127, 0⟩)) isT = true := by kernel_rfl
theorem run30 : callN xs 400 100 14 k14 [.inS (.int .i64 (.ofNat 30)) .i8 (.all 0)] (st0 tab (List.replicate 30 ⟨-128, 127, 0⟩)) isT = true := by kernel_rfl
end Go.Proofs.YtjodpodmeobciaaGreatDoor.topPipes
