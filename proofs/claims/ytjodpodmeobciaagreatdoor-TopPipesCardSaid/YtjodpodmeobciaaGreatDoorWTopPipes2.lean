/- Runs of detenttop.TopPipes, of some numbers of data. Conditions: none. -/
import Derived.Test.YtjodpodmeobciaaGreatDoorYR
import Derived.Test.YtjodpodmeobciaaGreatDoorZL
namespace Go.Proofs.YtjodpodmeobciaaGreatDoor.topPipes
open Go.Rse Go.RowKit
set_option maxRecDepth 1000000
theorem run4 : callN xs 400 100 14 k14 [.inS (.int .i64 (.ofNat 4)) .i8 (.all 0)] (st0 tab (List.replicate 4 ⟨-128, 127, 0⟩)) isT = true := by kernel_rfl
theorem run9 : callN xs 400 100 14 k14 [.inS (.int .i64 (.ofNat 9)) .i8 (.all 0)] (st0 tab (List.replicate 9 ⟨-128, 127, 0⟩)) isT = true := by kernel_rfl
theorem run16 : callN xs 400 100 14 k14 [.inS (.int .i64 (.ofNat 16)) .i8 (.all 0)] (st0 tab (List.replicate 16 ⟨-128, 127, 0⟩)) isT = true := by kernel_rfl
theorem run21 : callN xs 400 100 14 k14 [.inS (.int .i64 (.ofNat 21)) .i8 (.all 0)] (st0 tab (List.replicate 21 ⟨-128, 127, 0⟩)) isT = true := by kernel_rfl
theorem run28 : callN xs 400 100 14 k14 [.inS (.int .i64 (.ofNat 28)) .i8 (.all 0)] (st0 tab (List.replicate 28 ⟨-128, 127, 0⟩)) isT = true := by kernel_rfl
end Go.Proofs.YtjodpodmeobciaaGreatDoor.topPipes
