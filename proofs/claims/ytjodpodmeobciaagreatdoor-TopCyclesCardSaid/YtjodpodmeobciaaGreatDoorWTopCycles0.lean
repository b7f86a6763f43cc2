/- Runs of detenttop.TopCycles: periods 1 to 5, any number of ticks. Conditions: none. -/
import Derived.Test.YtjodpodmeobciaaGreatDoorYD
import Derived.Test.YtjodpodmeobciaaGreatDoorZL
namespace Go.Proofs.YtjodpodmeobciaaGreatDoor.topCycles
open Go.Rse Go.RowKit
set_option maxRecDepth 1000000
theorem run0_false : callN xs 400 100 12 k12 [.v (.one (.lin .u8 50 0 (.ofNat 0))), .v (.one (.lin .u8 1 1 (.ofNat 0))), .v (.one (.bool false))] (st0 tab [⟨0, 5, 0⟩, ⟨0, 255, 0⟩]) isT = true := by kernel_rfl
theorem run0_true : callN xs 400 100 12 k12 [.v (.one (.lin .u8 50 0 (.ofNat 0))), .v (.one (.lin .u8 1 1 (.ofNat 0))), .v (.one (.bool true))] (st0 tab [⟨0, 5, 0⟩, ⟨0, 255, 0⟩]) isT = true := by kernel_rfl
theorem run1_false : callN xs 400 100 12 k12 [.v (.one (.lin .u8 50 0 (.ofNat 1))), .v (.one (.lin .u8 1 1 (.ofNat 0))), .v (.one (.bool false))] (st0 tab [⟨0, 5, 0⟩, ⟨0, 255, 0⟩]) isT = true := by kernel_rfl
theorem run1_true : callN xs 400 100 12 k12 [.v (.one (.lin .u8 50 0 (.ofNat 1))), .v (.one (.lin .u8 1 1 (.ofNat 0))), .v (.one (.bool true))] (st0 tab [⟨0, 5, 0⟩, ⟨0, 255, 0⟩]) isT = true := by kernel_rfl
theorem run2_false : callN xs 400 100 12 k12 [.v (.one (.lin .u8 50 0 (.ofNat 2))), .v (.one (.lin .u8 1 1 (.ofNat 0))), .v (.one (.bool false))] (st0 tab [⟨0, 5, 0⟩, ⟨0, 255, 0⟩]) isT = true := by kernel_rfl
theorem run2_true : callN xs 400 100 12 k12 [.v (.one (.lin .u8 50 0 (.ofNat 2))), .v (.one (.lin .u8 1 1 (.ofNat 0))), .v (.one (.bool true))] (st0 tab [⟨0, 5, 0⟩, ⟨0, 255, 0⟩]) isT = true := by kernel_rfl
theorem run3_false : callN xs 400 100 12 k12 [.v (.one (.lin .u8 50 0 (.ofNat 3))), .v (.one (.lin .u8 1 1 (.ofNat 0))), .v (.one (.bool false))] (st0 tab [⟨0, 5, 0⟩, ⟨0, 255, 0⟩]) isT = true := by kernel_rfl
theorem run3_true : callN xs 400 100 12 k12 [.v (.one (.lin .u8 50 0 (.ofNat 3))), .v (.one (.lin .u8 1 1 (.ofNat 0))), .v (.one (.bool true))] (st0 tab [⟨0, 5, 0⟩, ⟨0, 255, 0⟩]) isT = true := by kernel_rfl
theorem run4_false : callN xs 400 100 12 k12 [.v (.one (.lin .u8 50 0 (.ofNat 4))), .v (.one (.lin .u8 1 1 (.ofNat 0))), .v (.one (.bool false))] (st0 tab [⟨0, 5, 0⟩, ⟨0, 255, 0⟩]) isT = true := by kernel_rfl
theorem run4_true : callN xs 400 100 12 k12 [.v (.one (.lin .u8 50 0 (.ofNat 4))), .v (.one (.lin .u8 1 1 (.ofNat 0))), .v (.one (.bool true))] (st0 tab [⟨0, 5, 0⟩, ⟨0, 255, 0⟩]) isT = true := by kernel_rfl
end Go.Proofs.YtjodpodmeobciaaGreatDoor.topCycles
