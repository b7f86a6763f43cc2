/- Runs of detenttop.TopCycles: periods 36 to 40, any number of ticks. Conditions: none. -/
import Derived.Test.YtjodpodmeobciaaGreatDoorYD
import Derived.Test.YtjodpodmeobciaaGreatDoorZL
namespace Go.Proofs.YtjodpodmeobciaaGreatDoor.topCycles
open Go.Rse Go.RowKit
set_option maxRecDepth 1000000
theorem run35_false : callN xs 400 100 12 k12 [.v (.one (.lin .u8 50 0 (.ofNat 35))), .v (.one (.lin .u8 1 1 (.ofNat 0))), .v (.one (.bool false))] (st0 tab [⟨0, 5, 0⟩, ⟨0, 255, 0⟩]) isT = true := by kernel_rfl
theorem run35_true : callN xs 400 100 12 k12 [.v (.one (.lin .u8 50 0 (.ofNat 35))), .v (.one (.lin .u8 1 1 (.ofNat 0))), .v (.one (.bool true))] (st0 tab [⟨0, 5, 0⟩, ⟨0, 255, 0⟩]) isT = true := by kernel_rfl
theorem run36_false : callN xs 400 100 12 k12 [.v (.one (.lin .u8 50 0 (.ofNat 36))), .v (.one (.lin .u8 1 1 (.ofNat 0))), .v (.one (.bool false))] (st0 tab [⟨0, 5, 0⟩, ⟨0, 255, 0⟩]) isT = true := by kernel_rfl
theorem run36_true : callN xs 400 100 12 k12 [.v (.one (.lin .u8 50 0 (.ofNat 36))), .v (.one (.lin .u8 1 1 (.ofNat 0))), .v (.one (.bool true))] (st0 tab [⟨0, 5, 0⟩, ⟨0, 255, 0⟩]) isT = true := by kernel_rfl
theorem run37_false : callN xs 400 100 12 k12 [.v (.one (.lin .u8 50 0 (.ofNat 37))), .v (.one (.lin .u8 1 1 (.ofNat 0))), .v (.one (.bool false))] (st0 tab [⟨0, 5, 0⟩, ⟨0, 255, 0⟩]) isT = true := by kernel_rfl
theorem run37_true : callN xs 400 100 12 k12 [.v (.one (.lin .u8 50 0 (.ofNat 37))), .v (.one (.lin .u8 1 1 (.ofNat 0))), .v (.one (.bool true))] (st0 tab [⟨0, 5, 0⟩, ⟨0, 255, 0⟩]) isT = true := by kernel_rfl
theorem run38_false : callN xs 400 100 12 k12 [.v (.one (.lin .u8 50 0 (.ofNat 38))), .v (.one (.lin .u8 1 1 (.ofNat 0))), .v (.one (.bool false))] (st0 tab [⟨0, 5, 0⟩, ⟨0, 255, 0⟩]) isT = true := by kernel_rfl
theorem run38_true : callN xs 400 100 12 k12 [.v (.one (.lin .u8 50 0 (.ofNat 38))), .v (.one (.lin .u8 1 1 (.ofNat 0))), .v (.one (.bool true))] (st0 tab [⟨0, 5, 0⟩, ⟨0, 255, 0⟩]) isT = true := by kernel_rfl
theorem run39_false : callN xs 400 100 12 k12 [.v (.one (.lin .u8 50 0 (.ofNat 39))), .v (.one (.lin .u8 1 1 (.ofNat 0))), .v (.one (.bool false))] (st0 tab [⟨0, 5, 0⟩, ⟨0, 255, 0⟩]) isT = true := by kernel_rfl
theorem run39_true : callN xs 400 100 12 k12 [.v (.one (.lin .u8 50 0 (.ofNat 39))), .v (.one (.lin .u8 1 1 (.ofNat 0))), .v (.one (.bool true))] (st0 tab [⟨0, 5, 0⟩, ⟨0, 255, 0⟩]) isT = true := by kernel_rfl
end Go.Proofs.YtjodpodmeobciaaGreatDoor.topCycles
