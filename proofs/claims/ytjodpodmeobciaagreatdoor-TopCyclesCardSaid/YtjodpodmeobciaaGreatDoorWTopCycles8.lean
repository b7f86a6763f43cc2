/- Runs of detenttop.TopCycles: periods 41 to 45, any number of ticks. Conditions: none. -/
import Derived.Test.YtjodpodmeobciaaGreatDoorYD
import Derived.Test.YtjodpodmeobciaaGreatDoorZL
namespace Go.Proofs.YtjodpodmeobciaaGreatDoor.topCycles
open Go.Rse Go.RowKit
set_option maxRecDepth 1000000
theorem run40_false : callN xs 400 100 12 k12 [.v (.one (.lin .u8 50 0 (.ofNat 40))), .v (.one (.lin .u8 1 1 (.ofNat 0))), .v (.one (.bool false))] (st0 tab [⟨0, 5, 0⟩, ⟨0, 255, 0⟩]) isT = true := by kernel_rfl
theorem run40_true : callN xs 400 100 12 k12 [.v (.one (.lin .u8 50 0 (.ofNat 40))), .v (.one (.lin .u8 1 1 (.ofNat 0))), .v (.one (.bool true))] (st0 tab [⟨0, 5, 0⟩, ⟨0, 255, 0⟩]) isT = true := by kernel_rfl
theorem run41_false : callN xs 400 100 12 k12 [.v (.one (.lin .u8 50 0 (.ofNat 41))), .v (.one (.lin .u8 1 1 (.ofNat 0))), .v (.one (.bool false))] (st0 tab [⟨0, 5, 0⟩, ⟨0, 255, 0⟩]) isT = true := by kernel_rfl
theorem run41_true : callN xs 400 100 12 k12 [.v (.one (.lin .u8 50 0 (.ofNat 41))), .v (.one (.lin .u8 1 1 (.ofNat 0))), .v (.one (.bool true))] (st0 tab [⟨0, 5, 0⟩, ⟨0, 255, 0⟩]) isT = true := by kernel_rfl
theorem run42_false : callN xs 400 100 12 k12 [.v (.one (.lin .u8 50 0 (.ofNat 42))), .v (.one (.lin .u8 1 1 (.ofNat 0))), .v (.one (.bool false))] (st0 tab [⟨0, 5, 0⟩, ⟨0, 255, 0⟩]) isT = true := by kernel_rfl
theorem run42_true : callN xs 400 100 12 k12 [.v (.one (.lin .u8 50 0 (.ofNat 42))), .v (.one (.lin .u8 1 1 (.ofNat 0))), .v (.one (.bool true))] (st0 tab [⟨0, 5, 0⟩, ⟨0, 255, 0⟩]) isT = true := by kernel_rfl
theorem run43_false : callN xs 400 100 12 k12 [.v (.one (.lin .u8 50 0 (.ofNat 43))), .v (.one (.lin .u8 1 1 (.ofNat 0))), .v (.one (.bool false))] (st0 tab [⟨0, 5, 0⟩, ⟨0, 255, 0⟩]) isT = true := by kernel_rfl
theorem run43_true : callN xs 400 100 12 k12 [.v (.one (.lin .u8 50 0 (.ofNat 43))), .v (.one (.lin .u8 1 1 (.ofNat 0))), .v (.one (.bool true))] (st0 tab [⟨0, 5, 0⟩, ⟨0, 255, 0⟩]) isT = true := by kernel_rfl
theorem run44_false : callN xs 400 100 12 k12 [.v (.one (.lin .u8 50 0 (.ofNat 44))), .v (.one (.lin .u8 1 1 (.ofNat 0))), .v (.one (.bool false))] (st0 tab [⟨0, 5, 0⟩, ⟨0, 255, 0⟩]) isT = true := by kernel_rfl
theorem run44_true : callN xs 400 100 12 k12 [.v (.one (.lin .u8 50 0 (.ofNat 44))), .v (.one (.lin .u8 1 1 (.ofNat 0))), .v (.one (.bool true))] (st0 tab [⟨0, 5, 0⟩, ⟨0, 255, 0⟩]) isT = true := by kernel_rfl
end Go.Proofs.YtjodpodmeobciaaGreatDoor.topCycles
