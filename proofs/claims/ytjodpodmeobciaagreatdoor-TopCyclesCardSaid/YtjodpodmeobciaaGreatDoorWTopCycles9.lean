/- Runs of detenttop.TopCycles: periods 46 to 50, any number of ticks. Conditions: none. -/
import Derived.Test.YtjodpodmeobciaaGreatDoorYD
import Derived.Test.YtjodpodmeobciaaGreatDoorZL
namespace Go.Proofs.YtjodpodmeobciaaGreatDoor.topCycles
open Go.Rse Go.RowKit
set_option maxRecDepth 1000000
theorem run45_false : callN xs 400 100 12 k12 [.v (.one (.lin .u8 50 0 (.ofNat 45))), .v (.one (.lin .u8 1 1 (.ofNat 0))), .v (.one (.bool false))] (st0 tab [⟨0, 5, 0⟩, ⟨0, 255, 0⟩]) isT = true := by kernel_rfl
theorem run45_true : callN xs 400 100 12 k12 [.v (.one (.lin .u8 50 0 (.ofNat 45))), .v (.one (.lin .u8 1 1 (.ofNat 0))), .v (.one (.bool true))] (st0 tab [⟨0, 5, 0⟩, ⟨0, 255, 0⟩]) isT = true := by kernel_rfl
theorem run46_false : callN xs 400 100 12 k12 [.v (.one (.lin .u8 50 0 (.ofNat 46))), .v (.one (.lin .u8 1 1 (.ofNat 0))), .v (.one (.bool false))] (st0 tab [⟨0, 5, 0⟩, ⟨0, 255, 0⟩]) isT = true := by kernel_rfl
theorem run46_true : callN xs 400 100 12 k12 [.v (.one (.lin .u8 50 0 (.ofNat 46))), .v (.one (.lin .u8 1 1 (.ofNat 0))), .v (.one (.bool true))] (st0 tab [⟨0, 5, 0⟩, ⟨0, 255, 0⟩]) isT = true := by kernel_rfl
theorem run47_false : callN xs 400 100 12 k12 [.v (.one (.lin .u8 50 0 (.ofNat 47))), .v (.one (.lin .u8 1 1 (.ofNat 0))), .v (.one (.bool false))] (st0 tab [⟨0, 5, 0⟩, ⟨0, 255, 0⟩]) isT = true := by kernel_rfl
theorem run47_true : callN xs 400 100 12 k12 [.v (.one (.lin .u8 50 0 (.ofNat 47))), .v (.one (.lin .u8 1 1 (.ofNat 0))), .v (.one (.bool true))] (st0 tab [⟨0, 5, 0⟩, ⟨0, 255, 0⟩]) isT = true := by kernel_rfl
theorem run48_false : callN xs 400 100 12 k12 [.v (.one (.lin .u8 50 0 (.ofNat 48))), .v (.one (.lin .u8 1 1 (.ofNat 0))), .v (.one (.bool false))] (st0 tab [⟨0, 5, 0⟩, ⟨0, 255, 0⟩]) isT = true := by kernel_rfl
theorem run48_true : callN xs 400 100 12 k12 [.v (.one (.lin .u8 50 0 (.ofNat 48))), .v (.one (.lin .u8 1 1 (.ofNat 0))), .v (.one (.bool true))] (st0 tab [⟨0, 5, 0⟩, ⟨0, 255, 0⟩]) isT = true := by kernel_rfl
theorem run49_false : callN xs 400 100 12 k12 [.v (.one (.lin .u8 50 0 (.ofNat 49))), .v (.one (.lin .u8 1 1 (.ofNat 0))), .v (.one (.bool false))] (st0 tab [⟨0, 5, 0⟩, ⟨0, 255, 0⟩]) isT = true := by kernel_rfl
theorem run49_true : callN xs 400 100 12 k12 [.v (.one (.lin .u8 50 0 (.ofNat 49))), .v (.one (.lin .u8 1 1 (.ofNat 0))), .v (.one (.bool true))] (st0 tab [⟨0, 5, 0⟩, ⟨0, 255, 0⟩]) isT = true := by kernel_rfl
end Go.Proofs.YtjodpodmeobciaaGreatDoor.topCycles
