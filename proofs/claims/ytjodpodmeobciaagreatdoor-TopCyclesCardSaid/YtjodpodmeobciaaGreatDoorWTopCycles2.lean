/- Runs of detenttop.TopCycles: periods 11 to 15, any number of ticks. Conditions: none. -/
import Derived.Test.YtjodpodmeobciaaGreatDoorYD
import Derived.Test.YtjodpodmeobciaaGreatDoorZL
namespace Go.Proofs.YtjodpodmeobciaaGreatDoor.topCycles
open Go.Rse Go.RowKit
set_option maxRecDepth 1000000
theorem run10_false : callN xs 400 100 12 k12 [.v (.one (.lin .u8 50 0 (.ofNat 10))), .v (.one (.lin .u8 1 1 (.ofNat 0))), .v (.one (.bool false))] (st0 tab [⟨0, 5, 0⟩, ⟨0, 255, 0⟩]) isT = true := by kernel_rfl
theorem run10_true : callN xs 400 100 12 k12 [.v (.one (.lin .u8 50 0 (.ofNat 10))), .v (.one (.lin .u8 1 1 (.ofNat 0))), .v (.one (.bool true))] (st0 tab [⟨0, 5, 0⟩, ⟨0, 255, 0⟩]) isT = true := by kernel_rfl
theorem run11_false : callN xs 400 100 12 k12 [.v (.one (.lin .u8 50 0 (.ofNat 11))), .v (.one (.lin .u8 1 1 (.ofNat 0))), .v (.one (.bool false))] (st0 tab [⟨0, 5, 0⟩, ⟨0, 255, 0⟩]) isT = true := by kernel_rfl
theorem run11_true : callN xs 400 100 12 k12 [.v (.one (.lin .u8 50 0 (.ofNat 11))), .v (.one (.lin .u8 1 1 (.ofNat 0))), .v (.one (.bool true))] (st0 tab [⟨0, 5, 0⟩, ⟨0, 255, 0⟩]) isT = true := by kernel_rfl
theorem run12_false : callN xs 400 100 12 k12 [.v (.one (.lin .u8 50 0 (.ofNat 12))), .v (.one (.lin .u8 1 1 (.ofNat 0))), .v (.one (.bool false))] (st0 tab [⟨0, 5, 0⟩, ⟨0, 255, 0⟩]) isT = true := by kernel_rfl
theorem run12_true : callN xs 400 100 12 k12 [.v (.one (.lin .u8 50 0 (.ofNat 12))), .v (.one (.lin .u8 1 1 (.ofNat 0))), .v (.one (.bool true))] (st0 tab [⟨0, 5, 0⟩, ⟨0, 255, 0⟩]) isT = true := by kernel_rfl
theorem run13_false : callN xs 400 100 12 k12 [.v (.one (.lin .u8 50 0 (.ofNat 13))), .v (.one (.lin .u8 1 1 (.ofNat 0))), .v (.one (.bool false))] (st0 tab [⟨0, 5, 0⟩, ⟨0, 255, 0⟩]) isT = true := by kernel_rfl
theorem run13_true : callN xs 400 100 12 k12 [.v (.one (.lin .u8 50 0 (.ofNat 13))), .v (.one (.lin .u8 1 1 (.ofNat 0))), .v (.one (.bool true))] (st0 tab [⟨0, 5, 0⟩, ⟨0, 255, 0⟩]) isT = true := by kernel_rfl
theorem run14_false : callN xs 400 100 12 k12 [.v (.one (.lin .u8 50 0 (.ofNat 14))), .v (.one (.lin .u8 1 1 (.ofNat 0))), .v (.one (.bool false))] (st0 tab [⟨0, 5, 0⟩, ⟨0, 255, 0⟩]) isT = true := by kernel_rfl
theorem run14_true : callN xs 400 100 12 k12 [.v (.one (.lin .u8 50 0 (.ofNat 14))), .v (.one (.lin .u8 1 1 (.ofNat 0))), .v (.one (.bool true))] (st0 tab [⟨0, 5, 0⟩, ⟨0, 255, 0⟩]) isT = true := by kernel_rfl
end Go.Proofs.YtjodpodmeobciaaGreatDoor.topCycles
