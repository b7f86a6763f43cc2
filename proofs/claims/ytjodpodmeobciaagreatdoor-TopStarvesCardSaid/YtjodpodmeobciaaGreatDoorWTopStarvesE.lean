/- Runs of detenttop.TopStarves that end at once. Conditions: none. -/
import Derived.Test.YtjodpodmeobciaaGreatDoorWTopStarvesS
namespace Go.Proofs.YtjodpodmeobciaaGreatDoor.topStarves
open Go.Rse Go.RowKit
set_option maxRecDepth 1000000
theorem early0 : callN xs 400 100 16 k16 [.v (.one (.lin .u8 16 0 (.ofNat 0))), .v (.one (.lin .u8 1 1 (.ofNat 0))), .v (.one (.lin .u8 1 3 (.ofNat 0)))] (st0 tab [⟨0, 15, 0⟩, ⟨0, 255, 0⟩, ⟨0, 0, 16⟩, ⟨0, 255, 0⟩]) isT = true := by kernel_rfl
theorem early1 : callN xs 400 100 16 k16 [.v (.one (.lin .u8 16 0 (.ofNat 1))), .v (.one (.lin .u8 1 1 (.ofNat 0))), .v (.one (.lin .u8 1 3 (.ofNat 0)))] (st0 tab [⟨0, 15, 0⟩, ⟨0, 255, 0⟩, ⟨0, 1, 16⟩, ⟨0, 255, 0⟩]) isT = true := by kernel_rfl
theorem early2 : callN xs 400 100 16 k16 [.v (.one (.lin .u8 16 0 (.ofNat 2))), .v (.one (.lin .u8 1 1 (.ofNat 0))), .v (.one (.lin .u8 1 3 (.ofNat 0)))] (st0 tab [⟨0, 15, 0⟩, ⟨0, 255, 0⟩, ⟨0, 2, 16⟩, ⟨0, 255, 0⟩]) isT = true := by kernel_rfl
theorem early3 : callN xs 400 100 16 k16 [.v (.one (.lin .u8 16 0 (.ofNat 3))), .v (.one (.lin .u8 1 1 (.ofNat 0))), .v (.one (.lin .u8 1 3 (.ofNat 0)))] (st0 tab [⟨0, 15, 0⟩, ⟨0, 255, 0⟩, ⟨0, 3, 16⟩, ⟨0, 255, 0⟩]) isT = true := by kernel_rfl
theorem early4 : callN xs 400 100 16 k16 [.v (.one (.lin .u8 16 0 (.ofNat 4))), .v (.one (.lin .u8 1 1 (.ofNat 0))), .v (.one (.lin .u8 1 3 (.ofNat 0)))] (st0 tab [⟨0, 15, 0⟩, ⟨0, 255, 0⟩, ⟨0, 4, 16⟩, ⟨0, 255, 0⟩]) isT = true := by kernel_rfl
theorem early5 : callN xs 400 100 16 k16 [.v (.one (.lin .u8 16 0 (.ofNat 5))), .v (.one (.lin .u8 1 1 (.ofNat 0))), .v (.one (.lin .u8 1 3 (.ofNat 0)))] (st0 tab [⟨0, 15, 0⟩, ⟨0, 255, 0⟩, ⟨0, 5, 16⟩, ⟨0, 255, 0⟩]) isT = true := by kernel_rfl
theorem early6 : callN xs 400 100 16 k16 [.v (.one (.lin .u8 16 0 (.ofNat 6))), .v (.one (.lin .u8 1 1 (.ofNat 0))), .v (.one (.lin .u8 1 3 (.ofNat 0)))] (st0 tab [⟨0, 15, 0⟩, ⟨0, 255, 0⟩, ⟨0, 6, 16⟩, ⟨0, 255, 0⟩]) isT = true := by kernel_rfl
theorem early7 : callN xs 400 100 16 k16 [.v (.one (.lin .u8 16 0 (.ofNat 7))), .v (.one (.lin .u8 1 1 (.ofNat 0))), .v (.one (.lin .u8 1 3 (.ofNat 0)))] (st0 tab [⟨0, 15, 0⟩, ⟨0, 255, 0⟩, ⟨0, 7, 16⟩, ⟨0, 255, 0⟩]) isT = true := by kernel_rfl
theorem early8 : callN xs 400 100 16 k16 [.v (.one (.lin .u8 16 0 (.ofNat 8))), .v (.one (.lin .u8 1 1 (.ofNat 0))), .v (.one (.lin .u8 1 3 (.ofNat 0)))] (st0 tab [⟨0, 15, 0⟩, ⟨0, 255, 0⟩, ⟨0, 8, 16⟩, ⟨0, 255, 0⟩]) isT = true := by kernel_rfl
theorem early9 : callN xs 400 100 16 k16 [.v (.one (.lin .u8 16 0 (.ofNat 9))), .v (.one (.lin .u8 1 1 (.ofNat 0))), .v (.one (.lin .u8 1 3 (.ofNat 0)))] (st0 tab [⟨0, 15, 0⟩, ⟨0, 255, 0⟩, ⟨0, 9, 16⟩, ⟨0, 255, 0⟩]) isT = true := by kernel_rfl
theorem early10 : callN xs 400 100 16 k16 [.v (.one (.lin .u8 16 0 (.ofNat 10))), .v (.one (.lin .u8 1 1 (.ofNat 0))), .v (.one (.lin .u8 1 3 (.ofNat 0)))] (st0 tab [⟨0, 15, 0⟩, ⟨0, 255, 0⟩, ⟨0, 10, 16⟩, ⟨0, 255, 0⟩]) isT = true := by kernel_rfl
theorem early11 : callN xs 400 100 16 k16 [.v (.one (.lin .u8 16 0 (.ofNat 11))), .v (.one (.lin .u8 1 1 (.ofNat 0))), .v (.one (.lin .u8 1 3 (.ofNat 0)))] (st0 tab [⟨0, 15, 0⟩, ⟨0, 255, 0⟩, ⟨0, 11, 16⟩, ⟨0, 255, 0⟩]) isT = true := by kernel_rfl
theorem early12 : callN xs 400 100 16 k16 [.v (.one (.lin .u8 16 0 (.ofNat 12))), .v (.one (.lin .u8 1 1 (.ofNat 0))), .v (.one (.lin .u8 1 3 (.ofNat 0)))] (st0 tab [⟨0, 15, 0⟩, ⟨0, 255, 0⟩, ⟨0, 12, 16⟩, ⟨0, 255, 0⟩]) isT = true := by kernel_rfl
theorem early13 : callN xs 400 100 16 k16 [.v (.one (.lin .u8 16 0 (.ofNat 13))), .v (.one (.lin .u8 1 1 (.ofNat 0))), .v (.one (.lin .u8 1 3 (.ofNat 0)))] (st0 tab [⟨0, 15, 0⟩, ⟨0, 255, 0⟩, ⟨0, 13, 16⟩, ⟨0, 255, 0⟩]) isT = true := by kernel_rfl
theorem early14 : callN xs 400 100 16 k16 [.v (.one (.lin .u8 16 0 (.ofNat 14))), .v (.one (.lin .u8 1 1 (.ofNat 0))), .v (.one (.lin .u8 1 3 (.ofNat 0)))] (st0 tab [⟨0, 15, 0⟩, ⟨0, 255, 0⟩, ⟨0, 14, 16⟩, ⟨0, 255, 0⟩]) isT = true := by kernel_rfl
theorem early15 : callN xs 400 100 16 k16 [.v (.one (.lin .u8 16 0 (.ofNat 15))), .v (.one (.lin .u8 1 1 (.ofNat 0))), .v (.one (.lin .u8 1 3 (.ofNat 0)))] (st0 tab [⟨0, 15, 0⟩, ⟨0, 255, 0⟩, ⟨0, 15, 16⟩, ⟨0, 255, 0⟩]) isT = true := by kernel_rfl
end Go.Proofs.YtjodpodmeobciaaGreatDoor.topStarves
