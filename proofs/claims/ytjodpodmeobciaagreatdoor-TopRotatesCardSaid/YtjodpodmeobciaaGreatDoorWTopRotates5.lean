/- A run of detenttop.TopRotates: 6 tasks, any number of turns. Conditions: none. -/
import Derived.Test.YtjodpodmeobciaaGreatDoorYD
import Derived.Test.YtjodpodmeobciaaGreatDoorZL
namespace Go.Proofs.YtjodpodmeobciaaGreatDoor.topRotates
open Go.Rse Go.RowKit
set_option maxRecDepth 1000000
theorem run5 : callN xs 400 100 8 k8 [.v (.one (.lin .u8 16 0 (.ofNat 5))), .v (.one (.lin .u8 1 1 (.ofNat 0)))] (st0 tab [⟨0, 15, 0⟩, ⟨0, 255, 0⟩]) isT = true := by kernel_rfl
end Go.Proofs.YtjodpodmeobciaaGreatDoor.topRotates
