/- Runs of detenttop.TopFlags, of some numbers of tasks. Conditions: none. -/
import Derived.Test.YtjodpodmeobciaaGreatDoorUS
import Derived.KernelRfl
namespace Go.Proofs.YtjodpodmeobciaaGreatDoor.topFlags
open Go.Rsf Go.RowKit
set_option maxRecDepth 1000000
set_option maxHeartbeats 100000000 in
theorem f10_0 : grpF lit10 0 = true := by kernel_rfl
set_option maxHeartbeats 100000000 in
theorem f10_1 : grpF lit10 1 = true := by kernel_rfl
set_option maxHeartbeats 100000000 in
theorem f10_2 : grpF lit10 2 = true := by kernel_rfl
set_option maxHeartbeats 100000000 in
theorem f10_3 : grpF lit10 3 = true := by kernel_rfl
set_option maxHeartbeats 100000000 in
theorem f10_4 : grpF lit10 4 = true := by kernel_rfl
set_option maxHeartbeats 100000000 in
theorem f10_5 : grpF lit10 5 = true := by kernel_rfl
set_option maxHeartbeats 100000000 in
theorem f10_6 : grpF lit10 6 = true := by kernel_rfl
set_option maxHeartbeats 100000000 in
theorem f10_7 : grpF lit10 7 = true := by kernel_rfl
set_option maxHeartbeats 100000000 in
theorem f10_8 : grpF lit10 8 = true := by kernel_rfl
set_option maxHeartbeats 100000000 in
theorem f10_9 : grpF lit10 9 = true := by kernel_rfl
set_option maxHeartbeats 100000000 in
theorem f10_10 : grpF lit10 10 = true := by kernel_rfl
set_option maxHeartbeats 100000000 in
theorem f9_0 : grpF lit9 0 = true := by kernel_rfl
set_option maxHeartbeats 100000000 in
theorem f9_1 : grpF lit9 1 = true := by kernel_rfl
set_option maxHeartbeats 100000000 in
theorem f9_2 : grpF lit9 2 = true := by kernel_rfl
set_option maxHeartbeats 100000000 in
theorem f9_3 : grpF lit9 3 = true := by kernel_rfl
set_option maxHeartbeats 100000000 in
theorem f9_4 : grpF lit9 4 = true := by kernel_rfl
set_option maxHeartbeats 100000000 in
theorem f9_5 : grpF lit9 5 = true := by kernel_rfl
set_option maxHeartbeats 100000000 in
theorem f9_6 : grpF lit9 6 = true := by kernel_rfl
set_option maxHeartbeats 100000000 in
theorem f9_7 : grpF lit9 7 = true := by kernel_rfl
set_option maxHeartbeats 100000000 in
theorem f9_8 : grpF lit9 8 = true := by kernel_rfl
set_option maxHeartbeats 100000000 in
theorem f9_9 : grpF lit9 9 = true := by kernel_rfl
set_option maxHeartbeats 100000000 in
theorem r8_0 : grpR lit8 0 8 = true := by kernel_rfl
set_option maxHeartbeats 100000000 in
theorem r8_8 : grpR lit8 8 1 = true := by kernel_rfl
set_option maxHeartbeats 100000000 in
theorem e8_0 : grpL lit8 0 = true := by kernel_rfl
set_option maxHeartbeats 100000000 in
theorem e8_1 : grpL lit8 1 = true := by kernel_rfl
set_option maxHeartbeats 100000000 in
theorem e8_2 : grpL lit8 2 = true := by kernel_rfl
set_option maxHeartbeats 100000000 in
theorem e8_3 : grpL lit8 3 = true := by kernel_rfl
set_option maxHeartbeats 100000000 in
theorem e8_4 : grpL lit8 4 = true := by kernel_rfl
set_option maxHeartbeats 100000000 in
theorem e8_5 : grpL lit8 5 = true := by kernel_rfl
set_option maxHeartbeats 100000000 in
theorem e8_6 : grpL lit8 6 = true := by kernel_rfl
set_option maxHeartbeats 100000000 in
theorem e8_7 : grpL lit8 7 = true := by kernel_rfl
set_option maxHeartbeats 100000000 in
theorem e8_8 : grpL lit8 8 = true := by kernel_rfl
set_option maxHeartbeats 100000000 in
theorem c8 : flgN lit8 = true := by kernel_rfl
set_option maxHeartbeats 100000000 in
theorem p8 : lawP lit8 = true := by kernel_rfl
end Go.Proofs.YtjodpodmeobciaaGreatDoor.topFlags
