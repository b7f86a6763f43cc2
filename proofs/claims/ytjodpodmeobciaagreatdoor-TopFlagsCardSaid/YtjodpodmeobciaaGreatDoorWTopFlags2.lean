/- Runs of detenttop.TopFlags, of some numbers of tasks. Conditions: none. -/
import Derived.Test.YtjodpodmeobciaaGreatDoorUS
import Derived.KernelRfl
namespace Go.Proofs.YtjodpodmeobciaaGreatDoor.topFlags
open Go.Rsf Go.RowKit
set_option maxRecDepth 1000000
set_option maxHeartbeats 100000000 in
theorem f14_0 : grpF lit14 0 = true := by kernel_rfl
set_option maxHeartbeats 100000000 in
theorem f14_1 : grpF lit14 1 = true := by kernel_rfl
set_option maxHeartbeats 100000000 in
theorem f14_2 : grpF lit14 2 = true := by kernel_rfl
set_option maxHeartbeats 100000000 in
theorem f14_3 : grpF lit14 3 = true := by kernel_rfl
set_option maxHeartbeats 100000000 in
theorem f14_4 : grpF lit14 4 = true := by kernel_rfl
set_option maxHeartbeats 100000000 in
theorem f14_5 : grpF lit14 5 = true := by kernel_rfl
set_option maxHeartbeats 100000000 in
theorem f14_6 : grpF lit14 6 = true := by kernel_rfl
set_option maxHeartbeats 100000000 in
theorem f14_7 : grpF lit14 7 = true := by kernel_rfl
set_option maxHeartbeats 100000000 in
theorem f14_8 : grpF lit14 8 = true := by kernel_rfl
set_option maxHeartbeats 100000000 in
theorem f14_9 : grpF lit14 9 = true := by kernel_rfl
set_option maxHeartbeats 100000000 in
theorem f14_10 : grpF lit14 10 = true := by kernel_rfl
set_option maxHeartbeats 100000000 in
theorem f14_11 : grpF lit14 11 = true := by kernel_rfl
set_option maxHeartbeats 100000000 in
theorem f14_12 : grpF lit14 12 = true := by kernel_rfl
set_option maxHeartbeats 100000000 in
theorem f14_13 : grpF lit14 13 = true := by kernel_rfl
set_option maxHeartbeats 100000000 in
theorem f14_14 : grpF lit14 14 = true := by kernel_rfl
set_option maxHeartbeats 100000000 in
theorem f5_0 : grpF lit5 0 = true := by kernel_rfl
set_option maxHeartbeats 100000000 in
theorem f5_1 : grpF lit5 1 = true := by kernel_rfl
set_option maxHeartbeats 100000000 in
theorem f5_2 : grpF lit5 2 = true := by kernel_rfl
set_option maxHeartbeats 100000000 in
theorem f5_3 : grpF lit5 3 = true := by kernel_rfl
set_option maxHeartbeats 100000000 in
theorem f5_4 : grpF lit5 4 = true := by kernel_rfl
set_option maxHeartbeats 100000000 in
theorem f5_5 : grpF lit5 5 = true := by kernel_rfl
set_option maxHeartbeats 100000000 in
theorem f4_0 : grpF lit4 0 = true := by kernel_rfl
set_option maxHeartbeats 100000000 in
theorem f4_1 : grpF lit4 1 = true := by kernel_rfl
set_option maxHeartbeats 100000000 in
theorem f4_2 : grpF lit4 2 = true := by kernel_rfl
set_option maxHeartbeats 100000000 in
theorem f4_3 : grpF lit4 3 = true := by kernel_rfl
set_option maxHeartbeats 100000000 in
theorem f4_4 : grpF lit4 4 = true := by kernel_rfl
set_option maxHeartbeats 100000000 in
theorem f3_0 : grpF lit3 0 = true := by kernel_rfl
set_option maxHeartbeats 100000000 in
theorem f3_1 : grpF lit3 1 = true := by kernel_rfl
set_option maxHeartbeats 100000000 in
theorem f3_2 : grpF lit3 2 = true := by kernel_rfl
set_option maxHeartbeats 100000000 in
theorem f3_3 : grpF lit3 3 = true := by kernel_rfl
set_option maxHeartbeats 100000000 in
theorem f2_0 : grpF lit2 0 = true := by kernel_rfl
set_option maxHeartbeats 100000000 in
theorem f2_1 : grpF lit2 1 = true := by kernel_rfl
set_option maxHeartbeats 100000000 in
theorem f2_2 : grpF lit2 2 = true := by kernel_rfl
set_option maxHeartbeats 100000000 in
theorem f1_0 : grpF lit1 0 = true := by kernel_rfl
set_option maxHeartbeats 100000000 in
theorem f1_1 : grpF lit1 1 = true := by kernel_rfl
set_option maxHeartbeats 100000000 in
theorem f0_0 : grpF lit0 0 = true := by kernel_rfl
end Go.Proofs.YtjodpodmeobciaaGreatDoor.topFlags
