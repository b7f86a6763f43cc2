/- Runs of detenttop.TopFlags, of some numbers of tasks. Conditions: none. -/
import Derived.Test.YtjodpodmeobciaaGreatDoorUS
import Derived.KernelRfl
namespace Go.Proofs.YtjodpodmeobciaaGreatDoor.topFlags
open Go.Rsf Go.RowKit
set_option maxRecDepth 1000000
set_option maxHeartbeats 100000000 in
theorem f13_0 : grpF lit13 0 = true := by kernel_rfl
set_option maxHeartbeats 100000000 in
theorem f13_1 : grpF lit13 1 = true := by kernel_rfl
set_option maxHeartbeats 100000000 in
theorem f13_2 : grpF lit13 2 = true := by kernel_rfl
set_option maxHeartbeats 100000000 in
theorem f13_3 : grpF lit13 3 = true := by kernel_rfl
set_option maxHeartbeats 100000000 in
theorem f13_4 : grpF lit13 4 = true := by kernel_rfl
set_option maxHeartbeats 100000000 in
theorem f13_5 : grpF lit13 5 = true := by kernel_rfl
set_option maxHeartbeats 100000000 in
theorem f13_6 : grpF lit13 6 = true := by kernel_rfl
set_option maxHeartbeats 100000000 in
theorem f13_7 : grpF lit13 7 = true := by kernel_rfl
set_option maxHeartbeats 100000000 in
theorem f13_8 : grpF lit13 8 = true := by kernel_rfl
set_option maxHeartbeats 100000000 in
theorem f13_9 : grpF lit13 9 = true := by kernel_rfl
set_option maxHeartbeats 100000000 in
theorem f13_10 : grpF lit13 10 = true := by kernel_rfl
set_option maxHeartbeats 100000000 in
theorem f13_11 : grpF lit13 11 = true := by kernel_rfl
set_option maxHeartbeats 100000000 in
theorem f13_12 : grpF lit13 12 = true := by kernel_rfl
set_option maxHeartbeats 100000000 in
theorem f13_13 : grpF lit13 13 = true := by kernel_rfl
set_option maxHeartbeats 100000000 in
theorem f7_0 : grpF lit7 0 = true := by kernel_rfl
set_option maxHeartbeats 100000000 in
theorem f7_1 : grpF lit7 1 = true := by kernel_rfl
set_option maxHeartbeats 100000000 in
theorem f7_2 : grpF lit7 2 = true := by kernel_rfl
set_option maxHeartbeats 100000000 in
theorem f7_3 : grpF lit7 3 = true := by kernel_rfl
set_option maxHeartbeats 100000000 in
theorem f7_4 : grpF lit7 4 = true := by kernel_rfl
set_option maxHeartbeats 100000000 in
theorem f7_5 : grpF lit7 5 = true := by kernel_rfl
set_option maxHeartbeats 100000000 in
theorem f7_6 : grpF lit7 6 = true := by kernel_rfl
set_option maxHeartbeats 100000000 in
theorem f7_7 : grpF lit7 7 = true := by kernel_rfl
set_option maxHeartbeats 100000000 in
theorem f6_0 : grpF lit6 0 = true := by kernel_rfl
set_option maxHeartbeats 100000000 in
theorem f6_1 : grpF lit6 1 = true := by kernel_rfl
set_option maxHeartbeats 100000000 in
theorem f6_2 : grpF lit6 2 = true := by kernel_rfl
set_option maxHeartbeats 100000000 in
theorem f6_3 : grpF lit6 3 = true := by kernel_rfl
set_option maxHeartbeats 100000000 in
theorem f6_4 : grpF lit6 4 = true := by kernel_rfl
set_option maxHeartbeats 100000000 in
theorem f6_5 : grpF lit6 5 = true := by kernel_rfl
set_option maxHeartbeats 100000000 in
theorem f6_6 : grpF lit6 6 = true := by kernel_rfl
end Go.Proofs.YtjodpodmeobciaaGreatDoor.topFlags
