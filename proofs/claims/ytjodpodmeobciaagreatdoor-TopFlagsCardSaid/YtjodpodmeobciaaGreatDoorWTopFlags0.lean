/- Runs of detenttop.TopFlags, of some numbers of tasks. Conditions: none. -/
import Derived.Test.YtjodpodmeobciaaGreatDoorUS
import Derived.KernelRfl
namespace Go.Proofs.YtjodpodmeobciaaGreatDoor.topFlags
open Go.Rsf Go.RowKit
set_option maxRecDepth 1000000
set_option maxHeartbeats 100000000 in
theorem f15_0 : grpF lit15 0 = true := by kernel_rfl
set_option maxHeartbeats 100000000 in
theorem f15_1 : grpF lit15 1 = true := by kernel_rfl
set_option maxHeartbeats 100000000 in
theorem f15_2 : grpF lit15 2 = true := by kernel_rfl
set_option maxHeartbeats 100000000 in
theorem f15_3 : grpF lit15 3 = true := by kernel_rfl
set_option maxHeartbeats 100000000 in
theorem f15_4 : grpF lit15 4 = true := by kernel_rfl
set_option maxHeartbeats 100000000 in
theorem f15_5 : grpF lit15 5 = true := by kernel_rfl
set_option maxHeartbeats 100000000 in
theorem f15_6 : grpF lit15 6 = true := by kernel_rfl
set_option maxHeartbeats 100000000 in
theorem f15_7 : grpF lit15 7 = true := by kernel_rfl
set_option maxHeartbeats 100000000 in
theorem f15_8 : grpF lit15 8 = true := by kernel_rfl
set_option maxHeartbeats 100000000 in
theorem f15_9 : grpF lit15 9 = true := by kernel_rfl
set_option maxHeartbeats 100000000 in
theorem f15_10 : grpF lit15 10 = true := by kernel_rfl
set_option maxHeartbeats 100000000 in
theorem f15_11 : grpF lit15 11 = true := by kernel_rfl
set_option maxHeartbeats 100000000 in
theorem f15_12 : grpF lit15 12 = true := by kernel_rfl
set_option maxHeartbeats 100000000 in
theorem f15_13 : grpF lit15 13 = true := by kernel_rfl
set_option maxHeartbeats 100000000 in
theorem f15_14 : grpF lit15 14 = true := by kernel_rfl
set_option maxHeartbeats 100000000 in
theorem f15_15 : grpF lit15 15 = true := by kernel_rfl
end Go.Proofs.YtjodpodmeobciaaGreatDoor.topFlags
