/- Runs of detenttop.TopFlags, of some numbers of tasks. Conditions: none. -/
import Derived.Test.YtjodpodmeobciaaGreatDoorUS
import Derived.KernelRfl
namespace Go.Proofs.YtjodpodmeobciaaGreatDoor.topFlags
open Go.Rsf Go.RowKit
set_option maxRecDepth 1000000
set_option maxHeartbeats 100000000 in
theorem r15_0 : grpR lit15 0 8 = true := by kernel_rfl
set_option maxHeartbeats 100000000 in
theorem r15_8 : grpR lit15 8 8 = true := by kernel_rfl
set_option maxHeartbeats 100000000 in
theorem e15_0 : grpL lit15 0 = true := by kernel_rfl
set_option maxHeartbeats 100000000 in
theorem e15_1 : grpL lit15 1 = true := by kernel_rfl
set_option maxHeartbeats 100000000 in
theorem e15_2 : grpL lit15 2 = true := by kernel_rfl
set_option maxHeartbeats 100000000 in
theorem e15_3 : grpL lit15 3 = true := by kernel_rfl
set_option maxHeartbeats 100000000 in
theorem e15_4 : grpL lit15 4 = true := by kernel_rfl
set_option maxHeartbeats 100000000 in
theorem e15_5 : grpL lit15 5 = true := by kernel_rfl
set_option maxHeartbeats 100000000 in
theorem e15_6 : grpL lit15 6 = true := by kernel_rfl
set_option maxHeartbeats 100000000 in
theorem e15_7 : grpL lit15 7 = true := by kernel_rfl
set_option maxHeartbeats 100000000 in
theorem e15_8 : grpL lit15 8 = true := by kernel_rfl
set_option maxHeartbeats 100000000 in
theorem e15_9 : grpL lit15 9 = true := by kernel_rfl
set_option maxHeartbeats 100000000 in
theorem e15_10 : grpL lit15 10 = true := by kernel_rfl
set_option maxHeartbeats 100000000 in
theorem e15_11 : grpL lit15 11 = true := by kernel_rfl
set_option maxHeartbeats 100000000 in
theorem e15_12 : grpL lit15 12 = true := by kernel_rfl
set_option maxHeartbeats 100000000 in
theorem e15_13 : grpL lit15 13 = true := by kernel_rfl
set_option maxHeartbeats 100000000 in
theorem e15_14 : grpL lit15 14 = true := by kernel_rfl
set_option maxHeartbeats 100000000 in
theorem e15_15 : grpL lit15 15 = true := by kernel_rfl
set_option maxHeartbeats 100000000 in
theorem c15 : flgN lit15 = true := by kernel_rfl
set_option maxHeartbeats 100000000 in
theorem p15 : lawP lit15 = true := by kernel_rfl
end Go.Proofs.YtjodpodmeobciaaGreatDoor.topFlags
