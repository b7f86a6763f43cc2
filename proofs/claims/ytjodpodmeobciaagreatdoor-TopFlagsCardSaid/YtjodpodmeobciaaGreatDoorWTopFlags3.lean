/- Runs of detenttop.TopFlags, of some numbers of tasks. Conditions: none. -/
import Derived.Test.YtjodpodmeobciaaGreatDoorUS
import Derived.KernelRfl
namespace Go.Proofs.YtjodpodmeobciaaGreatDoor.topFlags
open Go.Rsf Go.RowKit
set_option maxRecDepth 1000000
set_option maxHeartbeats 100000000 in
theorem r14_0 : grpR lit14 0 8 = true := by kernel_rfl
set_option maxHeartbeats 100000000 in
theorem r14_8 : grpR lit14 8 7 = true := by kernel_rfl
set_option maxHeartbeats 100000000 in
theorem e14_0 : grpL lit14 0 = true := by kernel_rfl
set_option maxHeartbeats 100000000 in
theorem e14_1 : grpL lit14 1 = true := by kernel_rfl
set_option maxHeartbeats 100000000 in
theorem e14_2 : grpL lit14 2 = true := by kernel_rfl
set_option maxHeartbeats 100000000 in
theorem e14_3 : grpL lit14 3 = true := by kernel_rfl
set_option maxHeartbeats 100000000 in
theorem e14_4 : grpL lit14 4 = true := by kernel_rfl
set_option maxHeartbeats 100000000 in
theorem e14_5 : grpL lit14 5 = true := by kernel_rfl
set_option maxHeartbeats 100000000 in
theorem e14_6 : grpL lit14 6 = true := by kernel_rfl
set_option maxHeartbeats 100000000 in
theorem e14_7 : grpL lit14 7 = true := by kernel_rfl
set_option maxHeartbeats 100000000 in
theorem e14_8 : grpL lit14 8 = true := by kernel_rfl
set_option maxHeartbeats 100000000 in
theorem e14_9 : grpL lit14 9 = true := by kernel_rfl
set_option maxHeartbeats 100000000 in
theorem e14_10 : grpL lit14 10 = true := by kernel_rfl
set_option maxHeartbeats 100000000 in
theorem e14_11 : grpL lit14 11 = true := by kernel_rfl
set_option maxHeartbeats 100000000 in
theorem e14_12 : grpL lit14 12 = true := by kernel_rfl
set_option maxHeartbeats 100000000 in
theorem e14_13 : grpL lit14 13 = true := by kernel_rfl
set_option maxHeartbeats 100000000 in
theorem e14_14 : grpL lit14 14 = true := by kernel_rfl
set_option maxHeartbeats 100000000 in
theorem c14 : flgN lit14 = true := by kernel_rfl
set_option maxHeartbeats 100000000 in
theorem p14 : lawP lit14 = true := by kernel_rfl
end Go.Proofs.YtjodpodmeobciaaGreatDoor.topFlags
