/- Runs of detenttop.TopFlags, of some numbers of tasks. Conditions: none. -/
import Derived.Test.YtjodpodmeobciaaGreatDoorUS
import Derived.KernelRfl
namespace Go.Proofs.YtjodpodmeobciaaGreatDoor.topFlags
open Go.Rsf Go.RowKit
set_option maxRecDepth 1000000
set_option maxHeartbeats 100000000 in
theorem r12_0 : grpR lit12 0 8 = true := by kernel_rfl
set_option maxHeartbeats 100000000 in
theorem r12_8 : grpR lit12 8 5 = true := by kernel_rfl
set_option maxHeartbeats 100000000 in
theorem e12_0 : grpL lit12 0 = true := by kernel_rfl
set_option maxHeartbeats 100000000 in
theorem e12_1 : grpL lit12 1 = true := by kernel_rfl
set_option maxHeartbeats 100000000 in
theorem e12_2 : grpL lit12 2 = true := by kernel_rfl
set_option maxHeartbeats 100000000 in
theorem e12_3 : grpL lit12 3 = true := by kernel_rfl
set_option maxHeartbeats 100000000 in
theorem e12_4 : grpL lit12 4 = true := by kernel_rfl
set_option maxHeartbeats 100000000 in
theorem e12_5 : grpL lit12 5 = true := by kernel_rfl
set_option maxHeartbeats 100000000 in
theorem e12_6 : grpL lit12 6 = true := by kernel_rfl
set_option maxHeartbeats 100000000 in
theorem e12_7 : grpL lit12 7 = true := by kernel_rfl
set_option maxHeartbeats 100000000 in
theorem e12_8 : grpL lit12 8 = true := by kernel_rfl
set_option maxHeartbeats 100000000 in
theorem e12_9 : grpL lit12 9 = true := by kernel_rfl
set_option maxHeartbeats 100000000 in
theorem e12_10 : grpL lit12 10 = true := by kernel_rfl
set_option maxHeartbeats 100000000 in
theorem e12_11 : grpL lit12 11 = true := by kernel_rfl
set_option maxHeartbeats 100000000 in
theorem e12_12 : grpL lit12 12 = true := by kernel_rfl
set_option maxHeartbeats 100000000 in
theorem c12 : flgN lit12 = true := by kernel_rfl
set_option maxHeartbeats 100000000 in
theorem p12 : lawP lit12 = true := by kernel_rfl
set_option maxHeartbeats 100000000 in
theorem r7_0 : grpR lit7 0 8 = true := by kernel_rfl
set_option maxHeartbeats 100000000 in
theorem e7_0 : grpL lit7 0 = true := by kernel_rfl
set_option maxHeartbeats 100000000 in
theorem e7_1 : grpL lit7 1 = true := by kernel_rfl
set_option maxHeartbeats 100000000 in
theorem e7_2 : grpL lit7 2 = true := by kernel_rfl
set_option maxHeartbeats 100000000 in
theorem e7_3 : grpL lit7 3 = true := by kernel_rfl
set_option maxHeartbeats 100000000 in
theorem e7_4 : grpL lit7 4 = true := by kernel_rfl
set_option maxHeartbeats 100000000 in
theorem e7_5 : grpL lit7 5 = true := by kernel_rfl
set_option maxHeartbeats 100000000 in
theorem e7_6 : grpL lit7 6 = true := by kernel_rfl
set_option maxHeartbeats 100000000 in
theorem e7_7 : grpL lit7 7 = true := by kernel_rfl
set_option maxHeartbeats 100000000 in
theorem c7 : flgN lit7 = true := by kernel_rfl
set_option maxHeartbeats 100000000 in
theorem p7 : lawP lit7 = true := by kernel_rfl
set_option maxHeartbeats 100000000 in
theorem r6_0 : grpR lit6 0 7 = true := by kernel_rfl
set_option maxHeartbeats 100000000 in
theorem e6_0 : grpL lit6 0 = true := by kernel_rfl
set_option maxHeartbeats 100000000 in
theorem e6_1 : grpL lit6 1 = true := by kernel_rfl
set_option maxHeartbeats 100000000 in
theorem e6_2 : grpL lit6 2 = true := by kernel_rfl
set_option maxHeartbeats 100000000 in
theorem e6_3 : grpL lit6 3 = true := by kernel_rfl
set_option maxHeartbeats 100000000 in
theorem e6_4 : grpL lit6 4 = true := by kernel_rfl
set_option maxHeartbeats 100000000 in
theorem e6_5 : grpL lit6 5 = true := by kernel_rfl
set_option maxHeartbeats 100000000 in
theorem e6_6 : grpL lit6 6 = true := by kernel_rfl
set_option maxHeartbeats 100000000 in
theorem c6 : flgN lit6 = true := by kernel_rfl
set_option maxHeartbeats 100000000 in
theorem p6 : lawP lit6 = true := by kernel_rfl
end Go.Proofs.YtjodpodmeobciaaGreatDoor.topFlags
