/- Runs of detenttop.TopFlags, of some numbers of tasks. Conditions: none. -/
import Derived.Test.YtjodpodmeobciaaGreatDoorUS
import Derived.KernelRfl
namespace Go.Proofs.YtjodpodmeobciaaGreatDoor.topFlags
open Go.Rsf Go.RowKit
set_option maxRecDepth 1000000
set_option maxHeartbeats 100000000 in
theorem r13_0 : grpR lit13 0 8 = true := by kernel_rfl
set_option maxHeartbeats 100000000 in
theorem r13_8 : grpR lit13 8 6 = true := by kernel_rfl
set_option maxHeartbeats 100000000 in
theorem e13_0 : grpL lit13 0 = true := by kernel_rfl
set_option maxHeartbeats 100000000 in
theorem e13_1 : grpL lit13 1 = true := by kernel_rfl
set_option maxHeartbeats 100000000 in
theorem e13_2 : grpL lit13 2 = true := by kernel_rfl
set_option maxHeartbeats 100000000 in
theorem e13_3 : grpL lit13 3 = true := by kernel_rfl
set_option maxHeartbeats 100000000 in
theorem e13_4 : grpL lit13 4 = true := by kernel_rfl
set_option maxHeartbeats 100000000 in
theorem e13_5 : grpL lit13 5 = true := by kernel_rfl
set_option maxHeartbeats 100000000 in
theorem e13_6 : grpL lit13 6 = true := by kernel_rfl
set_option maxHeartbeats 100000000 in
theorem e13_7 : grpL lit13 7 = true := by kernel_rfl
set_option maxHeartbeats 100000000 in
theorem e13_8 : grpL lit13 8 = true := by kernel_rfl
set_option maxHeartbeats 100000000 in
theorem e13_9 : grpL lit13 9 = true := by kernel_rfl
set_option maxHeartbeats 100000000 in
theorem e13_10 : grpL lit13 10 = true := by kernel_rfl
set_option maxHeartbeats 100000000 in
theorem e13_11 : grpL lit13 11 = true := by kernel_rfl
set_option maxHeartbeats 100000000 in
theorem e13_12 : grpL lit13 12 = true := by kernel_rfl
set_option maxHeartbeats 100000000 in
theorem e13_13 : grpL lit13 13 = true := by kernel_rfl
set_option maxHeartbeats 100000000 in
theorem c13 : flgN lit13 = true := by kernel_rfl
set_option maxHeartbeats 100000000 in
theorem p13 : lawP lit13 = true := by kernel_rfl
set_option maxHeartbeats 100000000 in
theorem r4_0 : grpR lit4 0 5 = true := by kernel_rfl
set_option maxHeartbeats 100000000 in
theorem e4_0 : grpL lit4 0 = true := by kernel_rfl
set_option maxHeartbeats 100000000 in
theorem e4_1 : grpL lit4 1 = true := by kernel_rfl
set_option maxHeartbeats 100000000 in
theorem e4_2 : grpL lit4 2 = true := by kernel_rfl
set_option maxHeartbeats 100000000 in
theorem e4_3 : grpL lit4 3 = true := by kernel_rfl
set_option maxHeartbeats 100000000 in
theorem e4_4 : grpL lit4 4 = true := by kernel_rfl
set_option maxHeartbeats 100000000 in
theorem c4 : flgN lit4 = true := by kernel_rfl
set_option maxHeartbeats 100000000 in
theorem p4 : lawP lit4 = true := by kernel_rfl
set_option maxHeartbeats 100000000 in
theorem r3_0 : grpR lit3 0 4 = true := by kernel_rfl
set_option maxHeartbeats 100000000 in
theorem e3_0 : grpL lit3 0 = true := by kernel_rfl
set_option maxHeartbeats 100000000 in
theorem e3_1 : grpL lit3 1 = true := by kernel_rfl
set_option maxHeartbeats 100000000 in
theorem e3_2 : grpL lit3 2 = true := by kernel_rfl
set_option maxHeartbeats 100000000 in
theorem e3_3 : grpL lit3 3 = true := by kernel_rfl
set_option maxHeartbeats 100000000 in
theorem c3 : flgN lit3 = true := by kernel_rfl
set_option maxHeartbeats 100000000 in
theorem p3 : lawP lit3 = true := by kernel_rfl
set_option maxHeartbeats 100000000 in
theorem r2_0 : grpR lit2 0 3 = true := by kernel_rfl
set_option maxHeartbeats 100000000 in
theorem e2_0 : grpL lit2 0 = true := by kernel_rfl
set_option maxHeartbeats 100000000 in
theorem e2_1 : grpL lit2 1 = true := by kernel_rfl
set_option maxHeartbeats 100000000 in
theorem e2_2 : grpL lit2 2 = true := by kernel_rfl
set_option maxHeartbeats 100000000 in
theorem c2 : flgN lit2 = true := by kernel_rfl
set_option maxHeartbeats 100000000 in
theorem p2 : lawP lit2 = true := by kernel_rfl
set_option maxHeartbeats 100000000 in
theorem r1_0 : grpR lit1 0 2 = true := by kernel_rfl
set_option maxHeartbeats 100000000 in
theorem e1_0 : grpL lit1 0 = true := by kernel_rfl
set_option maxHeartbeats 100000000 in
theorem e1_1 : grpL lit1 1 = true := by kernel_rfl
set_option maxHeartbeats 100000000 in
theorem c1 : flgN lit1 = true := by kernel_rfl
set_option maxHeartbeats 100000000 in
theorem p1 : lawP lit1 = true := by kernel_rfl
set_option maxHeartbeats 100000000 in
theorem r0_0 : grpR lit0 0 1 = true := by kernel_rfl
set_option maxHeartbeats 100000000 in
theorem e0_0 : grpL lit0 0 = true := by kernel_rfl
set_option maxHeartbeats 100000000 in
theorem c0 : flgN lit0 = true := by kernel_rfl
set_option maxHeartbeats 100000000 in
theorem p0 : lawP lit0 = true := by kernel_rfl
end Go.Proofs.YtjodpodmeobciaaGreatDoor.topFlags
