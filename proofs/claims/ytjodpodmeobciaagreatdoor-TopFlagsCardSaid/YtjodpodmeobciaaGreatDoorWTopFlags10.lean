/- Runs of detenttop.TopFlags, of some numbers of tasks. Conditions: none. -/
import Derived.Test.YtjodpodmeobciaaGreatDoorUS
import Derived.KernelRfl
namespace Go.Proofs.YtjodpodmeobciaaGreatDoor.topFlags
open Go.Rsf Go.RowKit
set_option maxRecDepth 1000000
set_option maxHeartbeats 100000000 in
theorem r10_0 : grpR lit10 0 8 = true := by kernel_rfl
set_option maxHeartbeats 100000000 in
theorem r10_8 : grpR lit10 8 3 = true := by kernel_rfl
set_option maxHeartbeats 100000000 in
theorem e10_0 : grpL lit10 0 = true := by kernel_rfl
set_option maxHeartbeats 100000000 in
theorem e10_1 : grpL lit10 1 = true := by kernel_rfl
set_option maxHeartbeats 100000000 in
theorem e10_2 : grpL lit10 2 = true := by kernel_rfl
set_option maxHeartbeats 100000000 in
theorem e10_3 : grpL lit10 3 = true := by kernel_rfl
set_option maxHeartbeats 100000000 in
theorem e10_4 : grpL lit10 4 = true := by kernel_rfl
set_option maxHeartbeats 100000000 in
theorem e10_5 : grpL lit10 5 = true := by kernel_rfl
set_option maxHeartbeats 100000000 in
theorem e10_6 : grpL lit10 6 = true := by kernel_rfl
set_option maxHeartbeats 100000000 in
theorem e10_7 : grpL lit10 7 = true := by kernel_rfl
set_option maxHeartbeats 100000000 in
theorem e10_8 : grpL lit10 8 = true := by kernel_rfl
set_option maxHeartbeats 100000000 in
theorem e10_9 : grpL lit10 9 = true := by kernel_rfl
set_option maxHeartbeats 100000000 in
theorem e10_10 : grpL lit10 10 = true := by kernel_rfl
set_option maxHeartbeats 100000000 in
theorem c10 : flgN lit10 = true := by kernel_rfl
set_option maxHeartbeats 100000000 in
theorem p10 : lawP lit10 = true := by kernel_rfl
set_option maxHeartbeats 100000000 in
theorem f8_0 : grpF lit8 0 = true := by kernel_rfl
set_option maxHeartbeats 100000000 in
theorem f8_1 : grpF lit8 1 = true := by kernel_rfl
set_option maxHeartbeats 100000000 in
theorem f8_2 : grpF lit8 2 = true := by kernel_rfl
set_option maxHeartbeats 100000000 in
theorem f8_3 : grpF lit8 3 = true := by kernel_rfl
set_option maxHeartbeats 100000000 in
theorem f8_4 : grpF lit8 4 = true := by kernel_rfl
set_option maxHeartbeats 100000000 in
theorem f8_5 : grpF lit8 5 = true := by kernel_rfl
set_option maxHeartbeats 100000000 in
theorem f8_6 : grpF lit8 6 = true := by kernel_rfl
set_option maxHeartbeats 100000000 in
theorem f8_7 : grpF lit8 7 = true := by kernel_rfl
set_option maxHeartbeats 100000000 in
theorem f8_8 : grpF lit8 8 = true := by kernel_rfl
set_option maxHeartbeats 100000000 in
theorem r5_0 : grpR lit5 0 6 = true := by kernel_rfl
set_option maxHeartbeats 100000000 in
theorem e5_0 : grpL lit5 0 = true := by kernel_rfl
set_option maxHeartbeats 100000000 in
theorem e5_1 : grpL lit5 1 = true := by kernel_rfl
set_option maxHeartbeats 100000000 in
theorem e5_2 : grpL lit5 2 = true := by kernel_rfl
set_option maxHeartbeats 100000000 in
theorem e5_3 : grpL lit5 3 = true := by kernel_rfl
set_option maxHeartbeats 100000000 in
theorem e5_4 : grpL lit5 4 = true := by kernel_rfl
set_option maxHeartbeats 100000000 in
theorem e5_5 : grpL lit5 5 = true := by kernel_rfl
set_option maxHeartbeats 100000000 in
theorem c5 : flgN lit5 = true := by kernel_rfl
set_option maxHeartbeats 100000000 in
theorem p5 : lawP lit5 = true := by kernel_rfl
end Go.Proofs.YtjodpodmeobciaaGreatDoor.topFlags
