/- Runs of detenttop.TopFlags, of some numbers of tasks. Conditions: none. -/
import Derived.Test.YtjodpodmeobciaaGreatDoorUS
import Derived.KernelRfl
namespace Go.Proofs.YtjodpodmeobciaaGreatDoor.topFlags
open Go.Rsf Go.RowKit
set_option maxRecDepth 1000000
set_option maxHeartbeats 100000000 in
theorem r11_0 : grpR lit11 0 8 = true := by kernel_rfl
set_option maxHeartbeats 100000000 in
theorem r11_8 : grpR lit11 8 4 = true := by kernel_rfl
set_option maxHeartbeats 100000000 in
theorem e11_0 : grpL lit11 0 = true := by kernel_rfl
set_option maxHeartbeats 100000000 in
theorem e11_1 : grpL lit11 1 = true := by kernel_rfl
set_option maxHeartbeats 100000000 in
theorem e11_2 : grpL lit11 2 = true := by kernel_rfl
set_option maxHeartbeats 100000000 in
theorem e11_3 : grpL lit11 3 = true := by kernel_rfl
set_option maxHeartbeats 100000000 in
theorem e11_4 : grpL lit11 4 = true := by kernel_rfl
set_option maxHeartbeats 100000000 in
theorem e11_5 : grpL lit11 5 = true := by kernel_rfl
set_option maxHeartbeats 100000000 in
theorem e11_6 : grpL lit11 6 = true := by kernel_rfl
set_option maxHeartbeats 100000000 in
theorem e11_7 : grpL lit11 7 = true := by kernel_rfl
set_option maxHeartbeats 100000000 in
theorem e11_8 : grpL lit11 8 = true := by kernel_rfl
set_option maxHeartbeats 100000000 in
theorem e11_9 : grpL lit11 9 = true := by kernel_rfl
set_option maxHeartbeats 100000000 in
theorem e11_10 : grpL lit11 10 = true := by kernel_rfl
set_option maxHeartbeats 100000000 in
theorem e11_11 : grpL lit11 11 = true := by kernel_rfl
set_option maxHeartbeats 100000000 in
theorem c11 : flgN lit11 = true := by kernel_rfl
set_option maxHeartbeats 100000000 in
theorem p11 : lawP lit11 = true := by kernel_rfl
set_option maxHeartbeats 100000000 in
theorem r9_0 : grpR lit9 0 8 = true := by kernel_rfl
set_option maxHeartbeats 100000000 in
theorem r9_8 : grpR lit9 8 2 = true := by kernel_rfl
set_option maxHeartbeats 100000000 in
theorem e9_0 : grpL lit9 0 = true := by kernel_rfl
set_option maxHeartbeats 100000000 in
theorem e9_1 : grpL lit9 1 = true := by kernel_rfl
set_option maxHeartbeats 100000000 in
theorem e9_2 : grpL lit9 2 = true := by kernel_rfl
set_option maxHeartbeats 100000000 in
theorem e9_3 : grpL lit9 3 = true := by kernel_rfl
set_option maxHeartbeats 100000000 in
theorem e9_4 : grpL lit9 4 = true := by kernel_rfl
set_option maxHeartbeats 100000000 in
theorem e9_5 : grpL lit9 5 = true := by kernel_rfl
set_option maxHeartbeats 100000000 in
theorem e9_6 : grpL lit9 6 = true := by kernel_rfl
set_option maxHeartbeats 100000000 in
theorem e9_7 : grpL lit9 7 = true := by kernel_rfl
set_option maxHeartbeats 100000000 in
theorem e9_8 : grpL lit9 8 = true := by kernel_rfl
set_option maxHeartbeats 100000000 in
theorem e9_9 : grpL lit9 9 = true := by kernel_rfl
set_option maxHeartbeats 100000000 in
theorem c9 : flgN lit9 = true := by kernel_rfl
set_option maxHeartbeats 100000000 in
theorem p9 : lawP lit9 = true := by kernel_rfl
end Go.Proofs.YtjodpodmeobciaaGreatDoor.topFlags
