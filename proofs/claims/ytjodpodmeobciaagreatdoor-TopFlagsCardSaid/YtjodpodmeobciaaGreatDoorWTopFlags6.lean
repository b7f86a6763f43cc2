/- Runs of detenttop.TopFlags, of some numbers of tasks. Conditions: none. -/
import Derived.Test.YtjodpodmeobciaaGreatDoorUS
import Derived.KernelRfl
namespace Go.Proofs.YtjodpodmeobciaaGreatDoor.topFlags
open Go.Rsf Go.RowKit
set_option maxRecDepth 1000000
set_option maxHeartbeats 100000000 in
theorem f12_0 : grpF lit12 0 = true := by kernel_rfl
set_option maxHeartbeats 100000000 in
theorem f12_1 : grpF lit12 1 = true := by kernel_rfl
set_option maxHeartbeats 100000000 in
theorem f12_2 : grpF lit12 2 = true := by kernel_rfl
set_option maxHeartbeats 100000000 in
theorem f12_3 : grpF lit12 3 = true := by kernel_rfl
set_option maxHeartbeats 100000000 in
theorem f12_4 : grpF lit12 4 = true := by kernel_rfl
set_option maxHeartbeats 100000000 in
theorem f12_5 : grpF lit12 5 = true := by kernel_rfl
set_option maxHeartbeats 100000000 in
theorem f12_6 : grpF lit12 6 = true := by kernel_rfl
set_option maxHeartbeats 100000000 in
theorem f12_7 : grpF lit12 7 = true := by kernel_rfl
set_option maxHeartbeats 100000000 in
theorem f12_8 : grpF lit12 8 = true := by kernel_rfl
set_option maxHeartbeats 100000000 in
theorem f12_9 : grpF lit12 9 = true := by kernel_rfl
set_option maxHeartbeats 100000000 in
theorem f12_10 : grpF lit12 10 = true := by kernel_rfl
set_option maxHeartbeats 100000000 in
theorem f12_11 : grpF lit12 11 = true := by kernel_rfl
set_option maxHeartbeats 100000000 in
theorem f12_12 : grpF lit12 12 = true := by kernel_rfl
set_option maxHeartbeats 100000000 in
theorem f11_0 : grpF lit11 0 = true := by kernel_rfl
set_option maxHeartbeats 100000000 in
theorem f11_1 : grpF lit11 1 = true := by kernel_rfl
set_option maxHeartbeats 100000000 in
theorem f11_2 : grpF lit11 2 = true := by kernel_rfl
set_option maxHeartbeats 100000000 in
theorem f11_3 : grpF lit11 3 = true := by kernel_rfl
set_option maxHeartbeats 100000000 in
theorem f11_4 : grpF lit11 4 = true := by kernel_rfl
set_option maxHeartbeats 100000000 in
theorem f11_5 : grpF lit11 5 = true := by kernel_rfl
set_option maxHeartbeats 100000000 in
theorem f11_6 : grpF lit11 6 = true := by kernel_rfl
set_option maxHeartbeats 100000000 in
theorem f11_7 : grpF lit11 7 = true := by kernel_rfl
set_option maxHeartbeats 100000000 in
theorem f11_8 : grpF lit11 8 = true := by kernel_rfl
set_option maxHeartbeats 100000000 in
theorem f11_9 : grpF lit11 9 = true := by kernel_rfl
set_option maxHeartbeats 100000000 in
theorem f11_10 : grpF lit11 10 = true := by kernel_rfl
set_option maxHeartbeats 100000000 in
theorem f11_11 : grpF lit11 11 = true := by kernel_rfl
end Go.Proofs.YtjodpodmeobciaaGreatDoor.topFlags
