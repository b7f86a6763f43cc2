/- 'detentlaw24.ConfMany' answers true, whatever the kind and the number: the runs, one for each rest. Conditions: none. -/
import Derived.Test.YteiepbjajennkaaYD
import Derived.Test.YteiepbjajennkaaZGT
namespace Go.Proofs.Yteiepbjajennkaa.confMany
open Go.Rse Go.RowKit
set_option maxRecDepth 1000000
theorem run0_0 : callN xs 400 100 12 k12 [.v (.one (.lin .u8 6 0 (.ofNat 0))), .v (.one (.lin .u8 12 1 (.ofNat 0)))] ⟨.nil, .e, 0, 0, [⟨0, 42, 0⟩, ⟨0, 21, 0⟩]⟩ isT = true := by kernel_rfl
theorem run0_1 : callN xs 400 100 12 k12 [.v (.one (.lin .u8 6 0 (.ofNat 0))), .v (.one (.lin .u8 12 1 (.ofNat 1)))] ⟨.nil, .e, 0, 0, [⟨0, 42, 0⟩, ⟨0, 21, 0⟩]⟩ isT = true := by kernel_rfl
theorem run0_2 : callN xs 400 100 12 k12 [.v (.one (.lin .u8 6 0 (.ofNat 0))), .v (.one (.lin .u8 12 1 (.ofNat 2)))] ⟨.nil, .e, 0, 0, [⟨0, 42, 0⟩, ⟨0, 21, 0⟩]⟩ isT = true := by kernel_rfl
theorem run0_3 : callN xs 400 100 12 k12 [.v (.one (.lin .u8 6 0 (.ofNat 0))), .v (.one (.lin .u8 12 1 (.ofNat 3)))] ⟨.nil, .e, 0, 0, [⟨0, 42, 0⟩, ⟨0, 21, 0⟩]⟩ isT = true := by kernel_rfl
theorem run0_4 : callN xs 400 100 12 k12 [.v (.one (.lin .u8 6 0 (.ofNat 0))), .v (.one (.lin .u8 12 1 (.ofNat 4)))] ⟨.nil, .e, 0, 0, [⟨0, 42, 0⟩, ⟨0, 21, 0⟩]⟩ isT = true := by kernel_rfl
theorem run0_5 : callN xs 400 100 12 k12 [.v (.one (.lin .u8 6 0 (.ofNat 0))), .v (.one (.lin .u8 12 1 (.ofNat 5)))] ⟨.nil, .e, 0, 0, [⟨0, 42, 0⟩, ⟨0, 21, 0⟩]⟩ isT = true := by kernel_rfl
theorem run0_6 : callN xs 400 100 12 k12 [.v (.one (.lin .u8 6 0 (.ofNat 0))), .v (.one (.lin .u8 12 1 (.ofNat 6)))] ⟨.nil, .e, 0, 0, [⟨0, 42, 0⟩, ⟨0, 21, 0⟩]⟩ isT = true := by kernel_rfl
theorem run0_7 : callN xs 400 100 12 k12 [.v (.one (.lin .u8 6 0 (.ofNat 0))), .v (.one (.lin .u8 12 1 (.ofNat 7)))] ⟨.nil, .e, 0, 0, [⟨0, 42, 0⟩, ⟨0, 21, 0⟩]⟩ isT = true := by kernel_rfl
theorem run0_8 : callN xs 400 100 12 k12 [.v (.one (.lin .u8 6 0 (.ofNat 0))), .v (.one (.lin .u8 12 1 (.ofNat 8)))] ⟨.nil, .e, 0, 0, [⟨0, 42, 0⟩, ⟨0, 21, 0⟩]⟩ isT = true := by kernel_rfl
theorem run0_9 : callN xs 400 100 12 k12 [.v (.one (.lin .u8 6 0 (.ofNat 0))), .v (.one (.lin .u8 12 1 (.ofNat 9)))] ⟨.nil, .e, 0, 0, [⟨0, 42, 0⟩, ⟨0, 21, 0⟩]⟩ isT = true := by kernel_rfl
theorem run0_10 : callN xs 400 100 12 k12 [.v (.one (.lin .u8 6 0 (.ofNat 0))), .v (.one (.lin .u8 12 1 (.ofNat 10)))] ⟨.nil, .e, 0, 0, [⟨0, 42, 0⟩, ⟨0, 21, 0⟩]⟩ isT = true := by kernel_rfl
theorem run0_11 : callN xs 400 100 12 k12 [.v (.one (.lin .u8 6 0 (.ofNat 0))), .v (.one (.lin .u8 12 1 (.ofNat 11)))] ⟨.nil, .e, 0, 0, [⟨0, 42, 0⟩, ⟨0, 21, 0⟩]⟩ isT = true := by kernel_rfl
theorem run1_0 : callN xs 400 100 12 k12 [.v (.one (.lin .u8 6 0 (.ofNat 1))), .v (.one (.lin .u8 12 1 (.ofNat 0)))] ⟨.nil, .e, 0, 0, [⟨0, 42, 0⟩, ⟨0, 21, 0⟩]⟩ isT = true := by kernel_rfl
theorem run1_1 : callN xs 400 100 12 k12 [.v (.one (.lin .u8 6 0 (.ofNat 1))), .v (.one (.lin .u8 12 1 (.ofNat 1)))] ⟨.nil, .e, 0, 0, [⟨0, 42, 0⟩, ⟨0, 21, 0⟩]⟩ isT = true := by kernel_rfl
theorem run1_2 : callN xs 400 100 12 k12 [.v (.one (.lin .u8 6 0 (.ofNat 1))), .v (.one (.lin .u8 12 1 (.ofNat 2)))] ⟨.nil, .e, 0, 0, [⟨0, 42, 0⟩, ⟨0, 21, 0⟩]⟩ isT = true := by kernel_rfl
theorem run1_3 : callN xs 400 100 12 k12 [.v (.one (.lin .u8 6 0 (.ofNat 1))), .v (.one (.lin .u8 12 1 (.ofNat 3)))] ⟨.nil, .e, 0, 0, [⟨0, 42, 0⟩, ⟨0, 21, 0⟩]⟩ isT = true := by kernel_rfl
theorem run1_4 : callN xs 400 100 12 k12 [.v (.one (.lin .u8 6 0 (.ofNat 1))), .v (.one (.lin .u8 12 1 (.ofNat 4)))] ⟨.nil, .e, 0, 0, [⟨0, 42, 0⟩, ⟨0, 21, 0⟩]⟩ isT = true := by kernel_rfl
theorem run1_5 : callN xs 400 100 12 k12 [.v (.one (.lin .u8 6 0 (.ofNat 1))), .v (.one (.lin .u8 12 1 (.ofNat 5)))] ⟨.nil, .e, 0, 0, [⟨0, 42, 0⟩, ⟨0, 21, 0⟩]⟩ isT = true := by kernel_rfl
theorem run1_6 : callN xs 400 100 12 k12 [.v (.one (.lin .u8 6 0 (.ofNat 1))), .v (.one (.lin .u8 12 1 (.ofNat 6)))] ⟨.nil, .e, 0, 0, [⟨0, 42, 0⟩, ⟨0, 21, 0⟩]⟩ isT = true := by kernel_rfl
theorem run1_7 : callN xs 400 100 12 k12 [.v (.one (.lin .u8 6 0 (.ofNat 1))), .v (.one (.lin .u8 12 1 (.ofNat 7)))] ⟨.nil, .e, 0, 0, [⟨0, 42, 0⟩, ⟨0, 21, 0⟩]⟩ isT = true := by kernel_rfl
theorem run1_8 : callN xs 400 100 12 k12 [.v (.one (.lin .u8 6 0 (.ofNat 1))), .v (.one (.lin .u8 12 1 (.ofNat 8)))] ⟨.nil, .e, 0, 0, [⟨0, 42, 0⟩, ⟨0, 21, 0⟩]⟩ isT = true := by kernel_rfl
theorem run1_9 : callN xs 400 100 12 k12 [.v (.one (.lin .u8 6 0 (.ofNat 1))), .v (.one (.lin .u8 12 1 (.ofNat 9)))] ⟨.nil, .e, 0, 0, [⟨0, 42, 0⟩, ⟨0, 21, 0⟩]⟩ isT = true := by kernel_rfl
theorem run1_10 : callN xs 400 100 12 k12 [.v (.one (.lin .u8 6 0 (.ofNat 1))), .v (.one (.lin .u8 12 1 (.ofNat 10)))] ⟨.nil, .e, 0, 0, [⟨0, 42, 0⟩, ⟨0, 21, 0⟩]⟩ isT = true := by kernel_rfl
theorem run1_11 : callN xs 400 100 12 k12 [.v (.one (.lin .u8 6 0 (.ofNat 1))), .v (.one (.lin .u8 12 1 (.ofNat 11)))] ⟨.nil, .e, 0, 0, [⟨0, 42, 0⟩, ⟨0, 21, 0⟩]⟩ isT = true := by kernel_rfl
theorem run2_0 : callN xs 400 100 12 k12 [.v (.one (.lin .u8 6 0 (.ofNat 2))), .v (.one (.lin .u8 12 1 (.ofNat 0)))] ⟨.nil, .e, 0, 0, [⟨0, 42, 0⟩, ⟨0, 21, 0⟩]⟩ isT = true := by kernel_rfl
theorem run2_1 : callN xs 400 100 12 k12 [.v (.one (.lin .u8 6 0 (.ofNat 2))), .v (.one (.lin .u8 12 1 (.ofNat 1)))] ⟨.nil, .e, 0, 0, [⟨0, 42, 0⟩, ⟨0, 21, 0⟩]⟩ isT = true := by kernel_rfl
theorem run2_2 : callN xs 400 100 12 k12 [.v (.one (.lin .u8 6 0 (.ofNat 2))), .v (.one (.lin .u8 12 1 (.ofNat 2)))] ⟨.nil, .e, 0, 0, [⟨0, 42, 0⟩, ⟨0, 21, 0⟩]⟩ isT = true := by kernel_rfl
theorem run2_3 : callN xs 400 100 12 k12 [.v (.one (.lin .u8 6 0 (.ofNat 2))), .v (.one (.lin .u8 12 1 (.ofNat 3)))] ⟨.nil, .e, 0, 0, [⟨0, 42, 0⟩, ⟨0, 21, 0⟩]⟩ isT = true := by kernel_rfl
theorem run2_4 : callN xs 400 100 12 k12 [.v (.one (.lin .u8 6 0 (.ofNat 2))), .v (.one (.lin .u8 12 1 (.ofNat 4)))] ⟨.nil, .e, 0, 0, [⟨0, 42, 0⟩, ⟨0, 21, 0⟩]⟩ isT = true := by kernel_rfl
theorem run2_5 : callN xs 400 100 12 k12 [.v (.one (.lin .u8 6 0 (.ofNat 2))), .v (.one (.lin .u8 12 1 (.ofNat 5)))] ⟨.nil, .e, 0, 0, [⟨0, 42, 0⟩, ⟨0, 21, 0⟩]⟩ isT = true := by kernel_rfl
theorem run2_6 : callN xs 400 100 12 k12 [.v (.one (.lin .u8 6 0 (.ofNat 2))), .v (.one (.lin .u8 12 1 (.ofNat 6)))] ⟨.nil, .e, 0, 0, [⟨0, 42, 0⟩, ⟨0, 21, 0⟩]⟩ isT = true := by kernel_rfl
theorem run2_7 : callN xs 400 100 12 k12 [.v (.one (.lin .u8 6 0 (.ofNat 2))), .v (.one (.lin .u8 12 1 (.ofNat 7)))] ⟨.nil, .e, 0, 0, [⟨0, 42, 0⟩, ⟨0, 21, 0⟩]⟩ isT = true := by kernel_rfl
theorem run2_8 : callN xs 400 100 12 k12 [.v (.one (.lin .u8 6 0 (.ofNat 2))), .v (.one (.lin .u8 12 1 (.ofNat 8)))] ⟨.nil, .e, 0, 0, [⟨0, 42, 0⟩, ⟨0, 21, 0⟩]⟩ isT = true := by kernel_rfl
theorem run2_9 : callN xs 400 100 12 k12 [.v (.one (.lin .u8 6 0 (.ofNat 2))), .v (.one (.lin .u8 12 1 (.ofNat 9)))] ⟨.nil, .e, 0, 0, [⟨0, 42, 0⟩, ⟨0, 21, 0⟩]⟩ isT = true := by kernel_rfl
theorem run2_10 : callN xs 400 100 12 k12 [.v (.one (.lin .u8 6 0 (.ofNat 2))), .v (.one (.lin .u8 12 1 (.ofNat 10)))] ⟨.nil, .e, 0, 0, [⟨0, 42, 0⟩, ⟨0, 21, 0⟩]⟩ isT = true := by kernel_rfl
theorem run2_11 : callN xs 400 100 12 k12 [.v (.one (.lin .u8 6 0 (.ofNat 2))), .v (.one (.lin .u8 12 1 (.ofNat 11)))] ⟨.nil, .e, 0, 0, [⟨0, 42, 0⟩, ⟨0, 21, 0⟩]⟩ isT = true := by kernel_rfl
theorem run3_0 : callN xs 400 100 12 k12 [.v (.one (.lin .u8 6 0 (.ofNat 3))), .v (.one (.lin .u8 12 1 (.ofNat 0)))] ⟨.nil, .e, 0, 0, [⟨0, 42, 0⟩, ⟨0, 21, 0⟩]⟩ isT = true := by kernel_rfl
theorem run3_1 : callN xs 400 100 12 k12 [.v (.one (.lin .u8 6 0 (.ofNat 3))), .v (.one (.lin .u8 12 1 (.ofNat 1)))] ⟨.nil, .e, 0, 0, [⟨0, 42, 0⟩, ⟨0, 21, 0⟩]⟩ isT = true := by kernel_rfl
theorem run3_2 : callN xs 400 100 12 k12 [.v (.one (.lin .u8 6 0 (.ofNat 3))), .v (.one (.lin .u8 12 1 (.ofNat 2)))] ⟨.nil, .e, 0, 0, [⟨0, 42, 0⟩, ⟨0, 21, 0⟩]⟩ isT = true := by kernel_rfl
theorem run3_3 : callN xs 400 100 12 k12 [.v (.one (.lin .u8 6 0 (.ofNat 3))), .v (.one (.lin .u8 12 1 (.ofNat 3)))] ⟨.nil, .e, 0, 0, [⟨0, 42, 0⟩, ⟨0, 21, 0⟩]⟩ isT = true := by kernel_rfl
theorem run3_4 : callN xs 400 100 12 k12 [.v (.one (.lin .u8 6 0 (.ofNat 3))), .v (.one (.lin .u8 12 1 (.ofNat 4)))] ⟨.nil, .e, 0, 0, [⟨0, 42, 0⟩, ⟨0, 21, 0⟩]⟩ isT = true := by kernel_rfl
theorem run3_5 : callN xs 400 100 12 k12 [.v (.one (.lin .u8 6 0 (.ofNat 3))), .v (.one (.lin .u8 12 1 (.ofNat 5)))] ⟨.nil, .e, 0, 0, [⟨0, 42, 0⟩, ⟨0, 21, 0⟩]⟩ isT = true := by kernel_rfl
theorem run3_6 : callN xs 400 100 12 k12 [.v (.one (.lin .u8 6 0 (.ofNat 3))), .v (.one (.lin .u8 12 1 (.ofNat 6)))] ⟨.nil, .e, 0, 0, [⟨0, 42, 0⟩, ⟨0, 21, 0⟩]⟩ isT = true := by kernel_rfl
theorem run3_7 : callN xs 400 100 12 k12 [.v (.one (.lin .u8 6 0 (.ofNat 3))), .v (.one (.lin .u8 12 1 (.ofNat 7)))] ⟨.nil, .e, 0, 0, [⟨0, 42, 0⟩, ⟨0, 21, 0⟩]⟩ isT = true := by kernel_rfl
theorem run3_8 : callN xs 400 100 12 k12 [.v (.one (.lin .u8 6 0 (.ofNat 3))), .v (.one (.lin .u8 12 1 (.ofNat 8)))] ⟨.nil, .e, 0, 0, [⟨0, 42, 0⟩, ⟨0, 21, 0⟩]⟩ isT = true := by kernel_rfl
theorem run3_9 : callN xs 400 100 12 k12 [.v (.one (.lin .u8 6 0 (.ofNat 3))), .v (.one (.lin .u8 12 1 (.ofNat 9)))] ⟨.nil, .e, 0, 0, [⟨0, 42, 0⟩, ⟨0, 21, 0⟩]⟩ isT = true := by kernel_rfl
theorem run3_10 : callN xs 400 100 12 k12 [.v (.one (.lin .u8 6 0 (.ofNat 3))), .v (.one (.lin .u8 12 1 (.ofNat 10)))] ⟨.nil, .e, 0, 0, [⟨0, 42, 0⟩, ⟨0, 21, 0⟩]⟩ isT = true := by kernel_rfl
theorem run3_11 : callN xs 400 100 12 k12 [.v (.one (.lin .u8 6 0 (.ofNat 3))), .v (.one (.lin .u8 12 1 (.ofNat 11)))] ⟨.nil, .e, 0, 0, [⟨0, 42, 0⟩, ⟨0, 21, 0⟩]⟩ isT = true := by kernel_rfl
theorem run4_0 : callN xs 400 100 12 k12 [.v (.one (.lin .u8 6 0 (.ofNat 4))), .v (.one (.lin .u8 12 1 (.ofNat 0)))] ⟨.nil, .e, 0, 0, [⟨0, 42, 0⟩, ⟨0, 21, 0⟩]⟩ isT = true := by kernel_rfl
theorem run4_1 : callN xs 400 100 12 k12 [.v (.one (.lin .u8 6 0 (.ofNat 4))), .v (.one (.lin .u8 12 1 (.ofNat 1)))] ⟨.nil, .e, 0, 0, [⟨0, 42, 0⟩, ⟨0, 21, 0⟩]⟩ isT = true := by kernel_rfl
theorem run4_2 : callN xs 400 100 12 k12 [.v (.one (.lin .u8 6 0 (.ofNat 4))), .v (.one (.lin .u8 12 1 (.ofNat 2)))] ⟨.nil, .e, 0, 0, [⟨0, 42, 0⟩, ⟨0, 21, 0⟩]⟩ isT = true := by kernel_rfl
theorem run4_3 : callN xs 400 100 12 k12 [.v (.one (.lin .u8 6 0 (.ofNat 4))), .v (.one (.lin .u8 12 1 (.ofNat 3)))] ⟨.nil, .e, 0, 0, [⟨0, 42, 0⟩, ⟨0, 21, 0⟩]⟩ isT = true := by kernel_rfl
theorem run4_4 : callN xs 400 100 12 k12 [.v (.one (.lin .u8 6 0 (.ofNat 4))), .v (.one (.lin .u8 12 1 (.ofNat 4)))] ⟨.nil, .e, 0, 0, [⟨0, 42, 0⟩, ⟨0, 21, 0⟩]⟩ isT = true := by kernel_rfl
theorem run4_5 : callN xs 400 100 12 k12 [.v (.one (.lin .u8 6 0 (.ofNat 4))), .v (.one (.lin .u8 12 1 (.ofNat 5)))] ⟨.nil, .e, 0, 0, [⟨0, 42, 0⟩, ⟨0, 21, 0⟩]⟩ isT = true := by kernel_rfl
theorem run4_6 : callN xs 400 100 12 k12 [.v (.one (.lin .u8 6 0 (.ofNat 4))), .v (.one (.lin .u8 12 1 (.ofNat 6)))] ⟨.nil, .e, 0, 0, [⟨0, 42, 0⟩, ⟨0, 21, 0⟩]⟩ isT = true := by kernel_rfl
theorem run4_7 : callN xs 400 100 12 k12 [.v (.one (.lin .u8 6 0 (.ofNat 4))), .v (.one (.lin .u8 12 1 (.ofNat 7)))] ⟨.nil, .e, 0, 0, [⟨0, 42, 0⟩, ⟨0, 21, 0⟩]⟩ isT = true := by kernel_rfl
theorem run4_8 : callN xs 400 100 12 k12 [.v (.one (.lin .u8 6 0 (.ofNat 4))), .v (.one (.lin .u8 12 1 (.ofNat 8)))] ⟨.nil, .e, 0, 0, [⟨0, 42, 0⟩, ⟨0, 21, 0⟩]⟩ isT = true := by kernel_rfl
theorem run4_9 : callN xs 400 100 12 k12 [.v (.one (.lin .u8 6 0 (.ofNat 4))), .v (.one (.lin .u8 12 1 (.ofNat 9)))] ⟨.nil, .e, 0, 0, [⟨0, 42, 0⟩, ⟨0, 21, 0⟩]⟩ isT = true := by kernel_rfl
theorem run4_10 : callN xs 400 100 12 k12 [.v (.one (.lin .u8 6 0 (.ofNat 4))), .v (.one (.lin .u8 12 1 (.ofNat 10)))] ⟨.nil, .e, 0, 0, [⟨0, 42, 0⟩, ⟨0, 21, 0⟩]⟩ isT = true := by kernel_rfl
theorem run4_11 : callN xs 400 100 12 k12 [.v (.one (.lin .u8 6 0 (.ofNat 4))), .v (.one (.lin .u8 12 1 (.ofNat 11)))] ⟨.nil, .e, 0, 0, [⟨0, 42, 0⟩, ⟨0, 21, 0⟩]⟩ isT = true := by kernel_rfl
theorem run5_0 : callN xs 400 100 12 k12 [.v (.one (.lin .u8 6 0 (.ofNat 5))), .v (.one (.lin .u8 12 1 (.ofNat 0)))] ⟨.nil, .e, 0, 0, [⟨0, 42, 0⟩, ⟨0, 21, 0⟩]⟩ isT = true := by kernel_rfl
theorem run5_1 : callN xs 400 100 12 k12 [.v (.one (.lin .u8 6 0 (.ofNat 5))), .v (.one (.lin .u8 12 1 (.ofNat 1)))] ⟨.nil, .e, 0, 0, [⟨0, 42, 0⟩, ⟨0, 21, 0⟩]⟩ isT = true := by kernel_rfl
theorem run5_2 : callN xs 400 100 12 k12 [.v (.one (.lin .u8 6 0 (.ofNat 5))), .v (.one (.lin .u8 12 1 (.ofNat 2)))] ⟨.nil, .e, 0, 0, [⟨0, 42, 0⟩, ⟨0, 21, 0⟩]⟩ isT = true := by kernel_rfl
theorem run5_3 : callN xs 400 100 12 k12 [.v (.one (.lin .u8 6 0 (.ofNat 5))), .v (.one (.lin .u8 12 1 (.ofNat 3)))] ⟨.nil, .e, 0, 0, [⟨0, 42, 0⟩, ⟨0, 21, 0⟩]⟩ isT = true := by kernel_rfl
theorem run5_4 : callN xs 400 100 12 k12 [.v (.one (.lin .u8 6 0 (.ofNat 5))), .v (.one (.lin .u8 12 1 (.ofNat 4)))] ⟨.nil, .e, 0, 0, [⟨0, 42, 0⟩, ⟨0, 21, 0⟩]⟩ isT = true := by kernel_rfl
theorem run5_5 : callN xs 400 100 12 k12 [.v (.one (.lin .u8 6 0 (.ofNat 5))), .v (.one (.lin .u8 12 1 (.ofNat 5)))] ⟨.nil, .e, 0, 0, [⟨0, 42, 0⟩, ⟨0, 21, 0⟩]⟩ isT = true := by kernel_rfl
theorem run5_6 : callN xs 400 100 12 k12 [.v (.one (.lin .u8 6 0 (.ofNat 5))), .v (.one (.lin .u8 12 1 (.ofNat 6)))] ⟨.nil, .e, 0, 0, [⟨0, 42, 0⟩, ⟨0, 21, 0⟩]⟩ isT = true := by kernel_rfl
theorem run5_7 : callN xs 400 100 12 k12 [.v (.one (.lin .u8 6 0 (.ofNat 5))), .v (.one (.lin .u8 12 1 (.ofNat 7)))] ⟨.nil, .e, 0, 0, [⟨0, 42, 0⟩, ⟨0, 21, 0⟩]⟩ isT = true := by kernel_rfl
theorem run5_8 : callN xs 400 100 12 k12 [.v (.one (.lin .u8 6 0 (.ofNat 5))), .v (.one (.lin .u8 12 1 (.ofNat 8)))] ⟨.nil, .e, 0, 0, [⟨0, 42, 0⟩, ⟨0, 21, 0⟩]⟩ isT = true := by kernel_rfl
theorem run5_9 : callN xs 400 100 12 k12 [.v (.one (.lin .u8 6 0 (.ofNat 5))), .v (.one (.lin .u8 12 1 (.ofNat 9)))] ⟨.nil, .e, 0, 0, [⟨0, 42, 0⟩, ⟨0, 21, 0⟩]⟩ isT = true := by kernel_rfl
theorem run5_10 : callN xs 400 100 12 k12 [.v (.one (.lin .u8 6 0 (.ofNat 5))), .v (.one (.lin .u8 12 1 (.ofNat 10)))] ⟨.nil, .e, 0, 0, [⟨0, 42, 0⟩, ⟨0, 21, 0⟩]⟩ isT = true := by kernel_rfl
theorem run5_11 : callN xs 400 100 12 k12 [.v (.one (.lin .u8 6 0 (.ofNat 5))), .v (.one (.lin .u8 12 1 (.ofNat 11)))] ⟨.nil, .e, 0, 0, [⟨0, 42, 0⟩, ⟨0, 21, 0⟩]⟩ isT = true := by kernel_rfl
theorem hmix : Try.prog.follows .mixedOrders = true := by kernel_rfl
theorem walk (a0 a1 : Int) (W : World) (w0 : (Lit.int .u8 a0).wf = true) (w1 : (Lit.int .u8 a1).wf = true) : Calls Try.prog 12 #[.int .u8 a0, .int .u8 a1] W fun e W' => e = .returned (.bool true) ∧ Below W.heap.size W W' := by
  have hb0 := u8_bounds w0
  have hb1 := u8_bounds w1
  have go : ∀ r q : Nat, callN xs 400 100 12 k12 [.v (.one (.lin .u8 6 0 (.ofNat r))), .v (.one (.lin .u8 12 1 (.ofNat q)))] ⟨.nil, .e, 0, 0, [⟨0, 42, 0⟩, ⟨0, 21, 0⟩]⟩ isT = true → a0 % 6 = (r : Int) → a1 % 12 = (q : Int) → Calls Try.prog 12 #[.int .u8 a0, .int .u8 a1] W (fun e W' => e = .returned (.bool true) ∧ Below W.heap.size W W') := fun r q hr h h' =>
    run_law0 hmix xs_get (p := k12) rfl hr (fun i => if i = 0 then a0 / 6 else a1 / 12) (iv_two (by show 0 ≤ a0 / 6 ∧ a0 / 6 ≤ 42; omega) (by show 0 ≤ a1 / 12 ∧ a1 / 12 ≤ 21; omega)) W (vals := [.int .u8 a0, .int .u8 a1]) ⟨lin_ok rfl h, lin_ok rfl h', trivial⟩
  have hm : a0 % 6 = 0 ∨ a0 % 6 = 1 ∨ a0 % 6 = 2 ∨ a0 % 6 = 3 ∨ a0 % 6 = 4 ∨ a0 % 6 = 5 := by omega
  have hn : a1 % 12 = 0 ∨ a1 % 12 = 1 ∨ a1 % 12 = 2 ∨ a1 % 12 = 3 ∨ a1 % 12 = 4 ∨ a1 % 12 = 5 ∨ a1 % 12 = 6 ∨ a1 % 12 = 7 ∨ a1 % 12 = 8 ∨ a1 % 12 = 9 ∨ a1 % 12 = 10 ∨ a1 % 12 = 11 := by omega
  rcases hm with h | h | h | h | h | h
  · rcases hn with h2 | h2 | h2 | h2 | h2 | h2 | h2 | h2 | h2 | h2 | h2 | h2
    · exact go 0 0 run0_0 h h2
    · exact go 0 1 run0_1 h h2
    · exact go 0 2 run0_2 h h2
    · exact go 0 3 run0_3 h h2
    · exact go 0 4 run0_4 h h2
    · exact go 0 5 run0_5 h h2
    · exact go 0 6 run0_6 h h2
    · exact go 0 7 run0_7 h h2
    · exact go 0 8 run0_8 h h2
    · exact go 0 9 run0_9 h h2
    · exact go 0 10 run0_10 h h2
    · exact go 0 11 run0_11 h h2
  · rcases hn with h2 | h2 | h2 | h2 | h2 | h2 | h2 | h2 | h2 | h2 | h2 | h2
    · exact go 1 0 run1_0 h h2
    · exact go 1 1 run1_1 h h2
    · exact go 1 2 run1_2 h h2
    · exact go 1 3 run1_3 h h2
    · exact go 1 4 run1_4 h h2
    · exact go 1 5 run1_5 h h2
    · exact go 1 6 run1_6 h h2
    · exact go 1 7 run1_7 h h2
    · exact go 1 8 run1_8 h h2
    · exact go 1 9 run1_9 h h2
    · exact go 1 10 run1_10 h h2
    · exact go 1 11 run1_11 h h2
  · rcases hn with h2 | h2 | h2 | h2 | h2 | h2 | h2 | h2 | h2 | h2 | h2 | h2
    · exact go 2 0 run2_0 h h2
    · exact go 2 1 run2_1 h h2
    · exact go 2 2 run2_2 h h2
    · exact go 2 3 run2_3 h h2
    · exact go 2 4 run2_4 h h2
    · exact go 2 5 run2_5 h h2
    · exact go 2 6 run2_6 h h2
    · exact go 2 7 run2_7 h h2
    · exact go 2 8 run2_8 h h2
    · exact go 2 9 run2_9 h h2
    · exact go 2 10 run2_10 h h2
    · exact go 2 11 run2_11 h h2
  · rcases hn with h2 | h2 | h2 | h2 | h2 | h2 | h2 | h2 | h2 | h2 | h2 | h2
    · exact go 3 0 run3_0 h h2
    · exact go 3 1 run3_1 h h2
    · exact go 3 2 run3_2 h h2
    · exact go 3 3 run3_3 h h2
    · exact go 3 4 run3_4 h h2
    · exact go 3 5 run3_5 h h2
    · exact go 3 6 run3_6 h h2
    · exact go 3 7 run3_7 h h2
    · exact go 3 8 run3_8 h h2
    · exact go 3 9 run3_9 h h2
    · exact go 3 10 run3_10 h h2
    · exact go 3 11 run3_11 h h2
  · rcases hn with h2 | h2 | h2 | h2 | h2 | h2 | h2 | h2 | h2 | h2 | h2 | h2
    · exact go 4 0 run4_0 h h2
    · exact go 4 1 run4_1 h h2
    · exact go 4 2 run4_2 h h2
    · exact go 4 3 run4_3 h h2
    · exact go 4 4 run4_4 h h2
    · exact go 4 5 run4_5 h h2
    · exact go 4 6 run4_6 h h2
    · exact go 4 7 run4_7 h h2
    · exact go 4 8 run4_8 h h2
    · exact go 4 9 run4_9 h h2
    · exact go 4 10 run4_10 h h2
    · exact go 4 11 run4_11 h h2
  · rcases hn with h2 | h2 | h2 | h2 | h2 | h2 | h2 | h2 | h2 | h2 | h2 | h2
    · exact go 5 0 run5_0 h h2
    · exact go 5 1 run5_1 h h2
    · exact go 5 2 run5_2 h h2
    · exact go 5 3 run5_3 h h2
    · exact go 5 4 run5_4 h h2
    · exact go 5 5 run5_5 h h2
    · exact go 5 6 run5_6 h h2
    · exact go 5 7 run5_7 h h2
    · exact go 5 8 run5_8 h h2
    · exact go 5 9 run5_9 h h2
    · exact go 5 10 run5_10 h h2
    · exact go 5 11 run5_11 h h2
end Go.Proofs.Yteiepbjajennkaa.confMany
