/- 'detenttop.TopSuspends' answers true, whatever the number and the two bools: the runs, one for each rest by seven and each bool. Conditions: the table holds what the program's text lays. -/
import Derived.Test.YtjodpodmeobciaaGreatDoorYD
import Derived.Test.YtjodpodmeobciaaGreatDoorZL
namespace Go.Proofs.YtjodpodmeobciaaGreatDoor.topSuspends
open Go.Rse Go.RowKit
set_option maxRecDepth 1000000
theorem run0_false_false : callN xs 400 100 7 k7 [.v (.one (.lin .u8 7 0 (.ofNat 0))), .v (.one (.bool false)), .v (.one (.bool false))] (st0 tab [(0, 36)]) isT = true := by kernel_rfl
theorem run0_false_true : callN xs 400 100 7 k7 [.v (.one (.lin .u8 7 0 (.ofNat 0))), .v (.one (.bool false)), .v (.one (.bool true))] (st0 tab [(0, 36)]) isT = true := by kernel_rfl
theorem run0_true_false : callN xs 400 100 7 k7 [.v (.one (.lin .u8 7 0 (.ofNat 0))), .v (.one (.bool true)), .v (.one (.bool false))] (st0 tab [(0, 36)]) isT = true := by kernel_rfl
theorem run0_true_true : callN xs 400 100 7 k7 [.v (.one (.lin .u8 7 0 (.ofNat 0))), .v (.one (.bool true)), .v (.one (.bool true))] (st0 tab [(0, 36)]) isT = true := by kernel_rfl
theorem run1_false_false : callN xs 400 100 7 k7 [.v (.one (.lin .u8 7 0 (.ofNat 1))), .v (.one (.bool false)), .v (.one (.bool false))] (st0 tab [(0, 36)]) isT = true := by kernel_rfl
theorem run1_false_true : callN xs 400 100 7 k7 [.v (.one (.lin .u8 7 0 (.ofNat 1))), .v (.one (.bool false)), .v (.one (.bool true))] (st0 tab [(0, 36)]) isT = true := by kernel_rfl
theorem run1_true_false : callN xs 400 100 7 k7 [.v (.one (.lin .u8 7 0 (.ofNat 1))), .v (.one (.bool true)), .v (.one (.bool false))] (st0 tab [(0, 36)]) isT = true := by kernel_rfl
theorem run1_true_true : callN xs 400 100 7 k7 [.v (.one (.lin .u8 7 0 (.ofNat 1))), .v (.one (.bool true)), .v (.one (.bool true))] (st0 tab [(0, 36)]) isT = true := by kernel_rfl
theorem run2_false_false : callN xs 400 100 7 k7 [.v (.one (.lin .u8 7 0 (.ofNat 2))), .v (.one (.bool false)), .v (.one (.bool false))] (st0 tab [(0, 36)]) isT = true := by kernel_rfl
theorem run2_false_true : callN xs 400 100 7 k7 [.v (.one (.lin .u8 7 0 (.ofNat 2))), .v (.one (.bool false)), .v (.one (.bool true))] (st0 tab [(0, 36)]) isT = true := by kernel_rfl
theorem run2_true_false : callN xs 400 100 7 k7 [.v (.one (.lin .u8 7 0 (.ofNat 2))), .v (.one (.bool true)), .v (.one (.bool false))] (st0 tab [(0, 36)]) isT = true := by kernel_rfl
theorem run2_true_true : callN xs 400 100 7 k7 [.v (.one (.lin .u8 7 0 (.ofNat 2))), .v (.one (.bool true)), .v (.one (.bool true))] (st0 tab [(0, 36)]) isT = true := by kernel_rfl
theorem run3_false_false : callN xs 400 100 7 k7 [.v (.one (.lin .u8 7 0 (.ofNat 3))), .v (.one (.bool false)), .v (.one (.bool false))] (st0 tab [(0, 36)]) isT = true := by kernel_rfl
theorem run3_false_true : callN xs 400 100 7 k7 [.v (.one (.lin .u8 7 0 (.ofNat 3))), .v (.one (.bool false)), .v (.one (.bool true))] (st0 tab [(0, 36)]) isT = true := by kernel_rfl
theorem run3_true_false : callN xs 400 100 7 k7 [.v (.one (.lin .u8 7 0 (.ofNat 3))), .v (.one (.bool true)), .v (.one (.bool false))] (st0 tab [(0, 36)]) isT = true := by kernel_rfl
theorem run3_true_true : callN xs 400 100 7 k7 [.v (.one (.lin .u8 7 0 (.ofNat 3))), .v (.one (.bool true)), .v (.one (.bool true))] (st0 tab [(0, 36)]) isT = true := by kernel_rfl
theorem run4_false_false : callN xs 400 100 7 k7 [.v (.one (.lin .u8 7 0 (.ofNat 4))), .v (.one (.bool false)), .v (.one (.bool false))] (st0 tab [(0, 36)]) isT = true := by kernel_rfl
theorem run4_false_true : callN xs 400 100 7 k7 [.v (.one (.lin .u8 7 0 (.ofNat 4))), .v (.one (.bool false)), .v (.one (.bool true))] (st0 tab [(0, 36)]) isT = true := by kernel_rfl
theorem run4_true_false : callN xs 400 100 7 k7 [.v (.one (.lin .u8 7 0 (.ofNat 4))), .v (.one (.bool true)), .v (.one (.bool false))] (st0 tab [(0, 36)]) isT = true := by kernel_rfl
theorem run4_true_true : callN xs 400 100 7 k7 [.v (.one (.lin .u8 7 0 (.ofNat 4))), .v (.one (.bool true)), .v (.one (.bool true))] (st0 tab [(0, 36)]) isT = true := by kernel_rfl
theorem run5_false_false : callN xs 400 100 7 k7 [.v (.one (.lin .u8 7 0 (.ofNat 5))), .v (.one (.bool false)), .v (.one (.bool false))] (st0 tab [(0, 36)]) isT = true := by kernel_rfl
theorem run5_false_true : callN xs 400 100 7 k7 [.v (.one (.lin .u8 7 0 (.ofNat 5))), .v (.one (.bool false)), .v (.one (.bool true))] (st0 tab [(0, 36)]) isT = true := by kernel_rfl
theorem run5_true_false : callN xs 400 100 7 k7 [.v (.one (.lin .u8 7 0 (.ofNat 5))), .v (.one (.bool true)), .v (.one (.bool false))] (st0 tab [(0, 36)]) isT = true := by kernel_rfl
theorem run5_true_true : callN xs 400 100 7 k7 [.v (.one (.lin .u8 7 0 (.ofNat 5))), .v (.one (.bool true)), .v (.one (.bool true))] (st0 tab [(0, 36)]) isT = true := by kernel_rfl
theorem run6_false_false : callN xs 400 100 7 k7 [.v (.one (.lin .u8 7 0 (.ofNat 6))), .v (.one (.bool false)), .v (.one (.bool false))] (st0 tab [(0, 36)]) isT = true := by kernel_rfl
theorem run6_false_true : callN xs 400 100 7 k7 [.v (.one (.lin .u8 7 0 (.ofNat 6))), .v (.one (.bool false)), .v (.one (.bool true))] (st0 tab [(0, 36)]) isT = true := by kernel_rfl
theorem run6_true_false : callN xs 400 100 7 k7 [.v (.one (.lin .u8 7 0 (.ofNat 6))), .v (.one (.bool true)), .v (.one (.bool false))] (st0 tab [(0, 36)]) isT = true := by kernel_rfl
theorem run6_true_true : callN xs 400 100 7 k7 [.v (.one (.lin .u8 7 0 (.ofNat 6))), .v (.one (.bool true)), .v (.one (.bool true))] (st0 tab [(0, 36)]) isT = true := by kernel_rfl
theorem walk (a0 : Int) (b0 : Bool) (b1 : Bool) (W : World) (w0 : (Lit.int .u8 a0).wf = true) (hT : TabIs W 64 tab) : Calls Tryz.prog 7 #[.int .u8 a0, .bool b0, .bool b1] W fun e W' => e = .returned (.bool true) ∧ Below W.heap.size W W' := by
  have hb0 := u8_bounds w0
  have go : ∀ (r0 : Nat) (c0 : Bool) (c1 : Bool), callN xs 400 100 7 k7 [.v (.one (.lin .u8 7 0 (.ofNat r0))), .v (.one (.bool c0)), .v (.one (.bool c1))] (st0 tab [(0, 36)]) isT = true → a0 % 7 = (r0 : Int) → b0 = c0 → b1 = c1 → Calls Tryz.prog 7 #[.int .u8 a0, .bool b0, .bool b1] W (fun e W' => e = .returned (.bool true) ∧ Below W.heap.size W W') := by
    intro r0 c0 c1 hr h0 e0 e1
    subst e0
    subst e1
    exact run_law hmix xs_get (p := k7) rfl hr (fun i => a0 / 7) (iv_one (by omega)) hT (vals := [.int .u8 a0, .bool b0, .bool b1]) ⟨lin_ok rfl h0, bool_ok, bool_ok, trivial⟩
  have hm : a0 % 7 = 0 ∨ a0 % 7 = 1 ∨ a0 % 7 = 2 ∨ a0 % 7 = 3 ∨ a0 % 7 = 4 ∨ a0 % 7 = 5 ∨ a0 % 7 = 6 := by omega
  rcases hm with h | h | h | h | h | h | h
  · cases b0 <;> cases b1
    · exact go 0 false false run0_false_false h rfl rfl
    · exact go 0 false true run0_false_true h rfl rfl
    · exact go 0 true false run0_true_false h rfl rfl
    · exact go 0 true true run0_true_true h rfl rfl
  · cases b0 <;> cases b1
    · exact go 1 false false run1_false_false h rfl rfl
    · exact go 1 false true run1_false_true h rfl rfl
    · exact go 1 true false run1_true_false h rfl rfl
    · exact go 1 true true run1_true_true h rfl rfl
  · cases b0 <;> cases b1
    · exact go 2 false false run2_false_false h rfl rfl
    · exact go 2 false true run2_false_true h rfl rfl
    · exact go 2 true false run2_true_false h rfl rfl
    · exact go 2 true true run2_true_true h rfl rfl
  · cases b0 <;> cases b1
    · exact go 3 false false run3_false_false h rfl rfl
    · exact go 3 false true run3_false_true h rfl rfl
    · exact go 3 true false run3_true_false h rfl rfl
    · exact go 3 true true run3_true_true h rfl rfl
  · cases b0 <;> cases b1
    · exact go 4 false false run4_false_false h rfl rfl
    · exact go 4 false true run4_false_true h rfl rfl
    · exact go 4 true false run4_true_false h rfl rfl
    · exact go 4 true true run4_true_true h rfl rfl
  · cases b0 <;> cases b1
    · exact go 5 false false run5_false_false h rfl rfl
    · exact go 5 false true run5_false_true h rfl rfl
    · exact go 5 true false run5_true_false h rfl rfl
    · exact go 5 true true run5_true_true h rfl rfl
  · cases b0 <;> cases b1
    · exact go 6 false false run6_false_false h rfl rfl
    · exact go 6 false true run6_false_true h rfl rfl
    · exact go 6 true false run6_true_false h rfl rfl
    · exact go 6 true true run6_true_true h rfl rfl
end Go.Proofs.YtjodpodmeobciaaGreatDoor.topSuspends
