/- 'detenttop.TopPolls' answers true, whichever object: the runs, one for each kind and bool. Conditions: the table holds what the program's text lays. -/
import Derived.Test.YtjodpodmeobciaaGreatDoorYD
import Derived.Test.YtjodpodmeobciaaGreatDoorZL
namespace Go.Proofs.YtjodpodmeobciaaGreatDoor.topPolls
open Go.Rse Go.RowKit
set_option maxRecDepth 1000000
theorem run0_false : callN xs 400 100 11 k11 [.v (.one (.lin .u8 5 0 (.ofNat 0))), .v (.one (.bool false))] (st0 tab [⟨0, 51, 0⟩]) isT = true := by kernel_rfl
theorem run0_true : callN xs 400 100 11 k11 [.v (.one (.lin .u8 5 0 (.ofNat 0))), .v (.one (.bool true))] (st0 tab [⟨0, 51, 0⟩]) isT = true := by kernel_rfl
theorem run1_false : callN xs 400 100 11 k11 [.v (.one (.lin .u8 5 0 (.ofNat 1))), .v (.one (.bool false))] (st0 tab [⟨0, 51, 0⟩]) isT = true := by kernel_rfl
theorem run1_true : callN xs 400 100 11 k11 [.v (.one (.lin .u8 5 0 (.ofNat 1))), .v (.one (.bool true))] (st0 tab [⟨0, 51, 0⟩]) isT = true := by kernel_rfl
theorem run2_false : callN xs 400 100 11 k11 [.v (.one (.lin .u8 5 0 (.ofNat 2))), .v (.one (.bool false))] (st0 tab [⟨0, 51, 0⟩]) isT = true := by kernel_rfl
theorem run2_true : callN xs 400 100 11 k11 [.v (.one (.lin .u8 5 0 (.ofNat 2))), .v (.one (.bool true))] (st0 tab [⟨0, 51, 0⟩]) isT = true := by kernel_rfl
theorem run3_false : callN xs 400 100 11 k11 [.v (.one (.lin .u8 5 0 (.ofNat 3))), .v (.one (.bool false))] (st0 tab [⟨0, 51, 0⟩]) isT = true := by kernel_rfl
theorem run3_true : callN xs 400 100 11 k11 [.v (.one (.lin .u8 5 0 (.ofNat 3))), .v (.one (.bool true))] (st0 tab [⟨0, 51, 0⟩]) isT = true := by kernel_rfl
theorem run4_false : callN xs 400 100 11 k11 [.v (.one (.lin .u8 5 0 (.ofNat 4))), .v (.one (.bool false))] (st0 tab [⟨0, 51, 0⟩]) isT = true := by kernel_rfl
theorem run4_true : callN xs 400 100 11 k11 [.v (.one (.lin .u8 5 0 (.ofNat 4))), .v (.one (.bool true))] (st0 tab [⟨0, 51, 0⟩]) isT = true := by kernel_rfl
theorem walk (a0 : Int) (b0 : Bool) (W : World) (w0 : (Lit.int .u8 a0).wf = true) (hT : TabIs W 64 tab) : Calls Tryz.prog 11 #[.int .u8 a0, .bool b0] W fun e W' => e = .returned (.bool true) ∧ Below W.heap.size W W' := by
  have hb0 := u8_bounds w0
  have go : ∀ (r0 : Nat) (c0 : Bool), callN xs 400 100 11 k11 [.v (.one (.lin .u8 5 0 (.ofNat r0))), .v (.one (.bool c0))] (st0 tab [⟨0, 51, 0⟩]) isT = true → a0 % 5 = (r0 : Int) → b0 = c0 → Calls Tryz.prog 11 #[.int .u8 a0, .bool b0] W (fun e W' => e = .returned (.bool true) ∧ Below W.heap.size W W') := by
    intro r0 c0 hr h0 e0
    subst e0
    exact run_law hmix xs_get (p := k11) rfl hr (fun i => a0 / 5) (iv_one (by show 0 ≤ a0 / 5 ∧ a0 / 5 ≤ 51; omega)) hT (vals := [.int .u8 a0, .bool b0]) ⟨lin_ok rfl h0, bool_ok, trivial⟩
  have hm : a0 % 5 = 0 ∨ a0 % 5 = 1 ∨ a0 % 5 = 2 ∨ a0 % 5 = 3 ∨ a0 % 5 = 4 := by omega
  rcases hm with h | h | h | h | h
  · cases b0
    · exact go 0 false run0_false h rfl
    · exact go 0 true run0_true h rfl
  · cases b0
    · exact go 1 false run1_false h rfl
    · exact go 1 true run1_true h rfl
  · cases b0
    · exact go 2 false run2_false h rfl
    · exact go 2 true run2_true h rfl
  · cases b0
    · exact go 3 false run3_false h rfl
    · exact go 3 true run3_true h rfl
  · cases b0
    · exact go 4 false run4_false h rfl
    · exact go 4 true run4_true h rfl
end Go.Proofs.YtjodpodmeobciaaGreatDoor.topPolls
