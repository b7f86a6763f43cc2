/- 'detenttop.TopDisabled' answers true, whatever the number: the runs, one for each rest by seven. Conditions: the table holds what the program's text lays. -/
import Derived.Test.YtjodpodmeobciaaGreatDoorYD
import Derived.Test.YtjodpodmeobciaaGreatDoorZL
namespace Go.Proofs.YtjodpodmeobciaaGreatDoor.topDisabled
open Go.Rse Go.RowKit
set_option maxRecDepth 1000000
abbrev Run (r : Nat) : Prop := callN xs 400 100 4 k4 [.v (.one (.lin .u8 7 0 (.ofNat r)))] (st0 tab [(0, 36)]) isT = true
theorem run0 : callN xs 400 100 4 k4 [.v (.one (.lin .u8 7 0 (.ofNat 0)))] (st0 tab [(0, 36)]) isT = true := by kernel_rfl
theorem run1 : callN xs 400 100 4 k4 [.v (.one (.lin .u8 7 0 (.ofNat 1)))] (st0 tab [(0, 36)]) isT = true := by kernel_rfl
theorem run2 : callN xs 400 100 4 k4 [.v (.one (.lin .u8 7 0 (.ofNat 2)))] (st0 tab [(0, 36)]) isT = true := by kernel_rfl
theorem run3 : callN xs 400 100 4 k4 [.v (.one (.lin .u8 7 0 (.ofNat 3)))] (st0 tab [(0, 36)]) isT = true := by kernel_rfl
theorem run4 : callN xs 400 100 4 k4 [.v (.one (.lin .u8 7 0 (.ofNat 4)))] (st0 tab [(0, 36)]) isT = true := by kernel_rfl
theorem run5 : callN xs 400 100 4 k4 [.v (.one (.lin .u8 7 0 (.ofNat 5)))] (st0 tab [(0, 36)]) isT = true := by kernel_rfl
theorem run6 : callN xs 400 100 4 k4 [.v (.one (.lin .u8 7 0 (.ofNat 6)))] (st0 tab [(0, 36)]) isT = true := by kernel_rfl
theorem walk (a0 : Int) (W : World) (w0 : (Lit.int .u8 a0).wf = true) (hT : TabIs W 64 tab) : Calls Tryz.prog 4 #[.int .u8 a0] W fun e W' => e = .returned (.bool true) ∧ Below W.heap.size W W' := by
  have hb := u8_bounds w0
  have go : ∀ r : Nat, Run r → a0 % 7 = (r : Int) → Calls Tryz.prog 4 #[.int .u8 a0] W fun e W' => e = .returned (.bool true) ∧ Below W.heap.size W W' := fun r hr h =>
    run_law hmix xs_get (p := k4) rfl hr (fun _ => a0 / 7) (iv_one (by omega)) hT (vals := [.int .u8 a0]) ⟨lin_ok rfl h, trivial⟩
  have h7 : a0 % 7 = 0 ∨ a0 % 7 = 1 ∨ a0 % 7 = 2 ∨ a0 % 7 = 3 ∨ a0 % 7 = 4 ∨ a0 % 7 = 5 ∨ a0 % 7 = 6 := by omega
  rcases h7 with h | h | h | h | h | h | h
  · exact go 0 run0 h
  · exact go 1 run1 h
  · exact go 2 run2 h
  · exact go 3 run3 h
  · exact go 4 run4 h
  · exact go 5 run5 h
  · exact go 6 run6 h
end Go.Proofs.YtjodpodmeobciaaGreatDoor.topDisabled
