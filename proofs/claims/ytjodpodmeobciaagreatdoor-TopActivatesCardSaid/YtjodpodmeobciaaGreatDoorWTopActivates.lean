/- 'detenttop.TopActivates' answers true, whatever the number: the runs, one for each rest by eight. Conditions: the table holds what the program's text lays. -/
import Derived.Test.YtjodpodmeobciaaGreatDoorYD
import Derived.Test.YtjodpodmeobciaaGreatDoorZL
namespace Go.Proofs.YtjodpodmeobciaaGreatDoor.topActivates
open Go.Rse Go.RowKit
set_option maxRecDepth 1000000
theorem run0 : callN xs 400 100 5 k5 [.v (.one (.lin .u8 8 0 (.ofNat 0)))] (st0 tab [(0, 31)]) isT = true := by kernel_rfl
theorem run1 : callN xs 400 100 5 k5 [.v (.one (.lin .u8 8 0 (.ofNat 1)))] (st0 tab [(0, 31)]) isT = true := by kernel_rfl
theorem run2 : callN xs 400 100 5 k5 [.v (.one (.lin .u8 8 0 (.ofNat 2)))] (st0 tab [(0, 31)]) isT = true := by kernel_rfl
theorem run3 : callN xs 400 100 5 k5 [.v (.one (.lin .u8 8 0 (.ofNat 3)))] (st0 tab [(0, 31)]) isT = true := by kernel_rfl
theorem run4 : callN xs 400 100 5 k5 [.v (.one (.lin .u8 8 0 (.ofNat 4)))] (st0 tab [(0, 31)]) isT = true := by kernel_rfl
theorem run5 : callN xs 400 100 5 k5 [.v (.one (.lin .u8 8 0 (.ofNat 5)))] (st0 tab [(0, 31)]) isT = true := by kernel_rfl
theorem run6 : callN xs 400 100 5 k5 [.v (.one (.lin .u8 8 0 (.ofNat 6)))] (st0 tab [(0, 31)]) isT = true := by kernel_rfl
theorem run7 : callN xs 400 100 5 k5 [.v (.one (.lin .u8 8 0 (.ofNat 7)))] (st0 tab [(0, 31)]) isT = true := by kernel_rfl
theorem walk (a0 : Int) (W : World) (w0 : (Lit.int .u8 a0).wf = true) (hT : TabIs W 64 tab) : Calls Tryz.prog 5 #[.int .u8 a0] W fun e W' => e = .returned (.bool true) ∧ Below W.heap.size W W' := by
  have hb0 := u8_bounds w0
  have go : ∀ (r0 : Nat) , callN xs 400 100 5 k5 [.v (.one (.lin .u8 8 0 (.ofNat r0)))] (st0 tab [(0, 31)]) isT = true → a0 % 8 = (r0 : Int) →  Calls Tryz.prog 5 #[.int .u8 a0] W (fun e W' => e = .returned (.bool true) ∧ Below W.heap.size W W') := by
    intro r0  hr h0 
    exact run_law hmix xs_get (p := k5) rfl hr (fun i => a0 / 8) (iv_one (by omega)) hT (vals := [.int .u8 a0]) ⟨lin_ok rfl h0, trivial⟩
  have hm : a0 % 8 = 0 ∨ a0 % 8 = 1 ∨ a0 % 8 = 2 ∨ a0 % 8 = 3 ∨ a0 % 8 = 4 ∨ a0 % 8 = 5 ∨ a0 % 8 = 6 ∨ a0 % 8 = 7 := by omega
  rcases hm with h | h | h | h | h | h | h | h
  · exact go 0 run0 h
  · exact go 1 run1 h
  · exact go 2 run2 h
  · exact go 3 run3 h
  · exact go 4 run4 h
  · exact go 5 run5 h
  · exact go 6 run6 h
  · exact go 7 run7 h
end Go.Proofs.YtjodpodmeobciaaGreatDoor.topActivates
