/- 'detenttop.TopWakes' answers true, whatever the number: the runs, one for each rest by twelve. Conditions: the table holds what the program's text lays. -/
import Derived.Test.YtjodpodmeobciaaGreatDoorYD
import Derived.Test.YtjodpodmeobciaaGreatDoorZL
namespace Go.Proofs.YtjodpodmeobciaaGreatDoor.topWakes
open Go.Rse Go.RowKit
set_option maxRecDepth 1000000
theorem run0 : callN xs 400 100 6 k6 [.v (.one (.lin .u8 12 0 (.ofNat 0)))] (st0 tab [(0, 21)]) isT = true := by kernel_rfl
theorem run1 : callN xs 400 100 6 k6 [.v (.one (.lin .u8 12 0 (.ofNat 1)))] (st0 tab [(0, 21)]) isT = true := by kernel_rfl
theorem run2 : callN xs 400 100 6 k6 [.v (.one (.lin .u8 12 0 (.ofNat 2)))] (st0 tab [(0, 21)]) isT = true := by kernel_rfl
theorem run3 : callN xs 400 100 6 k6 [.v (.one (.lin .u8 12 0 (.ofNat 3)))] (st0 tab [(0, 21)]) isT = true := by kernel_rfl
theorem run4 : callN xs 400 100 6 k6 [.v (.one (.lin .u8 12 0 (.ofNat 4)))] (st0 tab [(0, 21)]) isT = true := by kernel_rfl
theorem run5 : callN xs 400 100 6 k6 [.v (.one (.lin .u8 12 0 (.ofNat 5)))] (st0 tab [(0, 21)]) isT = true := by kernel_rfl
theorem run6 : callN xs 400 100 6 k6 [.v (.one (.lin .u8 12 0 (.ofNat 6)))] (st0 tab [(0, 21)]) isT = true := by kernel_rfl
theorem run7 : callN xs 400 100 6 k6 [.v (.one (.lin .u8 12 0 (.ofNat 7)))] (st0 tab [(0, 21)]) isT = true := by kernel_rfl
theorem run8 : callN xs 400 100 6 k6 [.v (.one (.lin .u8 12 0 (.ofNat 8)))] (st0 tab [(0, 21)]) isT = true := by kernel_rfl
theorem run9 : callN xs 400 100 6 k6 [.v (.one (.lin .u8 12 0 (.ofNat 9)))] (st0 tab [(0, 21)]) isT = true := by kernel_rfl
theorem run10 : callN xs 400 100 6 k6 [.v (.one (.lin .u8 12 0 (.ofNat 10)))] (st0 tab [(0, 21)]) isT = true := by kernel_rfl
theorem run11 : callN xs 400 100 6 k6 [.v (.one (.lin .u8 12 0 (.ofNat 11)))] (st0 tab [(0, 21)]) isT = true := by kernel_rfl
theorem walk (a0 : Int) (W : World) (w0 : (Lit.int .u8 a0).wf = true) (hT : TabIs W 64 tab) : Calls Tryz.prog 6 #[.int .u8 a0] W fun e W' => e = .returned (.bool true) ∧ Below W.heap.size W W' := by
  have hb0 := u8_bounds w0
  have go : ∀ (r0 : Nat) , callN xs 400 100 6 k6 [.v (.one (.lin .u8 12 0 (.ofNat r0)))] (st0 tab [(0, 21)]) isT = true → a0 % 12 = (r0 : Int) →  Calls Tryz.prog 6 #[.int .u8 a0] W (fun e W' => e = .returned (.bool true) ∧ Below W.heap.size W W') := by
    intro r0  hr h0 
    exact run_law hmix xs_get (p := k6) rfl hr (fun i => a0 / 12) (iv_one (by omega)) hT (vals := [.int .u8 a0]) ⟨lin_ok rfl h0, trivial⟩
  have hm : a0 % 12 = 0 ∨ a0 % 12 = 1 ∨ a0 % 12 = 2 ∨ a0 % 12 = 3 ∨ a0 % 12 = 4 ∨ a0 % 12 = 5 ∨ a0 % 12 = 6 ∨ a0 % 12 = 7 ∨ a0 % 12 = 8 ∨ a0 % 12 = 9 ∨ a0 % 12 = 10 ∨ a0 % 12 = 11 := by omega
  rcases hm with h | h | h | h | h | h | h | h | h | h | h | h
  · exact go 0 run0 h
  · exact go 1 run1 h
  · exact go 2 run2 h
  · exact go 3 run3 h
  · exact go 4 run4 h
  · exact go 5 run5 h
  · exact go 6 run6 h
  · exact go 7 run7 h
  · exact go 8 run8 h
  · exact go 9 run9 h
  · exact go 10 run10 h
  · exact go 11 run11 h
end Go.Proofs.YtjodpodmeobciaaGreatDoor.topWakes
