/- 'detenttop.TopPingPong' answers true, whatever the number: one run, the number's rest a symbol. Conditions: the table holds what the program's text lays. -/
import Derived.Test.YtjodpodmeobciaaGreatDoorYD
import Derived.Test.YtjodpodmeobciaaGreatDoorZL
namespace Go.Proofs.YtjodpodmeobciaaGreatDoor.topPingPong
open Go.Rse Go.RowKit
set_option maxRecDepth 1000000
theorem run : callN xs 400 100 13 k13 [.v (.one (.lin .u8 1 0 (.ofNat 0)))] (st0 tab [⟨0, 255, 0⟩, ⟨0, 49, 50⟩]) isT = true := by kernel_rfl
theorem walk (a0 : Int) (W : World) (w0 : (Lit.int .u8 a0).wf = true) (hT : TabIs W 64 tab) : Calls Tryz.prog 13 #[.int .u8 a0] W fun e W' => e = .returned (.bool true) ∧ Below W.heap.size W W' := by
  have hb := u8_bounds w0
  refine run_law hmix xs_get (p := k13) rfl run (fun i => if i = 0 then a0 else a0 % 50) (iv_rest (ρ := ⟨fun i => if i = 0 then a0 else a0 % 50, some 64⟩) (hi := 255) (md := 50) hb (by omega) rfl) hT (vals := [.int .u8 a0]) ⟨?_, trivial⟩
  show Value.int .u8 a0 = .int .u8 (1 * a0 + 0)
  simp
end Go.Proofs.YtjodpodmeobciaaGreatDoor.topPingPong
