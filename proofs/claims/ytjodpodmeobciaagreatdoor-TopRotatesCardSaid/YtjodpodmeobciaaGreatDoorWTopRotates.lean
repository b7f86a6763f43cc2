/- 'detenttop.TopRotates' answers true, whatever the numbers. Conditions: the table holds what the program's text lays. -/
import Derived.Test.YtjodpodmeobciaaGreatDoorWTopRotates0
import Derived.Test.YtjodpodmeobciaaGreatDoorWTopRotates1
import Derived.Test.YtjodpodmeobciaaGreatDoorWTopRotates2
import Derived.Test.YtjodpodmeobciaaGreatDoorWTopRotates3
import Derived.Test.YtjodpodmeobciaaGreatDoorWTopRotates4
import Derived.Test.YtjodpodmeobciaaGreatDoorWTopRotates5
import Derived.Test.YtjodpodmeobciaaGreatDoorWTopRotates6
import Derived.Test.YtjodpodmeobciaaGreatDoorWTopRotates7
import Derived.Test.YtjodpodmeobciaaGreatDoorWTopRotates8
import Derived.Test.YtjodpodmeobciaaGreatDoorWTopRotates9
import Derived.Test.YtjodpodmeobciaaGreatDoorWTopRotates10
import Derived.Test.YtjodpodmeobciaaGreatDoorWTopRotates11
import Derived.Test.YtjodpodmeobciaaGreatDoorWTopRotates12
import Derived.Test.YtjodpodmeobciaaGreatDoorWTopRotates13
import Derived.Test.YtjodpodmeobciaaGreatDoorWTopRotates14
import Derived.Test.YtjodpodmeobciaaGreatDoorWTopRotates15
namespace Go.Proofs.YtjodpodmeobciaaGreatDoor.topRotates
open Go.Rse Go.RowKit
theorem walk (a0 a1 : Int) (W : World) (w0 : (Lit.int .u8 a0).wf = true) (w1 : (Lit.int .u8 a1).wf = true) (hT : TabIs W 64 tab) : Calls Tryz.prog 8 #[.int .u8 a0, .int .u8 a1] W fun e W' => e = .returned (.bool true) ∧ Below W.heap.size W W' := by
  have hb0 := u8_bounds w0
  have hb1 := u8_bounds w1
  have go : ∀ r : Nat, callN xs 400 100 8 k8 [.v (.one (.lin .u8 16 0 (.ofNat r))), .v (.one (.lin .u8 1 1 (.ofNat 0)))] (st0 tab [⟨0, 15, 0⟩, ⟨0, 255, 0⟩]) isT = true → a0 % 16 = (r : Int) → Calls Tryz.prog 8 #[.int .u8 a0, .int .u8 a1] W (fun e W' => e = .returned (.bool true) ∧ Below W.heap.size W W') := by
    intro r hr h
    refine run_law hmix xs_get (p := k8) rfl hr (fun i => if i = 0 then a0 / 16 else a1) (iv_two (by show 0 ≤ a0 / 16 ∧ a0 / 16 ≤ 15; omega) (by show 0 ≤ a1 ∧ a1 ≤ 255; omega)) hT (vals := [.int .u8 a0, .int .u8 a1]) ⟨lin_ok rfl h, ?_, trivial⟩
    show Value.int .u8 a1 = .int .u8 (1 * a1 + 0)
    simp
  have hm : a0 % 16 = 0 ∨ a0 % 16 = 1 ∨ a0 % 16 = 2 ∨ a0 % 16 = 3 ∨ a0 % 16 = 4 ∨ a0 % 16 = 5 ∨ a0 % 16 = 6 ∨ a0 % 16 = 7 ∨ a0 % 16 = 8 ∨ a0 % 16 = 9 ∨ a0 % 16 = 10 ∨ a0 % 16 = 11 ∨ a0 % 16 = 12 ∨ a0 % 16 = 13 ∨ a0 % 16 = 14 ∨ a0 % 16 = 15 := by omega
  rcases hm with h | h | h | h | h | h | h | h | h | h | h | h | h | h | h | h
  · exact go 0 run0 h
  · exact go 1 run1 h
  · exact go 2 run2 h
  · exact go 3 run3 h
  · exact go 4 run4 h
  · exact go 5 run5 h
  · exact go 6 run6 h
  · exact go 7 run7 h
  · exact go 8 run8 h
  · exact go 9 run9 h
  · exact go 10 run10 h
  · exact go 11 run11 h
  · exact go 12 run12 h
  · exact go 13 run13 h
  · exact go 14 run14 h
  · exact go 15 run15 h
end Go.Proofs.YtjodpodmeobciaaGreatDoor.topRotates
