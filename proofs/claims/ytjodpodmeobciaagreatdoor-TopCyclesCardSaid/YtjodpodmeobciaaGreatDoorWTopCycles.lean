/- 'detenttop.TopCycles' answers true, whatever the numbers. Conditions: the table holds what the program's text lays. -/
import Derived.Test.YtjodpodmeobciaaGreatDoorWTopCycles0
import Derived.Test.YtjodpodmeobciaaGreatDoorWTopCycles1
import Derived.Test.YtjodpodmeobciaaGreatDoorWTopCycles2
import Derived.Test.YtjodpodmeobciaaGreatDoorWTopCycles3
import Derived.Test.YtjodpodmeobciaaGreatDoorWTopCycles4
import Derived.Test.YtjodpodmeobciaaGreatDoorWTopCycles5
import Derived.Test.YtjodpodmeobciaaGreatDoorWTopCycles6
import Derived.Test.YtjodpodmeobciaaGreatDoorWTopCycles7
import Derived.Test.YtjodpodmeobciaaGreatDoorWTopCycles8
import Derived.Test.YtjodpodmeobciaaGreatDoorWTopCycles9
namespace Go.Proofs.YtjodpodmeobciaaGreatDoor.topCycles
open Go.Rse Go.RowKit
theorem walk (a0 a1 : Int) (a2 : Bool) (W : World) (w0 : (Lit.int .u8 a0).wf = true) (w1 : (Lit.int .u8 a1).wf = true) (hT : TabIs W 64 tab) : Calls Tryz.prog 12 #[.int .u8 a0, .int .u8 a1, .bool a2] W fun e W' => e = .returned (.bool true) ∧ Below W.heap.size W W' := by
  have hb0 := u8_bounds w0
  have hb1 := u8_bounds w1
  have go : ∀ (r : Nat) (b : Bool), callN xs 400 100 12 k12 [.v (.one (.lin .u8 50 0 (.ofNat r))), .v (.one (.lin .u8 1 1 (.ofNat 0))), .v (.one (.bool b))] (st0 tab [⟨0, 5, 0⟩, ⟨0, 255, 0⟩]) isT = true → a0 % 50 = (r : Int) → a2 = b → Calls Tryz.prog 12 #[.int .u8 a0, .int .u8 a1, .bool a2] W (fun e W' => e = .returned (.bool true) ∧ Below W.heap.size W W') := by
    intro r b hr h e
    subst e
    refine run_law hmix xs_get (p := k12) rfl hr (fun i => if i = 0 then a0 / 50 else a1) (iv_two (by show 0 ≤ a0 / 50 ∧ a0 / 50 ≤ 5; omega) (by show 0 ≤ a1 ∧ a1 ≤ 255; omega)) hT (vals := [.int .u8 a0, .int .u8 a1, .bool a2]) ⟨lin_ok rfl h, ?_, bool_ok, trivial⟩
    show Value.int .u8 a1 = .int .u8 (1 * a1 + 0)
    simp
  have hm : a0 % 50 = 0 ∨ a0 % 50 = 1 ∨ a0 % 50 = 2 ∨ a0 % 50 = 3 ∨ a0 % 50 = 4 ∨ a0 % 50 = 5 ∨ a0 % 50 = 6 ∨ a0 % 50 = 7 ∨ a0 % 50 = 8 ∨ a0 % 50 = 9 ∨ a0 % 50 = 10 ∨ a0 % 50 = 11 ∨ a0 % 50 = 12 ∨ a0 % 50 = 13 ∨ a0 % 50 = 14 ∨ a0 % 50 = 15 ∨ a0 % 50 = 16 ∨ a0 % 50 = 17 ∨ a0 % 50 = 18 ∨ a0 % 50 = 19 ∨ a0 % 50 = 20 ∨ a0 % 50 = 21 ∨ a0 % 50 = 22 ∨ a0 % 50 = 23 ∨ a0 % 50 = 24 ∨ a0 % 50 = 25 ∨ a0 % 50 = 26 ∨ a0 % 50 = 27 ∨ a0 % 50 = 28 ∨ a0 % 50 = 29 ∨ a0 % 50 = 30 ∨ a0 % 50 = 31 ∨ a0 % 50 = 32 ∨ a0 % 50 = 33 ∨ a0 % 50 = 34 ∨ a0 % 50 = 35 ∨ a0 % 50 = 36 ∨ a0 % 50 = 37 ∨ a0 % 50 = 38 ∨ a0 % 50 = 39 ∨ a0 % 50 = 40 ∨ a0 % 50 = 41 ∨ a0 % 50 = 42 ∨ a0 % 50 = 43 ∨ a0 % 50 = 44 ∨ a0 % 50 = 45 ∨ a0 % 50 = 46 ∨ a0 % 50 = 47 ∨ a0 % 50 = 48 ∨ a0 % 50 = 49 := by omega
  rcases hm with h | h | h | h | h | h | h | h | h | h | h | h | h | h | h | h | h | h | h | h | h | h | h | h | h | h | h | h | h | h | h | h | h | h | h | h | h | h | h | h | h | h | h | h | h | h | h | h | h | h
  · cases a2
    · exact go 0 false run0_false h rfl
    · exact go 0 true run0_true h rfl
  · cases a2
    · exact go 1 false run1_false h rfl
    · exact go 1 true run1_true h rfl
  · cases a2
    · exact go 2 false run2_false h rfl
    · exact go 2 true run2_true h rfl
  · cases a2
    · exact go 3 false run3_false h rfl
    · exact go 3 true run3_true h rfl
  · cases a2
    · exact go 4 false run4_false h rfl
    · exact go 4 true run4_true h rfl
  · cases a2
    · exact go 5 false run5_false h rfl
    · exact go 5 true run5_true h rfl
  · cases a2
    · exact go 6 false run6_false h rfl
    · exact go 6 true run6_true h rfl
  · cases a2
    · exact go 7 false run7_false h rfl
    · exact go 7 true run7_true h rfl
  · cases a2
    · exact go 8 false run8_false h rfl
    · exact go 8 true run8_true h rfl
  · cases a2
    · exact go 9 false run9_false h rfl
    · exact go 9 true run9_true h rfl
  · cases a2
    · exact go 10 false run10_false h rfl
    · exact go 10 true run10_true h rfl
  · cases a2
    · exact go 11 false run11_false h rfl
    · exact go 11 true run11_true h rfl
  · cases a2
    · exact go 12 false run12_false h rfl
    · exact go 12 true run12_true h rfl
  · cases a2
    · exact go 13 false run13_false h rfl
    · exact go 13 true run13_true h rfl
  · cases a2
    · exact go 14 false run14_false h rfl
    · exact go 14 true run14_true h rfl
  · cases a2
    · exact go 15 false run15_false h rfl
    · exact go 15 true run15_true h rfl
  · cases a2
    · exact go 16 false run16_false h rfl
    · exact go 16 true run16_true h rfl
  · cases a2
    · exact go 17 false run17_false h rfl
    · exact go 17 true run17_true h rfl
  · cases a2
    · exact go 18 false run18_false h rfl
    · exact go 18 true run18_true h rfl
  · cases a2
    · exact go 19 false run19_false h rfl
    · exact go 19 true run19_true h rfl
  · cases a2
    · exact go 20 false run20_false h rfl
    · exact go 20 true run20_true h rfl
  · cases a2
    · exact go 21 false run21_false h rfl
    · exact go 21 true run21_true h rfl
  · cases a2
    · exact go 22 false run22_false h rfl
    · exact go 22 true run22_true h rfl
  · cases a2
    · exact go 23 false run23_false h rfl
    · exact go 23 true run23_true h rfl
  · cases a2
    · exact go 24 false run24_false h rfl
    · exact go 24 true run24_true h rfl
  · cases a2
    · exact go 25 false run25_false h rfl
    · exact go 25 true run25_true h rfl
  · cases a2
    · exact go 26 false run26_false h rfl
    · exact go 26 true run26_true h rfl
  · cases a2
    · exact go 27 false run27_false h rfl
    · exact go 27 true run27_true h rfl
  · cases a2
    · exact go 28 false run28_false h rfl
    · exact go 28 true run28_true h rfl
  · cases a2
    · exact go 29 false run29_false h rfl
    · exact go 29 true run29_true h rfl
  · cases a2
    · exact go 30 false run30_false h rfl
    · exact go 30 true run30_true h rfl
  · cases a2
    · exact go 31 false run31_false h rfl
    · exact go 31 true run31_true h rfl
  · cases a2
    · exact go 32 false run32_false h rfl
    · exact go 32 true run32_true h rfl
  · cases a2
    · exact go 33 false run33_false h rfl
    · exact go 33 true run33_true h rfl
  · cases a2
    · exact go 34 false run34_false h rfl
    · exact go 34 true run34_true h rfl
  · cases a2
    · exact go 35 false run35_false h rfl
    · exact go 35 true run35_true h rfl
  · cases a2
    · exact go 36 false run36_false h rfl
    · exact go 36 true run36_true h rfl
  · cases a2
    · exact go 37 false run37_false h rfl
    · exact go 37 true run37_true h rfl
  · cases a2
    · exact go 38 false run38_false h rfl
    · exact go 38 true run38_true h rfl
  · cases a2
    · exact go 39 false run39_false h rfl
    · exact go 39 true run39_true h rfl
  · cases a2
    · exact go 40 false run40_false h rfl
    · exact go 40 true run40_true h rfl
  · cases a2
    · exact go 41 false run41_false h rfl
    · exact go 41 true run41_true h rfl
  · cases a2
    · exact go 42 false run42_false h rfl
    · exact go 42 true run42_true h rfl
  · cases a2
    · exact go 43 false run43_false h rfl
    · exact go 43 true run43_true h rfl
  · cases a2
    · exact go 44 false run44_false h rfl
    · exact go 44 true run44_true h rfl
  · cases a2
    · exact go 45 false run45_false h rfl
    · exact go 45 true run45_true h rfl
  · cases a2
    · exact go 46 false run46_false h rfl
    · exact go 46 true run46_true h rfl
  · cases a2
    · exact go 47 false run47_false h rfl
    · exact go 47 true run47_true h rfl
  · cases a2
    · exact go 48 false run48_false h rfl
    · exact go 48 true run48_true h rfl
  · cases a2
    · exact go 49 false run49_false h rfl
    · exact go 49 true run49_true h rfl
end Go.Proofs.YtjodpodmeobciaaGreatDoor.topCycles
