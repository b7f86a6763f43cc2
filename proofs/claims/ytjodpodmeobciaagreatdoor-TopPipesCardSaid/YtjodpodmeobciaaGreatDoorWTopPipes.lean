/- 'detenttop.TopPipes' answers true, whatever the data. Conditions: the table holds what the program's text lays. -/
import Derived.Test.YtjodpodmeobciaaGreatDoorWTopPipes0
import Derived.Test.YtjodpodmeobciaaGreatDoorWTopPipes1
import Derived.Test.YtjodpodmeobciaaGreatDoorWTopPipes2
import Derived.Test.YtjodpodmeobciaaGreatDoorWTopPipes3
import Derived.Test.YtjodpodmeobciaaGreatDoorWTopPipes4
import Derived.Test.YtjodpodmeobciaaGreatDoorWTopPipes5
namespace Go.Proofs.YtjodpodmeobciaaGreatDoor.topPipes
open Go.Rse Go.RowKit
set_option maxRecDepth 1000000
theorem long : callN xs 400 100 14 k14 [.inS (.lin .i64 (.ofNat 1) 0 (.ofNat 0)) .i8 (.all 1)] (st0 tab [⟨31, 9223372036854775807, 0⟩]) isT = true := by kernel_rfl
theorem i8_bounds {a : Int} (h : (Lit.int .i8 a).wf = true) : -128 ≤ a ∧ a ≤ 127 := by
  simp only [Lit.wf, Bool.and_eq_true, decide_eq_true_eq] at h
  exact h
theorem go {a : Option Addr} {cap : Nat} {z : List Int} {W : World} (len : Nat) (hr : callN xs 400 100 14 k14 [.inS (.int .i64 (.ofNat len)) .i8 (.all 0)] (st0 tab (List.replicate len ⟨-128, 127, 0⟩)) isT = true) (w0 : RowIn .i8 W a len cap z) (hT : TabIs W 64 tab) :
    Calls Tryz.prog 14 #[.slice a len cap] W fun e W' => e = .returned (.bool true) ∧ Below W.heap.size W W' := by
  refine run_law hmix xs_get (p := k14) rfl hr (fun i => if i < len then z.getD i 0 else 0) (fun i x hx => ?_) hT (vals := [.slice a len cap]) ⟨inS_row w0 ?_ ?_, trivial⟩
  · rw [List.getElem?_replicate] at hx
    split at hx
    · rename_i h
      cases hx
      refine ⟨?_, md_no _ _⟩
      show -128 ≤ (if i < len then z.getD i 0 else 0) ∧ (if i < len then z.getD i 0 else 0) ≤ 127
      rw [if_pos h]
      exact i8_bounds (w0.wf h)
    · cases hx
  · show Value.int .i64 (len : Int) = .int .i64 (Int.ofNat len)
    rfl
  · intro j hj
    show z.getD j 0 = (if 0 + j < len then z.getD (0 + j) 0 else 0)
    rw [Nat.zero_add, if_pos hj]
theorem goL {a : Option Addr} {len cap : Nat} {z : List Int} {W : World} (hl : 30 < len) (w0 : RowIn .i8 W a len cap z) (hT : TabIs W 64 tab) :
    Calls Tryz.prog 14 #[.slice a len cap] W fun e W' => e = .returned (.bool true) ∧ Below W.heap.size W W' := by
  have hle := w0.le
  have hlen : (len : Int) ≤ 9223372036854775807 := by
    have := hle.1; have := hle.2.1; unfold maxLen at this; omega
  refine run_law hmix xs_get (p := k14) rfl long (fun i => if i = 0 then (len : Int) else z.getD (i - 1) 0) (fun i x hx => ?_) hT (vals := [.slice a len cap]) ⟨inS_row w0 ?_ ?_, trivial⟩
  · cases i with
    | zero =>
      have hx : some (⟨31, 9223372036854775807, 0⟩ : Iv) = some x := hx
      cases hx
      exact ⟨⟨by show (31 : Int) ≤ (len : Int); omega, by show (len : Int) ≤ 9223372036854775807; omega⟩, md_no _ _⟩
    | succ i => simp at hx
  · show Value.int .i64 (len : Int) = .int .i64 (1 * (len : Int) + 0)
    simp
  · intro j hj
    show z.getD j 0 = (if 1 + j = 0 then (len : Int) else z.getD (1 + j - 1) 0)
    rw [if_neg (by omega), show 1 + j - 1 = j by omega]
theorem walk (a : Option Addr) (len cap : Nat) (z : List Int) (W : World) (w0 : RowIn .i8 W a len cap z) (hT : TabIs W 64 tab) : Calls Tryz.prog 14 #[.slice a len cap] W fun e W' => e = .returned (.bool true) ∧ Below W.heap.size W W' := by
  by_cases hl : 30 < len
  · exact goL hl w0 hT
  · match len, hl, w0 with
    | 0, _, w0 => exact go 0 run0 w0 hT
    | 1, _, w0 => exact go 1 run1 w0 hT
    | 2, _, w0 => exact go 2 run2 w0 hT
    | 3, _, w0 => exact go 3 run3 w0 hT
    | 4, _, w0 => exact go 4 run4 w0 hT
    | 5, _, w0 => exact go 5 run5 w0 hT
    | 6, _, w0 => exact go 6 run6 w0 hT
    | 7, _, w0 => exact go 7 run7 w0 hT
    | 8, _, w0 => exact go 8 run8 w0 hT
    | 9, _, w0 => exact go 9 run9 w0 hT
    | 10, _, w0 => exact go 10 run10 w0 hT
    | 11, _, w0 => exact go 11 run11 w0 hT
    | 12, _, w0 => exact go 12 run12 w0 hT
    | 13, _, w0 => exact go 13 run13 w0 hT
    | 14, _, w0 => exact go 14 run14 w0 hT
    | 15, _, w0 => exact go 15 run15 w0 hT
    | 16, _, w0 => exact go 16 run16 w0 hT
    | 17, _, w0 => exact go 17 run17 w0 hT
    | 18, _, w0 => exact go 18 run18 w0 hT
    | 19, _, w0 => exact go 19 run19 w0 hT
    | 20, _, w0 => exact go 20 run20 w0 hT
    | 21, _, w0 => exact go 21 run21 w0 hT
    | 22, _, w0 => exact go 22 run22 w0 hT
    | 23, _, w0 => exact go 23 run23 w0 hT
    | 24, _, w0 => exact go 24 run24 w0 hT
    | 25, _, w0 => exact go 25 run25 w0 hT
    | 26, _, w0 => exact go 26 run26 w0 hT
    | 27, _, w0 => exact go 27 run27 w0 hT
    | 28, _, w0 => exact go 28 run28 w0 hT
    | 29, _, w0 => exact go 29 run29 w0 hT
    | 30, _, w0 => exact go 30 run30 w0 hT
    | n + 31, hl, _ => exact absurd (by omega) hl
end Go.Proofs.YtjodpodmeobciaaGreatDoor.topPipes
