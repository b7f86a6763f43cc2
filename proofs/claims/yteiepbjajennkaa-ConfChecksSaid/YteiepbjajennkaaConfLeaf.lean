/- The small calls of a configuration: what may be made, where a pool begins. Conditions: none. -/
import Derived.Test.YteiepbjajennkaaProg
import Derived.Test.YteiepbjajennkaaWWords
import Derived.Test.YteiepbjajennkaaWMore
import Derived.Test.YteiepbjajennkaaConfRgn
import Derived.Deep.RegionWith
import Derived.RegionTactic
import Derived.BigRegion
import Derived.ChangeAlike
import Derived.Deep.QuietTactic
import Derived.BigQuiet
import Derived.Laws.MakeOwn
import Derived.Laws.NewBlocks
import Derived.Carry
namespace Go.Proofs.Yteiepbjajennkaa.ConfHand
set_option linter.unusedVariables false
set_option linter.unusedSimpArgs false
open Go.RowKit Go.Proofs.YteiepbjajennkaaW.PrintWords Go.Proofs.YteiepbjajennkaaW.PrintMore
/-- A pointer, or none, and a code; what was there stands as it was. -/
def RetPC (r : Int) (W : World) (e : Ending) (w' : World) : Prop := (∃ p, e = .returned (.tuple #[.pointer p, .int .i64 r])) ∧ Below W.heap.size W w'
theorem below_drewN {B : Nat} {w wr : World} (h : Below B w wr) (n : Nat) : Below B w (wr.drewN n) := ⟨h.os, h.tape, h.output, h.size, h.block⟩
theorem below_up {B C : Nat} {w w3 wr : World} (h : Below B w w3) (k : Below C w3 wr) (hB : B ≤ C) : Below B w wr := ⟨k.os.trans h.os, k.tape.trans h.tape, k.output.trans h.output, Nat.le_trans h.size k.size, fun i hi => (k.block i (Nat.lt_of_lt_of_le hi hB)).trans (h.block i hi)⟩
theorem below_next {w w3 wr : World} (h : Below w.heap.size w w3) (k : Below w3.heap.size w3 wr) : Below w.heap.size w wr := below_up h k h.size
/-! ### Multiples of four -/
def al (n : Int) : Int := (n + 4 - 1) / 4 * 4
theorem al_bd (n : Int) (h : 0 ≤ n) : n ≤ al n ∧ al n ≤ n + 3 ∧ al n % 4 = 0 := by unfold al; omega
theorem al_of (n : Int) (h : n % 4 = 0) : al n = n := by unfold al; omega
theorem align_calls (n : Int) (h0 : 0 ≤ n) (h1 : n ≤ 1073741824) (W : World) : Calls Try.prog 78 #[.int .i64 n, .int .i64 4] W fun e w' => e = .returned (.int .i64 (al n)) ∧ W = w' := by
  unfold al
  go_enter Try.func78, Try.ntmps78
  go_wp2
  go_ret
  exact ⟨rfl, rfl⟩
theorem ref_align (n : Int) (h0 : 0 ≤ n) (h1 : n ≤ 1073741824) (W : World) : Calls Try.prog 74 #[.int .i64 n, .int .i64 4] W fun e w' => e = .returned (.int .i64 (al n)) ∧ W = w' := by
  by_cases h : n % 4 = 0
  · rw [al_of n h]
    have hb : (n % 4 == 0) = true := beq_iff_eq.2 h
    clear h
    go_enter Try.func74, Try.ntmps74
    go_wp2
    go_ret
    exact ⟨rfl, rfl⟩
  · have e : al n = n + 4 - n % 4 := by unfold al; omega
    rw [e]
    clear e
    have hb : (n % 4 == 0) = false := beq_eq_false_iff_ne.2 h
    have h2 : 0 ≤ n % 4 := by omega
    have h3 : n % 4 ≤ 3 := by omega
    clear h
    go_enter Try.func74, Try.ntmps74
    go_wp2
    go_ret
    exact ⟨rfl, rfl⟩
theorem order_calls (b : Bool) (W : World) : Calls Try.prog 76 #[.bool b] W fun e w' => e = .returned (.pointer (some ⟨W.heap.size, 0, none⟩)) ∧ w' = W.alloc (.cells #[.slice none 0 0, .bool b] 233) := by
  go_enter Try.func76, Try.ntmps76
  go_wp2
  go_ret
  exact ⟨rfl, rfl⟩
theorem heap_calls (W : World) : Calls Try.prog 81 #[] W fun e w' => e = .returned (.pointer (some ⟨W.heap.size, 0, none⟩)) ∧ w' = W.alloc (.cells #[.slice none 0 0, .int .i64 0] 237) := by
  go_enter Try.func81, Try.ntmps81
  go_wp2
  go_ret
  exact ⟨rfl, rfl⟩

def semC (cnt mst : Int) : Int := if (mst < 1) ∨ (65535 < mst) ∨ (cnt < 0) ∨ (mst < cnt) then -17 else 0
theorem sem_calls_no0 (b : Bool) (cnt mst : Int)  (h0 : (mst < 1)) (W : World) : Calls Try.prog 54 #[.bool b, .int .i64 cnt, .int .i64 mst] W (RetPC (-17) W) := by
  go_enter Try.func54, Try.ntmps54
  go_wp2
  go_ret2
  exact ⟨⟨_, rfl⟩, Below.refl _ _⟩
theorem sem_calls_no1 (b : Bool) (cnt mst : Int) (h0 : ¬ (mst < 1)) (h1 : (65535 < mst)) (W : World) : Calls Try.prog 54 #[.bool b, .int .i64 cnt, .int .i64 mst] W (RetPC (-17) W) := by
  go_enter Try.func54, Try.ntmps54
  go_wp2
  go_ret2
  exact ⟨⟨_, rfl⟩, Below.refl _ _⟩
theorem sem_calls_no2 (b : Bool) (cnt mst : Int) (h0 : ¬ (mst < 1)) (h1 : ¬ (65535 < mst)) (h2 : (cnt < 0)) (W : World) : Calls Try.prog 54 #[.bool b, .int .i64 cnt, .int .i64 mst] W (RetPC (-17) W) := by
  go_enter Try.func54, Try.ntmps54
  go_wp2
  go_ret2
  exact ⟨⟨_, rfl⟩, Below.refl _ _⟩
theorem sem_calls_no3 (b : Bool) (cnt mst : Int) (h0 : ¬ (mst < 1)) (h1 : ¬ (65535 < mst)) (h2 : ¬ (cnt < 0)) (h3 : (mst < cnt)) (W : World) : Calls Try.prog 54 #[.bool b, .int .i64 cnt, .int .i64 mst] W (RetPC (-17) W) := by
  go_enter Try.func54, Try.ntmps54
  go_wp2
  go_ret2
  exact ⟨⟨_, rfl⟩, Below.refl _ _⟩
theorem sem_calls_yes (b : Bool) (cnt mst : Int) (h0 : ¬ (mst < 1)) (h1 : ¬ (65535 < mst)) (h2 : ¬ (cnt < 0)) (h3 : ¬ (mst < cnt)) (W : World) : Calls Try.prog 54 #[.bool b, .int .i64 cnt, .int .i64 mst] W (RetPC 0 W) := by
  go_enter Try.func54, Try.ntmps54
  go_wp2_with fail
  refine (order_calls b W).mono ?_
  rintro e w' ⟨rfl, rfl⟩
  go_wp2
  go_ret2
  exact ⟨⟨_, rfl⟩, below_alloc (below_alloc (Below.refl _ _) _) _⟩
theorem sem_calls (b : Bool) (cnt mst : Int) (W : World) : Calls Try.prog 54 #[.bool b, .int .i64 cnt, .int .i64 mst] W (RetPC (semC cnt mst) W) := by
  unfold semC
  by_cases h0 : (mst < 1)
  · rw [if_pos (Or.inl h0)]; exact sem_calls_no0 b cnt mst h0 W
  · by_cases h1 : (65535 < mst)
    · rw [if_pos (Or.inr (Or.inl h1))]; exact sem_calls_no1 b cnt mst h0 h1 W
    · by_cases h2 : (cnt < 0)
      · rw [if_pos (Or.inr (Or.inr (Or.inl h2)))]; exact sem_calls_no2 b cnt mst h0 h1 h2 W
      · by_cases h3 : (mst < cnt)
        · rw [if_pos (Or.inr (Or.inr (Or.inr (h3))))]; exact sem_calls_no3 b cnt mst h0 h1 h2 h3 W
        · rw [if_neg (by rintro (h | h | h | h) <;> contradiction)]; exact sem_calls_yes b cnt mst h0 h1 h2 h3 W
theorem ref_sem_no0 (b : Bool) (cnt mst : Int)  (h0 : (mst < 1)) (W : World) : Calls Try.prog 66 #[.bool b, .int .i64 cnt, .int .i64 mst] W (RetPC (-17) W) := by
  go_enter Try.func66, Try.ntmps66
  go_wp2
  go_ret2
  exact ⟨⟨_, rfl⟩, Below.refl _ _⟩
theorem ref_sem_no1 (b : Bool) (cnt mst : Int) (h0 : ¬ (mst < 1)) (h1 : (65535 < mst)) (W : World) : Calls Try.prog 66 #[.bool b, .int .i64 cnt, .int .i64 mst] W (RetPC (-17) W) := by
  go_enter Try.func66, Try.ntmps66
  go_wp2
  go_ret2
  exact ⟨⟨_, rfl⟩, Below.refl _ _⟩
theorem ref_sem_no2 (b : Bool) (cnt mst : Int) (h0 : ¬ (mst < 1)) (h1 : ¬ (65535 < mst)) (h2 : (cnt < 0)) (W : World) : Calls Try.prog 66 #[.bool b, .int .i64 cnt, .int .i64 mst] W (RetPC (-17) W) := by
  go_enter Try.func66, Try.ntmps66
  go_wp2
  go_ret2
  exact ⟨⟨_, rfl⟩, Below.refl _ _⟩
theorem ref_sem_no3 (b : Bool) (cnt mst : Int) (h0 : ¬ (mst < 1)) (h1 : ¬ (65535 < mst)) (h2 : ¬ (cnt < 0)) (h3 : (mst < cnt)) (W : World) : Calls Try.prog 66 #[.bool b, .int .i64 cnt, .int .i64 mst] W (RetPC (-17) W) := by
  go_enter Try.func66, Try.ntmps66
  go_wp2
  go_ret2
  exact ⟨⟨_, rfl⟩, Below.refl _ _⟩
theorem ref_sem_yes (b : Bool) (cnt mst : Int) (h0 : ¬ (mst < 1)) (h1 : ¬ (65535 < mst)) (h2 : ¬ (cnt < 0)) (h3 : ¬ (mst < cnt)) (W : World) : Calls Try.prog 66 #[.bool b, .int .i64 cnt, .int .i64 mst] W (RetPC 0 W) := by
  go_enter Try.func66, Try.ntmps66
  go_wp2
  go_ret2
  exact ⟨⟨_, rfl⟩, below_alloc (below_alloc (Below.refl _ _) _) _⟩
theorem ref_sem (b : Bool) (cnt mst : Int) (W : World) : Calls Try.prog 66 #[.bool b, .int .i64 cnt, .int .i64 mst] W (RetPC (semC cnt mst) W) := by
  unfold semC
  by_cases h0 : (mst < 1)
  · rw [if_pos (Or.inl h0)]; exact ref_sem_no0 b cnt mst h0 W
  · by_cases h1 : (65535 < mst)
    · rw [if_pos (Or.inr (Or.inl h1))]; exact ref_sem_no1 b cnt mst h0 h1 W
    · by_cases h2 : (cnt < 0)
      · rw [if_pos (Or.inr (Or.inr (Or.inl h2)))]; exact ref_sem_no2 b cnt mst h0 h1 h2 W
      · by_cases h3 : (mst < cnt)
        · rw [if_pos (Or.inr (Or.inr (Or.inr (h3))))]; exact ref_sem_no3 b cnt mst h0 h1 h2 h3 W
        · rw [if_neg (by rintro (h | h | h | h) <;> contradiction)]; exact ref_sem_yes b cnt mst h0 h1 h2 h3 W
def datC (room : Int) : Int := if (room < 0) ∨ (64 < room) then -17 else 0
theorem dtq_calls_no0 (b : Bool) (room : Int)  (h0 : (room < 0)) (W : World) : Calls Try.prog 57 #[.bool b, .int .i64 room] W (RetPC (-17) W) := by
  go_enter Try.func57, Try.ntmps57
  go_wp2
  go_ret2
  exact ⟨⟨_, rfl⟩, Below.refl _ _⟩
theorem dtq_calls_no1 (b : Bool) (room : Int) (h0 : ¬ (room < 0)) (h1 : (64 < room)) (W : World) : Calls Try.prog 57 #[.bool b, .int .i64 room] W (RetPC (-17) W) := by
  go_enter Try.func57, Try.ntmps57
  go_wp2
  go_ret2
  exact ⟨⟨_, rfl⟩, Below.refl _ _⟩
theorem dtq_calls_yes (b : Bool) (room : Int) (h0 : ¬ (room < 0)) (h1 : ¬ (64 < room)) (W : World) : Calls Try.prog 57 #[.bool b, .int .i64 room] W (RetPC 0 W) := by
  have hmm := @run_makeMap Try.prog
  go_enter Try.func57, Try.ntmps57
  go_wp2_with fail
  refine (order_calls _ _).mono ?_
  rintro e w' ⟨rfl, rfl⟩
  go_wp2_with fail
  refine (order_calls _ _).mono ?_
  rintro e w' ⟨rfl, rfl⟩
  go_wp2
  go_ret2
  exact ⟨⟨_, rfl⟩, below_alloc (below_alloc (below_alloc (below_alloc (Below.refl _ _) _) _) _) _⟩
theorem dtq_calls (b : Bool) (room : Int) (W : World) : Calls Try.prog 57 #[.bool b, .int .i64 room] W (RetPC (datC room) W) := by
  unfold datC
  by_cases h0 : (room < 0)
  · rw [if_pos (Or.inl h0)]; exact dtq_calls_no0 b room h0 W
  · by_cases h1 : (64 < room)
    · rw [if_pos (Or.inr (h1))]; exact dtq_calls_no1 b room h0 h1 W
    · rw [if_neg (by rintro (h | h) <;> contradiction)]; exact dtq_calls_yes b room h0 h1 W
theorem ref_dtq_no0 (b : Bool) (room : Int)  (h0 : (room < 0)) (W : World) : Calls Try.prog 67 #[.bool b, .int .i64 room] W (RetPC (-17) W) := by
  go_enter Try.func67, Try.ntmps67
  go_wp2
  go_ret2
  exact ⟨⟨_, rfl⟩, Below.refl _ _⟩
theorem ref_dtq_no1 (b : Bool) (room : Int) (h0 : ¬ (room < 0)) (h1 : (64 < room)) (W : World) : Calls Try.prog 67 #[.bool b, .int .i64 room] W (RetPC (-17) W) := by
  go_enter Try.func67, Try.ntmps67
  go_wp2
  go_ret2
  exact ⟨⟨_, rfl⟩, Below.refl _ _⟩
theorem ref_dtq_yes (b : Bool) (room : Int) (h0 : ¬ (room < 0)) (h1 : ¬ (64 < room)) (W : World) : Calls Try.prog 67 #[.bool b, .int .i64 room] W (RetPC 0 W) := by
  go_enter Try.func67, Try.ntmps67
  go_wp2
  go_ret2
  exact ⟨⟨_, rfl⟩, below_alloc (below_alloc (below_alloc (Below.refl _ _) _) _) _⟩
theorem ref_dtq (b : Bool) (room : Int) (W : World) : Calls Try.prog 67 #[.bool b, .int .i64 room] W (RetPC (datC room) W) := by
  unfold datC
  by_cases h0 : (room < 0)
  · rw [if_pos (Or.inl h0)]; exact ref_dtq_no0 b room h0 W
  · by_cases h1 : (64 < room)
    · rw [if_pos (Or.inr (h1))]; exact ref_dtq_no1 b room h0 h1 W
    · rw [if_neg (by rintro (h | h) <;> contradiction)]; exact ref_dtq_yes b room h0 h1 W
end Go.Proofs.Yteiepbjajennkaa.ConfHand
