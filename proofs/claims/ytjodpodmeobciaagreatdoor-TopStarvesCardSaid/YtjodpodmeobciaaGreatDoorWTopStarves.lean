/- 'detenttop.TopStarves' answers true, whatever the numbers. Conditions: the table holds what the program's text lays. -/
import Derived.Test.YtjodpodmeobciaaGreatDoorWTopStarves0
import Derived.Test.YtjodpodmeobciaaGreatDoorWTopStarves1
import Derived.Test.YtjodpodmeobciaaGreatDoorWTopStarves2
import Derived.Test.YtjodpodmeobciaaGreatDoorWTopStarves3
import Derived.Test.YtjodpodmeobciaaGreatDoorWTopStarves4
import Derived.Test.YtjodpodmeobciaaGreatDoorWTopStarves5
import Derived.Test.YtjodpodmeobciaaGreatDoorWTopStarves6
import Derived.Test.YtjodpodmeobciaaGreatDoorWTopStarves7
import Derived.Test.YtjodpodmeobciaaGreatDoorWTopStarvesE
namespace Go.Proofs.YtjodpodmeobciaaGreatDoor.topStarves
open Go.Rse Go.RowKit
set_option maxRecDepth 1000000
variable {a0 a1 a2 : Int} {W : World}
theorem iv_pair (w0 : 0 ≤ a0 ∧ a0 ≤ 255) (w1 : 0 ≤ a1 ∧ a1 ≤ 255) (w2 : 0 ≤ a2 ∧ a2 ≤ 255) : IvOK ⟨fun i => if i = 0 then a0 / 16 else if i = 1 then a1 / 16 else a2, some 64⟩ [⟨0, 15, 0⟩, ⟨0, 15, 0⟩, ⟨0, 255, 0⟩] := by
  intro i x hx
  match i, hx with
  | 0, hx => simp at hx; subst hx; exact ⟨by show 0 ≤ a0 / 16 ∧ a0 / 16 ≤ 15; omega, fun hm => by simp at hm⟩
  | 1, hx => simp at hx; subst hx; exact ⟨by show 0 ≤ a1 / 16 ∧ a1 / 16 ≤ 15; omega, fun hm => by simp at hm⟩
  | 2, hx => simp at hx; subst hx; exact ⟨w2, fun hm => by simp at hm⟩
  | i + 3, hx => simp at hx
theorem iv_early (w0 : 0 ≤ a0 ∧ a0 ≤ 255) (w1 : 0 ≤ a1 ∧ a1 ≤ 255) (w2 : 0 ≤ a2 ∧ a2 ≤ 255) {r : Int} (h : a1 % 16 ≤ r) : IvOK ⟨fun i => if i = 0 then a0 / 16 else if i = 1 then a1 else if i = 2 then a1 % 16 else a2, some 64⟩ [⟨0, 15, 0⟩, ⟨0, 255, 0⟩, ⟨0, r, 16⟩, ⟨0, 255, 0⟩] := by
  intro i x hx
  match i, hx with
  | 0, hx => simp at hx; subst hx; exact ⟨by show 0 ≤ a0 / 16 ∧ a0 / 16 ≤ 15; omega, fun hm => by simp at hm⟩
  | 1, hx => simp at hx; subst hx; exact ⟨w1, fun hm => by simp at hm⟩
  | 2, hx =>
    simp at hx; subst hx
    refine ⟨by show 0 ≤ a1 % 16 ∧ a1 % 16 ≤ r; omega, fun _ => ⟨1, rfl, ?_⟩⟩
    show a1 % 16 = Int.tmod a1 16
    rw [Int.tmod_eq_emod_of_nonneg w1.1]
  | 3, hx => simp at hx; subst hx; exact ⟨w2, fun hm => by simp at hm⟩
  | i + 4, hx => simp at hx
theorem goP (hT : TabIs W 64 tab) (w0 : 0 ≤ a0 ∧ a0 ≤ 255) (w1 : 0 ≤ a1 ∧ a1 ≤ 255) (w2 : 0 ≤ a2 ∧ a2 ≤ 255) (r q : Nat) {ps : List Pat} (hr : lawK xs 400 100 (tcS ps) [.t k6] [.v (.one (.lin .u8 16 0 (.ofNat r))), .v (.one (.lin .u8 16 1 (.ofNat q))), .v (.one (.lin .u8 1 2 (.ofNat 0)))] (st0 tab [⟨0, 15, 0⟩, ⟨0, 15, 0⟩, ⟨0, 255, 0⟩]) = true) (h : a0 % 16 = (r : Int)) (h2 : a1 % 16 = (q : Int)) : Calls Tryz.prog 16 #[.int .u8 a0, .int .u8 a1, .int .u8 a2] W (fun e W' => e = .returned (.bool true) ∧ Below W.heap.size W W') := by
  refine run_top hmix xs_get (fn := Tryz.f16) Tryz.func16 (chk ps) hr (fun i => if i = 0 then a0 / 16 else if i = 1 then a1 / 16 else a2) (iv_pair w0 w1 w2) hT (vals := [.int .u8 a0, .int .u8 a1, .int .u8 a2]) ⟨lin_ok rfl h, lin_ok rfl h2, ?_, trivial⟩
  show Value.int .u8 a2 = .int .u8 (1 * a2 + 0)
  simp
theorem goE (hT : TabIs W 64 tab) (w0 : 0 ≤ a0 ∧ a0 ≤ 255) (w1 : 0 ≤ a1 ∧ a1 ≤ 255) (w2 : 0 ≤ a2 ∧ a2 ≤ 255) (r : Nat) (hr : callN xs 400 100 16 k16 [.v (.one (.lin .u8 16 0 (.ofNat r))), .v (.one (.lin .u8 1 1 (.ofNat 0))), .v (.one (.lin .u8 1 3 (.ofNat 0)))] (st0 tab [⟨0, 15, 0⟩, ⟨0, 255, 0⟩, ⟨0, r, 16⟩, ⟨0, 255, 0⟩]) isT = true) (h : a0 % 16 = (r : Int)) (h2 : a1 % 16 ≤ (r : Int)) : Calls Tryz.prog 16 #[.int .u8 a0, .int .u8 a1, .int .u8 a2] W (fun e W' => e = .returned (.bool true) ∧ Below W.heap.size W W') := by
  refine run_law hmix xs_get (p := k16) rfl hr (fun i => if i = 0 then a0 / 16 else if i = 1 then a1 else if i = 2 then a1 % 16 else a2) (iv_early w0 w1 w2 h2) hT (vals := [.int .u8 a0, .int .u8 a1, .int .u8 a2]) ⟨lin_ok rfl h, ?_, ?_, trivial⟩
  · show Value.int .u8 a1 = .int .u8 (1 * a1 + 0); simp
  · show Value.int .u8 a2 = .int .u8 (1 * a2 + 0); simp
theorem walk (a0 a1 a2 : Int) (W : World) (w0 : (Lit.int .u8 a0).wf = true) (w1 : (Lit.int .u8 a1).wf = true) (w2 : (Lit.int .u8 a2).wf = true) (hT : TabIs W 64 tab) : Calls Tryz.prog 16 #[.int .u8 a0, .int .u8 a1, .int .u8 a2] W (fun e W' => e = .returned (.bool true) ∧ Below W.heap.size W W') := by
  have b0 := u8_bounds w0
  have b1 := u8_bounds w1
  have b2 := u8_bounds w2
  have hm : a0 % 16 = 0 ∨ a0 % 16 = 1 ∨ a0 % 16 = 2 ∨ a0 % 16 = 3 ∨ a0 % 16 = 4 ∨ a0 % 16 = 5 ∨ a0 % 16 = 6 ∨ a0 % 16 = 7 ∨ a0 % 16 = 8 ∨ a0 % 16 = 9 ∨ a0 % 16 = 10 ∨ a0 % 16 = 11 ∨ a0 % 16 = 12 ∨ a0 % 16 = 13 ∨ a0 % 16 = 14 ∨ a0 % 16 = 15 := by omega
  rcases hm with h | h | h | h | h | h | h | h | h | h | h | h | h | h | h | h
  · have hn : a1 % 16 ≤ 0 ∨ a1 % 16 = 1 ∨ a1 % 16 = 2 ∨ a1 % 16 = 3 ∨ a1 % 16 = 4 ∨ a1 % 16 = 5 ∨ a1 % 16 = 6 ∨ a1 % 16 = 7 ∨ a1 % 16 = 8 ∨ a1 % 16 = 9 ∨ a1 % 16 = 10 ∨ a1 % 16 = 11 ∨ a1 % 16 = 12 ∨ a1 % 16 = 13 ∨ a1 % 16 = 14 ∨ a1 % 16 = 15 := by omega
    rcases hn with h2 | h2 | h2 | h2 | h2 | h2 | h2 | h2 | h2 | h2 | h2 | h2 | h2 | h2 | h2 | h2
    · exact goE hT b0 b1 b2 0 early0 h h2
    · exact goP hT b0 b1 b2 0 1 run0_1 h h2
    · exact goP hT b0 b1 b2 0 2 run0_2 h h2
    · exact goP hT b0 b1 b2 0 3 run0_3 h h2
    · exact goP hT b0 b1 b2 0 4 run0_4 h h2
    · exact goP hT b0 b1 b2 0 5 run0_5 h h2
    · exact goP hT b0 b1 b2 0 6 run0_6 h h2
    · exact goP hT b0 b1 b2 0 7 run0_7 h h2
    · exact goP hT b0 b1 b2 0 8 run0_8 h h2
    · exact goP hT b0 b1 b2 0 9 run0_9 h h2
    · exact goP hT b0 b1 b2 0 10 run0_10 h h2
    · exact goP hT b0 b1 b2 0 11 run0_11 h h2
    · exact goP hT b0 b1 b2 0 12 run0_12 h h2
    · exact goP hT b0 b1 b2 0 13 run0_13 h h2
    · exact goP hT b0 b1 b2 0 14 run0_14 h h2
    · exact goP hT b0 b1 b2 0 15 run0_15 h h2
  · have hn : a1 % 16 ≤ 1 ∨ a1 % 16 = 2 ∨ a1 % 16 = 3 ∨ a1 % 16 = 4 ∨ a1 % 16 = 5 ∨ a1 % 16 = 6 ∨ a1 % 16 = 7 ∨ a1 % 16 = 8 ∨ a1 % 16 = 9 ∨ a1 % 16 = 10 ∨ a1 % 16 = 11 ∨ a1 % 16 = 12 ∨ a1 % 16 = 13 ∨ a1 % 16 = 14 ∨ a1 % 16 = 15 := by omega
    rcases hn with h2 | h2 | h2 | h2 | h2 | h2 | h2 | h2 | h2 | h2 | h2 | h2 | h2 | h2 | h2
    · exact goE hT b0 b1 b2 1 early1 h h2
    · exact goP hT b0 b1 b2 1 2 run1_2 h h2
    · exact goP hT b0 b1 b2 1 3 run1_3 h h2
    · exact goP hT b0 b1 b2 1 4 run1_4 h h2
    · exact goP hT b0 b1 b2 1 5 run1_5 h h2
    · exact goP hT b0 b1 b2 1 6 run1_6 h h2
    · exact goP hT b0 b1 b2 1 7 run1_7 h h2
    · exact goP hT b0 b1 b2 1 8 run1_8 h h2
    · exact goP hT b0 b1 b2 1 9 run1_9 h h2
    · exact goP hT b0 b1 b2 1 10 run1_10 h h2
    · exact goP hT b0 b1 b2 1 11 run1_11 h h2
    · exact goP hT b0 b1 b2 1 12 run1_12 h h2
    · exact goP hT b0 b1 b2 1 13 run1_13 h h2
    · exact goP hT b0 b1 b2 1 14 run1_14 h h2
    · exact goP hT b0 b1 b2 1 15 run1_15 h h2
  · have hn : a1 % 16 ≤ 2 ∨ a1 % 16 = 3 ∨ a1 % 16 = 4 ∨ a1 % 16 = 5 ∨ a1 % 16 = 6 ∨ a1 % 16 = 7 ∨ a1 % 16 = 8 ∨ a1 % 16 = 9 ∨ a1 % 16 = 10 ∨ a1 % 16 = 11 ∨ a1 % 16 = 12 ∨ a1 % 16 = 13 ∨ a1 % 16 = 14 ∨ a1 % 16 = 15 := by omega
    rcases hn with h2 | h2 | h2 | h2 | h2 | h2 | h2 | h2 | h2 | h2 | h2 | h2 | h2 | h2
    · exact goE hT b0 b1 b2 2 early2 h h2
    · exact goP hT b0 b1 b2 2 3 run2_3 h h2
    · exact goP hT b0 b1 b2 2 4 run2_4 h h2
    · exact goP hT b0 b1 b2 2 5 run2_5 h h2
    · exact goP hT b0 b1 b2 2 6 run2_6 h h2
    · exact goP hT b0 b1 b2 2 7 run2_7 h h2
    · exact goP hT b0 b1 b2 2 8 run2_8 h h2
    · exact goP hT b0 b1 b2 2 9 run2_9 h h2
    · exact goP hT b0 b1 b2 2 10 run2_10 h h2
    · exact goP hT b0 b1 b2 2 11 run2_11 h h2
    · exact goP hT b0 b1 b2 2 12 run2_12 h h2
    · exact goP hT b0 b1 b2 2 13 run2_13 h h2
    · exact goP hT b0 b1 b2 2 14 run2_14 h h2
    · exact goP hT b0 b1 b2 2 15 run2_15 h h2
  · have hn : a1 % 16 ≤ 3 ∨ a1 % 16 = 4 ∨ a1 % 16 = 5 ∨ a1 % 16 = 6 ∨ a1 % 16 = 7 ∨ a1 % 16 = 8 ∨ a1 % 16 = 9 ∨ a1 % 16 = 10 ∨ a1 % 16 = 11 ∨ a1 % 16 = 12 ∨ a1 % 16 = 13 ∨ a1 % 16 = 14 ∨ a1 % 16 = 15 := by omega
    rcases hn with h2 | h2 | h2 | h2 | h2 | h2 | h2 | h2 | h2 | h2 | h2 | h2 | h2
    · exact goE hT b0 b1 b2 3 early3 h h2
    · exact goP hT b0 b1 b2 3 4 run3_4 h h2
    · exact goP hT b0 b1 b2 3 5 run3_5 h h2
    · exact goP hT b0 b1 b2 3 6 run3_6 h h2
    · exact goP hT b0 b1 b2 3 7 run3_7 h h2
    · exact goP hT b0 b1 b2 3 8 run3_8 h h2
    · exact goP hT b0 b1 b2 3 9 run3_9 h h2
    · exact goP hT b0 b1 b2 3 10 run3_10 h h2
    · exact goP hT b0 b1 b2 3 11 run3_11 h h2
    · exact goP hT b0 b1 b2 3 12 run3_12 h h2
    · exact goP hT b0 b1 b2 3 13 run3_13 h h2
    · exact goP hT b0 b1 b2 3 14 run3_14 h h2
    · exact goP hT b0 b1 b2 3 15 run3_15 h h2
  · have hn : a1 % 16 ≤ 4 ∨ a1 % 16 = 5 ∨ a1 % 16 = 6 ∨ a1 % 16 = 7 ∨ a1 % 16 = 8 ∨ a1 % 16 = 9 ∨ a1 % 16 = 10 ∨ a1 % 16 = 11 ∨ a1 % 16 = 12 ∨ a1 % 16 = 13 ∨ a1 % 16 = 14 ∨ a1 % 16 = 15 := by omega
    rcases hn with h2 | h2 | h2 | h2 | h2 | h2 | h2 | h2 | h2 | h2 | h2 | h2
    · exact goE hT b0 b1 b2 4 early4 h h2
    · exact goP hT b0 b1 b2 4 5 run4_5 h h2
    · exact goP hT b0 b1 b2 4 6 run4_6 h h2
    · exact goP hT b0 b1 b2 4 7 run4_7 h h2
    · exact goP hT b0 b1 b2 4 8 run4_8 h h2
    · exact goP hT b0 b1 b2 4 9 run4_9 h h2
    · exact goP hT b0 b1 b2 4 10 run4_10 h h2
    · exact goP hT b0 b1 b2 4 11 run4_11 h h2
    · exact goP hT b0 b1 b2 4 12 run4_12 h h2
    · exact goP hT b0 b1 b2 4 13 run4_13 h h2
    · exact goP hT b0 b1 b2 4 14 run4_14 h h2
    · exact goP hT b0 b1 b2 4 15 run4_15 h h2
  · have hn : a1 % 16 ≤ 5 ∨ a1 % 16 = 6 ∨ a1 % 16 = 7 ∨ a1 % 16 = 8 ∨ a1 % 16 = 9 ∨ a1 % 16 = 10 ∨ a1 % 16 = 11 ∨ a1 % 16 = 12 ∨ a1 % 16 = 13 ∨ a1 % 16 = 14 ∨ a1 % 16 = 15 := by omega
    rcases hn with h2 | h2 | h2 | h2 | h2 | h2 | h2 | h2 | h2 | h2 | h2
    · exact goE hT b0 b1 b2 5 early5 h h2
    · exact goP hT b0 b1 b2 5 6 run5_6 h h2
    · exact goP hT b0 b1 b2 5 7 run5_7 h h2
    · exact goP hT b0 b1 b2 5 8 run5_8 h h2
    · exact goP hT b0 b1 b2 5 9 run5_9 h h2
    · exact goP hT b0 b1 b2 5 10 run5_10 h h2
    · exact goP hT b0 b1 b2 5 11 run5_11 h h2
    · exact goP hT b0 b1 b2 5 12 run5_12 h h2
    · exact goP hT b0 b1 b2 5 13 run5_13 h h2
    · exact goP hT b0 b1 b2 5 14 run5_14 h h2
    · exact goP hT b0 b1 b2 5 15 run5_15 h h2
  · have hn : a1 % 16 ≤ 6 ∨ a1 % 16 = 7 ∨ a1 % 16 = 8 ∨ a1 % 16 = 9 ∨ a1 % 16 = 10 ∨ a1 % 16 = 11 ∨ a1 % 16 = 12 ∨ a1 % 16 = 13 ∨ a1 % 16 = 14 ∨ a1 % 16 = 15 := by omega
    rcases hn with h2 | h2 | h2 | h2 | h2 | h2 | h2 | h2 | h2 | h2
    · exact goE hT b0 b1 b2 6 early6 h h2
    · exact goP hT b0 b1 b2 6 7 run6_7 h h2
    · exact goP hT b0 b1 b2 6 8 run6_8 h h2
    · exact goP hT b0 b1 b2 6 9 run6_9 h h2
    · exact goP hT b0 b1 b2 6 10 run6_10 h h2
    · exact goP hT b0 b1 b2 6 11 run6_11 h h2
    · exact goP hT b0 b1 b2 6 12 run6_12 h h2
    · exact goP hT b0 b1 b2 6 13 run6_13 h h2
    · exact goP hT b0 b1 b2 6 14 run6_14 h h2
    · exact goP hT b0 b1 b2 6 15 run6_15 h h2
  · have hn : a1 % 16 ≤ 7 ∨ a1 % 16 = 8 ∨ a1 % 16 = 9 ∨ a1 % 16 = 10 ∨ a1 % 16 = 11 ∨ a1 % 16 = 12 ∨ a1 % 16 = 13 ∨ a1 % 16 = 14 ∨ a1 % 16 = 15 := by omega
    rcases hn with h2 | h2 | h2 | h2 | h2 | h2 | h2 | h2 | h2
    · exact goE hT b0 b1 b2 7 early7 h h2
    · exact goP hT b0 b1 b2 7 8 run7_8 h h2
    · exact goP hT b0 b1 b2 7 9 run7_9 h h2
    · exact goP hT b0 b1 b2 7 10 run7_10 h h2
    · exact goP hT b0 b1 b2 7 11 run7_11 h h2
    · exact goP hT b0 b1 b2 7 12 run7_12 h h2
    · exact goP hT b0 b1 b2 7 13 run7_13 h h2
    · exact goP hT b0 b1 b2 7 14 run7_14 h h2
    · exact goP hT b0 b1 b2 7 15 run7_15 h h2
  · have hn : a1 % 16 ≤ 8 ∨ a1 % 16 = 9 ∨ a1 % 16 = 10 ∨ a1 % 16 = 11 ∨ a1 % 16 = 12 ∨ a1 % 16 = 13 ∨ a1 % 16 = 14 ∨ a1 % 16 = 15 := by omega
    rcases hn with h2 | h2 | h2 | h2 | h2 | h2 | h2 | h2
    · exact goE hT b0 b1 b2 8 early8 h h2
    · exact goP hT b0 b1 b2 8 9 run8_9 h h2
    · exact goP hT b0 b1 b2 8 10 run8_10 h h2
    · exact goP hT b0 b1 b2 8 11 run8_11 h h2
    · exact goP hT b0 b1 b2 8 12 run8_12 h h2
    · exact goP hT b0 b1 b2 8 13 run8_13 h h2
    · exact goP hT b0 b1 b2 8 14 run8_14 h h2
    · exact goP hT b0 b1 b2 8 15 run8_15 h h2
  · have hn : a1 % 16 ≤ 9 ∨ a1 % 16 = 10 ∨ a1 % 16 = 11 ∨ a1 % 16 = 12 ∨ a1 % 16 = 13 ∨ a1 % 16 = 14 ∨ a1 % 16 = 15 := by omega
    rcases hn with h2 | h2 | h2 | h2 | h2 | h2 | h2
    · exact goE hT b0 b1 b2 9 early9 h h2
    · exact goP hT b0 b1 b2 9 10 run9_10 h h2
    · exact goP hT b0 b1 b2 9 11 run9_11 h h2
    · exact goP hT b0 b1 b2 9 12 run9_12 h h2
    · exact goP hT b0 b1 b2 9 13 run9_13 h h2
    · exact goP hT b0 b1 b2 9 14 run9_14 h h2
    · exact goP hT b0 b1 b2 9 15 run9_15 h h2
  · have hn : a1 % 16 ≤ 10 ∨ a1 % 16 = 11 ∨ a1 % 16 = 12 ∨ a1 % 16 = 13 ∨ a1 % 16 = 14 ∨ a1 % 16 = 15 := by omega
    rcases hn with h2 | h2 | h2 | h2 | h2 | h2
    · exact goE hT b0 b1 b2 10 early10 h h2
    · exact goP hT b0 b1 b2 10 11 run10_11 h h2
    · exact goP hT b0 b1 b2 10 12 run10_12 h h2
    · exact goP hT b0 b1 b2 10 13 run10_13 h h2
    · exact goP hT b0 b1 b2 10 14 run10_14 h h2
    · exact goP hT b0 b1 b2 10 15 run10_15 h h2
  · have hn : a1 % 16 ≤ 11 ∨ a1 % 16 = 12 ∨ a1 % 16 = 13 ∨ a1 % 16 = 14 ∨ a1 % 16 = 15 := by omega
    rcases hn with h2 | h2 | h2 | h2 | h2
    · exact goE hT b0 b1 b2 11 early11 h h2
    · exact goP hT b0 b1 b2 11 12 run11_12 h h2
    · exact goP hT b0 b1 b2 11 13 run11_13 h h2
    · exact goP hT b0 b1 b2 11 14 run11_14 h h2
    · exact goP hT b0 b1 b2 11 15 run11_15 h h2
  · have hn : a1 % 16 ≤ 12 ∨ a1 % 16 = 13 ∨ a1 % 16 = 14 ∨ a1 % 16 = 15 := by omega
    rcases hn with h2 | h2 | h2 | h2
    · exact goE hT b0 b1 b2 12 early12 h h2
    · exact goP hT b0 b1 b2 12 13 run12_13 h h2
    · exact goP hT b0 b1 b2 12 14 run12_14 h h2
    · exact goP hT b0 b1 b2 12 15 run12_15 h h2
  · have hn : a1 % 16 ≤ 13 ∨ a1 % 16 = 14 ∨ a1 % 16 = 15 := by omega
    rcases hn with h2 | h2 | h2
    · exact goE hT b0 b1 b2 13 early13 h h2
    · exact goP hT b0 b1 b2 13 14 run13_14 h h2
    · exact goP hT b0 b1 b2 13 15 run13_15 h h2
  · have hn : a1 % 16 ≤ 14 ∨ a1 % 16 = 15 := by omega
    rcases hn with h2 | h2
    · exact goE hT b0 b1 b2 14 early14 h h2
    · exact goP hT b0 b1 b2 14 15 run14_15 h h2
  · exact goE hT b0 b1 b2 15 early15 h (by show a1 % 16 ≤ 15; omega)
end Go.Proofs.YtjodpodmeobciaaGreatDoor.topStarves
