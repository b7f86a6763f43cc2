/- detenttop.TopChanges answers true, whatever the three numbers. Conditions: the listed table holds what the text laid there. -/
import Derived.Test.YtjodpodmeobciaaGreatDoorWTopChanges1
import Derived.Test.YtjodpodmeobciaaGreatDoorWTopChanges2
import Derived.Test.YtjodpodmeobciaaGreatDoorWTopChanges3
import Derived.Test.YtjodpodmeobciaaGreatDoorWTopChanges4
import Derived.Test.YtjodpodmeobciaaGreatDoorWTopChanges5
import Derived.Test.YtjodpodmeobciaaGreatDoorWTopChanges6
import Derived.Test.YtjodpodmeobciaaGreatDoorWTopChanges7
import Derived.Test.YtjodpodmeobciaaGreatDoorWTopChanges8
import Derived.Test.YtjodpodmeobciaaGreatDoorWTopChanges9
import Derived.Test.YtjodpodmeobciaaGreatDoorWTopChanges10
import Derived.Test.YtjodpodmeobciaaGreatDoorWTopChanges11
import Derived.Test.YtjodpodmeobciaaGreatDoorWTopChanges12
import Derived.Test.YtjodpodmeobciaaGreatDoorWTopChanges13
import Derived.Test.YtjodpodmeobciaaGreatDoorWTopChanges14
import Derived.Test.YtjodpodmeobciaaGreatDoorWTopChanges15
import Derived.Test.YtjodpodmeobciaaGreatDoorWTopChanges16
namespace Go.Proofs.YtjodpodmeobciaaGreatDoor.topChanges
open Go.Rse Go.RowKit
set_option maxRecDepth 1000000
variable {a0 a1 a2 : Int} {W : World}
theorem iv_c (w0 : 0 ≤ a0 ∧ a0 ≤ 255) (w1 : 0 ≤ a1 ∧ a1 ≤ 255) (w2 : 0 ≤ a2 ∧ a2 ≤ 255) : IvOK (rhoW (fun i => if i = 0 then a0 / 16 else if i = 1 then a1 / 16 else if i = 2 then a2 else a2 % 16) (some 64) W) [⟨0, 15, 0⟩, ⟨0, 15, 0⟩, ⟨0, 255, 0⟩, ⟨0, 15, 16⟩] := by
  intro i x hx
  match i, hx with
  | 0, hx => simp at hx; subst hx; exact ⟨by show 0 ≤ a0 / 16 ∧ a0 / 16 ≤ 15; omega, md_no _ _⟩
  | 1, hx => simp at hx; subst hx; exact ⟨by show 0 ≤ a1 / 16 ∧ a1 / 16 ≤ 15; omega, md_no _ _⟩
  | 2, hx => simp at hx; subst hx; exact ⟨w2, md_no _ _⟩
  | 3, hx =>
    simp at hx; subst hx
    refine ⟨by show 0 ≤ a2 % 16 ∧ a2 % 16 ≤ 15; omega, md_rest (by decide) ?_⟩
    show a2 % 16 = Int.tmod a2 16
    rw [Int.tmod_eq_emod_of_nonneg w2.1]
  | i + 4, hx => simp at hx
theorem goP (hT : TabIs W 64 tab) (w0 : 0 ≤ a0 ∧ a0 ≤ 255) (w1 : 0 ≤ a1 ∧ a1 ≤ 255) (w2 : 0 ≤ a2 ∧ a2 ≤ 255) (r q : Nat) {pt : Pat} (hr : lawK ckC 400 (tcC [pt]) [.t k6] [.v (.one (.lin .u8 16 0 (.ofNat r))), .v (.one (.lin .u8 16 1 (.ofNat q))), .v (.one (.lin .u8 1 2 (.ofNat 0)))] (st0 tab [⟨0, 15, 0⟩, ⟨0, 15, 0⟩, ⟨0, 255, 0⟩, ⟨0, 15, 16⟩]) = true) (ho : obl ckC 400 (tcC [pt]) kC) (h : a0 % 16 = (r : Int)) (h2 : a1 % 16 = (q : Int)) : Calls Tryz.prog 9 #[.int .u8 a0, .int .u8 a1, .int .u8 a2] W (fun e W' => e = .returned (.bool true) ∧ Below W.heap.size W W') := by
  refine run_top hmix xs_get (fn := Tryz.f9) Tryz.func9 (chk [pt]) hr ho (fun i => if i = 0 then a0 / 16 else if i = 1 then a1 / 16 else if i = 2 then a2 else a2 % 16) (iv_c w0 w1 w2) hT (vals := [.int .u8 a0, .int .u8 a1, .int .u8 a2]) ⟨lin_ok rfl h, lin_ok rfl h2, ?_, trivial⟩
  show Value.int .u8 a2 = .int .u8 (1 * a2 + 0)
  simp
theorem walk (a0 a1 a2 : Int) (W : World) (w0 : (Lit.int .u8 a0).wf = true) (w1 : (Lit.int .u8 a1).wf = true) (w2 : (Lit.int .u8 a2).wf = true) (hT : TabIs W 64 tab) : Calls Tryz.prog 9 #[.int .u8 a0, .int .u8 a1, .int .u8 a2] W (fun e W' => e = .returned (.bool true) ∧ Below W.heap.size W W') := by
  have b0 := u8_bounds w0
  have b1 := u8_bounds w1
  have b2 := u8_bounds w2
  have hm : a0 % 16 = 0 ∨ a0 % 16 = 1 ∨ a0 % 16 = 2 ∨ a0 % 16 = 3 ∨ a0 % 16 = 4 ∨ a0 % 16 = 5 ∨ a0 % 16 = 6 ∨ a0 % 16 = 7 ∨ a0 % 16 = 8 ∨ a0 % 16 = 9 ∨ a0 % 16 = 10 ∨ a0 % 16 = 11 ∨ a0 % 16 = 12 ∨ a0 % 16 = 13 ∨ a0 % 16 = 14 ∨ a0 % 16 = 15 := by omega
  have hm2 : a1 % 16 = 0 ∨ a1 % 16 = 1 ∨ a1 % 16 = 2 ∨ a1 % 16 = 3 ∨ a1 % 16 = 4 ∨ a1 % 16 = 5 ∨ a1 % 16 = 6 ∨ a1 % 16 = 7 ∨ a1 % 16 = 8 ∨ a1 % 16 = 9 ∨ a1 % 16 = 10 ∨ a1 % 16 = 11 ∨ a1 % 16 = 12 ∨ a1 % 16 = 13 ∨ a1 % 16 = 14 ∨ a1 % 16 = 15 := by omega
  rcases hm with h | h | h | h | h | h | h | h | h | h | h | h | h | h | h | h
  · rcases hm2 with h2 | h2 | h2 | h2 | h2 | h2 | h2 | h2 | h2 | h2 | h2 | h2 | h2 | h2 | h2 | h2
    · exact goP hT b0 b1 b2 0 0 p1.e1 (obP rfl p1.o1) h h2
    · exact goP hT b0 b1 b2 0 1 p1.e2 (obP rfl p1.o2) h h2
    · exact goP hT b0 b1 b2 0 2 p1.e3 (obP rfl p1.o3) h h2
    · exact goP hT b0 b1 b2 0 3 p1.e4 (obP rfl p1.o4) h h2
    · exact goP hT b0 b1 b2 0 4 p1.e5 (obP rfl p1.o5) h h2
    · exact goP hT b0 b1 b2 0 5 p1.e6 (obP rfl p1.o6) h h2
    · exact goP hT b0 b1 b2 0 6 p1.e7 (obP rfl p1.o7) h h2
    · exact goP hT b0 b1 b2 0 7 p1.e8 (obP rfl p1.o8) h h2
    · exact goP hT b0 b1 b2 0 8 p1.e9 (obP rfl p1.o9) h h2
    · exact goP hT b0 b1 b2 0 9 p1.e10 (obP rfl p1.o10) h h2
    · exact goP hT b0 b1 b2 0 10 p1.e11 (obP rfl p1.o11) h h2
    · exact goP hT b0 b1 b2 0 11 p1.e12 (obP rfl p1.o12) h h2
    · exact goP hT b0 b1 b2 0 12 p1.e13 (obP rfl p1.o13) h h2
    · exact goP hT b0 b1 b2 0 13 p1.e14 (obP rfl p1.o14) h h2
    · exact goP hT b0 b1 b2 0 14 p1.e15 (obP rfl p1.o15) h h2
    · exact goP hT b0 b1 b2 0 15 p1.e16 (obP rfl p1.o16) h h2
  · rcases hm2 with h2 | h2 | h2 | h2 | h2 | h2 | h2 | h2 | h2 | h2 | h2 | h2 | h2 | h2 | h2 | h2
    · exact goP hT b0 b1 b2 1 0 p2.e1 (obP rfl p2.o1) h h2
    · exact goP hT b0 b1 b2 1 1 p2.e2 (obP rfl p2.o2) h h2
    · exact goP hT b0 b1 b2 1 2 p2.e3 (obP rfl p2.o3) h h2
    · exact goP hT b0 b1 b2 1 3 p2.e4 (obP rfl p2.o4) h h2
    · exact goP hT b0 b1 b2 1 4 p2.e5 (obP rfl p2.o5) h h2
    · exact goP hT b0 b1 b2 1 5 p2.e6 (obP rfl p2.o6) h h2
    · exact goP hT b0 b1 b2 1 6 p2.e7 (obP rfl p2.o7) h h2
    · exact goP hT b0 b1 b2 1 7 p2.e8 (obP rfl p2.o8) h h2
    · exact goP hT b0 b1 b2 1 8 p2.e9 (obP rfl p2.o9) h h2
    · exact goP hT b0 b1 b2 1 9 p2.e10 (obP rfl p2.o10) h h2
    · exact goP hT b0 b1 b2 1 10 p2.e11 (obP rfl p2.o11) h h2
    · exact goP hT b0 b1 b2 1 11 p2.e12 (obP rfl p2.o12) h h2
    · exact goP hT b0 b1 b2 1 12 p2.e13 (obP rfl p2.o13) h h2
    · exact goP hT b0 b1 b2 1 13 p2.e14 (obP rfl p2.o14) h h2
    · exact goP hT b0 b1 b2 1 14 p2.e15 (obP rfl p2.o15) h h2
    · exact goP hT b0 b1 b2 1 15 p2.e16 (obP rfl p2.o16) h h2
  · rcases hm2 with h2 | h2 | h2 | h2 | h2 | h2 | h2 | h2 | h2 | h2 | h2 | h2 | h2 | h2 | h2 | h2
    · exact goP hT b0 b1 b2 2 0 p3.e1 (obP rfl p3.o1) h h2
    · exact goP hT b0 b1 b2 2 1 p3.e2 (obP rfl p3.o2) h h2
    · exact goP hT b0 b1 b2 2 2 p3.e3 (obP rfl p3.o3) h h2
    · exact goP hT b0 b1 b2 2 3 p3.e4 (obP rfl p3.o4) h h2
    · exact goP hT b0 b1 b2 2 4 p3.e5 (obP rfl p3.o5) h h2
    · exact goP hT b0 b1 b2 2 5 p3.e6 (obP rfl p3.o6) h h2
    · exact goP hT b0 b1 b2 2 6 p3.e7 (obP rfl p3.o7) h h2
    · exact goP hT b0 b1 b2 2 7 p3.e8 (obP rfl p3.o8) h h2
    · exact goP hT b0 b1 b2 2 8 p3.e9 (obP rfl p3.o9) h h2
    · exact goP hT b0 b1 b2 2 9 p3.e10 (obP rfl p3.o10) h h2
    · exact goP hT b0 b1 b2 2 10 p3.e11 (obP rfl p3.o11) h h2
    · exact goP hT b0 b1 b2 2 11 p3.e12 (obP rfl p3.o12) h h2
    · exact goP hT b0 b1 b2 2 12 p3.e13 (obP rfl p3.o13) h h2
    · exact goP hT b0 b1 b2 2 13 p3.e14 (obP rfl p3.o14) h h2
    · exact goP hT b0 b1 b2 2 14 p3.e15 (obP rfl p3.o15) h h2
    · exact goP hT b0 b1 b2 2 15 p3.e16 (obP rfl p3.o16) h h2
  · rcases hm2 with h2 | h2 | h2 | h2 | h2 | h2 | h2 | h2 | h2 | h2 | h2 | h2 | h2 | h2 | h2 | h2
    · exact goP hT b0 b1 b2 3 0 p4.e1 (obP rfl p4.o1) h h2
    · exact goP hT b0 b1 b2 3 1 p4.e2 (obP rfl p4.o2) h h2
    · exact goP hT b0 b1 b2 3 2 p4.e3 (obP rfl p4.o3) h h2
    · exact goP hT b0 b1 b2 3 3 p4.e4 (obP rfl p4.o4) h h2
    · exact goP hT b0 b1 b2 3 4 p4.e5 (obP rfl p4.o5) h h2
    · exact goP hT b0 b1 b2 3 5 p4.e6 (obP rfl p4.o6) h h2
    · exact goP hT b0 b1 b2 3 6 p4.e7 (obP rfl p4.o7) h h2
    · exact goP hT b0 b1 b2 3 7 p4.e8 (obP rfl p4.o8) h h2
    · exact goP hT b0 b1 b2 3 8 p4.e9 (obP rfl p4.o9) h h2
    · exact goP hT b0 b1 b2 3 9 p4.e10 (obP rfl p4.o10) h h2
    · exact goP hT b0 b1 b2 3 10 p4.e11 (obP rfl p4.o11) h h2
    · exact goP hT b0 b1 b2 3 11 p4.e12 (obP rfl p4.o12) h h2
    · exact goP hT b0 b1 b2 3 12 p4.e13 (obP rfl p4.o13) h h2
    · exact goP hT b0 b1 b2 3 13 p4.e14 (obP rfl p4.o14) h h2
    · exact goP hT b0 b1 b2 3 14 p4.e15 (obP rfl p4.o15) h h2
    · exact goP hT b0 b1 b2 3 15 p4.e16 (obP rfl p4.o16) h h2
  · rcases hm2 with h2 | h2 | h2 | h2 | h2 | h2 | h2 | h2 | h2 | h2 | h2 | h2 | h2 | h2 | h2 | h2
    · exact goP hT b0 b1 b2 4 0 p5.e1 (obP rfl p5.o1) h h2
    · exact goP hT b0 b1 b2 4 1 p5.e2 (obP rfl p5.o2) h h2
    · exact goP hT b0 b1 b2 4 2 p5.e3 (obP rfl p5.o3) h h2
    · exact goP hT b0 b1 b2 4 3 p5.e4 (obP rfl p5.o4) h h2
    · exact goP hT b0 b1 b2 4 4 p5.e5 (obP rfl p5.o5) h h2
    · exact goP hT b0 b1 b2 4 5 p5.e6 (obP rfl p5.o6) h h2
    · exact goP hT b0 b1 b2 4 6 p5.e7 (obP rfl p5.o7) h h2
    · exact goP hT b0 b1 b2 4 7 p5.e8 (obP rfl p5.o8) h h2
    · exact goP hT b0 b1 b2 4 8 p5.e9 (obP rfl p5.o9) h h2
    · exact goP hT b0 b1 b2 4 9 p5.e10 (obP rfl p5.o10) h h2
    · exact goP hT b0 b1 b2 4 10 p5.e11 (obP rfl p5.o11) h h2
    · exact goP hT b0 b1 b2 4 11 p5.e12 (obP rfl p5.o12) h h2
    · exact goP hT b0 b1 b2 4 12 p5.e13 (obP rfl p5.o13) h h2
    · exact goP hT b0 b1 b2 4 13 p5.e14 (obP rfl p5.o14) h h2
    · exact goP hT b0 b1 b2 4 14 p5.e15 (obP rfl p5.o15) h h2
    · exact goP hT b0 b1 b2 4 15 p5.e16 (obP rfl p5.o16) h h2
  · rcases hm2 with h2 | h2 | h2 | h2 | h2 | h2 | h2 | h2 | h2 | h2 | h2 | h2 | h2 | h2 | h2 | h2
    · exact goP hT b0 b1 b2 5 0 p6.e1 (obP rfl p6.o1) h h2
    · exact goP hT b0 b1 b2 5 1 p6.e2 (obP rfl p6.o2) h h2
    · exact goP hT b0 b1 b2 5 2 p6.e3 (obP rfl p6.o3) h h2
    · exact goP hT b0 b1 b2 5 3 p6.e4 (obP rfl p6.o4) h h2
    · exact goP hT b0 b1 b2 5 4 p6.e5 (obP rfl p6.o5) h h2
    · exact goP hT b0 b1 b2 5 5 p6.e6 (obP rfl p6.o6) h h2
    · exact goP hT b0 b1 b2 5 6 p6.e7 (obP rfl p6.o7) h h2
    · exact goP hT b0 b1 b2 5 7 p6.e8 (obP rfl p6.o8) h h2
    · exact goP hT b0 b1 b2 5 8 p6.e9 (obP rfl p6.o9) h h2
    · exact goP hT b0 b1 b2 5 9 p6.e10 (obP rfl p6.o10) h h2
    · exact goP hT b0 b1 b2 5 10 p6.e11 (obP rfl p6.o11) h h2
    · exact goP hT b0 b1 b2 5 11 p6.e12 (obP rfl p6.o12) h h2
    · exact goP hT b0 b1 b2 5 12 p6.e13 (obP rfl p6.o13) h h2
    · exact goP hT b0 b1 b2 5 13 p6.e14 (obP rfl p6.o14) h h2
    · exact goP hT b0 b1 b2 5 14 p6.e15 (obP rfl p6.o15) h h2
    · exact goP hT b0 b1 b2 5 15 p6.e16 (obP rfl p6.o16) h h2
  · rcases hm2 with h2 | h2 | h2 | h2 | h2 | h2 | h2 | h2 | h2 | h2 | h2 | h2 | h2 | h2 | h2 | h2
    · exact goP hT b0 b1 b2 6 0 p7.e1 (obP rfl p7.o1) h h2
    · exact goP hT b0 b1 b2 6 1 p7.e2 (obP rfl p7.o2) h h2
    · exact goP hT b0 b1 b2 6 2 p7.e3 (obP rfl p7.o3) h h2
    · exact goP hT b0 b1 b2 6 3 p7.e4 (obP rfl p7.o4) h h2
    · exact goP hT b0 b1 b2 6 4 p7.e5 (obP rfl p7.o5) h h2
    · exact goP hT b0 b1 b2 6 5 p7.e6 (obP rfl p7.o6) h h2
    · exact goP hT b0 b1 b2 6 6 p7.e7 (obP rfl p7.o7) h h2
    · exact goP hT b0 b1 b2 6 7 p7.e8 (obP rfl p7.o8) h h2
    · exact goP hT b0 b1 b2 6 8 p7.e9 (obP rfl p7.o9) h h2
    · exact goP hT b0 b1 b2 6 9 p7.e10 (obP rfl p7.o10) h h2
    · exact goP hT b0 b1 b2 6 10 p7.e11 (obP rfl p7.o11) h h2
    · exact goP hT b0 b1 b2 6 11 p7.e12 (obP rfl p7.o12) h h2
    · exact goP hT b0 b1 b2 6 12 p7.e13 (obP rfl p7.o13) h h2
    · exact goP hT b0 b1 b2 6 13 p7.e14 (obP rfl p7.o14) h h2
    · exact goP hT b0 b1 b2 6 14 p7.e15 (obP rfl p7.o15) h h2
    · exact goP hT b0 b1 b2 6 15 p7.e16 (obP rfl p7.o16) h h2
  · rcases hm2 with h2 | h2 | h2 | h2 | h2 | h2 | h2 | h2 | h2 | h2 | h2 | h2 | h2 | h2 | h2 | h2
    · exact goP hT b0 b1 b2 7 0 p8.e1 (obP rfl p8.o1) h h2
    · exact goP hT b0 b1 b2 7 1 p8.e2 (obP rfl p8.o2) h h2
    · exact goP hT b0 b1 b2 7 2 p8.e3 (obP rfl p8.o3) h h2
    · exact goP hT b0 b1 b2 7 3 p8.e4 (obP rfl p8.o4) h h2
    · exact goP hT b0 b1 b2 7 4 p8.e5 (obP rfl p8.o5) h h2
    · exact goP hT b0 b1 b2 7 5 p8.e6 (obP rfl p8.o6) h h2
    · exact goP hT b0 b1 b2 7 6 p8.e7 (obP rfl p8.o7) h h2
    · exact goP hT b0 b1 b2 7 7 p8.e8 (obP rfl p8.o8) h h2
    · exact goP hT b0 b1 b2 7 8 p8.e9 (obP rfl p8.o9) h h2
    · exact goP hT b0 b1 b2 7 9 p8.e10 (obP rfl p8.o10) h h2
    · exact goP hT b0 b1 b2 7 10 p8.e11 (obP rfl p8.o11) h h2
    · exact goP hT b0 b1 b2 7 11 p8.e12 (obP rfl p8.o12) h h2
    · exact goP hT b0 b1 b2 7 12 p8.e13 (obP rfl p8.o13) h h2
    · exact goP hT b0 b1 b2 7 13 p8.e14 (obP rfl p8.o14) h h2
    · exact goP hT b0 b1 b2 7 14 p8.e15 (obP rfl p8.o15) h h2
    · exact goP hT b0 b1 b2 7 15 p8.e16 (obP rfl p8.o16) h h2
  · rcases hm2 with h2 | h2 | h2 | h2 | h2 | h2 | h2 | h2 | h2 | h2 | h2 | h2 | h2 | h2 | h2 | h2
    · exact goP hT b0 b1 b2 8 0 p9.e1 (obP rfl p9.o1) h h2
    · exact goP hT b0 b1 b2 8 1 p9.e2 (obP rfl p9.o2) h h2
    · exact goP hT b0 b1 b2 8 2 p9.e3 (obP rfl p9.o3) h h2
    · exact goP hT b0 b1 b2 8 3 p9.e4 (obP rfl p9.o4) h h2
    · exact goP hT b0 b1 b2 8 4 p9.e5 (obP rfl p9.o5) h h2
    · exact goP hT b0 b1 b2 8 5 p9.e6 (obP rfl p9.o6) h h2
    · exact goP hT b0 b1 b2 8 6 p9.e7 (obP rfl p9.o7) h h2
    · exact goP hT b0 b1 b2 8 7 p9.e8 (obP rfl p9.o8) h h2
    · exact goP hT b0 b1 b2 8 8 p9.e9 (obP rfl p9.o9) h h2
    · exact goP hT b0 b1 b2 8 9 p9.e10 (obP rfl p9.o10) h h2
    · exact goP hT b0 b1 b2 8 10 p9.e11 (obP rfl p9.o11) h h2
    · exact goP hT b0 b1 b2 8 11 p9.e12 (obP rfl p9.o12) h h2
    · exact goP hT b0 b1 b2 8 12 p9.e13 (obP rfl p9.o13) h h2
    · exact goP hT b0 b1 b2 8 13 p9.e14 (obP rfl p9.o14) h h2
    · exact goP hT b0 b1 b2 8 14 p9.e15 (obP rfl p9.o15) h h2
    · exact goP hT b0 b1 b2 8 15 p9.e16 (obP rfl p9.o16) h h2
  · rcases hm2 with h2 | h2 | h2 | h2 | h2 | h2 | h2 | h2 | h2 | h2 | h2 | h2 | h2 | h2 | h2 | h2
    · exact goP hT b0 b1 b2 9 0 p10.e1 (obP rfl p10.o1) h h2
    · exact goP hT b0 b1 b2 9 1 p10.e2 (obP rfl p10.o2) h h2
    · exact goP hT b0 b1 b2 9 2 p10.e3 (obP rfl p10.o3) h h2
    · exact goP hT b0 b1 b2 9 3 p10.e4 (obP rfl p10.o4) h h2
    · exact goP hT b0 b1 b2 9 4 p10.e5 (obP rfl p10.o5) h h2
    · exact goP hT b0 b1 b2 9 5 p10.e6 (obP rfl p10.o6) h h2
    · exact goP hT b0 b1 b2 9 6 p10.e7 (obP rfl p10.o7) h h2
    · exact goP hT b0 b1 b2 9 7 p10.e8 (obP rfl p10.o8) h h2
    · exact goP hT b0 b1 b2 9 8 p10.e9 (obP rfl p10.o9) h h2
    · exact goP hT b0 b1 b2 9 9 p10.e10 (obP rfl p10.o10) h h2
    · exact goP hT b0 b1 b2 9 10 p10.e11 (obP rfl p10.o11) h h2
    · exact goP hT b0 b1 b2 9 11 p10.e12 (obP rfl p10.o12) h h2
    · exact goP hT b0 b1 b2 9 12 p10.e13 (obP rfl p10.o13) h h2
    · exact goP hT b0 b1 b2 9 13 p10.e14 (obP rfl p10.o14) h h2
    · exact goP hT b0 b1 b2 9 14 p10.e15 (obP rfl p10.o15) h h2
    · exact goP hT b0 b1 b2 9 15 p10.e16 (obP rfl p10.o16) h h2
  · rcases hm2 with h2 | h2 | h2 | h2 | h2 | h2 | h2 | h2 | h2 | h2 | h2 | h2 | h2 | h2 | h2 | h2
    · exact goP hT b0 b1 b2 10 0 p11.e1 (obP rfl p11.o1) h h2
    · exact goP hT b0 b1 b2 10 1 p11.e2 (obP rfl p11.o2) h h2
    · exact goP hT b0 b1 b2 10 2 p11.e3 (obP rfl p11.o3) h h2
    · exact goP hT b0 b1 b2 10 3 p11.e4 (obP rfl p11.o4) h h2
    · exact goP hT b0 b1 b2 10 4 p11.e5 (obP rfl p11.o5) h h2
    · exact goP hT b0 b1 b2 10 5 p11.e6 (obP rfl p11.o6) h h2
    · exact goP hT b0 b1 b2 10 6 p11.e7 (obP rfl p11.o7) h h2
    · exact goP hT b0 b1 b2 10 7 p11.e8 (obP rfl p11.o8) h h2
    · exact goP hT b0 b1 b2 10 8 p11.e9 (obP rfl p11.o9) h h2
    · exact goP hT b0 b1 b2 10 9 p11.e10 (obP rfl p11.o10) h h2
    · exact goP hT b0 b1 b2 10 10 p11.e11 (obP rfl p11.o11) h h2
    · exact goP hT b0 b1 b2 10 11 p11.e12 (obP rfl p11.o12) h h2
    · exact goP hT b0 b1 b2 10 12 p11.e13 (obP rfl p11.o13) h h2
    · exact goP hT b0 b1 b2 10 13 p11.e14 (obP rfl p11.o14) h h2
    · exact goP hT b0 b1 b2 10 14 p11.e15 (obP rfl p11.o15) h h2
    · exact goP hT b0 b1 b2 10 15 p11.e16 (obP rfl p11.o16) h h2
  · rcases hm2 with h2 | h2 | h2 | h2 | h2 | h2 | h2 | h2 | h2 | h2 | h2 | h2 | h2 | h2 | h2 | h2
    · exact goP hT b0 b1 b2 11 0 p12.e1 (obP rfl p12.o1) h h2
    · exact goP hT b0 b1 b2 11 1 p12.e2 (obP rfl p12.o2) h h2
    · exact goP hT b0 b1 b2 11 2 p12.e3 (obP rfl p12.o3) h h2
    · exact goP hT b0 b1 b2 11 3 p12.e4 (obP rfl p12.o4) h h2
    · exact goP hT b0 b1 b2 11 4 p12.e5 (obP rfl p12.o5) h h2
    · exact goP hT b0 b1 b2 11 5 p12.e6 (obP rfl p12.o6) h h2
    · exact goP hT b0 b1 b2 11 6 p12.e7 (obP rfl p12.o7) h h2
    · exact goP hT b0 b1 b2 11 7 p12.e8 (obP rfl p12.o8) h h2
    · exact goP hT b0 b1 b2 11 8 p12.e9 (obP rfl p12.o9) h h2
    · exact goP hT b0 b1 b2 11 9 p12.e10 (obP rfl p12.o10) h h2
    · exact goP hT b0 b1 b2 11 10 p12.e11 (obP rfl p12.o11) h h2
    · exact goP hT b0 b1 b2 11 11 p12.e12 (obP rfl p12.o12) h h2
    · exact goP hT b0 b1 b2 11 12 p12.e13 (obP rfl p12.o13) h h2
    · exact goP hT b0 b1 b2 11 13 p12.e14 (obP rfl p12.o14) h h2
    · exact goP hT b0 b1 b2 11 14 p12.e15 (obP rfl p12.o15) h h2
    · exact goP hT b0 b1 b2 11 15 p12.e16 (obP rfl p12.o16) h h2
  · rcases hm2 with h2 | h2 | h2 | h2 | h2 | h2 | h2 | h2 | h2 | h2 | h2 | h2 | h2 | h2 | h2 | h2
    · exact goP hT b0 b1 b2 12 0 p13.e1 (obP rfl p13.o1) h h2
    · exact goP hT b0 b1 b2 12 1 p13.e2 (obP rfl p13.o2) h h2
    · exact goP hT b0 b1 b2 12 2 p13.e3 (obP rfl p13.o3) h h2
    · exact goP hT b0 b1 b2 12 3 p13.e4 (obP rfl p13.o4) h h2
    · exact goP hT b0 b1 b2 12 4 p13.e5 (obP rfl p13.o5) h h2
    · exact goP hT b0 b1 b2 12 5 p13.e6 (obP rfl p13.o6) h h2
    · exact goP hT b0 b1 b2 12 6 p13.e7 (obP rfl p13.o7) h h2
    · exact goP hT b0 b1 b2 12 7 p13.e8 (obP rfl p13.o8) h h2
    · exact goP hT b0 b1 b2 12 8 p13.e9 (obP rfl p13.o9) h h2
    · exact goP hT b0 b1 b2 12 9 p13.e10 (obP rfl p13.o10) h h2
    · exact goP hT b0 b1 b2 12 10 p13.e11 (obP rfl p13.o11) h h2
    · exact goP hT b0 b1 b2 12 11 p13.e12 (obP rfl p13.o12) h h2
    · exact goP hT b0 b1 b2 12 12 p13.e13 (obP rfl p13.o13) h h2
    · exact goP hT b0 b1 b2 12 13 p13.e14 (obP rfl p13.o14) h h2
    · exact goP hT b0 b1 b2 12 14 p13.e15 (obP rfl p13.o15) h h2
    · exact goP hT b0 b1 b2 12 15 p13.e16 (obP rfl p13.o16) h h2
  · rcases hm2 with h2 | h2 | h2 | h2 | h2 | h2 | h2 | h2 | h2 | h2 | h2 | h2 | h2 | h2 | h2 | h2
    · exact goP hT b0 b1 b2 13 0 p14.e1 (obP rfl p14.o1) h h2
    · exact goP hT b0 b1 b2 13 1 p14.e2 (obP rfl p14.o2) h h2
    · exact goP hT b0 b1 b2 13 2 p14.e3 (obP rfl p14.o3) h h2
    · exact goP hT b0 b1 b2 13 3 p14.e4 (obP rfl p14.o4) h h2
    · exact goP hT b0 b1 b2 13 4 p14.e5 (obP rfl p14.o5) h h2
    · exact goP hT b0 b1 b2 13 5 p14.e6 (obP rfl p14.o6) h h2
    · exact goP hT b0 b1 b2 13 6 p14.e7 (obP rfl p14.o7) h h2
    · exact goP hT b0 b1 b2 13 7 p14.e8 (obP rfl p14.o8) h h2
    · exact goP hT b0 b1 b2 13 8 p14.e9 (obP rfl p14.o9) h h2
    · exact goP hT b0 b1 b2 13 9 p14.e10 (obP rfl p14.o10) h h2
    · exact goP hT b0 b1 b2 13 10 p14.e11 (obP rfl p14.o11) h h2
    · exact goP hT b0 b1 b2 13 11 p14.e12 (obP rfl p14.o12) h h2
    · exact goP hT b0 b1 b2 13 12 p14.e13 (obP rfl p14.o13) h h2
    · exact goP hT b0 b1 b2 13 13 p14.e14 (obP rfl p14.o14) h h2
    · exact goP hT b0 b1 b2 13 14 p14.e15 (obP rfl p14.o15) h h2
    · exact goP hT b0 b1 b2 13 15 p14.e16 (obP rfl p14.o16) h h2
  · rcases hm2 with h2 | h2 | h2 | h2 | h2 | h2 | h2 | h2 | h2 | h2 | h2 | h2 | h2 | h2 | h2 | h2
    · exact goP hT b0 b1 b2 14 0 p15.e1 (obP rfl p15.o1) h h2
    · exact goP hT b0 b1 b2 14 1 p15.e2 (obP rfl p15.o2) h h2
    · exact goP hT b0 b1 b2 14 2 p15.e3 (obP rfl p15.o3) h h2
    · exact goP hT b0 b1 b2 14 3 p15.e4 (obP rfl p15.o4) h h2
    · exact goP hT b0 b1 b2 14 4 p15.e5 (obP rfl p15.o5) h h2
    · exact goP hT b0 b1 b2 14 5 p15.e6 (obP rfl p15.o6) h h2
    · exact goP hT b0 b1 b2 14 6 p15.e7 (obP rfl p15.o7) h h2
    · exact goP hT b0 b1 b2 14 7 p15.e8 (obP rfl p15.o8) h h2
    · exact goP hT b0 b1 b2 14 8 p15.e9 (obP rfl p15.o9) h h2
    · exact goP hT b0 b1 b2 14 9 p15.e10 (obP rfl p15.o10) h h2
    · exact goP hT b0 b1 b2 14 10 p15.e11 (obP rfl p15.o11) h h2
    · exact goP hT b0 b1 b2 14 11 p15.e12 (obP rfl p15.o12) h h2
    · exact goP hT b0 b1 b2 14 12 p15.e13 (obP rfl p15.o13) h h2
    · exact goP hT b0 b1 b2 14 13 p15.e14 (obP rfl p15.o14) h h2
    · exact goP hT b0 b1 b2 14 14 p15.e15 (obP rfl p15.o15) h h2
    · exact goP hT b0 b1 b2 14 15 p15.e16 (obP rfl p15.o16) h h2
  · rcases hm2 with h2 | h2 | h2 | h2 | h2 | h2 | h2 | h2 | h2 | h2 | h2 | h2 | h2 | h2 | h2 | h2
    · exact goP hT b0 b1 b2 15 0 p16.e1 (obP rfl p16.o1) h h2
    · exact goP hT b0 b1 b2 15 1 p16.e2 (obP rfl p16.o2) h h2
    · exact goP hT b0 b1 b2 15 2 p16.e3 (obP rfl p16.o3) h h2
    · exact goP hT b0 b1 b2 15 3 p16.e4 (obP rfl p16.o4) h h2
    · exact goP hT b0 b1 b2 15 4 p16.e5 (obP rfl p16.o5) h h2
    · exact goP hT b0 b1 b2 15 5 p16.e6 (obP rfl p16.o6) h h2
    · exact goP hT b0 b1 b2 15 6 p16.e7 (obP rfl p16.o7) h h2
    · exact goP hT b0 b1 b2 15 7 p16.e8 (obP rfl p16.o8) h h2
    · exact goP hT b0 b1 b2 15 8 p16.e9 (obP rfl p16.o9) h h2
    · exact goP hT b0 b1 b2 15 9 p16.e10 (obP rfl p16.o10) h h2
    · exact goP hT b0 b1 b2 15 10 p16.e11 (obP rfl p16.o11) h h2
    · exact goP hT b0 b1 b2 15 11 p16.e12 (obP rfl p16.o12) h h2
    · exact goP hT b0 b1 b2 15 12 p16.e13 (obP rfl p16.o13) h h2
    · exact goP hT b0 b1 b2 15 13 p16.e14 (obP rfl p16.o14) h h2
    · exact goP hT b0 b1 b2 15 14 p16.e15 (obP rfl p16.o15) h h2
    · exact goP hT b0 b1 b2 15 15 p16.e16 (obP rfl p16.o16) h h2
end Go.Proofs.YtjodpodmeobciaaGreatDoor.topChanges
