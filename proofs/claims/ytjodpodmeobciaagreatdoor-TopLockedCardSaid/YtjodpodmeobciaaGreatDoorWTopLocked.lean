/- 'detenttop.TopLocked' answers true, whatever the call and the ticks. Conditions: the table holds what the program's text lays. -/
import Derived.Test.YtjodpodmeobciaaGreatDoorWTopLocked0
import Derived.Test.YtjodpodmeobciaaGreatDoorWTopLocked1
import Derived.Test.YtjodpodmeobciaaGreatDoorWTopLocked2
import Derived.Test.YtjodpodmeobciaaGreatDoorWTopLocked3
import Derived.Test.YtjodpodmeobciaaGreatDoorWTopLocked4
import Derived.Test.YtjodpodmeobciaaGreatDoorWTopLocked5
namespace Go.Proofs.YtjodpodmeobciaaGreatDoor.topLocked
open Go.Rse Go.RowKit
set_option maxRecDepth 1000000
variable {a0 a2 : Int} {l : List Int} {W : World}
theorem rel4 {ν : Nu} {ρ : Rho} (hl : l.length = 4) : AR ν ρ (.v (.agg [.any, .any, .any, .any])) (.agg (l.map (Value.int .i64)).toArray) := by
  match l, hl with
  | [x, y, z, u], _ => exact ⟨_, rfl, rfl, rfl, rfl, rfl, trivial⟩
theorem iv_fix (w2 : 0 ≤ a2 ∧ a2 ≤ 255) : IvOK ⟨fun i => if i = 0 then a2 else a2 % 20, some 64⟩ [⟨0, 255, 0⟩, ⟨0, 19, 20⟩] := iv_rest (ρ := ⟨fun i => if i = 0 then a2 else a2 % 20, some 64⟩) (hi := 255) (md := 20) w2 (by omega) rfl
theorem iv_fn (w2 : 0 ≤ a2 ∧ a2 ≤ 255) {lo hi : Int} (h : lo ≤ a0 ∧ a0 ≤ hi) : IvOK ⟨fun i => if i = 0 then a2 else if i = 1 then a2 % 20 else a0, some 64⟩ [⟨0, 255, 0⟩, ⟨0, 19, 20⟩, ⟨lo, hi, 0⟩] := by
  intro i x hx
  match i, hx with
  | 0, hx => simp at hx; subst hx; exact ⟨w2, fun hm => by simp at hm⟩
  | 1, hx =>
    simp at hx; subst hx
    refine ⟨by show 0 ≤ a2 % 20 ∧ a2 % 20 ≤ 19; omega, fun _ => ⟨0, rfl, ?_⟩⟩
    show a2 % 20 = Int.tmod a2 20
    rw [Int.tmod_eq_emod_of_nonneg w2.1]
  | 2, hx => simp at hx; subst hx; exact ⟨h, fun hm => by simp at hm⟩
  | i + 3, hx => simp at hx
theorem goF (hT : TabIs W 64 tab) (hl : l.length = 4) (w2 : 0 ≤ a2 ∧ a2 ≤ 255) (n : Nat) {ps : List Pat} (hr : lawK xs 400 100 (tcL ps) [.t k6] [.v (.one (.int .i64 (.ofNat n))), .v (.agg [.any, .any, .any, .any]), .v (.one (.lin .u8 1 0 (.ofNat 0)))] (st0 tab [⟨0, 255, 0⟩, ⟨0, 19, 20⟩]) = true) (h : a0 = (n : Int)) : Calls Tryz.prog 3 #[.int .i64 a0, .agg (l.map (Value.int .i64)).toArray, .int .u8 a2] W (fun e W' => e = .returned (.bool true) ∧ Below W.heap.size W W') := by
  subst h
  refine run_top hmix xs_get (fn := Tryz.f3) Tryz.func3 (chk ps) hr (fun i => if i = 0 then a2 else a2 % 20) (iv_fix w2) hT (vals := [.int .i64 (n : Int), .agg (l.map (Value.int .i64)).toArray, .int .u8 a2]) ⟨rfl, rel4 hl, ?_, trivial⟩
  show Value.int .u8 a2 = .int .u8 (1 * a2 + 0)
  simp
theorem goS (hT : TabIs W 64 tab) (hl : l.length = 4) (w2 : 0 ≤ a2 ∧ a2 ≤ 255) {lo hi : Int} {ps : List Pat} (hr : lawK xs 400 100 (tcL ps) [.t k6] [.v (.one (.lin .i64 1 2 (.ofNat 0))), .v (.agg [.any, .any, .any, .any]), .v (.one (.lin .u8 1 0 (.ofNat 0)))] (st0 tab [⟨0, 255, 0⟩, ⟨0, 19, 20⟩, ⟨lo, hi, 0⟩]) = true) (h : lo ≤ a0 ∧ a0 ≤ hi) : Calls Tryz.prog 3 #[.int .i64 a0, .agg (l.map (Value.int .i64)).toArray, .int .u8 a2] W (fun e W' => e = .returned (.bool true) ∧ Below W.heap.size W W') := by
  refine run_top hmix xs_get (fn := Tryz.f3) Tryz.func3 (chk ps) hr (fun i => if i = 0 then a2 else if i = 1 then a2 % 20 else a0) (iv_fn w2 h) hT (vals := [.int .i64 a0, .agg (l.map (Value.int .i64)).toArray, .int .u8 a2]) ⟨?_, rel4 hl, ?_, trivial⟩
  · show Value.int .i64 a0 = .int .i64 (1 * a0 + 0); simp
  · show Value.int .u8 a2 = .int .u8 (1 * a2 + 0); simp
theorem walk (a0 : Int) (l : List Int) (a2 : Int) (W : World) (w0 : (Lit.int .i64 a0).wf = true) (hl : l.length = 4) (w2 : (Lit.int .u8 a2).wf = true) (hT : TabIs W 64 tab) : Calls Tryz.prog 3 #[.int .i64 a0, .agg (l.map (Value.int .i64)).toArray, .int .u8 a2] W (fun e W' => e = .returned (.bool true) ∧ Below W.heap.size W W') := by
  have b2 := u8_bounds w2
  have b0 : -9223372036854775808 ≤ a0 ∧ a0 ≤ 9223372036854775807 := by simp only [Lit.wf, Bool.and_eq_true, decide_eq_true_eq] at w0; exact w0
  by_cases hlo : a0 ≤ 0
  · exact goS hT hl b2 run_lo ⟨b0.1, hlo⟩
  by_cases hhi : 65 ≤ a0
  · exact goS hT hl b2 run_hi ⟨hhi, b0.2⟩
  have hm : a0 = 1 ∨ a0 = 2 ∨ a0 = 3 ∨ a0 = 4 ∨ a0 = 5 ∨ a0 = 6 ∨ a0 = 7 ∨ a0 = 8 ∨ a0 = 9 ∨ a0 = 10 ∨ a0 = 11 ∨ a0 = 12 ∨ a0 = 13 ∨ a0 = 14 ∨ a0 = 15 ∨ a0 = 16 ∨ a0 = 17 ∨ a0 = 18 ∨ a0 = 19 ∨ a0 = 20 ∨ a0 = 21 ∨ a0 = 22 ∨ a0 = 23 ∨ a0 = 24 ∨ a0 = 25 ∨ a0 = 26 ∨ a0 = 27 ∨ a0 = 28 ∨ a0 = 29 ∨ a0 = 30 ∨ a0 = 31 ∨ a0 = 32 ∨ a0 = 33 ∨ a0 = 34 ∨ a0 = 35 ∨ a0 = 36 ∨ a0 = 37 ∨ a0 = 38 ∨ a0 = 39 ∨ a0 = 40 ∨ a0 = 41 ∨ a0 = 42 ∨ a0 = 43 ∨ a0 = 44 ∨ a0 = 45 ∨ a0 = 46 ∨ a0 = 47 ∨ a0 = 48 ∨ a0 = 49 ∨ a0 = 50 ∨ a0 = 51 ∨ a0 = 52 ∨ a0 = 53 ∨ a0 = 54 ∨ a0 = 55 ∨ a0 = 56 ∨ a0 = 57 ∨ a0 = 58 ∨ a0 = 59 ∨ a0 = 60 ∨ a0 = 61 ∨ a0 = 62 ∨ a0 = 63 ∨ a0 = 64 := by omega
  rcases hm with h | h | h | h | h | h | h | h | h | h | h | h | h | h | h | h | h | h | h | h | h | h | h | h | h | h | h | h | h | h | h | h | h | h | h | h | h | h | h | h | h | h | h | h | h | h | h | h | h | h | h | h | h | h | h | h | h | h | h | h | h | h | h | h
  · exact goF hT hl b2 1 run_f1 h
  · exact goF hT hl b2 2 run_f2 h
  · exact goF hT hl b2 3 run_f3 h
  · exact goF hT hl b2 4 run_f4 h
  · exact goF hT hl b2 5 run_f5 h
  · exact goF hT hl b2 6 run_f6 h
  · exact goF hT hl b2 7 run_f7 h
  · exact goF hT hl b2 8 run_f8 h
  · exact goF hT hl b2 9 run_f9 h
  · exact goF hT hl b2 10 run_f10 h
  · exact goF hT hl b2 11 run_f11 h
  · exact goF hT hl b2 12 run_f12 h
  · exact goF hT hl b2 13 run_f13 h
  · exact goF hT hl b2 14 run_f14 h
  · exact goF hT hl b2 15 run_f15 h
  · exact goF hT hl b2 16 run_f16 h
  · exact goF hT hl b2 17 run_f17 h
  · exact goF hT hl b2 18 run_f18 h
  · exact goF hT hl b2 19 run_f19 h
  · exact goF hT hl b2 20 run_f20 h
  · exact goF hT hl b2 21 run_f21 h
  · exact goF hT hl b2 22 run_f22 h
  · exact goF hT hl b2 23 run_f23 h
  · exact goF hT hl b2 24 run_f24 h
  · exact goF hT hl b2 25 run_f25 h
  · exact goF hT hl b2 26 run_f26 h
  · exact goF hT hl b2 27 run_f27 h
  · exact goF hT hl b2 28 run_f28 h
  · exact goF hT hl b2 29 run_f29 h
  · exact goF hT hl b2 30 run_f30 h
  · exact goF hT hl b2 31 run_f31 h
  · exact goF hT hl b2 32 run_f32 h
  · exact goF hT hl b2 33 run_f33 h
  · exact goF hT hl b2 34 run_f34 h
  · exact goF hT hl b2 35 run_f35 h
  · exact goF hT hl b2 36 run_f36 h
  · exact goF hT hl b2 37 run_f37 h
  · exact goF hT hl b2 38 run_f38 h
  · exact goF hT hl b2 39 run_f39 h
  · exact goF hT hl b2 40 run_f40 h
  · exact goF hT hl b2 41 run_f41 h
  · exact goF hT hl b2 42 run_f42 h
  · exact goF hT hl b2 43 run_f43 h
  · exact goF hT hl b2 44 run_f44 h
  · exact goF hT hl b2 45 run_f45 h
  · exact goF hT hl b2 46 run_f46 h
  · exact goF hT hl b2 47 run_f47 h
  · exact goF hT hl b2 48 run_f48 h
  · exact goF hT hl b2 49 run_f49 h
  · exact goF hT hl b2 50 run_f50 h
  · exact goF hT hl b2 51 run_f51 h
  · exact goF hT hl b2 52 run_f52 h
  · exact goF hT hl b2 53 run_f53 h
  · exact goF hT hl b2 54 run_f54 h
  · exact goF hT hl b2 55 run_f55 h
  · exact goF hT hl b2 56 run_f56 h
  · exact goF hT hl b2 57 run_f57 h
  · exact goF hT hl b2 58 run_f58 h
  · exact goF hT hl b2 59 run_f59 h
  · exact goF hT hl b2 60 run_f60 h
  · exact goF hT hl b2 61 run_f61 h
  · exact goF hT hl b2 62 run_f62 h
  · exact goF hT hl b2 63 run_f63 h
  · exact goF hT hl b2 64 run_f64 h
end Go.Proofs.YtjodpodmeobciaaGreatDoor.topLocked
