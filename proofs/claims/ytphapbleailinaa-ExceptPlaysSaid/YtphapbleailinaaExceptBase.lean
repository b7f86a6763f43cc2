/- What the methods on a task's exceptions do, and that a routine taken and over is as it was: known() is true. Conditions: none. -/
import Derived.Test.YtphapbleailinaaPExceptPlaysx1
namespace Go.Proofs.Ytphapbleailinaa.ExceptHand
set_option linter.unusedVariables false
open Go.RowKit Go.Proofs.YtphapbleailinaaW.PrintWords Go.Proofs.YtphapbleailinaaW.PrintLast Go.Proofs.YtphapbleailinaaW.PrintMore Go.Proofs.Ytphapbleailinaa.PExceptPlays

/-! ### Bits -/
abbrev o32 (x y : Int) : Int := Go.bits .or .u32 x y
theorem w32 (n : Int) (h0 : 0 ≤ n) (h1 : n < 2 ^ 32) : IntKind.u32.wrap n = n := by rw [IntKind.wrap_u32]; omega
theorem o32_nat (a b : Nat) (ha : a < 2 ^ 32) (hb : b < 2 ^ 32) : o32 a b = ((a ||| b : Nat) : Int) := (bits_nat .u32 32 (by decide) w32 a b ha hb).2
/-- A number of 32 bits. -/
def U (x : Int) : Prop := 0 ≤ x ∧ x < 4294967296
theorem U.nat {x : Int} (h : U x) : ∃ n : Nat, x = n ∧ n < 2 ^ 32 := ⟨x.toNat, by unfold U at h; omega, by unfold U at h; omega⟩
theorem U.or {x y : Int} (hx : U x) (hy : U y) : U (o32 x y) := by
  obtain ⟨a, rfl, ha⟩ := hx.nat
  obtain ⟨b, rfl, hb⟩ := hy.nat
  rw [o32_nat a b ha hb]
  have := Nat.or_lt_two_pow ha hb
  unfold U; omega
theorem U.zero : U 0 := ⟨by omega, by omega⟩
theorem zero_or {x : Int} (h : U x) : o32 0 x = x := by
  obtain ⟨a, rfl, ha⟩ := h.nat
  rw [show (0 : Int) = ((0 : Nat) : Int) from rfl, o32_nat 0 a (by decide) ha, Nat.zero_or]
theorem or_zero {x : Int} (h : U x) : o32 x 0 = x := by
  obtain ⟨a, rfl, ha⟩ := h.nat
  rw [show (0 : Int) = ((0 : Nat) : Int) from rfl, o32_nat a 0 ha (by decide), Nat.or_zero]
theorem or_assoc {x y z : Int} (hx : U x) (hy : U y) (hz : U z) : o32 (o32 x y) z = o32 x (o32 y z) := by
  obtain ⟨a, rfl, ha⟩ := hx.nat
  obtain ⟨b, rfl, hb⟩ := hy.nat
  obtain ⟨c, rfl, hc⟩ := hz.nat
  rw [o32_nat a b ha hb, o32_nat b c hb hc, o32_nat _ c (Nat.or_lt_two_pow ha hb) hc, o32_nat a _ ha (Nat.or_lt_two_pow hb hc), Nat.or_assoc]
theorem or_ne {x y : Int} (hx : U x) (hy : U y) (h : x ≠ 0) : o32 x y ≠ 0 := by
  obtain ⟨a, rfl, ha⟩ := hx.nat
  obtain ⟨b, rfl, hb⟩ := hy.nat
  rw [o32_nat a b ha hb]
  intro e
  have e' : a ||| b = 0 := by exact_mod_cast e
  have := (Nat.or_eq_zero_iff.1 e').1
  omega

/-! ### Raise at a slice that was just made -/
theorem reads_two (w : World) (x y : Int) : Kd.C (Kd.int .u32) (w.alloc (.cells #[.int .u32 x, .int .u32 y] 25)) (some ⟨w.heap.size, 0, none⟩) [x, y].length [x, y] :=
  Kd.C_of_reads (d := 0) ⟨rfl, by simp, fun _ => ⟨_, rfl, fun j hj => by
    have hb : (w.alloc (.cells #[.int .u32 x, .int .u32 y] 25)).heap[w.heap.size]? = some (.cells #[.int .u32 x, .int .u32 y] 25 (0, 0)) := heap_alloc_new w _
    have : j = 0 ∨ j = 1 := by simp at hj; omega
    rcases this with rfl | rfl
    · exact (blk_cell hb 0).trans rfl
    · exact (blk_cell hb 1).trans rfl⟩⟩
theorem reads_one (w : World) (x : Int) : Kd.C (Kd.int .u32) (w.alloc (.cells #[.int .u32 x] 25)) (some ⟨w.heap.size, 0, none⟩) [x].length [x] :=
  Kd.C_of_reads (d := 0) ⟨rfl, by simp, fun _ => ⟨_, rfl, fun j hj => by
    have hb : (w.alloc (.cells #[.int .u32 x] 25)).heap[w.heap.size]? = some (.cells #[.int .u32 x] 25 (0, 0)) := heap_alloc_new w _
    have : j = 0 := by simp at hj; omega
    subst this
    exact (blk_cell hb 0).trans rfl⟩⟩
/-- A task's exceptions at block g, nothing that was there before w0 turned. -/
def T (w0 W : World) (g : Nat) (b : Int) (e : Bool) (d : Int) : Prop := IsS27 w0 W g b e d ∧ Below w0.heap.size w0 W
theorem T.made {w0 W : World} (h : Below w0.heap.size w0 W) : T w0 (W.alloc (.cells #[.int .u32 0, .bool false, .int .i64 0] 27)) W.heap.size 0 false 0 := ⟨IsS27.new w0 W 0 false 0 h, below_alloc h _⟩
theorem raise_one {w0 W : World} {g : Nat} {b : Int} {e : Bool} {d : Int} (h : T w0 W g b e d) {n : Nat} (hn : n = W.heap.size) (x : Int) (hx : U x) (h0 : x ≠ 0) :
    Calls Try.prog 16 #[.pointer (some ⟨g, 0, none⟩), .slice (some ⟨n, 0, none⟩) 1 1] (W.alloc (.cells #[.int .u32 x] 25)) fun r w' => r = .returned (.int .i64 0) ∧ T w0 w' g (o32 b x) e d := by
  subst hn
  exact (tex_Task_Raise.calls 2 g b e d (some ⟨W.heap.size, 0, none⟩) 1 [x] 0 (o32 b x) e d w0 _ (h.1.alloc _) (below_alloc h.2 _) (reads_one W x) (by simp)
    (fun ad he _ => by cases he; exact fun hg => h.1.fresh W.heap.size (Nat.le_refl _) hg)
    (by simp only [tex_Task_Raise.f, tex_Task_Raise.l0, List.length_cons, List.length_nil, rd, wrap64]
        simp only [show Go.bits .or .u32 0 ([x].getD (0 : Int).toNat 0) = x from zero_or hx]
        simp [h0])).mono fun r w' ⟨hr, hi, hb, _⟩ => ⟨hr, hi, hb⟩
theorem raise_none {w0 W : World} {g : Nat} {b : Int} {e : Bool} {d : Int} (h : T w0 W g b e d) {n : Nat} (hn : n = W.heap.size) :
    Calls Try.prog 16 #[.pointer (some ⟨g, 0, none⟩), .slice (some ⟨n, 0, none⟩) 1 1] (W.alloc (.cells #[.int .u32 0] 25)) fun r w' => r = .returned (.int .i64 (-17)) ∧ T w0 w' g b e d := by
  subst hn
  exact (tex_Task_Raise.calls 2 g b e d (some ⟨W.heap.size, 0, none⟩) 1 [0] (-17) b e d w0 _ (h.1.alloc _) (below_alloc h.2 _) (reads_one W 0) (by simp)
    (fun ad he _ => by cases he; exact fun hg => h.1.fresh W.heap.size (Nat.le_refl _) hg)
    (by simp only [tex_Task_Raise.f, tex_Task_Raise.l0, List.length_cons, List.length_nil, rd, wrap64]
        simp only [show Go.bits .or .u32 0 ([0].getD (0 : Int).toNat 0) = 0 from zero_or U.zero]
        simp)).mono fun r w' ⟨hr, hi, hb, _⟩ => ⟨hr, hi, hb⟩
theorem raise_two {w0 W : World} {g : Nat} {b : Int} {e : Bool} {d : Int} (h : T w0 W g b e d) {n : Nat} (hn : n = W.heap.size) (x y : Int) (hx : U x) (hy : U y) (h0 : x ≠ 0) :
    Calls Try.prog 16 #[.pointer (some ⟨g, 0, none⟩), .slice (some ⟨n, 0, none⟩) 2 2] (W.alloc (.cells #[.int .u32 x, .int .u32 y] 25)) fun r w' => r = .returned (.int .i64 0) ∧ T w0 w' g (o32 b (o32 x y)) e d := by
  subst hn
  exact (tex_Task_Raise.calls 3 g b e d (some ⟨W.heap.size, 0, none⟩) 2 [x, y] 0 (o32 b (o32 x y)) e d w0 _ (h.1.alloc _) (below_alloc h.2 _) (reads_two W x y) (by simp)
    (fun ad he _ => by cases he; exact fun hg => h.1.fresh W.heap.size (Nat.le_refl _) hg)
    (by have e1 : Go.bits .or .u32 0 ([x, y].getD (0 : Int).toNat 0) = x := zero_or hx
        have e2 : Go.bits .or .u32 x ([x, y].getD (1 : Int).toNat 0) = o32 x y := rfl
        have e3 : o32 x y ≠ 0 := or_ne hx hy h0
        simp only [tex_Task_Raise.f, tex_Task_Raise.l0, List.length_cons, List.length_nil, rd, wrap64]
        simp only [e1]
        simp [e3])).mono fun r w' ⟨hr, hi, hb, _⟩ => ⟨hr, hi, hb⟩
theorem enable_T {w0 W : World} {g : Nat} {b : Int} {e : Bool} {d : Int} (h : T w0 W g b e d) :
    Calls Try.prog 17 #[.pointer (some ⟨g, 0, none⟩)] W fun r w' => r = .returned (.tuple #[]) ∧ T w0 w' g b true d :=
  (tex_Task_Enable.calls g b e d _ _ _ w0 W h.1 h.2 rfl).mono fun r w' ⟨hr, hi, hb, _⟩ => ⟨hr, hi, hb⟩
theorem take_no {w0 W : World} {g : Nat} {b : Int} {e : Bool} {d : Int} (h : T w0 W g b e d) (hn : e = false ∨ b = 0) :
    Calls Try.prog 18 #[.pointer (some ⟨g, 0, none⟩)] W fun r w' => r = .returned (.tuple #[.int .u32 0, .bool false]) ∧ T w0 w' g b e d :=
  (tex_Task_Take.calls g b e d 0 false b e d w0 W h.1 h.2 (by
    unfold tex_Task_Take.f
    rcases hn with rfl | rfl
    · simp
    · cases e <;> simp)).mono fun r w' ⟨hr, hi, hb, _⟩ => ⟨hr, hi, hb⟩
theorem take_yes {w0 W : World} {g : Nat} {b : Int} {d : Int} (h : T w0 W g b true d) (hn : b ≠ 0) {d' : Int} (hd : wrap64 (d + 1) = d') :
    Calls Try.prog 18 #[.pointer (some ⟨g, 0, none⟩)] W fun r w' => r = .returned (.tuple #[.int .u32 b, .bool true]) ∧ T w0 w' g 0 false d' :=
  (tex_Task_Take.calls g b true d b true 0 false d' w0 W h.1 h.2 (by unfold tex_Task_Take.f; simp [hn, hd])).mono fun r w' ⟨hr, hi, hb, _⟩ => ⟨hr, hi, hb⟩
theorem return_yes {w0 W : World} {g : Nat} {b : Int} {e : Bool} {d : Int} (h : T w0 W g b e d) (hd : 0 < d) {d' : Int} (he : wrap64 (d - 1) = d') :
    Calls Try.prog 19 #[.pointer (some ⟨g, 0, none⟩)] W fun r w' => r = .returned (.int .i64 0) ∧ T w0 w' g b true d' :=
  (tex_Task_Return.calls g b e d 0 b true d' w0 W h.1 h.2 (by unfold tex_Task_Return.f; rw [if_neg (by omega), he])).mono fun r w' ⟨hr, hi, hb, _⟩ => ⟨hr, hi, hb⟩
theorem return_no {w0 W : World} {g : Nat} {b : Int} {e : Bool} {d : Int} (h : T w0 W g b e d) (hd : d ≤ 0) :
    Calls Try.prog 19 #[.pointer (some ⟨g, 0, none⟩)] W fun r w' => r = .returned (.int .i64 (-41)) ∧ T w0 w' g b e d :=
  (tex_Task_Return.calls g b e d (-41) b e d w0 W h.1 h.2 (by unfold tex_Task_Return.f; rw [if_pos hd])).mono fun r w' ⟨hr, hi, hb, _⟩ => ⟨hr, hi, hb⟩
theorem reset_T {w0 W : World} {g : Nat} {b : Int} {e : Bool} {d : Int} (h : T w0 W g b e d) :
    Calls Try.prog 20 #[.pointer (some ⟨g, 0, none⟩)] W fun r w' => r = .returned (.tuple #[]) ∧ T w0 w' g 0 false 0 :=
  (tex_Task_Reset.calls g b e d _ _ _ w0 W h.1 h.2 rfl).mono fun r w' ⟨hr, hi, hb, _⟩ => ⟨hr, hi, hb⟩
theorem disable_T {w0 W : World} {g : Nat} {b : Int} {e : Bool} {d : Int} (h : T w0 W g b e d) :
    Calls Try.prog 21 #[.pointer (some ⟨g, 0, none⟩)] W fun r w' => r = .returned (.tuple #[]) ∧ T w0 w' g b false d :=
  (tex_Task_Disable.calls g b e d _ _ _ w0 W h.1 h.2 rfl).mono fun r w' ⟨hr, hi, hb, _⟩ => ⟨hr, hi, hb⟩
/-- The cells that the law itself reads. -/
theorem T.cells {w0 W : World} {g : Nat} {b : Int} {e : Bool} {d : Int} (h : T w0 W g b e d) :
    W.cell? ⟨g, 0, none⟩ = some (.int .u32 b) ∧ W.cell? ⟨g, 1, none⟩ = some (.bool e) ∧ W.cell? ⟨g, 2, none⟩ = some (.int .i64 d) := ⟨cellS27_0 h.1.1, cellS27_1 h.1.1, cellS27_2 h.1.1⟩

set_option maxHeartbeats 1000000 in
set_option maxRecDepth 100000 in
theorem known_calls (w : World) : Calls Try.prog 15 #[] w fun e w' => e = .returned (.bool true) ∧ Below w.heap.size w w' := by
  have H0 := Aside0.mk (T.made (Below.refl w.heap.size w))
  go_enter Try.func15, Try.ntmps15
  go_wp2_with fail
  refine (raise_two H0.out (by simp) 1 4 ⟨by omega, by omega⟩ ⟨by omega, by omega⟩ (by omega)).mono ?_
  rintro r w1 ⟨rfl, h1⟩
  have H1 := Aside0.mk h1; clear h1
  go_wp2_with fail
  refine (take_no H1.out (.inl rfl)).mono ?_
  rintro r w2 ⟨rfl, h2⟩
  have H2 := Aside0.mk h2; clear h2
  go_wp2_with fail
  refine (enable_T H2.out).mono ?_
  rintro r w3 ⟨rfl, h3⟩
  have H3 := Aside0.mk h3; clear h3
  go_wp2_with fail
  refine (take_yes H3.out (by decide +kernel) (d' := 1) (by decide +kernel)).mono ?_
  rintro r w4 ⟨rfl, h4⟩
  have H4 := Aside0.mk h4; clear h4
  go_wp2_with fail
  refine (return_yes H4.out (by omega) (d' := 0) (by decide +kernel)).mono ?_
  rintro r w5 ⟨rfl, h5⟩
  have H5 := Aside0.mk h5; clear h5
  go_wp2_with fail
  refine (return_no H5.out (by omega)).mono ?_
  rintro r w6 ⟨rfl, h6⟩
  have H6 := Aside0.mk h6; clear h6
  go_wp2_with fail
  refine (raise_none H6.out rfl).mono ?_
  rintro r w7 ⟨rfl, h7⟩
  obtain ⟨c0, c1, c2⟩ := h7.cells
  have H7 := Aside0.mk h7; clear h7
  have e5 : o32 0 (o32 1 4) = 5 := by decide +kernel
  rw [e5]
  go_wp2
  go_ret
  exact ⟨rfl, H7.out.2⟩
end Go.Proofs.Ytphapbleailinaa.ExceptHand
