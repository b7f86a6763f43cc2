/- Handlers by time, the program's way: made, a cyclic one put in. Conditions: none. -/
import Derived.Test.YteiepbjajennkaaConfMtx
namespace Go.Proofs.Yteiepbjajennkaa.ConfHand
set_option linter.unusedVariables false
set_option linter.unusedSimpArgs false
open Go.RowKit Go.Proofs.YteiepbjajennkaaW.PrintWords Go.Proofs.YteiepbjajennkaaW.PrintMore
/-- Handlers at block g, their clock at block k, m cyclic ones; the row of these from block B on. -/
structure Hd (B : Nat) (W : World) (g k m : Nat) : Prop where
  c0 : W.cell? ⟨g, 0, none⟩ = some (.pointer (some ⟨k, 0, none⟩))
  up : W.cell? ⟨k, 2, none⟩ = some (.int .u64 0)
  cy : ∃ v xs, W.cell? ⟨g, 2, none⟩ = some v ∧ W.ownsRow B 200 5 v m xs
  fr : W.frozen? ⟨g, 2, none⟩ = false
  gB : g < B
  kB : k < B
  gk : g ≠ k
/-- Below B nothing turns but what is at block g. -/
structure Fr (B : Nat) (X : Nat → Prop) (W w' : World) : Prop where
  os : w'.os = W.os
  tape : w'.tape = W.tape
  output : w'.output = W.output
  size : W.heap.size ≤ w'.heap.size
  block : ∀ i, i < B → ¬ X i → w'.heap[i]? = W.heap[i]?
theorem Fr.refl (B : Nat) (X : Nat → Prop) (W : World) : Fr B X W W := ⟨rfl, rfl, rfl, Nat.le_refl _, fun _ _ _ => rfl⟩
theorem Fr.trans {B : Nat} {X : Nat → Prop} {W W1 W2 : World} (h : Fr B X W W1) (k : Fr B X W1 W2) : Fr B X W W2 :=
  ⟨k.os.trans h.os, k.tape.trans h.tape, k.output.trans h.output, Nat.le_trans h.size k.size, fun i hi hx => (k.block i hi hx).trans (h.block i hi hx)⟩
theorem Fr.of_below {B C : Nat} {X : Nat → Prop} {W w' : World} (h : Below C W w') (hc : B ≤ C) : Fr B X W w' := ⟨h.os, h.tape, h.output, h.size, fun i hi _ => h.block i (by omega)⟩
theorem Fr.less {B C : Nat} {X : Nat → Prop} {W w' : World} (h : Fr C X W w') (hc : B ≤ C) : Fr B X W w' := ⟨h.os, h.tape, h.output, h.size, fun i hi hx => h.block i (by omega) hx⟩
theorem Fr.wide {B : Nat} {X Y : Nat → Prop} {W w' : World} (h : Fr B X W w') (hx : ∀ i, X i → Y i) : Fr B Y W w' := ⟨h.os, h.tape, h.output, h.size, fun i hi hy => h.block i hi (fun q => hy (hx i q))⟩
theorem Fr.set {B : Nat} {X : Nat → Prop} {W w' : World} (h : Fr B X W w') (p : Addr) (v : Value) (hp : X p.block ∨ B ≤ p.block) : Fr B X W (w'.setCell p v) :=
  ⟨h.os, h.tape, h.output, by rw [World.size_setCell]; exact h.size, fun i hi hx => (Below.heap_setCell w' p v i (by rcases hp with q | q; exact fun e => hx (e ▸ q); omega)).trans (h.block i hi hx)⟩
theorem Fr.cell {B : Nat} {X : Nat → Prop} {W w' : World} (h : Fr B X W w') {p : Addr} (hp : p.block < B) (hx : ¬ X p.block) : w'.cell? p = W.cell? p := World.cell?_of_block (h.block _ hp hx)
theorem Fr.below {B : Nat} {X : Nat → Prop} {W w' : World} (h : Fr B X W w') {C : Nat} (hc : C ≤ B) (hx : ∀ i, i < C → ¬ X i) : Below C W w' := ⟨h.os, h.tape, h.output, h.size, fun i hi => h.block i (by omega) (hx i hi)⟩
theorem Hd.below {B : Nat} {W w' : World} {g k m : Nat} (h : Hd B W g k m) (b : Below W.heap.size W w') : Hd B w' g k m := by
  have hg := World.block_lt_of_cell? W _ h.c0
  have hk := World.block_lt_of_cell? W _ h.up
  obtain ⟨v, xs, e1, e2⟩ := h.cy
  exact ⟨(b.cell (p := ⟨g, 0, none⟩) hg).trans h.c0, (b.cell (p := ⟨k, 2, none⟩) hk).trans h.up, ⟨v, xs, (b.cell (p := ⟨g, 2, none⟩) hg).trans e1, own_move e2 (fun j hj => b.block j (own_lt e2 j hj))⟩, (World.frozen?_of_block (a := ⟨g, 2, none⟩) (b.block g hg)).trans h.fr, h.gB, h.kB, h.gk⟩
theorem clock_no (tic : Int) (h : tic < 1 ∨ 1000 < tic) (W : World) : Calls Try.prog 75 #[.int .i64 tic] W fun e w' => e = .returned (.tuple #[.pointer none, .int .i64 (-17)]) ∧ W = w' := by
  by_cases h0 : tic < 1
  · clear h
    go_enter Try.func75, Try.ntmps75
    go_wp2
    go_ret2
    exact ⟨rfl, rfl⟩
  · have h1 : 1000 < tic := by omega
    clear h
    go_enter Try.func75, Try.ntmps75
    go_wp2
    go_ret2
    exact ⟨rfl, rfl⟩
theorem clock_yes (tic : Int) (h0 : 1 ≤ tic) (h1 : tic ≤ 1000) (W : World) : Calls Try.prog 75 #[.int .i64 tic] W fun e w' => e = .returned (.tuple #[.pointer (some ⟨W.heap.size + 1, 0, none⟩), .int .i64 0]) ∧ w' = (W.alloc (.cells #[.slice none 0 0, .int .i64 0] 237)).alloc (.cells #[.pointer (some ⟨W.heap.size, 0, none⟩), .int .u64 tic, .int .u64 0, .int .u64 0] 228) := by
  go_enter Try.func75, Try.ntmps75
  go_wp2_with fail
  refine (heap_calls W).mono ?_
  rintro e w' ⟨rfl, rfl⟩
  go_wp2
  go_ret2
  exact ⟨rfl, rfl⟩
theorem hands_no (tic : Int) (h : tic < 1 ∨ 1000 < tic) (W : World) : Calls Try.prog 49 #[.int .i64 tic] W fun e w' => e = .returned (.tuple #[.pointer none, .int .i64 (-17)]) ∧ W = w' := by
  have H := Aside0.mk h; clear h
  go_enter Try.func49, Try.ntmps49
  go_wp2_with fail
  refine (clock_no tic H.out W).mono ?_
  rintro e w' ⟨rfl, rfl⟩
  go_wp2
  go_ret2
  exact ⟨rfl, rfl⟩
theorem hands_yes (tic : Int) (h0 : 1 ≤ tic) (h1 : tic ≤ 1000) (W : World) : Calls Try.prog 49 #[.int .i64 tic] W fun e w' => e = .returned (.tuple #[.pointer (some ⟨W.heap.size + 2, 0, none⟩), .int .i64 0]) ∧ (∀ C, W.heap.size + 3 ≤ C → Hd C w' (W.heap.size + 2) (W.heap.size + 1) 0) ∧ Below W.heap.size W w' ∧ w'.heap.size = W.heap.size + 3 := by
  go_enter Try.func49, Try.ntmps49
  go_wp2_with fail
  refine (clock_yes tic h0 h1 W).mono ?_
  rintro e w' ⟨rfl, rfl⟩
  go_wp2
  go_ret2
  refine ⟨rfl, fun C hC => ⟨?_, ?_, ⟨.slice none 0 0, [], ?_, own_nil _ _ _ _⟩, ?_, by omega, by omega, by omega⟩, below_alloc (below_alloc (below_alloc (Below.refl _ _) _) _) _, by simp⟩
  · rw [World.cell?_alloc_at _ _ _ _ (by simp)]; rfl
  · rw [World.cell?_alloc_past _ _ _ (by simp), World.cell?_alloc_at _ _ _ _ (by simp)]; rfl
  · rw [World.cell?_alloc_at _ _ _ _ (by simp)]; rfl
  · rw [World.frozen?_alloc_at _ _ _ _ (by simp)]
theorem rel_calls (d : Int) (p c : Int) (hp : (if 0 ≤ d ∧ d ≤ 2147483647 then d else 0) = p) (hc : (if 0 ≤ d ∧ d ≤ 2147483647 then 0 else -17) = c) (W : World) : Calls Try.prog 79 #[.int .i64 d] W fun e w' => e = .returned (.tuple #[.int .u64 p, .int .i64 c]) ∧ W = w' := by
  by_cases h : 0 ≤ d ∧ d ≤ 2147483647
  · rw [if_pos h] at hp hc
    subst hp hc
    obtain ⟨h0, h1⟩ := h
    go_enter Try.func79, Try.ntmps79
    go_wp2
    go_ret2
    exact ⟨rfl, rfl⟩
  · rw [if_neg h] at hp hc
    subst hp hc
    by_cases h0 : d < 0
    · clear h
      go_enter Try.func79, Try.ntmps79
      go_wp2
      go_ret2
      exact ⟨rfl, rfl⟩
    · have h1 : 2147483647 < d := by omega
      clear h
      go_enter Try.func79, Try.ntmps79
      go_wp2
      go_ret2
      exact ⟨rfl, rfl⟩
theorem up_calls {B g k m : Nat} {W : World} (h : Hd B W g k m) : Calls Try.prog 80 #[.pointer (some ⟨k, 0, none⟩)] W fun e w' => e = .returned (.int .u64 0) ∧ W = w' := by
  have c := h.up
  clear h
  go_enter Try.func80, Try.ntmps80
  go_wp2
  go_ret
  exact ⟨rfl, rfl⟩
def cycC (per pha : Int) : Int := if per < 1 ∨ 2147483647 < per ∨ pha < 0 ∨ 2147483647 < pha then -17 else 0
theorem info200 : (Try.prog.info? 200).map (fun i => (i.zero, i.size, i.bytes)) = some (some (.agg #[.int .u64 0, .int .u64 0, .int .u64 0, .bool false, .bool false]), 5, 32) := by kernel_rfl
/-- What a cyclic handler's making says: a number, a code; the handlers, one more if it is made. -/
def CycSays (B g k m : Nat) (c : Int) (W : World) (e : Ending) (w' : World) : Prop := (∃ n, e = .returned (.tuple #[.int .i64 n, .int .i64 c])) ∧ (c = 0 → Hd B w' g k (m + 1)) ∧ Fr B (· = g) W w'
set_option maxHeartbeats 1000000 in
theorem cyc_no {B g k m : Nat} {W : World} (h : Hd B W g k m) (per pha : Int) (s q : Bool) (hb : per < 1 ∨ 2147483647 < per ∨ pha < 0 ∨ 2147483647 < pha) :
    Calls Try.prog 64 #[.pointer (some ⟨g, 0, none⟩), .int .i64 per, .int .i64 pha, .bool s, .bool q] W (CycSays B g k m (-17) W) := by
  have HL := Aside0.mk h; clear h
  by_cases hp : 1 ≤ per ∧ per ≤ 2147483647
  · have HP := Aside0.mk hp
    have HQ := Aside0.mk (show ¬ (0 ≤ pha ∧ pha ≤ 2147483647) by omega)
    have b0 : (per == 0) = false := beq_eq_false_iff_ne.2 (by omega)
    clear hb hp
    go_enter Try.func64, Try.ntmps64
    go_wp2_with fail
    refine (rel_calls per per 0 (if_pos ⟨by have := HP.out; omega, HP.out.2⟩) (if_pos ⟨by have := HP.out; omega, HP.out.2⟩) W).mono ?_
    rintro e w' ⟨rfl, rfl⟩
    go_wp2_with fail
    refine (rel_calls pha 0 (-17) (if_neg HQ.out) (if_neg HQ.out) W).mono ?_
    rintro e w' ⟨rfl, rfl⟩
    go_wp2
    go_ret2
    exact ⟨⟨_, rfl⟩, fun h => absurd h (by decide), Fr.refl _ _ _⟩
  · obtain ⟨pc, hpc⟩ : ∃ pc, (if 0 ≤ per ∧ per ≤ 2147483647 then (0 : Int) else -17) = pc := ⟨_, rfl⟩
    obtain ⟨qv, hqv⟩ : ∃ pc, (if 0 ≤ pha ∧ pha ≤ 2147483647 then pha else 0) = pc := ⟨_, rfl⟩
    obtain ⟨qc, hqc⟩ : ∃ pc, (if 0 ≤ pha ∧ pha ≤ 2147483647 then (0 : Int) else -17) = pc := ⟨_, rfl⟩
    have HP := Aside0.mk (show (if 0 ≤ per ∧ per ≤ 2147483647 then per else 0) = 0 by split <;> omega)
    have H1 := Aside0.mk hpc; have H2 := Aside0.mk hqv; have H3 := Aside0.mk hqc
    clear hb hp hpc hqv hqc
    go_enter Try.func64, Try.ntmps64
    go_wp2_with fail
    refine (rel_calls per 0 pc HP.out H1.out W).mono ?_
    rintro e w' ⟨rfl, rfl⟩
    go_wp2_with fail
    refine (rel_calls pha qv qc H2.out H3.out W).mono ?_
    rintro e w' ⟨rfl, rfl⟩
    go_wp2
    go_ret2
    exact ⟨⟨_, rfl⟩, fun h => absurd h (by decide), Fr.refl _ _ _⟩
set_option maxHeartbeats 2000000 in
set_option maxRecDepth 100000 in
theorem cyc_yes {B g k m : Nat} {W : World} (h : Hd B W g k m) (hm : m < 8) (hBW : B ≤ W.heap.size) (per pha : Int) (s q : Bool) (p0 : 1 ≤ per) (p1 : per ≤ 2147483647) (q0 : 0 ≤ pha) (q1 : pha ≤ 2147483647) :
    Calls Try.prog 64 #[.pointer (some ⟨g, 0, none⟩), .int .i64 per, .int .i64 pha, .bool s, .bool q] W (CycSays B g k m 0 W) := by
  obtain ⟨i0, hi, hz0, hz1, hz2⟩ := info_parts info200
  have HI := Aside0.mk (And.intro hi (And.intro hz0 (And.intro hz1 hz2))); clear hi hz0 hz1 hz2
  obtain ⟨v, xs, e1, e2⟩ := h.cy
  have c0 := h.c0
  have HL := Aside0.mk h; clear h
  obtain ⟨A, c, rfl⟩ := own_slice e2
  have HO := Aside0.mk (e2.alloc (.cells #[.int .u64 pha, .int .u64 pha, .int .u64 per, .bool s, .bool q] 200)); clear e2
  have hmc : m ≤ 9223372036854775807 := by omega
  have HF := Aside0.mk (Fr.of_below (B := B) (X := (· = g)) (below_alloc (Below.refl W.heap.size W) (.cells #[.int .u64 pha, .int .u64 pha, .int .u64 per, .bool s, .bool q] 200)) hBW)
  have HS := Aside0.mk hBW
  have HX := Aside0.mk (show B ≤ (W.alloc (.cells #[.int .u64 pha, .int .u64 pha, .int .u64 per, .bool s, .bool q] 200)).heap.size by simp; omega)
  have b0 : (per == 0) = false := beq_eq_false_iff_ne.2 (by omega)
  have lg := World.block_lt_of_cell? W _ HL.out.c0
  have lk := World.block_lt_of_cell? W _ HL.out.up
  have HB := Aside0.mk (below_alloc (Below.refl W.heap.size W) (.cells #[.int .u64 pha, .int .u64 pha, .int .u64 per, .bool s, .bool q] 200))
  have HE1 := Aside0.mk ((HB.out.cell (p := ⟨g, 2, none⟩) lg).trans e1)
  have HE2 := Aside0.mk (show g < (W.alloc (.cells #[.int .u64 pha, .int .u64 pha, .int .u64 per, .bool s, .bool q] 200)).heap.size by have := HB.out.size; have lg' : g < W.heap.size := lg; omega)
  have HE3 := Aside0.mk ((World.frozen?_of_block (a := ⟨g, 2, none⟩) (HB.out.block g lg)).trans HL.out.fr)
  have HE4 := Aside0.mk ((HB.out.cell (p := ⟨g, 0, none⟩) lg).trans HL.out.c0)
  have HE5 := Aside0.mk ((HB.out.cell (p := ⟨k, 2, none⟩) lk).trans HL.out.up)
  clear lg lk
  go_enter Try.func64, Try.ntmps64
  go_wp2_with fail
  refine (rel_calls per per 0 (if_pos ⟨by omega, p1⟩) (if_pos ⟨by omega, p1⟩) W).mono ?_
  rintro e w' ⟨rfl, rfl⟩
  go_wp2_with fail
  refine (rel_calls pha pha 0 (if_pos ⟨q0, q1⟩) (if_pos ⟨q0, q1⟩) W).mono ?_
  rintro e w' ⟨rfl, rfl⟩
  go_wp2_with fail
  refine (up_calls HL.out).mono ?_
  rintro e w' ⟨rfl, rfl⟩
  go_wp2_with (at_builtin; go_loud (refine wpList_append_own _ rfl _ _ 171 rfl B 200 i0 (.agg #[.int .u64 0, .int .u64 0, .int .u64 0, .bool false, .bool false]) 5 32 Try.underlying171 HI.out.1 HI.out.2.1 HI.out.2.2.1 HI.out.2.2.2 rfl (by decide) _ _ _ rfl HO.out ⟨W.heap.size, 0, none⟩ 1 1 [.int .u64 pha, .int .u64 pha, .int .u64 per, .bool s, .bool q] rfl rfl (cells_new W _ 200) (fun u hu => by simp at hu; rcases hu with rfl | rfl | rfl | rfl | rfl <;> rfl) (by unfold maxLen; omega) (by omega) HX.out ?_; intro v2 w3 hown2 hgrow2 _; have HG3 := Aside0.mk hgrow2; have HO3 := Aside0.mk hown2; clear hgrow2; obtain ⟨A2, c2, rfl⟩ := own_slice hown2; clear hown2; have ng : some g ≠ (Value.slice A m c).ownBlock := fun e => (by have := own_base HO.out g e.symm; have := HL.out.gB; omega); have nk : some k ≠ (Value.slice A m c).ownBlock := fun e => (by have := own_base HO.out k e.symm; have := HL.out.kB; omega); have d2 : w3.cell? ⟨g, 2, none⟩ = some (.slice A m c) := HG3.out.cell HE1.out ng; have f2 : w3.frozen? ⟨g, 2, none⟩ = false := (HG3.out.frozen_far ⟨g, 2, none⟩ HE2.out ng).trans HE3.out; have HN := Aside0.mk (And.intro ng nk); clear ng nk))
  go_ret2
  obtain ⟨ng, nk⟩ := HN.out
  have lg := World.block_lt_of_cell? W _ HL.out.c0
  have lk := World.block_lt_of_cell? W _ HL.out.up
  refine ⟨⟨_, rfl⟩, fun _ => ⟨?_, ?_, ⟨_, _, World.cell?_setCell_same _ _ _ d2, own_setCell HO3.out (fun e => by have := own_base HO3.out g e.symm; have := HL.out.gB; omega) _⟩, by rw [World.frozen?_setCell]; exact f2, HL.out.gB, HL.out.kB, HL.out.gk⟩, ?_⟩
  · rw [World.cell?_setCell_other _ _ _ _ (by intro z; injection z with _ z; omega)]
    exact HG3.out.cell HE4.out ng
  · rw [World.cell?_setCell_other _ _ _ _ (by intro z; injection z with z; exact HL.out.gk z)]
    exact HG3.out.cell HE5.out nk
  · refine Fr.set (HF.out.trans ⟨HG3.out.os, HG3.out.tape, HG3.out.output, HG3.out.size, fun i hi _ => HG3.out.block i (by have := HX.out; omega) fun e => ?_⟩) _ _ (.inl rfl)
    have := own_base HO.out i e.symm
    omega
theorem cyclic_calls {B g k m : Nat} {W : World} (h : Hd B W g k m) (hm : m < 8) (hBW : B ≤ W.heap.size) (per pha : Int) (s q : Bool) :
    Calls Try.prog 64 #[.pointer (some ⟨g, 0, none⟩), .int .i64 per, .int .i64 pha, .bool s, .bool q] W (CycSays B g k m (cycC per pha) W) := by
  unfold cycC
  by_cases hb : per < 1 ∨ 2147483647 < per ∨ pha < 0 ∨ 2147483647 < pha
  · rw [if_pos hb]; exact cyc_no h per pha s q hb
  · rw [if_neg hb]; exact cyc_yes h hm hBW per pha s q (by omega) (by omega) (by omega) (by omega)
end Go.Proofs.Yteiepbjajennkaa.ConfHand
