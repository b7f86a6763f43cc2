/- The document's configuration while a row of it is filled. Conditions: none. -/
import Derived.Test.YteiepbjajennkaaConfOf1
namespace Go.Proofs.Yteiepbjajennkaa.ConfHand
set_option linter.unusedVariables false
set_option linter.unusedSimpArgs false
open Go.RowKit Go.Proofs.YteiepbjajennkaaW.PrintWords Go.Proofs.YteiepbjajennkaaW.PrintMore
structure PX (xb B : Nat) (mk : Value → Array Value) (e sz : Nat) (f : Nat → List Value) (Wq : World) (k : Nat) (w : World) : Prop where
  fr : Fr B (· = xb) Wq w
  own : ∃ v, w.ownsRow B e sz v k (rowsL f k) ∧ ∀ j u, (mk v)[j]? = some u → w.cell? ⟨xb, j, none⟩ = some u
  fz : ∀ j, w.frozen? ⟨xb, j, none⟩ = false
section
variable {xb B e sz k q : Nat} {mk : Value → Array Value} {f : Nat → List Value} {Wq wr wa w3 : World} {v v2 : Value}
theorem px_far (hxB : xb < B) (ho : wr.ownsRow B e sz v k (rowsL f k)) : some xb ≠ v.ownBlock := fun e => by
  have := own_base ho xb e.symm; omega
/-- What the store behind the append meets. -/
theorem px_ready (h : PX xb B mk e sz f Wq k wr) (hb : Below wr.heap.size wr wa) (hxB : xb < B) (ho : wr.ownsRow B e sz v k (rowsL f k)) (hbx : ∀ j u, (mk v)[j]? = some u → wr.cell? ⟨xb, j, none⟩ = some u) (hq : (mk v)[q]? = some v) (hg : wa.grownBy w3 v.ownBlock) :
    w3.cell? ⟨xb, q, none⟩ = some v ∧ w3.frozen? ⟨xb, q, none⟩ = false := by
  have hc := hbx q v hq
  have hl : xb < wr.heap.size := World.block_lt_of_cell? _ _ hc
  have ng := px_far hxB ho
  refine ⟨hg.cell ((hb.cell (p := ⟨xb, q, none⟩) hl).trans hc) ng, ?_⟩
  exact (hg.frozen_far ⟨xb, q, none⟩ (Nat.lt_of_lt_of_le hl hb.size) ng).trans ((World.frozen?_of_block (a := ⟨xb, q, none⟩) (hb.block xb hl)).trans (h.fz q))
theorem px_push (h : PX xb B mk e sz f Wq k wr) (hb : Below wr.heap.size wr wa) (hxB : xb < B) (hBr : B ≤ wr.heap.size) (ho : wr.ownsRow B e sz v k (rowsL f k)) (hbx : ∀ j u, (mk v)[j]? = some u → wr.cell? ⟨xb, j, none⟩ = some u) (hq : ∀ a, (mk a)[q]? = some a) (hmk : ∀ a b j, j ≠ q → (mk a)[j]? = (mk b)[j]?)
    (hg : wa.grownBy w3 v.ownBlock) (hown : w3.ownsRow B e sz v2 (k + 1) (rowsL f k ++ f k)) : PX xb B mk e sz f Wq (k + 1) (w3.setCell ⟨xb, q, none⟩ v2) := by
  have hl : xb < wr.heap.size := World.block_lt_of_cell? _ _ (hbx q v (hq v))
  have ng := px_far hxB ho
  obtain ⟨d, fz⟩ := px_ready (q := q) h hb hxB ho hbx (hq v) hg
  refine ⟨Fr.set (h.fr.trans ((Fr.of_below hb hBr).trans ⟨hg.os, hg.tape, hg.output, hg.size, fun i hi hx => hg.block i (by have := hb.size; omega) fun e => ?_⟩)) _ _ (.inl rfl), ⟨v2, own_setCell hown (fun e => ?_) _, fun j u hu => ?_⟩, fun j => ?_⟩
  · have := own_base ho i e.symm; omega
  · have h' : B ≤ xb := own_base hown _ e.symm
    omega
  · by_cases hj : j = q
    · subst hj
      rw [World.cell?_setCell_same _ _ _ d]
      exact (hq v2).symm.trans hu
    · refine set_other' ?_ hj
      have hu' : (mk v)[j]? = some u := (hmk v v2 j hj).trans hu
      exact hg.cell ((hb.cell (p := ⟨xb, j, none⟩) hl).trans (hbx j u hu')) ng
  · rw [World.frozen?_setCell]
    exact (hg.frozen_far ⟨xb, j, none⟩ (Nat.lt_of_lt_of_le hl hb.size) ng).trans ((World.frozen?_of_block (a := ⟨xb, j, none⟩) (hb.block xb hl)).trans (h.fz j))
/-- A row that is filled. -/
structure RowX (lo xb : Nat) (w : World) (A : Option Addr) (n sz : Nat) (f : Nat → List Value) : Prop where
  recs : Recs w A n sz f
  far : ∀ ad, A = some ad → 0 < n → ad.block ≠ xb ∧ ad.block < w.heap.size ∧ lo ≤ ad.block
theorem RowX.fr {lo : Nat} {w w' : World} {A : Option Addr} {n : Nat} (h : RowX lo xb w A n sz f) (k : Fr w.heap.size (· = xb) w w') : RowX lo xb w' A n sz f :=
  ⟨h.recs.fr k fun ad e hn => ⟨(h.far ad e hn).2.1, (h.far ad e hn).1⟩, fun ad e hn => ⟨(h.far ad e hn).1, Nat.lt_of_lt_of_le (h.far ad e hn).2.1 k.size, (h.far ad e hn).2.2⟩⟩
theorem px_row {lo : Nat} {A : Option Addr} {n c : Nat} (hlo : lo ≤ B) (hf : ∀ i, (f i).length = sz) (hs : 0 < sz) (hxB : xb < B) (ho : wr.ownsRow B e sz (.slice A n c) n (rowsL f n)) : RowX lo xb wr A n sz f := by
  have hr := recs_own hf hs ho
  refine ⟨hr, fun ad e hn => ?_⟩
  have := own_base ho ad.block (by rw [e]; rfl)
  exact ⟨by omega, recs_in hf hs hr e hn, by omega⟩
theorem px_start {W2 : World} {vs : Array Value} (hx : OX W2 xb vs Wq) (hv : vs = mk (.slice none 0 0)) : PX xb Wq.heap.size mk e sz f Wq 0 Wq :=
  ⟨Fr.refl _ _ _, ⟨_, own_nil _ _ _ _, fun j u hu => hx.cell j u (by rw [hv]; exact hu)⟩, hx.fz⟩
theorem px_ox {W2 : World} {vs : Array Value} (hx : OX W2 xb vs Wq) (h : PX xb Wq.heap.size mk e sz f Wq k wr) {v : Value} (hbx : ∀ j u, (mk v)[j]? = some u → wr.cell? ⟨xb, j, none⟩ = some u) : OX W2 xb (mk v) wr :=
  ⟨below_up hx.be (h.fr.below (C := W2.heap.size) hx.be.size (fun i hi e => by have := hx.xg; have e : i = xb := e; omega)) (Nat.le_refl _), hx.xg, Nat.lt_of_lt_of_le hx.xl h.fr.size, hbx, h.fz⟩
end
theorem info139 : (Try.prog.info? 139).map (fun i => (i.zero, i.size, i.bytes)) = some (some (.agg #[.int .i64 0, .bool false]), 2, 16) := by kernel_rfl
theorem info143 : (Try.prog.info? 143).map (fun i => (i.zero, i.size, i.bytes)) = some (some (.agg #[.bool false, .int .i64 0, .int .i64 0]), 3, 24) := by kernel_rfl
theorem info165 : (Try.prog.info? 165).map (fun i => (i.zero, i.size, i.bytes)) = some (some (.agg #[.bool false, .bool false, .bool false, .int .u32 0]), 4, 8) := by kernel_rfl
theorem info147 : (Try.prog.info? 147).map (fun i => (i.zero, i.size, i.bytes)) = some (some (.agg #[.bool false, .int .i64 0]), 2, 16) := by kernel_rfl
theorem info154 : (Try.prog.info? 154).map (fun i => (i.zero, i.size, i.bytes)) = some (some (.agg #[.bool false, .int .i64 0, .int .i64 0]), 3, 24) := by kernel_rfl
theorem info163 : (Try.prog.info? 163).map (fun i => (i.zero, i.size, i.bytes)) = some (some (.agg #[.int .i64 0, .int .i64 0, .bool false, .bool false]), 4, 24) := by kernel_rfl
end Go.Proofs.Yteiepbjajennkaa.ConfHand
