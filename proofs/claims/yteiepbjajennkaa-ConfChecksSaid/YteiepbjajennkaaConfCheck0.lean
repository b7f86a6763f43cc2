/- Objects of a kind, as a part of the whole; what is there once the parts are laid out. Conditions: none. -/
import Derived.Test.YteiepbjajennkaaConfRunner2
namespace Go.Proofs.Yteiepbjajennkaa.ConfHand
set_option linter.unusedVariables false
set_option linter.unusedSimpArgs false
open Go.RowKit Go.Proofs.YteiepbjajennkaaW.PrintWords Go.Proofs.YteiepbjajennkaaW.PrintMore
theorem objects_calls (nm : ByteArray) (n : Int) (fn : Fn) (fa ca : Array Value) (W : World) : Calls Try.prog 52 #[.string nm, .int .i64 n, .func fn fa ca] W fun e w' => e = .returned (.agg #[.string nm, .string nm, .int .i64 n, .int .i64 0, .int .i64 8, .func fn fa ca]) ∧ Below W.heap.size W w' := by
  go_enter Try.func52, Try.ntmps52
  go_wp2
  exact bodyPost_ret (by simp [results, Try.results52, go_sem]) rfl ⟨rfl, below_alloc (Below.refl _ _) _⟩
theorem objects_grown (nm : ByteArray) (n : Int) (fn : Fn) (fa ca : Array Value) {W2 : World} {B : Nat} (hB : B = W2.heap.size) (x : Rgn.Old W2 B) : Calls Try.prog 52 #[.string nm, .int .i64 n, .func fn fa ca] x.now fun e w' => e = .returned (.agg #[.string nm, .string nm, .int .i64 n, .int .i64 0, .int .i64 8, .func fn fa ca]) ∧ ∃ y : Rgn.Old W2 B, w' = y.now :=
  (objects_calls nm n fn fa ca x.now).mono fun e w' ⟨e1, e2⟩ => ⟨e1, Rgn.grown.of (below_up x.be e2 (Nat.le_trans (Nat.le_of_eq hB) x.be.size))⟩
section
variable {c : CF}
theorem Env.below {W w' : World} {b a7 h5 g kk : Nat} (E : Env c W b a7 h5 g kk) (q : Below W.heap.size W w') : Env c w' b a7 h5 g kk where
  box j v h := (q.cell (p := ⟨b, j, none⟩) (World.block_lt_of_cell? _ _ (E.box j v h))).trans (E.box j v h)
  dat := E.dat.below q
  far := E.far
  hh := (q.cell (p := ⟨h5, 0, none⟩) (World.block_lt_of_cell? _ _ E.hh)).trans E.hh
  ba := E.ba
  at_ := (q.cell (p := ⟨a7, 0, none⟩) (World.block_lt_of_cell? _ _ E.at_)).trans E.at_
  fz := (World.frozen?_of_block (a := ⟨a7, 0, none⟩) (q.block a7 (World.block_lt_of_cell? _ _ E.at_))).trans E.fz
  hd C hC := (E.hd C (Nat.le_trans q.size hC)).below q
theorem Recs.lies {W : World} {A : Option Addr} {n sz : Nat} {f : Nat → List Value} (h : Recs W A n sz f) (hf : ∃ v, (f 0)[0]? = some v) {ad : Addr} (e : A = some ad) (hn : 0 < n) : ad.block < W.heap.size := by
  obtain ⟨C, O, e', hc⟩ := h hn
  obtain ⟨v, hv⟩ := hf
  have := World.block_lt_of_cell? _ _ (hc 0 hn 0 v hv)
  rw [e] at e'; cases e'
  exact this
theorem CFin.lies {W : World} (h : CFin W c) (s : SL) (hs : s = c.t ∨ s = c.s ∨ s = c.d ∨ s = c.m ∨ s = c.p ∨ s = c.y) (ad : Addr) (e : s.A = some ad) (hn : 0 < s.n) : ad.block < W.heap.size := by
  rcases hs with rfl | rfl | rfl | rfl | rfl | rfl
  · exact h.t.lies ⟨_, rfl⟩ e hn
  · exact h.s.lies ⟨_, rfl⟩ e hn
  · exact h.d.lies ⟨_, rfl⟩ e hn
  · exact h.m.lies ⟨_, rfl⟩ e hn
  · exact h.p.lies ⟨_, rfl⟩ e hn
  · exact h.y.lies ⟨_, rfl⟩ e hn
theorem env_made {W w1 : World} (h : CFin W c) (hd : ∀ C, W.heap.size + 4 ≤ C → Hd C w1 (W.heap.size + 3) (W.heap.size + 2) 0) (q : Below (W.heap.size + 1) (W.alloc (.cells c.vals 58)) w1) (hs : w1.heap.size = W.heap.size + 4) :
    Env c ((w1.alloc (.cells #[.pointer (some ⟨W.heap.size + 3, 0, none⟩)] 114)).alloc (.cells #[.int .i64 0] 3)) W.heap.size (W.heap.size + 5) (W.heap.size + 4) (W.heap.size + 3) (W.heap.size + 2) := by
  have q0 : Below W.heap.size W (W.alloc (.cells c.vals 58)) := below_alloc (Below.refl _ _) _
  have q2 : Below w1.heap.size w1 ((w1.alloc (.cells #[.pointer (some ⟨W.heap.size + 3, 0, none⟩)] 114)).alloc (.cells #[.int .i64 0] 3)) := below_alloc (below_alloc (Below.refl _ _) _) _
  refine ⟨fun j v hj => ?_, ?_, fun s hs' ad e hn => ?_, ?_, ?_, ?_, ?_, fun C hC => ?_⟩
  · rw [q2.cell (p := ⟨W.heap.size, j, none⟩) (by rw [hs]; show W.heap.size < _; omega), q.cell (p := ⟨W.heap.size, j, none⟩) (Nat.lt_succ_self _), World.cell?_alloc_at _ _ _ _ rfl]
    exact hj
  · exact h.below (below_up (below_up q0 q (Nat.le_succ _)) q2 (by omega))
  · have := h.lies s hs' ad e hn
    omega
  · rw [World.cell?_alloc_past _ _ _ (by simp [hs]), World.cell?_alloc_at _ _ _ _ (by simp [hs])]; rfl
  · omega
  · rw [World.cell?_alloc_at _ _ _ _ (by simp [hs])]; rfl
  · rw [World.frozen?_alloc_at _ _ _ _ (by simp [hs])]
  · have hC : w1.heap.size + 2 ≤ C := by simpa using hC
    exact (hd C (by omega)).below q2
end
end Go.Proofs.Yteiepbjajennkaa.ConfHand
