/- The document's lists behind a row's change. Conditions: none. -/
import Derived.Test.YteiepbjajennkaaListRefPut
namespace Go.Proofs.Yteiepbjajennkaa.ListHand
set_option linter.unusedVariables false
open Go.RowKit Go.Proofs.YteiepbjajennkaaW.PrintWords Go.Proofs.YteiepbjajennkaaW.PrintMore
variable {w0 W w1 : World} {lo q s N H : Nat} {R : Nat → List Nat} {v : Value}
theorem Rf.hlo (h : Rf w0 lo W q s N H R) : lo ≤ W.heap.size := by have := h.lq; have := h.lt.1; omega
/-- A row is a new one. -/
theorem Rf.turn (h : Rf w0 lo W q s N H R) {x : Nat} (hx : x < H) (l : List Nat) (hb : Below W.heap.size W w1) (ho : w1.ownsRow W.heap.size 3 1 v l.length (nums .i64 (ints l)))
    (hl : l.length ≤ N) (hn : ∀ y ∈ l, y < N) (hd : l.Nodup) (hone : ∀ j y, j < H → j ≠ x → y ∈ R j → y ∉ l) :
    Rf w0 lo (w1.setCell ⟨s, x, none⟩ v) q s N H (setR R x l) ∧ KB W (w1.setCell ⟨s, x, none⟩ v) s s := by
  have hs := h.lt.2
  have hq := h.lt.1
  have hlo := h.hlo
  have hvs : v.ownBlock ≠ some s := fun e => by have := own_base ho s e; omega
  have kb : KB W (w1.setCell ⟨s, x, none⟩ v) s s := (KB.of_below hb s s).seta x v
  have be : Below w0.heap.size w0 (w1.setCell ⟨s, x, none⟩ v) := below_set (h.be.trans ⟨hb.os, hb.tape, hb.output, hb.size, fun i hi => hb.block i (by have := h.wl; omega)⟩) (by have := h.ls; have := h.wl; show w0.heap.size ≤ s; omega)
  refine ⟨⟨?_, ?_, fun j hj => ?_, fun j => ?_, h.qs, h.lq, h.ls, h.wl, h.N0, h.N1, h.H0, h.H1, fun j hj => ?_, fun j hj => ?_, fun j hj => ?_, fun i j y hi hj h1 h2 => ?_, be⟩, kb⟩
  · exact (kb.cell (p := ⟨q, 0, none⟩) hq h.qs h.qs).trans h.c0
  · exact (kb.cell (p := ⟨q, 1, none⟩) hq h.qs h.qs).trans h.c1
  · by_cases e : j = x
    · subst e
      rw [setR_at]
      obtain ⟨u, e1, _⟩ := h.row j hj
      refine ⟨v, World.cell?_setCell_same _ _ _ ((hb.cell (p := ⟨s, j, none⟩) hs).trans e1), own_setCell (own_weaken ho hlo) (fun e => hvs e.symm) _, hvs⟩
    · rw [setR_ne _ _ e]
      obtain ⟨u, e1, e2, e3⟩ := h.row j hj
      refine ⟨u, ?_, own_setCell (own_move e2 (fun k hk => hb.block k (own_lt e2 k hk))) (fun e => e3 e.symm) _, e3⟩
      rw [World.cell?_setCell_other _ _ _ _ (by intro q; injection q with _ q; omega)]
      exact (hb.cell (p := ⟨s, j, none⟩) hs).trans e1
  · rw [World.frozen?_setCell]
    exact (World.frozen?_of_block (a := ⟨s, j, none⟩) (hb.block s hs)).trans (h.fr j)
  · by_cases e : j = x
    · subst e; rw [setR_at]; exact hl
    · rw [setR_ne _ _ e]; exact h.len j hj
  · by_cases e : j = x
    · subst e; rw [setR_at]; exact hn
    · rw [setR_ne _ _ e]; exact h.nod j hj
  · by_cases e : j = x
    · subst e; rw [setR_at]; exact hd
    · rw [setR_ne _ _ e]; exact h.dup j hj
  · by_cases e : i = x
    · by_cases e' : j = x
      · rw [e, e']
      · subst e
        rw [setR_at] at h1
        rw [setR_ne _ _ e'] at h2
        exact (hone j y hj e' h2 h1).elim
    · rw [setR_ne _ _ e] at h1
      by_cases e' : j = x
      · subst e'
        rw [setR_at] at h2
        exact (hone i y hi e h1 h2).elim
      · rw [setR_ne _ _ e'] at h2
        exact h.one i j y hi hj h1 h2
/-- Rows of one world have room: their nodes are all below N, each once. -/
theorem nodup_len {l : List Nat} (hd : l.Nodup) {N : Nat} (hn : ∀ y ∈ l, y < N) : l.length ≤ N := nodup_le N l hd hn
theorem put_in (h : Rf w0 lo W q s N H R) (x k n : Nat) (hx : x < H) (hk : k ≤ (R x).length) (hn : n < N) (hf : ∀ j, j < H → n ∉ R j) :
    Calls Try.prog 48 #[.pointer (some ⟨q, 0, none⟩), .int .i64 x, .int .i64 k, .int .i64 n] W fun e w' => e = .returned (.tuple #[]) ∧ Rf w0 lo w' q s N H (setR R x ((R x).insertIdx k n)) ∧ KB W w' s s := by
  have hlen : ((R x).insertIdx k n).length = (R x).length + 1 := by rw [List.length_insertIdx, if_pos hk]
  have hmem : ∀ y, y ∈ (R x).insertIdx k n ↔ y = n ∨ y ∈ R x := fun y => List.mem_insertIdx hk
  have hd : ((R x).insertIdx k n).Nodup := by
    have hp : ((R x).insertIdx k n).Perm (n :: R x) := List.perm_insertIdx _ _ hk
    exact (hp.nodup_iff).2 (List.nodup_cons.2 ⟨hf x hx, h.dup x hx⟩)
  have hnn : ∀ y ∈ (R x).insertIdx k n, y < N := fun y hy => by
    rcases (hmem y).1 hy with rfl | hy
    · exact hn
    · exact h.nod x hx y hy
  refine (ref_put h x k n hx hk h.hlo (by have := h.len x hx; have := h.N1; omega)).mono ?_
  rintro e w' ⟨rfl, v, w1, rfl, hb, ho⟩
  refine ⟨rfl, h.turn hx _ hb (by rw [hlen]; exact ho) (nodup_len hd hnn) hnn hd fun j y hj hne hy hm => ?_⟩
  rcases (hmem y).1 hm with rfl | hm
  · exact hf j hj hy
  · exact hne (h.one j x y hj hx hy hm)
end Go.Proofs.Yteiepbjajennkaa.ListHand
