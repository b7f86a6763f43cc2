/- The document's configuration: how it begins. Conditions: none. -/
import Derived.Test.YteiepbjajennkaaConfKinds
namespace Go.Proofs.Yteiepbjajennkaa.ConfHand
set_option linter.unusedVariables false
set_option linter.unusedSimpArgs false
open Go.RowKit Go.Proofs.YteiepbjajennkaaW.PrintWords Go.Proofs.YteiepbjajennkaaW.PrintMore
/-- The document's configuration while it is filled, at block xb. -/
structure OX (W2 : World) (xb : Nat) (vs : Array Value) (w : World) : Prop where
  be : Below W2.heap.size W2 w
  xg : W2.heap.size ≤ xb
  xl : xb < w.heap.size
  cell : ∀ j u, vs[j]? = some u → w.cell? ⟨xb, j, none⟩ = some u
  fz : ∀ j, w.frozen? ⟨xb, j, none⟩ = false
structure O1 (c : CF) (W2 : World) (xb : Nat) (Am : Option Addr) (cm : Nat) (w : World) : Prop where
  ox : OX W2 xb #[.int .i64 c.tic, .slice none 0 0, .slice none 0 0, .slice none 0 0, .slice none 0 0, .slice Am c.m.n cm, .slice none 0 0, .slice none 0 0, .int .i64 c.al] w
  rm : Recs w Am c.m.n 2 fun i => [.int .i64 (c.attr i), .int .i64 (c.ceil i)]
  lm : c.m.n ≤ cm ∧ cm ≤ maxLen
  fm : ∀ ad, Am = some ad → 0 < c.m.n → ad.block ≠ xb ∧ ad.block < w.heap.size ∧ W2.heap.size ≤ ad.block
theorem own_cap {W : World} {B e s n c : Nat} {A : Option Addr} {xs : List Value} (h : W.ownsRow B e s (.slice A n c) n xs) : n ≤ c ∧ c ≤ maxLen := by
  rcases h.2 with ⟨e, h0⟩ | ⟨g, cp, cur, e, _, _, h3, h4, _⟩
  · injection e with _ _ e
    subst e h0
    exact ⟨Nat.le_refl _, by decide⟩
  · injection e with _ _ e
    subst e
    exact ⟨h3, h4⟩
theorem set_other' {w : World} {x i j : Nat} {u v : Value} (h : w.cell? ⟨x, i, none⟩ = some u) (hij : i ≠ j) : (w.setCell ⟨x, j, none⟩ v).cell? ⟨x, i, none⟩ = some u := by
  rw [World.cell?_setCell_other _ _ _ _ (by intro z; injection z with _ z; omega)]; exact h
/-- There are nine cells. -/
def Nine (w : World) (x : Nat) : Prop := ∀ j, j < 9 → ∃ v, w.cell? ⟨x, j, none⟩ = some v
theorem Nine.set {w : World} {x : Nat} (h : Nine w x) (j : Nat) (v : Value) : Nine (w.setCell ⟨x, j, none⟩ v) x := fun i hi => by
  obtain ⟨u, e⟩ := h i hi
  by_cases q : i = j
  · subst q; exact ⟨v, World.cell?_setCell_same _ _ _ e⟩
  · exact ⟨u, set_other' e q⟩
theorem sets9 {w : World} {x : Nat} (h : Nine w x) (a0 a1 a2 a3 a4 a5 a6 a7 a8 : Value) (j : Nat) (u : Value) (hu : #[a0, a1, a2, a3, a4, a5, a6, a7, a8][j]? = some u) : (((((((((w.setCell ⟨x, 0, none⟩ a0).setCell ⟨x, 1, none⟩ a1).setCell ⟨x, 2, none⟩ a2).setCell ⟨x, 3, none⟩ a3).setCell ⟨x, 4, none⟩ a4).setCell ⟨x, 5, none⟩ a5).setCell ⟨x, 6, none⟩ a6).setCell ⟨x, 7, none⟩ a7).setCell ⟨x, 8, none⟩ a8).cell? ⟨x, j, none⟩ = some u := by
  have hj : j < 9 := (List.getElem?_eq_some_iff.1 (show [a0, a1, a2, a3, a4, a5, a6, a7, a8][j]? = some u by rw [← hu]; simp)).1
  have n0 : Nine w x := h
  have n1 : Nine (w.setCell ⟨x, 0, none⟩ a0) x := n0.set _ _
  have n2 : Nine ((w.setCell ⟨x, 0, none⟩ a0).setCell ⟨x, 1, none⟩ a1) x := n1.set _ _
  have n3 : Nine (((w.setCell ⟨x, 0, none⟩ a0).setCell ⟨x, 1, none⟩ a1).setCell ⟨x, 2, none⟩ a2) x := n2.set _ _
  have n4 : Nine ((((w.setCell ⟨x, 0, none⟩ a0).setCell ⟨x, 1, none⟩ a1).setCell ⟨x, 2, none⟩ a2).setCell ⟨x, 3, none⟩ a3) x := n3.set _ _
  have n5 : Nine (((((w.setCell ⟨x, 0, none⟩ a0).setCell ⟨x, 1, none⟩ a1).setCell ⟨x, 2, none⟩ a2).setCell ⟨x, 3, none⟩ a3).setCell ⟨x, 4, none⟩ a4) x := n4.set _ _
  have n6 : Nine ((((((w.setCell ⟨x, 0, none⟩ a0).setCell ⟨x, 1, none⟩ a1).setCell ⟨x, 2, none⟩ a2).setCell ⟨x, 3, none⟩ a3).setCell ⟨x, 4, none⟩ a4).setCell ⟨x, 5, none⟩ a5) x := n5.set _ _
  have n7 : Nine (((((((w.setCell ⟨x, 0, none⟩ a0).setCell ⟨x, 1, none⟩ a1).setCell ⟨x, 2, none⟩ a2).setCell ⟨x, 3, none⟩ a3).setCell ⟨x, 4, none⟩ a4).setCell ⟨x, 5, none⟩ a5).setCell ⟨x, 6, none⟩ a6) x := n6.set _ _
  have n8 : Nine ((((((((w.setCell ⟨x, 0, none⟩ a0).setCell ⟨x, 1, none⟩ a1).setCell ⟨x, 2, none⟩ a2).setCell ⟨x, 3, none⟩ a3).setCell ⟨x, 4, none⟩ a4).setCell ⟨x, 5, none⟩ a5).setCell ⟨x, 6, none⟩ a6).setCell ⟨x, 7, none⟩ a7) x := n7.set _ _
  have hj' : j = 0 ∨ j = 1 ∨ j = 2 ∨ j = 3 ∨ j = 4 ∨ j = 5 ∨ j = 6 ∨ j = 7 ∨ j = 8 := by omega
  rcases hj' with rfl | rfl | rfl | rfl | rfl | rfl | rfl | rfl | rfl
  · obtain rfl : a0 = u := by injection hu
    obtain ⟨_, e⟩ := n0 0 (by decide)
    exact set_other' (set_other' (set_other' (set_other' (set_other' (set_other' (set_other' (set_other' (World.cell?_setCell_same _ _ _ e) (by decide)) (by decide)) (by decide)) (by decide)) (by decide)) (by decide)) (by decide)) (by decide)
  · obtain rfl : a1 = u := by injection hu
    obtain ⟨_, e⟩ := n1 1 (by decide)
    exact set_other' (set_other' (set_other' (set_other' (set_other' (set_other' (set_other' (World.cell?_setCell_same _ _ _ e) (by decide)) (by decide)) (by decide)) (by decide)) (by decide)) (by decide)) (by decide)
  · obtain rfl : a2 = u := by injection hu
    obtain ⟨_, e⟩ := n2 2 (by decide)
    exact set_other' (set_other' (set_other' (set_other' (set_other' (set_other' (World.cell?_setCell_same _ _ _ e) (by decide)) (by decide)) (by decide)) (by decide)) (by decide)) (by decide)
  · obtain rfl : a3 = u := by injection hu
    obtain ⟨_, e⟩ := n3 3 (by decide)
    exact set_other' (set_other' (set_other' (set_other' (set_other' (World.cell?_setCell_same _ _ _ e) (by decide)) (by decide)) (by decide)) (by decide)) (by decide)
  · obtain rfl : a4 = u := by injection hu
    obtain ⟨_, e⟩ := n4 4 (by decide)
    exact set_other' (set_other' (set_other' (set_other' (World.cell?_setCell_same _ _ _ e) (by decide)) (by decide)) (by decide)) (by decide)
  · obtain rfl : a5 = u := by injection hu
    obtain ⟨_, e⟩ := n5 5 (by decide)
    exact set_other' (set_other' (set_other' (World.cell?_setCell_same _ _ _ e) (by decide)) (by decide)) (by decide)
  · obtain rfl : a6 = u := by injection hu
    obtain ⟨_, e⟩ := n6 6 (by decide)
    exact set_other' (set_other' (World.cell?_setCell_same _ _ _ e) (by decide)) (by decide)
  · obtain rfl : a7 = u := by injection hu
    obtain ⟨_, e⟩ := n7 7 (by decide)
    exact set_other' (World.cell?_setCell_same _ _ _ e) (by decide)
  · obtain rfl : a8 = u := by injection hu
    obtain ⟨_, e⟩ := n8 8 (by decide)
    exact World.cell?_setCell_same _ _ _ e
theorem recs_in {W : World} {A : Option Addr} {n s : Nat} {f : Nat → List Value} (hf : ∀ i, (f i).length = s) (hs : 0 < s) (h : Recs W A n s f) {ad : Addr} (e : A = some ad) (hn : 0 < n) : ad.block < W.heap.size := by
  obtain ⟨B, O, e', hc⟩ := h hn
  obtain ⟨v, hv⟩ : ∃ v, (f 0)[0]? = some v := ⟨_, List.getElem?_eq_getElem (by rw [hf]; exact hs)⟩
  have := World.block_lt_of_cell? _ _ (hc 0 hn 0 v hv)
  rw [e] at e'; cases e'; exact this
theorem o1_a {c : CF} {W2 w1 : World} {A' : Option Addr} {cc : Nat} (hown : w1.ownsRow W2.drew.heap.size 218 2 (.slice A' c.m.n cc) c.m.n (rowsL (fun i => [.int .i64 (c.attr i), .int .i64 (c.ceil i)]) c.m.n)) (hbe : Below W2.drew.heap.size W2.drew w1) : O1 c W2 w1.heap.size A' cc (w1.alloc (.cells #[.int .i64 c.tic, .slice none 0 0, .slice none 0 0, .slice none 0 0, .slice none 0 0, .slice A' c.m.n cc, .slice none 0 0, .slice none 0 0, .int .i64 c.al] 72)) := by
  have hb : Below W2.heap.size W2 w1 := below_up (below_drew (Below.refl _ _)) hbe (Nat.le_refl _)
  have hr := recs_own (f := fun i => [.int .i64 (c.attr i), .int .i64 (c.ceil i)]) (fun i => rfl) (by decide) hown
  refine ⟨⟨below_alloc hb _, hb.size, by simp, fun j u hu => ?_, fun j => ?_⟩, hr.below (below_alloc (Below.refl _ _) _), own_cap hown, fun ad e hn => ?_⟩
  · rw [World.cell?_alloc_at _ _ _ _ rfl]; exact hu
  · rw [World.frozen?_alloc_at _ _ _ _ rfl]
  · have := recs_in (f := fun i => [.int .i64 (c.attr i), .int .i64 (c.ceil i)]) (fun i => rfl) (by decide) hr e hn
    have hlo : W2.heap.size ≤ ad.block := own_base hown ad.block (by rw [e]; rfl)
    exact ⟨by omega, by rw [World.size_alloc]; omega, hlo⟩
theorem o1_b {c : CF} {W2 w1 : World} {A' : Option Addr} {cc : Nat} (hown : w1.ownsRow (W2.alloc (.cells #[.int .i64 0, .slice none 0 0, .slice none 0 0, .slice none 0 0, .slice none 0 0, .slice none 0 0, .slice none 0 0, .slice none 0 0, .int .i64 0] 72)).drew.heap.size 218 2 (.slice A' c.m.n cc) c.m.n (rowsL (fun i => [.int .i64 (c.attr i), .int .i64 (c.ceil i)]) c.m.n)) (hbe : Below (W2.alloc (.cells #[.int .i64 0, .slice none 0 0, .slice none 0 0, .slice none 0 0, .slice none 0 0, .slice none 0 0, .slice none 0 0, .slice none 0 0, .int .i64 0] 72)).drew.heap.size (W2.alloc (.cells #[.int .i64 0, .slice none 0 0, .slice none 0 0, .slice none 0 0, .slice none 0 0, .slice none 0 0, .slice none 0 0, .slice none 0 0, .int .i64 0] 72)).drew w1) : O1 c W2 W2.heap.size A' cc (World.setCell (World.setCell (World.setCell (World.setCell (World.setCell (World.setCell (World.setCell (World.setCell (World.setCell w1 ⟨W2.heap.size, 0, none⟩ (.int .i64 c.tic)) ⟨W2.heap.size, 1, none⟩ (.slice none 0 0)) ⟨W2.heap.size, 2, none⟩ (.slice none 0 0)) ⟨W2.heap.size, 3, none⟩ (.slice none 0 0)) ⟨W2.heap.size, 4, none⟩ (.slice none 0 0)) ⟨W2.heap.size, 5, none⟩ (.slice A' c.m.n cc)) ⟨W2.heap.size, 6, none⟩ (.slice none 0 0)) ⟨W2.heap.size, 7, none⟩ (.slice none 0 0)) ⟨W2.heap.size, 8, none⟩ (.int .i64 c.al)) := by
  have hs : (W2.alloc (.cells #[.int .i64 0, .slice none 0 0, .slice none 0 0, .slice none 0 0, .slice none 0 0, .slice none 0 0, .slice none 0 0, .slice none 0 0, .int .i64 0] 72)).drew.heap.size = W2.heap.size + 1 := by simp
  have hb : Below W2.heap.size W2 w1 := below_up (below_drew (below_alloc (Below.refl _ _) (.cells #[.int .i64 0, .slice none 0 0, .slice none 0 0, .slice none 0 0, .slice none 0 0, .slice none 0 0, .slice none 0 0, .slice none 0 0, .int .i64 0] 72))) hbe (by rw [hs]; omega)
  have hr := recs_own (f := fun i => [.int .i64 (c.attr i), .int .i64 (c.ceil i)]) (fun i => rfl) (by decide) hown
  have hn9 : Nine w1 W2.heap.size := fun j hj => by
    rw [hbe.cell (p := ⟨W2.heap.size, j, none⟩) (by rw [hs]; exact Nat.lt_succ_self _), World.cell?_drew, World.cell?_alloc_at _ _ _ _ rfl]
    exact ⟨_, Array.getElem?_eq_getElem (show j < 9 from hj)⟩
  have hfz : ∀ j, w1.frozen? ⟨W2.heap.size, j, none⟩ = false := fun j => by
    rw [World.frozen?_of_block (a := ⟨W2.heap.size, j, none⟩) (hbe.block W2.heap.size (by rw [hs]; exact Nat.lt_succ_self _))]
    simp only [World.frozen?_drew]
    rw [World.frozen?_alloc_at _ _ _ _ rfl]
  have hsz := hbe.size
  rw [hs] at hsz
  have hbx : ∀ ad, A' = some ad → 0 < c.m.n → W2.heap.size < ad.block := fun ad e hn => by
    have := own_base hown ad.block (by rw [e]; rfl)
    rw [hs] at this; omega
  refine ⟨⟨?_, Nat.le_refl _, by simp only [World.size_setCell]; omega, sets9 hn9 _ _ _ _ _ _ _ _ _, fun j => by simp only [World.frozen?_setCell]; exact hfz j⟩, ?_, own_cap hown, fun ad e hn => ?_⟩
  · repeat refine below_set ?_ (Nat.le_refl _)
    exact hb
  · refine hr.fr (B := w1.heap.size) (X := (· = W2.heap.size)) ?_ fun ad e hn => ⟨recs_in (f := fun i => [.int .i64 (c.attr i), .int .i64 (c.ceil i)]) (fun i => rfl) (by decide) hr e hn, by have := hbx ad e hn; omega⟩
    repeat refine Fr.set ?_ _ _ (.inl rfl)
    exact Fr.refl _ _ _
  · have := recs_in (f := fun i => [.int .i64 (c.attr i), .int .i64 (c.ceil i)]) (fun i => rfl) (by decide) hr e hn
    have := hbx ad e hn
    exact ⟨by omega, by simp only [World.size_setCell]; omega, by omega⟩
end Go.Proofs.Yteiepbjajennkaa.ConfHand
