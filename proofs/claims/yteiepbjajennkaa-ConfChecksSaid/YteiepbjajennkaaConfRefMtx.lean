/- The document's mutex that is made. Conditions: none. -/
import Derived.Test.YteiepbjajennkaaConfRefs
namespace Go.Proofs.Yteiepbjajennkaa.ConfHand
set_option linter.unusedVariables false
set_option linter.unusedSimpArgs false
open Go.RowKit Go.Proofs.YteiepbjajennkaaW.PrintWords Go.Proofs.YteiepbjajennkaaW.PrintMore
/-- The block of the document's mutexes. -/
structure RMB (W w' : World) (q : Nat) : Prop where
  be : Below W.heap.size W w'
  ge : W.heap.size ≤ q
  lt : q < w'.heap.size
  ce : ∀ j, j < 37 → ∃ v, w'.cell? ⟨q, j, none⟩ = some v
  fr : ∀ j, w'.frozen? ⟨q, j, none⟩ = false
theorem RMB.below {W w' w2 : World} {q : Nat} (h : RMB W w' q) (k : Below w'.heap.size w' w2) : RMB W w2 q :=
  ⟨below_next h.be k, h.ge, Nat.lt_of_lt_of_le h.lt k.size, fun j hj => by obtain ⟨v, e⟩ := h.ce j hj; exact ⟨v, (k.cell (p := ⟨q, j, none⟩) h.lt).trans e⟩, fun j => (World.frozen?_of_block (a := ⟨q, j, none⟩) (k.block _ h.lt)).trans (h.fr j)⟩
theorem RMB.grown {W w' w2 : World} {q : Nat} {row : Option Nat} (h : RMB W w' q) (k : w'.grownBy w2 row) (hr : ∀ j, row = some j → W.heap.size ≤ j) (hq : some q ≠ row) : RMB W w2 q := by
  have hb : w2.heap[q]? = w'.heap[q]? := k.block _ h.lt hq
  exact ⟨pw_below_grown h.be row h.be.size k hr, h.ge, Nat.lt_of_lt_of_le h.lt k.size, fun j hj => by obtain ⟨v, e⟩ := h.ce j hj; exact ⟨v, (World.cell?_of_block (a := ⟨q, j, none⟩) hb).trans e⟩, fun j => (World.frozen?_of_block (a := ⟨q, j, none⟩) hb).trans (h.fr j)⟩
theorem RMB.set {W w' : World} {q : Nat} (h : RMB W w' q) (j : Nat) (v : Value) : RMB W (w'.setCell ⟨q, j, none⟩ v) q := by
  refine ⟨below_set h.be h.ge, h.ge, by rw [World.size_setCell]; exact h.lt, fun i hi => ?_, fun i => by rw [World.frozen?_setCell]; exact h.fr i⟩
  obtain ⟨u, e⟩ := h.ce i hi
  by_cases p : i = j
  · subst p; exact ⟨v, World.cell?_setCell_same _ _ _ e⟩
  · exact ⟨u, by rw [World.cell?_setCell_other _ _ _ _ (by intro z; injection z with _ z; omega)]; exact e⟩
/-- .. as they were made. -/
structure RM0 (W w' : World) (q : Nat) : Prop where
  mb : RMB W w' q
  c1 : w'.cell? ⟨q, 1, none⟩ = some (.slice none 0 0)
  c2 : w'.cell? ⟨q, 2, none⟩ = some (.slice none 0 0)
theorem RM0.made {W w2 : World} (v1 : Value) (hb : Below W.heap.size W w2) : RM0 W (w2.alloc (.cells #[v1, .slice none 0 0, .slice none 0 0, .int .i64 0, .int .i64 0, .int .i64 0, .int .i64 0, .int .i64 0, .int .i64 0, .int .i64 0, .int .i64 0, .int .i64 0, .int .i64 0, .int .i64 0, .int .i64 0, .int .i64 0, .int .i64 0, .int .i64 0, .int .i64 0, .int .i64 0, .int .i64 0, .int .i64 0, .int .i64 0, .int .i64 0, .int .i64 0, .int .i64 0, .int .i64 0, .int .i64 0, .int .i64 0, .int .i64 0, .int .i64 0, .int .i64 0, .int .i64 0, .int .i64 0, .int .i64 0, .int .i64 0, .int .i64 0] 217)) w2.heap.size := by
  refine ⟨⟨below_alloc hb _, hb.size, by simp, fun j hj => ?_, fun j => ?_⟩, ?_, ?_⟩
  · rw [World.cell?_alloc_at _ _ _ _ rfl]
    exact ⟨_, Array.getElem?_eq_getElem (show j < 37 from hj)⟩
  · rw [World.frozen?_alloc_at _ _ _ _ rfl]
  · rw [World.cell?_alloc_at _ _ _ _ rfl]; rfl
  · rw [World.cell?_alloc_at _ _ _ _ rfl]; rfl
theorem info218 : (Try.prog.info? 218).map (fun i => (i.zero, i.size, i.bytes)) = some (some (.agg #[.int .i64 0, .int .i64 0]), 2, 16) := by kernel_rfl
theorem info155 : (Try.prog.info? 155).map (fun i => (i.zero, i.size, i.bytes)) = some (some (.pointer none), 1, 8) := by kernel_rfl
theorem two_one (a b : Int) : ∀ u ∈ [Value.int .i64 a, .int .i64 b], u.oneCell' = true := fun u hu => by simp at hu; rcases hu with rfl | rfl <;> rfl
theorem add_at0 (g k j : Nat) : (⟨g, k, none⟩ : Addr).add j = ⟨g, k + j, none⟩ := by
  unfold Addr.add
  split
  · rename_i h; subst h; rfl
  · rfl
theorem rmtx_no0 (attr ceil : Int) (h0 : attr < 0) (W : World) (Bk O cc : Nat) (x0 : W.cell? ⟨Bk, O, none⟩ = some (.int .i64 attr)) (x1 : W.cell? ⟨Bk, O + 1, none⟩ = some (.int .i64 ceil)) :
    Calls Try.prog 68 #[.slice (some ⟨Bk, O, none⟩) 1 cc] W (RetPC (-17) W) := by
  obtain ⟨i0, hi, hz0, hz1, hz2⟩ := info_parts info218
  have HI := Aside0.mk (And.intro hi (And.intro hz0 (And.intro hz1 hz2))); clear hi hz0 hz1 hz2
  have hBk := World.block_lt_of_cell? W _ x0
  have HB0 := below_alloc (Below.refl W.heap.size W) (.cells #[] 218)
  have HO0 := (show (W.alloc (.cells #[] 218)).ownsRow W.heap.size 218 2 (.slice (some ⟨W.heap.size, 0, none⟩) 0 0) 0 [] from ⟨rfl, .inr ⟨_, 0, _, rfl, Nat.le_refl _, heap_alloc_new _ _, Nat.le_refl _, by decide, rfl, rfl⟩⟩)
  obtain ⟨W1, hW1⟩ : ∃ W1, W.alloc (.cells #[] 218) = W1 := ⟨_, rfl⟩
  rw [hW1] at HB0 HO0
  obtain ⟨v0, hv0⟩ : ∃ v0, Value.slice (some ⟨W.heap.size, 0, none⟩) 0 0 = v0 := ⟨_, rfl⟩
  have HVB := Aside0.mk (show v0.ownBlock = some W.heap.size by rw [← hv0]; rfl)
  rw [hv0] at HO0
  have HB0 := Aside0.mk HB0
  have HO0 := Aside0.mk HO0
  have HN0 := Aside0.mk (show ∀ j u, [Value.int .i64 attr, .int .i64 ceil][j]? = some u → W1.cell? ((⟨Bk, O, none⟩ : Addr).add j) = some u from fun j u hu => by
    rw [add_at0, HB0.out.cell (p := ⟨Bk, O + j, none⟩) hBk]
    match j, hu with
    | 0, hu => rw [← hu]; exact x0
    | 1, hu => rw [← hu]; exact x1
    | j + 2, hu => exact absurd hu (by simp))
  go_enter Try.func68, Try.ntmps68
  go_wp2_with (at_builtin; refine wpList_append_own _ rfl _ _ 68 rfl W.heap.size 218 i0 (.agg #[.int .i64 0, .int .i64 0]) 2 16 Try.underlying68 HI.out.1 HI.out.2.1 HI.out.2.2.1 HI.out.2.2.2 rfl (by decide) v0 0 [] rfl HO0.out ⟨Bk, O, none⟩ 1 cc [.int .i64 attr, .int .i64 ceil] rfl rfl HN0.out (two_one _ _) (by decide) (by decide) HB0.out.size ?_; intro v1 w2 hown1 hgrow1 _; have HB2 := Aside0.mk (pw_below_grown HB0.out _ HB0.out.size hgrow1 (fun j hj => (by rw [HVB.out] at hj; injection hj with hj; omega))); obtain ⟨A1, k1, rfl⟩ := own_slice hown1; clear hown1 hgrow1)
  have M0 := Aside0.mk (RM0.made (.slice A1 (0 + 1) k1) HB2.out)
  have HBL := Aside0.mk hBk
  simp only [Nat.zero_add] at M0
  go_loopw [5, 6] (fun i _ w' => i = .int .i64 0 ∧ Aside0 (Below W.heap.size W w')) (fun i _ _ => 0)
  case atStart => exact ⟨rfl, ⟨M0.out.mb.be⟩⟩
  case round =>
    obtain ⟨rfl, HM⟩ := hrel
    have y0 := (HM.out.cell (p := ⟨Bk, O, none⟩) HBL.out).trans x0
    have y1 := (HM.out.cell (p := ⟨Bk, O + 1, none⟩) HBL.out).trans x1
    go_wp2
    go_ret2
    exact ⟨⟨_, rfl⟩, HM.out⟩
theorem rmtx_no1 (attr ceil : Int) (h0 : 3 < attr) (W : World) (Bk O cc : Nat) (x0 : W.cell? ⟨Bk, O, none⟩ = some (.int .i64 attr)) (x1 : W.cell? ⟨Bk, O + 1, none⟩ = some (.int .i64 ceil)) :
    Calls Try.prog 68 #[.slice (some ⟨Bk, O, none⟩) 1 cc] W (RetPC (-17) W) := by
  obtain ⟨i0, hi, hz0, hz1, hz2⟩ := info_parts info218
  have HI := Aside0.mk (And.intro hi (And.intro hz0 (And.intro hz1 hz2))); clear hi hz0 hz1 hz2
  have hBk := World.block_lt_of_cell? W _ x0
  have HB0 := below_alloc (Below.refl W.heap.size W) (.cells #[] 218)
  have HO0 := (show (W.alloc (.cells #[] 218)).ownsRow W.heap.size 218 2 (.slice (some ⟨W.heap.size, 0, none⟩) 0 0) 0 [] from ⟨rfl, .inr ⟨_, 0, _, rfl, Nat.le_refl _, heap_alloc_new _ _, Nat.le_refl _, by decide, rfl, rfl⟩⟩)
  obtain ⟨W1, hW1⟩ : ∃ W1, W.alloc (.cells #[] 218) = W1 := ⟨_, rfl⟩
  rw [hW1] at HB0 HO0
  obtain ⟨v0, hv0⟩ : ∃ v0, Value.slice (some ⟨W.heap.size, 0, none⟩) 0 0 = v0 := ⟨_, rfl⟩
  have HVB := Aside0.mk (show v0.ownBlock = some W.heap.size by rw [← hv0]; rfl)
  rw [hv0] at HO0
  have HB0 := Aside0.mk HB0
  have HO0 := Aside0.mk HO0
  have HN0 := Aside0.mk (show ∀ j u, [Value.int .i64 attr, .int .i64 ceil][j]? = some u → W1.cell? ((⟨Bk, O, none⟩ : Addr).add j) = some u from fun j u hu => by
    rw [add_at0, HB0.out.cell (p := ⟨Bk, O + j, none⟩) hBk]
    match j, hu with
    | 0, hu => rw [← hu]; exact x0
    | 1, hu => rw [← hu]; exact x1
    | j + 2, hu => exact absurd hu (by simp))
  go_enter Try.func68, Try.ntmps68
  go_wp2_with (at_builtin; refine wpList_append_own _ rfl _ _ 68 rfl W.heap.size 218 i0 (.agg #[.int .i64 0, .int .i64 0]) 2 16 Try.underlying68 HI.out.1 HI.out.2.1 HI.out.2.2.1 HI.out.2.2.2 rfl (by decide) v0 0 [] rfl HO0.out ⟨Bk, O, none⟩ 1 cc [.int .i64 attr, .int .i64 ceil] rfl rfl HN0.out (two_one _ _) (by decide) (by decide) HB0.out.size ?_; intro v1 w2 hown1 hgrow1 _; have HB2 := Aside0.mk (pw_below_grown HB0.out _ HB0.out.size hgrow1 (fun j hj => (by rw [HVB.out] at hj; injection hj with hj; omega))); obtain ⟨A1, k1, rfl⟩ := own_slice hown1; clear hown1 hgrow1)
  have M0 := Aside0.mk (RM0.made (.slice A1 (0 + 1) k1) HB2.out)
  have HBL := Aside0.mk hBk
  simp only [Nat.zero_add] at M0
  go_loopw [5, 6] (fun i _ w' => i = .int .i64 0 ∧ Aside0 (Below W.heap.size W w')) (fun i _ _ => 0)
  case atStart => exact ⟨rfl, ⟨M0.out.mb.be⟩⟩
  case round =>
    obtain ⟨rfl, HM⟩ := hrel
    have y0 := (HM.out.cell (p := ⟨Bk, O, none⟩) HBL.out).trans x0
    have y1 := (HM.out.cell (p := ⟨Bk, O + 1, none⟩) HBL.out).trans x1
    go_wp2
    go_ret2
    exact ⟨⟨_, rfl⟩, HM.out⟩
theorem rmtx_no2 (attr ceil : Int) (h0 : attr = 3) (h1 : ceil < 1) (W : World) (Bk O cc : Nat) (x0 : W.cell? ⟨Bk, O, none⟩ = some (.int .i64 attr)) (x1 : W.cell? ⟨Bk, O + 1, none⟩ = some (.int .i64 ceil)) :
    Calls Try.prog 68 #[.slice (some ⟨Bk, O, none⟩) 1 cc] W (RetPC (-17) W) := by
  subst h0
  obtain ⟨i0, hi, hz0, hz1, hz2⟩ := info_parts info218
  have HI := Aside0.mk (And.intro hi (And.intro hz0 (And.intro hz1 hz2))); clear hi hz0 hz1 hz2
  have hBk := World.block_lt_of_cell? W _ x0
  have HB0 := below_alloc (Below.refl W.heap.size W) (.cells #[] 218)
  have HO0 := (show (W.alloc (.cells #[] 218)).ownsRow W.heap.size 218 2 (.slice (some ⟨W.heap.size, 0, none⟩) 0 0) 0 [] from ⟨rfl, .inr ⟨_, 0, _, rfl, Nat.le_refl _, heap_alloc_new _ _, Nat.le_refl _, by decide, rfl, rfl⟩⟩)
  obtain ⟨W1, hW1⟩ : ∃ W1, W.alloc (.cells #[] 218) = W1 := ⟨_, rfl⟩
  rw [hW1] at HB0 HO0
  obtain ⟨v0, hv0⟩ : ∃ v0, Value.slice (some ⟨W.heap.size, 0, none⟩) 0 0 = v0 := ⟨_, rfl⟩
  have HVB := Aside0.mk (show v0.ownBlock = some W.heap.size by rw [← hv0]; rfl)
  rw [hv0] at HO0
  have HB0 := Aside0.mk HB0
  have HO0 := Aside0.mk HO0
  have HN0 := Aside0.mk (show ∀ j u, [Value.int .i64 3, .int .i64 ceil][j]? = some u → W1.cell? ((⟨Bk, O, none⟩ : Addr).add j) = some u from fun j u hu => by
    rw [add_at0, HB0.out.cell (p := ⟨Bk, O + j, none⟩) hBk]
    match j, hu with
    | 0, hu => rw [← hu]; exact x0
    | 1, hu => rw [← hu]; exact x1
    | j + 2, hu => exact absurd hu (by simp))
  go_enter Try.func68, Try.ntmps68
  go_wp2_with (at_builtin; refine wpList_append_own _ rfl _ _ 68 rfl W.heap.size 218 i0 (.agg #[.int .i64 0, .int .i64 0]) 2 16 Try.underlying68 HI.out.1 HI.out.2.1 HI.out.2.2.1 HI.out.2.2.2 rfl (by decide) v0 0 [] rfl HO0.out ⟨Bk, O, none⟩ 1 cc [.int .i64 3, .int .i64 ceil] rfl rfl HN0.out (two_one _ _) (by decide) (by decide) HB0.out.size ?_; intro v1 w2 hown1 hgrow1 _; have HB2 := Aside0.mk (pw_below_grown HB0.out _ HB0.out.size hgrow1 (fun j hj => (by rw [HVB.out] at hj; injection hj with hj; omega))); obtain ⟨A1, k1, rfl⟩ := own_slice hown1; clear hown1 hgrow1)
  have M0 := Aside0.mk (RM0.made (.slice A1 (0 + 1) k1) HB2.out)
  have HBL := Aside0.mk hBk
  simp only [Nat.zero_add] at M0
  go_loopw [5, 6] (fun i _ w' => i = .int .i64 0 ∧ Aside0 (Below W.heap.size W w')) (fun i _ _ => 0)
  case atStart => exact ⟨rfl, ⟨M0.out.mb.be⟩⟩
  case round =>
    obtain ⟨rfl, HM⟩ := hrel
    have y0 := (HM.out.cell (p := ⟨Bk, O, none⟩) HBL.out).trans x0
    have y1 := (HM.out.cell (p := ⟨Bk, O + 1, none⟩) HBL.out).trans x1
    go_wp2
    go_ret2
    exact ⟨⟨_, rfl⟩, HM.out⟩
theorem rmtx_no3 (attr ceil : Int) (h0 : attr = 3) (h1 : 16 < ceil) (W : World) (Bk O cc : Nat) (x0 : W.cell? ⟨Bk, O, none⟩ = some (.int .i64 attr)) (x1 : W.cell? ⟨Bk, O + 1, none⟩ = some (.int .i64 ceil)) :
    Calls Try.prog 68 #[.slice (some ⟨Bk, O, none⟩) 1 cc] W (RetPC (-17) W) := by
  subst h0
  obtain ⟨i0, hi, hz0, hz1, hz2⟩ := info_parts info218
  have HI := Aside0.mk (And.intro hi (And.intro hz0 (And.intro hz1 hz2))); clear hi hz0 hz1 hz2
  have hBk := World.block_lt_of_cell? W _ x0
  have HB0 := below_alloc (Below.refl W.heap.size W) (.cells #[] 218)
  have HO0 := (show (W.alloc (.cells #[] 218)).ownsRow W.heap.size 218 2 (.slice (some ⟨W.heap.size, 0, none⟩) 0 0) 0 [] from ⟨rfl, .inr ⟨_, 0, _, rfl, Nat.le_refl _, heap_alloc_new _ _, Nat.le_refl _, by decide, rfl, rfl⟩⟩)
  obtain ⟨W1, hW1⟩ : ∃ W1, W.alloc (.cells #[] 218) = W1 := ⟨_, rfl⟩
  rw [hW1] at HB0 HO0
  obtain ⟨v0, hv0⟩ : ∃ v0, Value.slice (some ⟨W.heap.size, 0, none⟩) 0 0 = v0 := ⟨_, rfl⟩
  have HVB := Aside0.mk (show v0.ownBlock = some W.heap.size by rw [← hv0]; rfl)
  rw [hv0] at HO0
  have HB0 := Aside0.mk HB0
  have HO0 := Aside0.mk HO0
  have HN0 := Aside0.mk (show ∀ j u, [Value.int .i64 3, .int .i64 ceil][j]? = some u → W1.cell? ((⟨Bk, O, none⟩ : Addr).add j) = some u from fun j u hu => by
    rw [add_at0, HB0.out.cell (p := ⟨Bk, O + j, none⟩) hBk]
    match j, hu with
    | 0, hu => rw [← hu]; exact x0
    | 1, hu => rw [← hu]; exact x1
    | j + 2, hu => exact absurd hu (by simp))
  go_enter Try.func68, Try.ntmps68
  go_wp2_with (at_builtin; refine wpList_append_own _ rfl _ _ 68 rfl W.heap.size 218 i0 (.agg #[.int .i64 0, .int .i64 0]) 2 16 Try.underlying68 HI.out.1 HI.out.2.1 HI.out.2.2.1 HI.out.2.2.2 rfl (by decide) v0 0 [] rfl HO0.out ⟨Bk, O, none⟩ 1 cc [.int .i64 3, .int .i64 ceil] rfl rfl HN0.out (two_one _ _) (by decide) (by decide) HB0.out.size ?_; intro v1 w2 hown1 hgrow1 _; have HB2 := Aside0.mk (pw_below_grown HB0.out _ HB0.out.size hgrow1 (fun j hj => (by rw [HVB.out] at hj; injection hj with hj; omega))); obtain ⟨A1, k1, rfl⟩ := own_slice hown1; clear hown1 hgrow1)
  have M0 := Aside0.mk (RM0.made (.slice A1 (0 + 1) k1) HB2.out)
  have HBL := Aside0.mk hBk
  simp only [Nat.zero_add] at M0
  go_loopw [5, 6] (fun i _ w' => i = .int .i64 0 ∧ Aside0 (Below W.heap.size W w')) (fun i _ _ => 0)
  case atStart => exact ⟨rfl, ⟨M0.out.mb.be⟩⟩
  case round =>
    obtain ⟨rfl, HM⟩ := hrel
    have y0 := (HM.out.cell (p := ⟨Bk, O, none⟩) HBL.out).trans x0
    have y1 := (HM.out.cell (p := ⟨Bk, O + 1, none⟩) HBL.out).trans x1
    go_wp2
    go_ret2
    exact ⟨⟨_, rfl⟩, HM.out⟩
theorem rmtx_no4 (attr ceil : Int) (h0 : ¬ attr < 0) (h2 : ¬ 3 < attr) (h3 : ¬ attr = 3) (h1 : ¬ ceil = 0) (W : World) (Bk O cc : Nat) (x0 : W.cell? ⟨Bk, O, none⟩ = some (.int .i64 attr)) (x1 : W.cell? ⟨Bk, O + 1, none⟩ = some (.int .i64 ceil)) :
    Calls Try.prog 68 #[.slice (some ⟨Bk, O, none⟩) 1 cc] W (RetPC (-17) W) := by
  have b3 : (attr == 3) = false := beq_eq_false_iff_ne.2 h3
  have b0 : (ceil == 0) = false := beq_eq_false_iff_ne.2 h1
  have b1 : (ceil != 0) = true := bne_iff_ne.2 h1
  obtain ⟨i0, hi, hz0, hz1, hz2⟩ := info_parts info218
  have HI := Aside0.mk (And.intro hi (And.intro hz0 (And.intro hz1 hz2))); clear hi hz0 hz1 hz2
  have hBk := World.block_lt_of_cell? W _ x0
  have HB0 := below_alloc (Below.refl W.heap.size W) (.cells #[] 218)
  have HO0 := (show (W.alloc (.cells #[] 218)).ownsRow W.heap.size 218 2 (.slice (some ⟨W.heap.size, 0, none⟩) 0 0) 0 [] from ⟨rfl, .inr ⟨_, 0, _, rfl, Nat.le_refl _, heap_alloc_new _ _, Nat.le_refl _, by decide, rfl, rfl⟩⟩)
  obtain ⟨W1, hW1⟩ : ∃ W1, W.alloc (.cells #[] 218) = W1 := ⟨_, rfl⟩
  rw [hW1] at HB0 HO0
  obtain ⟨v0, hv0⟩ : ∃ v0, Value.slice (some ⟨W.heap.size, 0, none⟩) 0 0 = v0 := ⟨_, rfl⟩
  have HVB := Aside0.mk (show v0.ownBlock = some W.heap.size by rw [← hv0]; rfl)
  rw [hv0] at HO0
  have HB0 := Aside0.mk HB0
  have HO0 := Aside0.mk HO0
  have HN0 := Aside0.mk (show ∀ j u, [Value.int .i64 attr, .int .i64 ceil][j]? = some u → W1.cell? ((⟨Bk, O, none⟩ : Addr).add j) = some u from fun j u hu => by
    rw [add_at0, HB0.out.cell (p := ⟨Bk, O + j, none⟩) hBk]
    match j, hu with
    | 0, hu => rw [← hu]; exact x0
    | 1, hu => rw [← hu]; exact x1
    | j + 2, hu => exact absurd hu (by simp))
  go_enter Try.func68, Try.ntmps68
  go_wp2_with (at_builtin; refine wpList_append_own _ rfl _ _ 68 rfl W.heap.size 218 i0 (.agg #[.int .i64 0, .int .i64 0]) 2 16 Try.underlying68 HI.out.1 HI.out.2.1 HI.out.2.2.1 HI.out.2.2.2 rfl (by decide) v0 0 [] rfl HO0.out ⟨Bk, O, none⟩ 1 cc [.int .i64 attr, .int .i64 ceil] rfl rfl HN0.out (two_one _ _) (by decide) (by decide) HB0.out.size ?_; intro v1 w2 hown1 hgrow1 _; have HB2 := Aside0.mk (pw_below_grown HB0.out _ HB0.out.size hgrow1 (fun j hj => (by rw [HVB.out] at hj; injection hj with hj; omega))); obtain ⟨A1, k1, rfl⟩ := own_slice hown1; clear hown1 hgrow1)
  have M0 := Aside0.mk (RM0.made (.slice A1 (0 + 1) k1) HB2.out)
  have HBL := Aside0.mk hBk
  simp only [Nat.zero_add] at M0
  go_loopw [5, 6] (fun i _ w' => i = .int .i64 0 ∧ Aside0 (Below W.heap.size W w')) (fun i _ _ => 0)
  case atStart => exact ⟨rfl, ⟨M0.out.mb.be⟩⟩
  case round =>
    obtain ⟨rfl, HM⟩ := hrel
    have y0 := (HM.out.cell (p := ⟨Bk, O, none⟩) HBL.out).trans x0
    have y1 := (HM.out.cell (p := ⟨Bk, O + 1, none⟩) HBL.out).trans x1
    go_wp2
    go_ret2
    exact ⟨⟨_, rfl⟩, HM.out⟩
end Go.Proofs.Yteiepbjajennkaa.ConfHand
