/- The document's mutex is made: one with a ceiling. Conditions: none. -/
import Derived.Test.YteiepbjajennkaaConfRefMtx
namespace Go.Proofs.Yteiepbjajennkaa.ConfHand
set_option linter.unusedVariables false
set_option linter.unusedSimpArgs false
open Go.RowKit Go.Proofs.YteiepbjajennkaaW.PrintWords Go.Proofs.YteiepbjajennkaaW.PrintMore
set_option maxHeartbeats 2000000 in
set_option maxRecDepth 100000 in
theorem rmtx_yes0 (attr ceil : Int) (h0 : attr = 3) (h1 : 1 ≤ ceil) (h2 : ceil ≤ 16) (W : World) (Bk O cc : Nat) (x0 : W.cell? ⟨Bk, O, none⟩ = some (.int .i64 attr)) (x1 : W.cell? ⟨Bk, O + 1, none⟩ = some (.int .i64 ceil)) :
    Calls Try.prog 68 #[.slice (some ⟨Bk, O, none⟩) 1 cc] W (RetPC (0) W) := by
  subst h0
  obtain ⟨i0, hi, hz0, hz1, hz2⟩ := info_parts info218
  have HI := Aside0.mk (And.intro hi (And.intro hz0 (And.intro hz1 hz2))); clear hi hz0 hz1 hz2
  have hBk := World.block_lt_of_cell? W _ x0
  have HB0 := below_alloc (Below.refl W.heap.size W) (.cells #[] 218)
  have HO0 := (show (W.alloc (.cells #[] 218)).ownsRow W.heap.size 218 2 (.slice (some ⟨W.heap.size, 0, none⟩) 0 0) 0 [] from ⟨rfl, .inr ⟨_, 0, _, rfl, Nat.le_refl _, heap_alloc_new _ _, Nat.le_refl _, by decide, rfl, rfl⟩⟩)
  obtain ⟨W1, hW1⟩ : ∃ W1, W.alloc (.cells #[] 218) = W1 := ⟨_, rfl⟩
  rw [hW1] at HB0 HO0
  obtain ⟨v0, hv0⟩ : ∃ v0, Value.slice (some ⟨W.heap.size, 0, none⟩) 0 0 = v0 := ⟨_, rfl⟩
  have HVB := Aside0.mk (show v0.ownBlock = some W.heap.size by rw [← hv0]; rfl)
  rw [hv0] at HO0
  have HB0 := Aside0.mk HB0
  have HO0 := Aside0.mk HO0
  have HN0 := Aside0.mk (show ∀ j u, [Value.int .i64 3, .int .i64 ceil][j]? = some u → W1.cell? ((⟨Bk, O, none⟩ : Addr).add j) = some u from fun j u hu => by
    rw [add_at0, HB0.out.cell (p := ⟨Bk, O + j, none⟩) hBk]
    match j, hu with
    | 0, hu => rw [← hu]; exact x0
    | 1, hu => rw [← hu]; exact x1
    | j + 2, hu => exact absurd hu (by simp))
  obtain ⟨i1, hi1, hz10, hz11, hz12⟩ := info_parts info155
  have HI1 := Aside0.mk (And.intro hi1 (And.intro hz10 (And.intro hz11 hz12))); clear hi1 hz10 hz11 hz12
  go_enter Try.func68, Try.ntmps68
  go_wp2_with (at_builtin; refine wpList_append_own _ rfl _ _ 68 rfl W.heap.size 218 i0 (.agg #[.int .i64 0, .int .i64 0]) 2 16 Try.underlying68 HI.out.1 HI.out.2.1 HI.out.2.2.1 HI.out.2.2.2 rfl (by decide) v0 0 [] rfl HO0.out ⟨Bk, O, none⟩ 1 cc [.int .i64 3, .int .i64 ceil] rfl rfl HN0.out (two_one _ _) (by decide) (by decide) HB0.out.size ?_; intro v1 w2 hown1 hgrow1 _; have HB2 := Aside0.mk (pw_below_grown HB0.out _ HB0.out.size hgrow1 (fun j hj => (by rw [HVB.out] at hj; injection hj with hj; omega))); obtain ⟨A1, k1, rfl⟩ := own_slice hown1; clear hown1 hgrow1)
  have M0 := Aside0.mk (RM0.made (.slice A1 (0 + 1) k1) HB2.out)
  have HBL := Aside0.mk hBk
  simp only [Nat.zero_add] at M0
  generalize HQ : w2.heap.size = q at M0
  go_loopw [5, 6] (fun i _ w' => (i = .int .i64 0 ∧ Aside0 (RM0 W w' q)) ∨ (i = .int .i64 1 ∧ Aside0 (RMB W w' q))) (fun i _ _ => 1 - (intOf i).toNat)
  case atStart => exact .inl ⟨rfl, M0⟩
  case round =>
    rcases hrel with ⟨rfl, HM⟩ | ⟨rfl, HM⟩
    · have y0 := (HM.out.mb.be.cell (p := ⟨Bk, O, none⟩) HBL.out).trans x0
      have y1 := (HM.out.mb.be.cell (p := ⟨Bk, O + 1, none⟩) HBL.out).trans x1
      obtain ⟨u1, hu1⟩ : ∃ u : Value, u = .slice none 0 0 := ⟨_, rfl⟩
      obtain ⟨u2, hu2⟩ : ∃ u : Value, u = .slice none 0 0 := ⟨_, rfl⟩
      have c1 := HM.out.c1
      have c2 := HM.out.c2
      rw [← hu1] at c1
      rw [← hu2] at c2
      have HU1 := Aside0.mk hu1; have HU2 := Aside0.mk hu2
      have HO1 := Aside0.mk (show wr.ownsRow W.heap.size 3 1 u1 ([] : List Int).length (nums .i64 []) by rw [hu1]; exact own_nil _ _ _ _)
      have hqn : some q ≠ u1.ownBlock := by rw [hu1]; simp [Value.ownBlock]
      have hqm : some q ≠ u2.ownBlock := by rw [hu2]; simp [Value.ownBlock]
      have HN1 := Aside0.mk (And.intro hqn (show ∀ j, u1.ownBlock = some j → W.heap.size ≤ j by rw [hu1]; intro j h; cases h))
      have HN2 := Aside0.mk (And.intro hqm (show ∀ j, u2.ownBlock = some j → W.heap.size ≤ j by rw [hu2]; intro j h; cases h))
      clear hu1 hu2 hqn hqm
      have HC2 := Aside0.mk c2; clear c2
      have HSW := Aside0.mk HM.out.mb.be.size
      go_wp2_with (at_builtin; refine print_append_num W.heap.size rfl _ _ 28 3 .i64 8 rfl Try.underlying28 info3 (by decide) u1 [] 0 rfl rfl HO1.out HM.out.mb.be HSW.out (by decide) ?_; intro v3 w3 hown3 hb3 hgrow3 _; have M3 := Aside0.mk (HM.out.mb.grown hgrow3 HN1.out.2 HN1.out.1); have HC3 := Aside0.mk ((World.cell?_of_block (a := ⟨q, 2, none⟩) (hgrow3.block q HM.out.mb.lt HN1.out.1)).trans HC2.out); obtain ⟨A3, k3, rfl⟩ := own_slice hown3; clear hown3 hb3 hgrow3; obtain ⟨vo, d1⟩ := M3.out.ce 1 (by decide); have g1 := M3.out.fr 1)
      have M4 := Aside0.mk (M3.out.set 1 (.slice A3 ([0] : List Int).length k3))
      refine Rgn.wp_region_full ⟨[0], [1, 2, 3, 4], [5, 6, 7, 8, 9, 10, 11], [12, 13], [14, 15, 16, 17], 18⟩ (by kernel_rfl) (by kernel_rfl) (by kernel_rfl) (by kernel_rfl) ?_
      simp only [List.map_cons, List.map_nil, List.getD_cons_succ, List.getD_cons_zero, List.drop_succ_cons, List.drop_zero]
      intro W2 B2 hW2 hB2
      have HS2 := Aside0.mk hB2
      have HW2 := Aside0.mk hW2
      have z0 : W2.cell? ⟨Bk, O, none⟩ = some (.int .i64 3) := by rw [hW2]; exact (M4.out.be.cell (p := ⟨Bk, O, none⟩) HBL.out).trans x0
      have f0 : ∀ x : Rgn.Old W2 B2, x.now.cell? ⟨q, 2, none⟩ = some u2 := fun x => by
        rw [x.be.cell (p := ⟨q, 2, none⟩) (by rw [HS2.out, HW2.out]; exact M4.out.lt), HW2.out, World.cell?_setCell_other _ _ _ _ (by intro z; injection z with _ z; omega)]
        exact HC3.out
      clear hW2 hB2 d1 g1
      repeat (go_big_quiet_step (fail))
      refine wpQuiet_nil ?_
      repeat (go_big_quiet_step (fail))
      refine wpQuiet_nil ?_
      repeat (go_big_quiet_step (fail))
      refine wpQuiet_nil ?_
      intro nq
      have hb1 : Below W2.heap.size W2 ((W2.drewN nq).alloc (.cells #[.bool true, .slice none 0 0] 209)) := below_alloc Rgn.below_drawn _
      have hb2 := below_alloc hb1 (.cells #[.pointer (some ⟨W2.heap.size, 0, none⟩)] 155)
      have M5 := Aside0.mk ((show RMB W W2 q by rw [HW2.out]; exact M4.out).below hb2)
      have HO5 := Aside0.mk (show (((W2.drewN nq).alloc (.cells #[.bool true, .slice none 0 0] 209)).alloc (.cells #[.pointer (some ⟨W2.heap.size, 0, none⟩)] 155)).ownsRow W.heap.size 155 1 u2 0 [] by rw [HU2.out]; exact own_nil _ _ _ _)
      have HB1 := Aside0.mk hb1
      have HB3 := Aside0.mk hb2
      clear hb1 hb2
      refine Rgn.keep_step ?_
      go_wp2
      refine Rgn.keep_end (Rgn.grown.of (by rw [HS2.out]; exact HB1.out)) ?_
      refine Rgn.keep_step ?_
      go_wp2
      refine Rgn.keep_end (Rgn.grown.of (by rw [HS2.out]; exact HB3.out)) (Rgn.keep_nil ?_)
      clear f0 z0
      go_wp2_with (at_builtin; refine wpList_append_own _ rfl _ _ 215 rfl W.heap.size 155 i1 (.pointer none) 1 8 Try.underlying215 HI1.out.1 HI1.out.2.1 HI1.out.2.2.1 HI1.out.2.2.2 rfl (by decide) u2 0 [] rfl HO5.out ⟨W2.heap.size + 1, 0, none⟩ 1 1 [.pointer (some ⟨W2.heap.size, 0, none⟩)] rfl rfl (fun j u hu => by have := cells_new ((W2.drewN nq).alloc (.cells #[.bool true, .slice none 0 0] 209)) #[.pointer (some ⟨W2.heap.size, 0, none⟩)] 155 j u hu; simpa using this) (fun u hu => by simp at hu; rcases hu with rfl; rfl) (by decide) (by decide) M5.out.be.size ?_; intro v6 w6 hown6 hgrow6 _; have M6 := Aside0.mk (M5.out.grown hgrow6 HN2.out.2 HN2.out.1); clear hgrow6; obtain ⟨A6, k6, rfl⟩ := own_slice hown6; clear hown6; obtain ⟨vo6, d6⟩ := M6.out.ce 2 (by decide); have g6 := M6.out.fr 2)
      refine Rgn.rest_end ?_
      go_wp2
      go_roundw
      case rel => exact .inr ⟨rfl, ⟨M6.out.set _ _⟩⟩
      case measure => simp [intOf]
    · go_wp2
      go_loopw [7] (fun i w' => ∃ k : Nat, 1 ≤ k ∧ k ≤ 17 ∧ i = .int .i64 k ∧ Aside0 (RMB W w' q)) (fun i _ => 17 - (intOf i).toNat)
      case atStart => exact ⟨1, by omega, by omega, rfl, HM⟩
      case round =>
        clear HM
        obtain ⟨k, hk0, hk, rfl, HM⟩ := hrel
        by_cases hlt : k ≤ 16
        · obtain ⟨v0', c0⟩ := HM.out.ce (3 + k) (by omega)
          obtain ⟨v1', c1⟩ := HM.out.ce (20 + k) (by omega)
          have f0 := HM.out.fr (3 + k)
          have f1 := HM.out.fr (20 + k)
          go_wp2
          go_roundw
          case rel => exact ⟨k + 1, by omega, by omega, by go_num, ⟨(HM.out.set _ _).set _ _⟩⟩
          case measure => simp [intOf]; omega
        · obtain rfl : k = 17 := by omega
          go_wp2
          go_ret2
          exact ⟨⟨_, rfl⟩, HM.out.be⟩
end Go.Proofs.Yteiepbjajennkaa.ConfHand
