/- Pools, one behind the other: the walk of ConfPools. Conditions: none. -/
import Derived.Test.YteiepbjajennkaaConfPools0
namespace Go.Proofs.Yteiepbjajennkaa.ConfHand
set_option linter.unusedVariables false
set_option linter.unusedSimpArgs false
open Go.RowKit Go.Proofs.YteiepbjajennkaaW.PrintWords Go.Proofs.YteiepbjajennkaaW.PrintMore
theorem pools_long (A : Option Addr) (n c : Nat) (B : Option Addr) (m d : Nat) (h : 8 < n) (hn : n ≤ 9223372036854775807) (hm : m ≤ 9223372036854775807) (w : World) :
    Calls Try.prog 10 #[.slice A n c, .slice B m d] w fun e w' => e = .returned (.bool true) ∧ Below w.heap.size w w' := by
  go_enter Try.func10, Try.ntmps10
  go_wp2_with fail
  refine (known_calls w).mono ?_
  rintro e w1 ⟨rfl, h1⟩
  have H1 := Aside0.mk h1; clear h1
  go_wp2
  go_ret
  exact ⟨rfl, H1.out⟩
theorem pools_few (A : Option Addr) (n c : Nat) (B : Option Addr) (m d : Nat) (h8 : n ≤ 8) (h : m < n) (w : World) :
    Calls Try.prog 10 #[.slice A n c, .slice B m d] w fun e w' => e = .returned (.bool true) ∧ Below w.heap.size w w' := by
  go_enter Try.func10, Try.ntmps10
  go_wp2_with fail
  refine (known_calls w).mono ?_
  rintro e w1 ⟨rfl, h1⟩
  have H1 := Aside0.mk h1; clear h1
  go_wp2
  go_ret
  exact ⟨rfl, H1.out⟩
theorem info81 : (Try.prog.info? 81).map (fun i => (i.zero, i.size, i.bytes)) = some (some (.agg #[.bool false, .int .i64 0, .int .i64 0]), 3, 24) := by kernel_rfl
/-- A configuration while pools are put in: its box at block b, its tasks at block t, its pools from block B on. -/
structure PB (t b B : Nat) (blk siz : Nat → Int) (W2 : World) (k : Nat) (w : World) : Prop where
  fr : Fr B (· = b) W2 w
  own : ∃ v, w.ownsRow B 81 3 v k (poolsL blk siz k) ∧ ∀ j u, #[.int .i64 1, .slice (some ⟨t, 0, none⟩) 1 1, .slice none 0 0, .slice none 0 0, .slice none 0 0, .slice none 0 0, v, .slice none 0 0, .int .i64 0][j]? = some u → w.cell? ⟨b, j, none⟩ = some u
  fz : ∀ j, w.frozen? ⟨b, j, none⟩ = false
theorem starts_get (c : CF) (n j : Nat) (h : j < n) : (starts c n).getD j 0 = atP c.blk c.siz j := by
  unfold starts
  rw [List.getD_eq_getElem?_getD, List.getElem?_map, List.getElem?_range h]
  rfl
theorem al_eq (n : Int) : (n + 3) / 4 * 4 = al n := by unfold al; congr 2; omega
set_option maxHeartbeats 2000000 in
set_option maxRecDepth 100000 in
theorem pools_in (xs ys : List Int) (n m : Nat) (hxn : n = xs.length) (hym : m = ys.length) (hn : n ≤ 8) (hm : n ≤ m) (hm' : m ≤ 9223372036854775807) (hx : ∀ x ∈ xs, 0 ≤ x ∧ x ≤ 255) (hy : ∀ x ∈ ys, 0 ≤ x ∧ x ≤ 255) (A : Option Addr) (c : Nat) (B : Option Addr) (d : Nat) (w : World) (hA : ReadsInt w .u8 A n xs) (hB : ReadsInt w .u8 B m ys) :
    Calls Try.prog 10 #[.slice A n c, .slice B m d] w fun e w' => e = .returned (.bool true) ∧ Below w.heap.size w w' := by
  have HA := Aside0.mk hA; clear hA
  have HB := Aside0.mk hB; clear hB
  have HX := Aside0.mk hx; clear hx
  have HY := Aside0.mk hy; clear hy
  have HXN := Aside0.mk hxn; clear hxn
  have HYM := Aside0.mk hym; clear hym
  obtain ⟨i0, hi, hz0, hz1, hz2⟩ := info_parts info81
  have HI := Aside0.mk (And.intro hi (And.intro hz0 (And.intro hz1 hz2))); clear hi hz0 hz1 hz2
  obtain ⟨blk, hblk⟩ : ∃ f : Nat → Int, f = fun i => 1 + xs.getD i 0 % 16 := ⟨_, rfl⟩
  obtain ⟨siz, hsiz⟩ : ∃ f : Nat → Int, f = fun i => 1 + ys.getD i 0 := ⟨_, rfl⟩
  have HBL := Aside0.mk hblk; clear hblk
  have HSI := Aside0.mk hsiz; clear hsiz
  go_enter Try.func10, Try.ntmps10
  go_wp2_with fail
  refine (known_calls w).mono ?_
  rintro e w1 ⟨rfl, h1⟩
  have H1 := Aside0.mk h1; clear h1
  have d1 : decide (m < n) = false := decide_eq_false (by omega)
  have d2 : decide (8 < (n : Int)) = false := decide_eq_false (by omega)
  go_wp2
  go_loopw [6] (fun i w' => ∃ k : Nat, k ≤ n ∧ i = .int .i64 k ∧ Aside0 (PB w1.heap.size (w1.heap.size + 1) (w1.heap.size + 2) blk siz ((w1.alloc (.cells #[.int .i64 1, .bool false] 79)).alloc (.cells #[.int .i64 1, .slice (some ⟨w1.heap.size, 0, none⟩) 1 1, .slice none 0 0, .slice none 0 0, .slice none 0 0, .slice none 0 0, .slice none 0 0, .slice none 0 0, .int .i64 0] 58)) k w')) (fun i _ => n - (intOf i).toNat)
  case atStart => 
    refine ⟨0, Nat.zero_le _, rfl, ⟨Fr.refl _ _ _, ⟨_, own_nil _ _ _ _, fun j u hu => ?_⟩, fun j => ?_⟩⟩
    · rw [World.cell?_alloc_at _ _ _ _ (by simp)]; exact hu
    · rw [World.frozen?_alloc_at _ _ _ _ (by simp)]
  case round =>
    obtain ⟨k, hk, rfl, HP⟩ := hrel
    by_cases hlt : k < n
    · obtain ⟨v, ho, hbx⟩ := HP.out.own
      obtain ⟨A2, c2, rfl⟩ := own_slice ho
      obtain ⟨adx, hax, hcx⟩ := HA.out.2.2 (by omega)
      obtain ⟨ady, hay, hcy⟩ := HB.out.2.2 (by omega)
      have px := hcx k hlt
      have py := hcy k (by omega)
      have lx := World.block_lt_of_cell? _ _ px
      have ly := World.block_lt_of_cell? _ _ py
      rw [add_block] at lx ly
      have h1s := H1.out.size
      have mv : ∀ p : Addr, p.block < w.heap.size → wr.cell? p = w.cell? p := fun p hp => by
        rw [HP.out.fr.cell (by omega) (by omega), (below_alloc (below_alloc (Below.refl w1.heap.size w1) _) _).cell (p := p) (by omega)]
        exact H1.out.cell hp
      have qx := (mv (adx.add k) (by rw [add_block]; exact lx)).trans px
      have qy := (mv (ady.add k) (by rw [add_block]; exact ly)).trans py
      have mx : xs.getD k 0 ∈ xs := by
        rw [List.getD_eq_getElem?_getD, List.getElem?_eq_getElem (by have := HXN.out; omega)]
        exact List.getElem_mem _
      have my : ys.getD k 0 ∈ ys := by
        rw [List.getD_eq_getElem?_getD, List.getElem?_eq_getElem (by have := HYM.out; omega)]
        exact List.getElem_mem _
      obtain ⟨x0, x1⟩ := HX.out _ mx
      obtain ⟨y0, y1⟩ := HY.out _ my
      have HBK := Aside0.mk (show blk k = 1 + xs.getD k 0 % 16 by rw [HBL.out])
      have HSK := Aside0.mk (show siz k = 1 + ys.getD k 0 by rw [HSI.out])
      clear mx my px py hcx hcy mv lx ly
      generalize xs.getD k 0 = x at *
      generalize ys.getD k 0 = y at *
      subst hax hay
      have HO := Aside0.mk ho; clear ho
      have HBX := Aside0.mk hbx; clear hbx
      have c6 := HBX.out 6 (.slice A2 k c2) rfl
      have f6 := HP.out.fz 6
      have lb := World.block_lt_of_cell? _ _ c6
      go_wp2
      refine Rgn.wp_region_full ⟨[0], [1], [2, 3, 4, 5, 6, 7, 8, 9, 10, 11, 12, 13, 14, 15], [16], [17, 18, 19], 20⟩ (by kernel_rfl) (by kernel_rfl) (by kernel_rfl) (by kernel_rfl) ?_
      simp only [List.map_cons, List.map_nil, List.getD_cons_succ, List.getD_cons_zero, List.drop_succ_cons, List.drop_zero]
      intro W2 B2 hW2 hB2
      have HS2 := Aside0.mk hB2
      have HW2 := Aside0.mk hW2
      rw [← hW2] at qx qy
      have f0 : ∀ x : Rgn.Old W2 B2, x.now.cell? ⟨w1.heap.size + 1, 6, none⟩ = some (.slice A2 k c2) := fun x => by
        rw [x.be.cell (p := ⟨w1.heap.size + 1, 6, none⟩) (by rw [HS2.out, HW2.out]; exact lb), HW2.out]
        exact c6
      clear hW2 hB2
      repeat (go_big_quiet_step (fail))
      refine wpQuiet_nil ?_
      repeat (go_big_quiet_step (fail))
      refine wpQuiet_nil ?_
      repeat (go_big_quiet_step (fail))
      refine wpQuiet_nil ?_
      intro nq
      refine Rgn.keep_step ?_
      go_wp2
      refine Rgn.keep_end (Rgn.grown.of (by rw [HS2.out]; exact below_alloc Rgn.below_drawn _)) (Rgn.keep_nil ?_)
      have HO1 := Aside0.mk ((own_drewN (show W2.ownsRow (w1.heap.size + 2) 81 3 (.slice A2 k c2) k (poolsL blk siz k) by rw [HW2.out]; exact HO.out) nq).alloc (.cells #[.bool false, .int .i64 (1 + x % 16), .int .i64 (1 + y)] 81))
      have HBE := Aside0.mk (show Below W2.heap.size W2 ((W2.drewN nq).alloc (.cells #[.bool false, .int .i64 (1 + x % 16), .int .i64 (1 + y)] 81)) from below_alloc Rgn.below_drawn _)
      have lb2 : w1.heap.size + 1 < W2.heap.size := by rw [HW2.out]; exact lb
      have HE1 := Aside0.mk (show ∀ j u, wr.cell? ⟨w1.heap.size + 1, j, none⟩ = some u → ((W2.drewN nq).alloc (.cells #[.bool false, .int .i64 (1 + x % 16), .int .i64 (1 + y)] 81)).cell? ⟨w1.heap.size + 1, j, none⟩ = some u from fun j u h => (HBE.out.cell (p := ⟨w1.heap.size + 1, j, none⟩) lb2).trans (by rw [HW2.out]; exact h))
      have HE2 := Aside0.mk (show ∀ j, ((W2.drewN nq).alloc (.cells #[.bool false, .int .i64 (1 + x % 16), .int .i64 (1 + y)] 81)).frozen? ⟨w1.heap.size + 1, j, none⟩ = false from fun j => (World.frozen?_of_block (a := ⟨w1.heap.size + 1, j, none⟩) (HBE.out.block _ lb2)).trans (by rw [HW2.out]; exact HP.out.fz j))
      have HSZ := Aside0.mk (show w1.heap.size + 2 ≤ ((W2.drewN nq).alloc (.cells #[.bool false, .int .i64 (1 + x % 16), .int .i64 (1 + y)] 81)).heap.size by have := HBE.out.size; omega)
      have HQ := Aside0.mk (show k + 1 ≤ maxLen ∧ (k + 1) * 24 ≤ 140737488355328 by unfold maxLen; omega)
      clear f0 qx qy c6 f6
      go_wp2_with (at_builtin; refine wpList_append_own _ rfl _ _ 55 rfl (w1.heap.size + 2) 81 i0 (.agg #[.bool false, .int .i64 0, .int .i64 0]) 3 24 Try.underlying55 HI.out.1 HI.out.2.1 HI.out.2.2.1 HI.out.2.2.2 rfl (by decide) _ _ _ rfl HO1.out ⟨W2.heap.size, 0, none⟩ 1 1 [.bool false, .int .i64 (1 + x % 16), .int .i64 (1 + y)] rfl rfl (cells_new (W2.drewN nq) _ 81) (fun u hu => by simp at hu; rcases hu with rfl | rfl | rfl <;> rfl) HQ.out.1 HQ.out.2 HSZ.out ?_; intro v2 w3 hown2 hgrow2 _; have HG3 := Aside0.mk hgrow2; have HO3 := Aside0.mk hown2; clear hgrow2; obtain ⟨A3, c3, rfl⟩ := own_slice hown2; clear hown2; have ng : some (w1.heap.size + 1) ≠ (Value.slice A2 k c2).ownBlock := fun e => (by have := own_base HO.out _ e.symm; omega); have d6 : w3.cell? ⟨w1.heap.size + 1, 6, none⟩ = some (.slice A2 k c2) := HG3.out.cell (HE1.out 6 _ (HBX.out 6 _ rfl)) ng; have g6 : w3.frozen? ⟨w1.heap.size + 1, 6, none⟩ = false := (HG3.out.frozen_far ⟨w1.heap.size + 1, 6, none⟩ (Nat.lt_of_lt_of_le lb2 HBE.out.size) ng).trans (HE2.out 6); have HN := Aside0.mk ng; clear ng)
      refine Rgn.rest_end ?_
      go_wp2
      go_roundw
      case rel =>
        refine ⟨k + 1, by omega, by go_num, Aside0.mk (PB.mk ?_ ⟨.slice A3 (k + 1) c3, own_setCell (by have := HO3.out; rw [← HBK.out, ← HSK.out] at this; exact this) (fun e => by have h : w1.heap.size + 2 ≤ w1.heap.size + 1 := own_base HO3.out _ e.symm; omega) _, fun j u hu => ?_⟩ fun j => ?_)⟩
        · refine Fr.set (HP.out.fr.trans ((Fr.trans (W1 := W2) (by rw [HW2.out]; exact Fr.refl _ _ _) (Fr.of_below (B := w1.heap.size + 2) (X := (· = w1.heap.size + 1)) HBE.out (by omega))).trans ⟨HG3.out.os, HG3.out.tape, HG3.out.output, HG3.out.size, fun i hi hb => HG3.out.block i (by have := HSZ.out; omega) fun e => ?_⟩)) _ _ (.inl rfl)
          have := own_base HO.out i e.symm
          omega
        · by_cases h6 : j = 6
          · subst h6
            rw [World.cell?_setCell_same _ _ _ (HG3.out.cell (HE1.out 6 _ (HBX.out 6 _ rfl)) HN.out)]
            exact hu
          · rw [World.cell?_setCell_other _ _ _ _ (by intro z; injection z with _ z; exact h6 z.symm)]
            have hj : j < 9 := (List.getElem?_eq_some_iff.1 (show [Value.int .i64 1, .slice (some ⟨w1.heap.size, 0, none⟩) 1 1, .slice none 0 0, .slice none 0 0, .slice none 0 0, .slice none 0 0, .slice A3 (k + 1) c3, .slice none 0 0, .int .i64 0][j]? = some u by rw [← hu]; simp)).1
            refine HG3.out.cell (HE1.out j u (HBX.out j u ?_)) HN.out
            have hj' : j = 0 ∨ j = 1 ∨ j = 2 ∨ j = 3 ∨ j = 4 ∨ j = 5 ∨ j = 6 ∨ j = 7 ∨ j = 8 := by omega
            rcases hj' with rfl | rfl | rfl | rfl | rfl | rfl | rfl | rfl | rfl
            all_goals first | exact hu | exact absurd rfl h6
        · rw [World.frozen?_setCell]
          exact (HG3.out.frozen_far ⟨w1.heap.size + 1, j, none⟩ (Nat.lt_of_lt_of_le lb2 HBE.out.size) HN.out).trans (HE2.out j)
      case measure => simp [intOf]; omega
    · obtain rfl : k = n := by omega
      obtain ⟨v, ho, hbx⟩ := HP.out.own
      obtain ⟨A2, c2, rfl⟩ := own_slice ho
      have HBX := Aside0.mk hbx; clear hbx
      have HBD := Aside0.mk (show ∀ i, i < k → 1 ≤ blk i ∧ blk i ≤ 16 ∧ 1 ≤ siz i ∧ siz i ≤ 256 from fun i hi => by
        have mx : xs.getD i 0 ∈ xs := by
          rw [List.getD_eq_getElem?_getD, List.getElem?_eq_getElem (by have := HXN.out; omega)]
          exact List.getElem_mem _
        have my : ys.getD i 0 ∈ ys := by
          rw [List.getD_eq_getElem?_getD, List.getElem?_eq_getElem (by have := HYM.out; omega)]
          exact List.getElem_mem _
        have hx := HX.out _ mx
        have hy := HY.out _ my
        rw [HBL.out, HSI.out]
        dsimp only
        omega)
      have HCI := Aside0.mk (pc_in (cap := c2) (b := w1.heap.size) (W := wr) (by
        rw [HP.out.fr.cell (Nat.lt_add_of_pos_right (by decide)) (Nat.ne_of_lt (Nat.lt_succ_self _)), World.cell?_alloc_past _ _ _ (by simp), World.cell?_alloc_at _ _ _ _ rfl]; rfl) (by
        rw [HP.out.fr.cell (Nat.lt_add_of_pos_right (by decide)) (Nat.ne_of_lt (Nat.lt_succ_self _)), World.cell?_alloc_past _ _ _ (by simp), World.cell?_alloc_at _ _ _ _ rfl]; rfl) ho)
      have HB0 := Aside0.mk (below_up H1.out (below_up (below_alloc (below_alloc (Below.refl w1.heap.size w1) _) _) (HP.out.fr.below (C := w1.heap.size) (by omega) (fun i hi e => by have e : i = w1.heap.size + 1 := e; omega)) (Nat.le_refl _)) H1.out.size : Below w.heap.size w _)
      have HLB := Aside0.mk (World.block_lt_of_cell? _ _ (HBX.out 0 _ rfl))
      have g0 : wr.cell? ⟨w1.heap.size + 1, 0, none⟩ = some (.int .i64 1) := HBX.out 0 _ rfl
      have g1 : wr.cell? ⟨w1.heap.size + 1, 1, none⟩ = some (.slice (some ⟨w1.heap.size, 0, none⟩) 1 1) := HBX.out 1 _ rfl
      have g2 : wr.cell? ⟨w1.heap.size + 1, 2, none⟩ = some (.slice none 0 0) := HBX.out 2 _ rfl
      have g3 : wr.cell? ⟨w1.heap.size + 1, 3, none⟩ = some (.slice none 0 0) := HBX.out 3 _ rfl
      have g4 : wr.cell? ⟨w1.heap.size + 1, 4, none⟩ = some (.slice none 0 0) := HBX.out 4 _ rfl
      have g5 : wr.cell? ⟨w1.heap.size + 1, 5, none⟩ = some (.slice none 0 0) := HBX.out 5 _ rfl
      have g6 : wr.cell? ⟨w1.heap.size + 1, 6, none⟩ = some (.slice A2 k c2) := HBX.out 6 _ rfl
      have g7 : wr.cell? ⟨w1.heap.size + 1, 7, none⟩ = some (.slice none 0 0) := HBX.out 7 _ rfl
      have g8 : wr.cell? ⟨w1.heap.size + 1, 8, none⟩ = some (.int .i64 0) := HBX.out 8 _ rfl
      go_wp2_with fail
      refine (check_calls (c := (pc w1.heap.size A2 k c2 blk siz)) HCI.out).mono ?_
      rintro e w2 ⟨⟨a, nn, r, rfl, hans⟩, hbe⟩
      have hans : Says (pc w1.heap.size A2 k c2 blk siz).parts a nn r := by unfold Ans at hans; rwa [if_pos ⟨(by decide : (1 : Int) ≤ 1), (by decide : (1 : Int) ≤ 1000)⟩] at hans
      obtain ⟨rfl, rfl, rfl⟩ := hans.unique (pc_says w1.heap.size A2 k c2 blk siz hn HBD.out)
      clear hans
      have B2 := Aside0.mk hbe; clear hbe
      have HPG := Aside0.mk (pc_pg w1.heap.size A2 k c2 blk siz hn HBD.out)
      clear g0 g1 g2 g3 g4 g5 g6 g7 g8
      have HX2 := Aside0.mk (fun j u hu => (B2.out.cell (p := ⟨w1.heap.size + 1, j, none⟩) HLB.out).trans (HBX.out j u hu))
      have g0 : w2.cell? ⟨w1.heap.size + 1, 0, none⟩ = some (.int .i64 1) := HX2.out 0 _ rfl
      have g1 : w2.cell? ⟨w1.heap.size + 1, 1, none⟩ = some (.slice (some ⟨w1.heap.size, 0, none⟩) 1 1) := HX2.out 1 _ rfl
      have g2 : w2.cell? ⟨w1.heap.size + 1, 2, none⟩ = some (.slice none 0 0) := HX2.out 2 _ rfl
      have g3 : w2.cell? ⟨w1.heap.size + 1, 3, none⟩ = some (.slice none 0 0) := HX2.out 3 _ rfl
      have g4 : w2.cell? ⟨w1.heap.size + 1, 4, none⟩ = some (.slice none 0 0) := HX2.out 4 _ rfl
      have g5 : w2.cell? ⟨w1.heap.size + 1, 5, none⟩ = some (.slice none 0 0) := HX2.out 5 _ rfl
      have g6 : w2.cell? ⟨w1.heap.size + 1, 6, none⟩ = some (.slice A2 k c2) := HX2.out 6 _ rfl
      have g7 : w2.cell? ⟨w1.heap.size + 1, 7, none⟩ = some (.slice none 0 0) := HX2.out 7 _ rfl
      have g8 : w2.cell? ⟨w1.heap.size + 1, 8, none⟩ = some (.int .i64 0) := HX2.out 8 _ rfl
      go_wp2_with fail
      refine (layout_calls (c := (pc w1.heap.size A2 k c2 blk siz)) (HCI.out.below B2.out) HPG.out).mono ?_
      rintro e w3 ⟨⟨A3, cc, he, hrd⟩, hbe⟩
      have he : e = .returned (.slice A3 k cc) := he
      subst he
      have hrd : ReadsInt w3 .i64 A3 k (starts (pc w1.heap.size A2 k c2 blk siz) k) := hrd
      have HRD := Aside0.mk hrd; clear hrd
      have B3 := Aside0.mk (below_next B2.out hbe); clear hbe
      clear g0 g1 g2 g3 g4 g5 g6 g7 g8
      go_wp2
      go_loopw [12, 11] (fun i z w' => ∃ j : Nat, j ≤ k ∧ i = .int .i64 j ∧ z = .int .i64 (atP blk siz j) ∧ Aside0 (Below wr.heap.size wr w' ∧ ReadsInt w' .i64 A3 k (starts (pc w1.heap.size A2 k c2 blk siz) k))) (fun i _ _ => k - (intOf i).toNat)
      case atStart => exact ⟨0, Nat.zero_le _, rfl, rfl, B3.out, HRD.out⟩
      case round =>
        obtain ⟨j, hj, rfl, rfl, HBO⟩ := hrel
        have HXr := Aside0.mk (fun j u hu => (HBO.out.1.cell (p := ⟨w1.heap.size + 1, j, none⟩) HLB.out).trans (HBX.out j u hu))
        by_cases hlt : j < k
        · obtain ⟨ad, hA3, hcl⟩ := HBO.out.2.2.2 (by omega)
          obtain ⟨Bp, Op, hA2, hcp⟩ := (HCI.out.p.below HBO.out.1) (show 0 < k by omega)
          have hA2 : A2 = some ⟨Bp, Op, none⟩ := hA2
          have p1 : World.cell? _ ⟨Bp, Op + j * 3 + 1, none⟩ = some (.int .i64 (blk j)) := hcp j hlt 1 _ rfl
          have p2 : World.cell? _ ⟨Bp, Op + j * 3 + 2, none⟩ = some (.int .i64 (siz j)) := hcp j hlt 2 _ rfl
          have g6 := HXr.out 6 (.slice A2 k c2) rfl
          obtain ⟨h0, h1', h2, h3⟩ := pools_at blk siz k hn HBD.out j (by omega)
          have HNX := Aside0.mk (h3 hlt).2
          obtain ⟨b1, b2, b3, b4⟩ := HBD.out j hlt
          have hc : World.cell? _ (ad.add j) = some (.int .i64 (atP blk siz j)) := (hcl j hlt).trans (by rw [starts_get _ _ _ hlt]; rfl)
          have q0 := al_bd (siz j) (by omega)
          have q1 := mul_bd (a := blk j) (b := al (siz j)) (m := 16) (n := 256) (by omega) (by omega) (by omega) (by unfold al; omega)
          have hle : atP blk siz j ≤ 32768 := by omega
          have hz := al_eq (siz j)
          clear hcl hcp h3 h1'
          generalize atP blk siz j = at_ at *
          generalize siz j = sz at *
          generalize blk j = bl at *
          generalize al sz = z at *
          rw [← hz] at q1
          have HZ := Aside0.mk hz; clear hz q0
          have r1 : IntKind.i64.wrap (bl * ((sz + 3) / 4 * 4)) = bl * ((sz + 3) / 4 * 4) := IntWalk.i64_in _ (by omega)
          have r2 : IntKind.i64.wrap (at_ + bl * ((sz + 3) / 4 * 4)) = at_ + bl * ((sz + 3) / 4 * 4) := IntWalk.i64_in _ (by omega)
          clear q1
          rw [hA3, hA2]
          rw [hA2] at g6
          go_wp2
          refine wp_region_quiet_lit (by kernel_rfl) (by kernel_rfl) ?_
          repeat (go_big_quiet_step (fail))
          refine wpQuiet_nil ?_
          intro _ hw'
          obtain ⟨nq, hw''⟩ := hw'
          subst hw''
          clear r1 r2 p1 p2 g6 hc
          go_wp2
          go_roundw
          case rel => exact ⟨j + 1, by omega, by go_num, by rw [HNX.out, HZ.out], below_drewN HBO.out.1 nq, (show ReadsInt _ .i64 (some ad) k (starts (pc w1.heap.size (some ⟨Bp, Op, none⟩) k c2 blk siz) k) by have := HBO.out.2.below (below_drewN (Below.refl _ _) nq); rw [hA3] at this; exact this)⟩
          case measure => simp [intOf]; omega
        · obtain rfl : j = k := by omega
          have g0 : World.cell? _ ⟨w1.heap.size + 1, 0, none⟩ = some (.int .i64 1) := HXr.out 0 _ rfl
          have g1 : World.cell? _ ⟨w1.heap.size + 1, 1, none⟩ = some (.slice (some ⟨w1.heap.size, 0, none⟩) 1 1) := HXr.out 1 _ rfl
          have g2 : World.cell? _ ⟨w1.heap.size + 1, 2, none⟩ = some (.slice none 0 0) := HXr.out 2 _ rfl
          have g3 : World.cell? _ ⟨w1.heap.size + 1, 3, none⟩ = some (.slice none 0 0) := HXr.out 3 _ rfl
          have g4 : World.cell? _ ⟨w1.heap.size + 1, 4, none⟩ = some (.slice none 0 0) := HXr.out 4 _ rfl
          have g5 : World.cell? _ ⟨w1.heap.size + 1, 5, none⟩ = some (.slice none 0 0) := HXr.out 5 _ rfl
          have g6 : World.cell? _ ⟨w1.heap.size + 1, 6, none⟩ = some (.slice A2 j c2) := HXr.out 6 _ rfl
          have g7 : World.cell? _ ⟨w1.heap.size + 1, 7, none⟩ = some (.slice none 0 0) := HXr.out 7 _ rfl
          have g8 : World.cell? _ ⟨w1.heap.size + 1, 8, none⟩ = some (.int .i64 0) := HXr.out 8 _ rfl
          go_wp2_with fail
          refine (bytes_calls (c := (pc w1.heap.size A2 j c2 blk siz)) (HCI.out.below HBO.out.1) HPG.out).mono ?_
          rintro e w5 ⟨he, hbe⟩
          have he : e = .returned (.int .i64 (atP blk siz j)) := he
          subst he
          have HB5 := Aside0.mk (below_up HB0.out (below_next HBO.out.1 hbe) HB0.out.size); clear hbe
          have hat : atP blk siz j ≤ 65536 := by have := (pools_at blk siz j hn HBD.out j (Nat.le_refl _)).2.1; omega
          clear g0 g1 g2 g3 g4 g5 g6 g7 g8
          go_wp2
          go_ret
          exact ⟨rfl, HB5.out⟩
theorem bu8 {n : Int} (h : (Lit.int .u8 n).wf = true) : 0 ≤ n ∧ n ≤ 255 := by
  simp [Lit.wf, IntKind.min, IntKind.max, IntKind.signed, IntKind.bits] at h
  omega
theorem pools_walk (a0 : Option Addr) (len0 cap0 : Nat) (z0 : List Int) (a1 : Option Addr) (len1 cap1 : Nat) (z1 : List Int) (w : World)
    (w0 : (a0 = none ∧ len0 = 0 ∧ cap0 = 0 ∧ z0 = []) ∨ ∃ x, a0 = some x ∧ len0 ≤ cap0 ∧ cap0 ≤ maxLen ∧ z0.length = cap0 ∧ (∀ i, i < z0.length → w.cell? (x.add i) = some (.int .u8 (z0.getD i 0))) ∧ ∀ n ∈ z0, (Lit.int .u8 n).wf = true) (y0 : len0 * 1 ≤ 140737488351232)
    (w1 : (a1 = none ∧ len1 = 0 ∧ cap1 = 0 ∧ z1 = []) ∨ ∃ x, a1 = some x ∧ len1 ≤ cap1 ∧ cap1 ≤ maxLen ∧ z1.length = cap1 ∧ (∀ i, i < z1.length → w.cell? (x.add i) = some (.int .u8 (z1.getD i 0))) ∧ ∀ n ∈ z1, (Lit.int .u8 n).wf = true) (y1 : len1 * 1 ≤ 140737488351232) :
    Calls Try.prog 10 #[.slice a0 len0 cap0, .slice a1 len1 cap1] w fun e w' => e = .returned (.bool true) ∧ Below w.heap.size w w' := by
  obtain ⟨l0, rfl, hr0, hm0, hw0, hc0⟩ := ReadsInt.ofRowC w0
  obtain ⟨l1, rfl, hr1, hm1, hw1, hc1⟩ := ReadsInt.ofRowC w1
  by_cases h : 8 < l0.length
  · exact pools_long a0 l0.length cap0 a1 l1.length cap1 h (by omega) (by omega) w
  · by_cases h2 : l1.length < l0.length
    · exact pools_few a0 l0.length cap0 a1 l1.length cap1 (by omega) h2 w
    · exact pools_in l0 l1 l0.length l1.length rfl rfl (by omega) (by omega) (by omega) (fun x hx => bu8 (hw0 x hx)) (fun x hx => bu8 (hw1 x hx)) a0 cap0 a1 cap1 w hr0 hr1
end Go.Proofs.Yteiepbjajennkaa.ConfHand
