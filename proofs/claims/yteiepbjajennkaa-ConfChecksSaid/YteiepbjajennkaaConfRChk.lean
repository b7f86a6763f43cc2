/- What is wrong of a configuration, the document's way. Conditions: none. -/
import Derived.Test.YteiepbjajennkaaConfRefMtx3
import Derived.Test.YteiepbjajennkaaConfRefLay
namespace Go.Proofs.Yteiepbjajennkaa.ConfHand
set_option linter.unusedVariables false
set_option linter.unusedSimpArgs false
open Go.RowKit Go.Proofs.YteiepbjajennkaaW.PrintWords Go.Proofs.YteiepbjajennkaaW.PrintMore
theorem ref_pool_no (b : Bool) (at_ blk siz : Int) (a0 : 0 ≤ at_) (a1 : at_ ≤ 65536) (a2 : at_ % 4 = 0) (h : ¬ poolC at_ blk siz = 0) (W : World) : poolC at_ blk siz = -17 ∧ Calls Try.prog 69 #[.bool b, .int .i64 at_, .int .i64 blk, .int .i64 siz] W (RetPC (-17) W) := by
  unfold poolC at h ⊢
  split at h
  · rename_i hn
    rw [if_pos hn]
    refine ⟨rfl, ?_⟩
    by_cases h0 : blk < 1
    · exact ref_pool_no0 b at_ blk siz h0 W
    · by_cases h1 : 256 < blk
      · exact ref_pool_no1 b at_ blk siz h0 h1 W
      · by_cases h2 : siz < 1
        · exact ref_pool_no2 b at_ blk siz h0 h1 h2 W
        · by_cases h3 : 4096 < siz
          · exact ref_pool_no3 b at_ blk siz h0 h1 h2 h3 W
          · exact ref_pool_no4 b at_ blk siz a0 a1 a2 h0 h1 h2 h3 (by
              rcases hn with h | h | h | h | h
              · exact absurd h h0
              · exact absurd h h1
              · exact absurd h h2
              · exact absurd h h3
              · exact h) W
  · exact absurd rfl h
theorem ref_pool_ok (b : Bool) (at_ blk siz : Int) (a0 : 0 ≤ at_) (a1 : at_ ≤ 65536) (a2 : at_ % 4 = 0) (h : poolC at_ blk siz = 0) (W : World) : Calls Try.prog 69 #[.bool b, .int .i64 at_, .int .i64 blk, .int .i64 siz] W (RefPool at_ blk siz W) := by
  obtain ⟨h0, h1, h2, h3, h4⟩ := poolC_bd h
  exact ref_pool_yes b at_ blk siz a0 a1 a2 (by omega) (by omega) (by omega) (by omega) h4 W
/-- The parts from one on. -/
def tl (c : CF) (k : Nat) : List PS := c.parts.drop k
abbrev Up (c : CF) (k : Nat) : Prop := ∀ a b r, Says (tl c k) a b r → Says c.parts a b r
theorem up_num {c : CF} {k : Nat} (h : Up c k) (p : PS) (hp : tl c k = p :: tl c (k + 1)) (hn : p.n < p.lo ∨ p.hi < p.n) : Says c.parts p.al 0 (-17) := h _ _ _ (by rw [hp]; exact .num hn)
theorem up_one {c : CF} {k : Nat} (h : Up c k) (p : PS) (hp : tl c k = p :: tl c (k + 1)) (h0 : p.lo ≤ p.n) (h1 : p.n ≤ p.hi) (i : Nat) (h2 : (i : Int) < p.n) (h3 : p.code i ≠ 0) (h4 : ∀ j, j < i → p.code j = 0) : Says c.parts p.nm ((i : Int) + 1) (p.code i) := h _ _ _ (by rw [hp]; exact .one h0 h1 h2 h3 h4)
theorem up_next {c : CF} {k : Nat} (h : Up c k) (p : PS) (hp : tl c k = p :: tl c (k + 1)) (h0 : p.lo ≤ p.n) (h1 : p.n ≤ p.hi) (h2 : ∀ i : Nat, (i : Int) < p.n → p.code i = 0) : Up c (k + 1) := fun a b r hs => h _ _ _ (by rw [hp]; exact .next h0 h1 h2 hs)
set_option maxRecDepth 100000 in
theorem rcheck_no {c : CF} {W : World} (h : ¬ (1 ≤ c.tic ∧ c.tic ≤ 1000)) : Calls Try.prog 34 #[.agg #[.int .i64 c.tic, .slice c.t.A c.t.n c.t.c, .slice c.s.A c.s.n c.s.c, .slice c.f.A c.f.n c.f.c, .slice c.d.A c.d.n c.d.c, .slice c.m.A c.m.n c.m.c, .slice c.p.A c.p.n c.p.c, .slice c.y.A c.y.n c.y.c, .int .i64 c.al]] W (CheckSays c W) := by
  have H := Aside0.mk h; clear h
  go_enter Try.func34, Try.ntmps34
  go_wp2_with fail
  refine (ref_clock_no c.tic (by have := H.out; omega) _).mono ?_
  rintro e w' ⟨rfl, rfl⟩
  go_wp2
  go_ret3
  exact ⟨⟨_, _, _, rfl, by unfold Ans; rw [if_neg H.out]; exact ⟨rfl, rfl, rfl⟩⟩, below_alloc (Below.refl _ _) _⟩
set_option maxHeartbeats 8000000 in
set_option maxRecDepth 100000 in
theorem rcheck_yes {c : CF} {W : World} (h : CFin W c) (hlm : c.m.n ≤ c.m.c ∧ c.m.c ≤ maxLen) (h0 : 1 ≤ c.tic) (h1 : c.tic ≤ 1000) : Calls Try.prog 34 #[.agg #[.int .i64 c.tic, .slice c.t.A c.t.n c.t.c, .slice c.s.A c.s.n c.s.c, .slice c.f.A c.f.n c.f.c, .slice c.d.A c.d.n c.d.c, .slice c.m.A c.m.n c.m.c, .slice c.p.A c.p.n c.p.c, .slice c.y.A c.y.n c.y.c, .int .i64 c.al]] W (CheckSays c W) := by
  have HF := Aside0.mk h; clear h
  have HLM := Aside0.mk hlm; clear hlm
  have HT := Aside0.mk (And.intro h0 h1); clear h0 h1
  have HB0 := Aside0.mk (below_alloc (Below.refl W.heap.size W) (.cells c.vals 72))
  have HX0 := Aside0.mk (show ∀ j u, c.vals[j]? = some u → (W.alloc (.cells c.vals 72)).cell? ⟨W.heap.size, j, none⟩ = some u from fun j u hu => by rw [World.cell?_alloc_at _ _ _ _ rfl]; exact hu)
  have U0 := Aside0.mk (show Up c 0 from fun a b r h => h)
  go_enter Try.func34, Try.ntmps34
  go_wp2_with fail
  refine (ref_clock_yes c.tic HT.out.1 HT.out.2 _).mono ?_
  rintro e w1 ⟨rfl, hw1⟩
  have HB1 := Aside0.mk (show Below (W.heap.size + 1) (W.alloc (.cells c.vals 72)) w1 by
    rw [hw1]
    have q := below_alloc (below_alloc (Below.refl (W.alloc (.cells c.vals 72)).heap.size (W.alloc (.cells c.vals 72))) (.cells #[.slice none 0 0, .int .i64 0] 204)) (.cells #[.pointer (some ⟨(W.alloc (.cells c.vals 72)).heap.size, 0, none⟩), .int .i64 c.tic, .int .u64 0, .int .u64 0] 206)
    exact ⟨q.os, q.tape, q.output, q.size, fun i hi => q.block i (by rw [World.size_alloc]; exact hi)⟩)
  clear hw1
  have g0 : World.cell? _ ⟨W.heap.size, 1, none⟩ = some (.slice c.t.A c.t.n c.t.c) := (HB1.out.cell (p := ⟨W.heap.size, 1, none⟩) (by exact Nat.lt_succ_self _)).trans (HX0.out 1 _ rfl)
  by_cases hn0 : c.t.n < 1
  · as_aux_lemma =>
      go_wp2
      go_ret3
      exact ⟨⟨_, _, _, rfl, by unfold Ans; rw [if_pos HT.out]; exact up_num U0.out (⟨⟨#[116, 97, 115, 107]⟩, ⟨#[116, 97, 115, 107, 115]⟩, (c.t.n : Int), 1, 16, fun i => taskC (c.pri i)⟩ : PS) rfl (.inl (show (c.t.n : Int) < 1 by omega))⟩, below_up HB0.out HB1.out (Nat.le_succ _)⟩
  · skip
    by_cases hn1 : 16 < c.t.n
    · as_aux_lemma =>
        go_wp2
        go_ret3
        exact ⟨⟨_, _, _, rfl, by unfold Ans; rw [if_pos HT.out]; exact up_num U0.out (⟨⟨#[116, 97, 115, 107]⟩, ⟨#[116, 97, 115, 107, 115]⟩, (c.t.n : Int), 1, 16, fun i => taskC (c.pri i)⟩ : PS) rfl (.inr (show (16 : Int) < (c.t.n : Int) by omega))⟩, below_up HB0.out HB1.out (Nat.le_succ _)⟩
    · have HN0 := Aside0.mk (show c.t.n ≤ 16 by omega)
      have HL0 := Aside0.mk (show 1 ≤ c.t.n by omega)
      go_wp2
      clear g0
      go_loopw [7] (fun i  w' => ∃ j : Nat, j ≤ c.t.n ∧ i = .int .i64 j ∧ Aside0 (Below (W.heap.size + 1) (W.alloc (.cells c.vals 72)) w' ∧ ∀ i, i < j → taskC (c.pri i) = 0)) (fun i  _ => c.t.n - (intOf i).toNat)
      case atStart => exact ⟨0, Nat.zero_le _, rfl, HB1.out, fun i hi => by omega⟩
      case round =>
        obtain ⟨j, hj, rfl, HBJ⟩ := hrel
        have HJB := Aside0.mk HBJ.out.1
        have HJZ := Aside0.mk HBJ.out.2
        clear HBJ
        have HC := Aside0.mk (below_up HB0.out HJB.out (Nat.le_succ _))
        have gb : World.cell? _ ⟨W.heap.size, 1, none⟩ = some (.slice c.t.A c.t.n c.t.c) := (HJB.out.cell (p := ⟨W.heap.size, 1, none⟩) (by exact Nat.lt_succ_self _)).trans (HX0.out 1 _ rfl)
        by_cases hlt : j < c.t.n
        · obtain ⟨B, O, hA, hc⟩ := HF.out.t (by omega)
          have p0 : W.cell? ⟨B, O + j * 2, none⟩ = some (.int .i64 (c.pri j)) := hc j hlt 0 _ rfl
          have p1 : W.cell? ⟨B, O + j * 2 + 1, none⟩ = some (.bool (c.act j)) := hc j hlt 1 _ rfl
          have hBl := World.block_lt_of_cell? _ _ p0
          have y0 := (HC.out.cell (p := ⟨B, O + j * 2, none⟩) hBl).trans p0
          have y1 := (HC.out.cell (p := ⟨B, O + j * 2 + 1, none⟩) hBl).trans p1
          have hj16 : j ≤ 16 := by have := HN0.out; omega
          clear hc p0 p1
          rw [hA] at gb ⊢
          have HA := Aside0.mk hA; clear hA
          by_cases hp0 : c.pri j < 1
          · have HC0 := Aside0.mk (show taskC (c.pri j) = -17 from if_pos (.inl hp0))
            as_aux_lemma =>
              go_wp2
              go_ret3
              exact ⟨⟨_, _, _, rfl, by unfold Ans; rw [if_pos HT.out]; have := up_one U0.out (⟨⟨#[116, 97, 115, 107]⟩, ⟨#[116, 97, 115, 107, 115]⟩, (c.t.n : Int), 1, 16, fun i => taskC (c.pri i)⟩ : PS) rfl (show (1 : Int) ≤ (c.t.n : Int) by have := HL0.out; omega) (show (c.t.n : Int) ≤ 16 by have := HN0.out; omega) j (show (j : Int) < (c.t.n : Int) by omega) (show taskC (c.pri j) ≠ 0 by rw [HC0.out]; decide) HJZ.out; rw [show ((⟨⟨#[116, 97, 115, 107]⟩, ⟨#[116, 97, 115, 107, 115]⟩, (c.t.n : Int), 1, 16, fun i => taskC (c.pri i)⟩ : PS)).code j = _ from HC0.out] at this; exact this⟩, HC.out⟩
          · skip
            by_cases hp1 : 16 < c.pri j
            · have HC0 := Aside0.mk (show taskC (c.pri j) = -17 from if_pos (.inr hp1))
              as_aux_lemma =>
                go_wp2
                go_ret3
                exact ⟨⟨_, _, _, rfl, by unfold Ans; rw [if_pos HT.out]; have := up_one U0.out (⟨⟨#[116, 97, 115, 107]⟩, ⟨#[116, 97, 115, 107, 115]⟩, (c.t.n : Int), 1, 16, fun i => taskC (c.pri i)⟩ : PS) rfl (show (1 : Int) ≤ (c.t.n : Int) by have := HL0.out; omega) (show (c.t.n : Int) ≤ 16 by have := HN0.out; omega) j (show (j : Int) < (c.t.n : Int) by omega) (show taskC (c.pri j) ≠ 0 by rw [HC0.out]; decide) HJZ.out; rw [show ((⟨⟨#[116, 97, 115, 107]⟩, ⟨#[116, 97, 115, 107, 115]⟩, (c.t.n : Int), 1, 16, fun i => taskC (c.pri i)⟩ : PS)).code j = _ from HC0.out] at this; exact this⟩, HC.out⟩
            · skip
              have HC0 := Aside0.mk (show taskC (c.pri j) = 0 from if_neg (by omega))
              as_aux_lemma =>
                go_wp2
                go_roundw
                case rel => exact ⟨j + 1, by omega, by go_num, HJB.out, fun i hi => by rcases Nat.lt_succ_iff_lt_or_eq.1 hi with h | h; exact HJZ.out i h; exact h ▸ HC0.out⟩
                case measure => simp [intOf]; omega
        · obtain rfl : j = c.t.n := by omega
          have HB2 := Aside0.mk HJB.out
          have U1 := Aside0.mk (up_next U0.out (⟨⟨#[116, 97, 115, 107]⟩, ⟨#[116, 97, 115, 107, 115]⟩, (c.t.n : Int), 1, 16, fun i => taskC (c.pri i)⟩ : PS) rfl (show (1 : Int) ≤ (c.t.n : Int) by have := HL0.out; omega) (show (c.t.n : Int) ≤ 16 by have := HN0.out; omega) (fun i hi => HJZ.out i (by have hi : (i : Int) < (c.t.n : Int) := hi; omega)))
          have hge := HN0.out
          clear HJB HJZ
          have g1 : World.cell? _ ⟨W.heap.size, 2, none⟩ = some (.slice c.s.A c.s.n c.s.c) := (HB2.out.cell (p := ⟨W.heap.size, 2, none⟩) (by exact Nat.lt_succ_self _)).trans (HX0.out 2 _ rfl)
          by_cases hn1 : 8 < c.s.n
          · as_aux_lemma =>
              go_wp2
              go_ret3
              exact ⟨⟨_, _, _, rfl, by unfold Ans; rw [if_pos HT.out]; exact up_num U1.out (⟨⟨#[115, 101, 109]⟩, ⟨#[115, 101, 109]⟩, (c.s.n : Int), 0, 8, fun i => semC (c.cnt i) (c.mst i)⟩ : PS) rfl (.inr (show (8 : Int) < (c.s.n : Int) by omega))⟩, below_up HB0.out HB2.out (Nat.le_succ _)⟩
          · have HN1 := Aside0.mk (show c.s.n ≤ 8 by omega)
            go_wp2
            clear g1
            go_loopw [8, 9, 10] (fun i _ _ w' => ∃ j : Nat, j ≤ c.s.n ∧ i = .int .i64 j ∧ Aside0 (Below (W.heap.size + 1) (W.alloc (.cells c.vals 72)) w' ∧ ∀ i, i < j → semC (c.cnt i) (c.mst i) = 0)) (fun i _ _ _ => c.s.n - (intOf i).toNat)
            case atStart => exact ⟨0, Nat.zero_le _, rfl, HB2.out, fun i hi => by omega⟩
            case round =>
              obtain ⟨j, hj, rfl, HBJ⟩ := hrel
              have HJB := Aside0.mk HBJ.out.1
              have HJZ := Aside0.mk HBJ.out.2
              clear HBJ
              have HC := Aside0.mk (below_up HB0.out HJB.out (Nat.le_succ _))
              have gb : World.cell? _ ⟨W.heap.size, 2, none⟩ = some (.slice c.s.A c.s.n c.s.c) := (HJB.out.cell (p := ⟨W.heap.size, 2, none⟩) (by exact Nat.lt_succ_self _)).trans (HX0.out 2 _ rfl)
              by_cases hlt : j < c.s.n
              · obtain ⟨B, O, hA, hc⟩ := HF.out.s (by omega)
                have p0 : W.cell? ⟨B, O + j * 3, none⟩ = some (.bool (c.sb j)) := hc j hlt 0 _ rfl
                have p1 : W.cell? ⟨B, O + j * 3 + 1, none⟩ = some (.int .i64 (c.cnt j)) := hc j hlt 1 _ rfl
                have p2 : W.cell? ⟨B, O + j * 3 + 2, none⟩ = some (.int .i64 (c.mst j)) := hc j hlt 2 _ rfl
                have hBl := World.block_lt_of_cell? _ _ p0
                have y0 := (HC.out.cell (p := ⟨B, O + j * 3, none⟩) hBl).trans p0
                have y1 := (HC.out.cell (p := ⟨B, O + j * 3 + 1, none⟩) hBl).trans p1
                have y2 := (HC.out.cell (p := ⟨B, O + j * 3 + 2, none⟩) hBl).trans p2
                have hj16 : j ≤ 16 := by have := HN1.out; omega
                clear hc p0 p1 p2
                rw [hA] at gb ⊢
                have HA := Aside0.mk hA; clear hA
                obtain ⟨cj, hcj⟩ : ∃ cj, semC (c.cnt j) (c.mst j) = cj := ⟨_, rfl⟩
                have HCJ := Aside0.mk hcj; clear hcj
                by_cases hc0 : cj = 0
                · have HC0 := Aside0.mk (show semC (c.cnt j) (c.mst j) = 0 by rw [HCJ.out]; exact hc0)
                  subst hc0
                  as_aux_lemma =>
                    go_wp2
                    refine Rgn.wp_region_tail [0, 1, 2, 3, 4, 5, 6, 7, 8, 9, 10, 11] [12] 13 (by kernel_rfl) (by kernel_rfl) ?_
                    simp only [List.map_cons, List.map_nil, List.getD_cons_succ, List.getD_cons_zero, List.drop_succ_cons, List.drop_zero]
                    repeat (go_big_quiet_step (fail))
                    refine wpQuiet_nil ?_
                    intro nq
                    go_wp2_with fail
                    have hcall := (ref_sem false (c.cnt j) (c.mst j) (wr.drewN nq))
                    rw [HCJ.out] at hcall
                    refine hcall.mono ?_
                    clear hcall
                    rintro e w2 ⟨⟨p, rfl⟩, hbe⟩
                    have HB2 := Aside0.mk (below_up (below_drewN HJB.out nq) hbe (by have := HJB.out.size; rw [World.size_alloc] at this; exact this)); clear hbe
                    go_wp2
                    refine Rgn.rest_walk ?_
                    repeat (go_big_quiet_step (fail))
                    refine wpQuiet_nil ?_
                    go_wp2
                    go_roundw
                    case rel => exact ⟨j + 1, by omega, by go_num, HB2.out, fun i hi => by rcases Nat.lt_succ_iff_lt_or_eq.1 hi with h | h; exact HJZ.out i h; exact h ▸ HC0.out⟩
                    case measure => simp [intOf]; omega
                · have HC0 := Aside0.mk (show semC (c.cnt j) (c.mst j) ≠ 0 by rw [HCJ.out]; exact hc0)
                  have b0 : (cj == 0) = false := beq_eq_false_iff_ne.2 hc0
                  have b1 : (cj != 0) = true := bne_iff_ne.2 hc0
                  clear hc0
                  as_aux_lemma =>
                    go_wp2
                    refine Rgn.wp_region_tail [0, 1, 2, 3, 4, 5, 6, 7, 8, 9, 10, 11] [12] 13 (by kernel_rfl) (by kernel_rfl) ?_
                    simp only [List.map_cons, List.map_nil, List.getD_cons_succ, List.getD_cons_zero, List.drop_succ_cons, List.drop_zero]
                    repeat (go_big_quiet_step (fail))
                    refine wpQuiet_nil ?_
                    intro nq
                    go_wp2_with fail
                    have hcall := (ref_sem false (c.cnt j) (c.mst j) (wr.drewN nq))
                    rw [HCJ.out] at hcall
                    refine hcall.mono ?_
                    clear hcall
                    rintro e w2 ⟨⟨p, rfl⟩, hbe⟩
                    have HB2 := Aside0.mk (below_up (below_drewN HJB.out nq) hbe (by have := HJB.out.size; rw [World.size_alloc] at this; exact this)); clear hbe
                    go_wp2
                    refine Rgn.rest_walk ?_
                    repeat (go_big_quiet_step (fail))
                    refine wpQuiet_nil ?_
                    go_wp2
                    go_ret3
                    exact ⟨⟨_, _, _, rfl, by unfold Ans; rw [if_pos HT.out]; have := up_one U1.out (⟨⟨#[115, 101, 109]⟩, ⟨#[115, 101, 109]⟩, (c.s.n : Int), 0, 8, fun i => semC (c.cnt i) (c.mst i)⟩ : PS) rfl (show (0 : Int) ≤ (c.s.n : Int) by omega) (show (c.s.n : Int) ≤ 8 by have := HN1.out; omega) j (show (j : Int) < (c.s.n : Int) by omega) HC0.out HJZ.out; rw [show ((⟨⟨#[115, 101, 109]⟩, ⟨#[115, 101, 109]⟩, (c.s.n : Int), 0, 8, fun i => semC (c.cnt i) (c.mst i)⟩ : PS)).code j = _ from HCJ.out] at this; exact this⟩, below_up HB0.out HB2.out (Nat.le_succ _)⟩
              · obtain rfl : j = c.s.n := by omega
                have HB3 := Aside0.mk HJB.out
                have U2 := Aside0.mk (up_next U1.out (⟨⟨#[115, 101, 109]⟩, ⟨#[115, 101, 109]⟩, (c.s.n : Int), 0, 8, fun i => semC (c.cnt i) (c.mst i)⟩ : PS) rfl (show (0 : Int) ≤ (c.s.n : Int) by omega) (show (c.s.n : Int) ≤ 8 by have := HN1.out; omega) (fun i hi => HJZ.out i (by have hi : (i : Int) < (c.s.n : Int) := hi; omega)))
                have hge := HN1.out
                clear HJB HJZ
                have g2 : World.cell? _ ⟨W.heap.size, 3, none⟩ = some (.slice c.f.A c.f.n c.f.c) := (HB3.out.cell (p := ⟨W.heap.size, 3, none⟩) (by exact Nat.lt_succ_self _)).trans (HX0.out 3 _ rfl)
                by_cases hn1 : 8 < c.f.n
                · as_aux_lemma =>
                    go_wp2
                    go_ret3
                    exact ⟨⟨_, _, _, rfl, by unfold Ans; rw [if_pos HT.out]; exact up_num U2.out (⟨⟨#[102, 108, 97, 103]⟩, ⟨#[102, 108, 97, 103]⟩, (c.f.n : Int), 0, 8, fun i => 0⟩ : PS) rfl (.inr (show (8 : Int) < (c.f.n : Int) by omega))⟩, below_up HB0.out HB3.out (Nat.le_succ _)⟩
                · have HN2 := Aside0.mk (show c.f.n ≤ 8 by omega)
                  have U3 := Aside0.mk (up_next U2.out (⟨⟨#[102, 108, 97, 103]⟩, ⟨#[102, 108, 97, 103]⟩, (c.f.n : Int), 0, 8, fun i => 0⟩ : PS) rfl (show (0 : Int) ≤ (c.f.n : Int) by omega) (show (c.f.n : Int) ≤ 8 by have := HN2.out; omega) (fun i hi => rfl))
                  have g3 : World.cell? _ ⟨W.heap.size, 4, none⟩ = some (.slice c.d.A c.d.n c.d.c) := (HB3.out.cell (p := ⟨W.heap.size, 4, none⟩) (by exact Nat.lt_succ_self _)).trans (HX0.out 4 _ rfl)
                  by_cases hn1 : 8 < c.d.n
                  · as_aux_lemma =>
                      go_wp2
                      go_ret3
                      exact ⟨⟨_, _, _, rfl, by unfold Ans; rw [if_pos HT.out]; exact up_num U3.out (⟨⟨#[100, 97, 116, 97]⟩, ⟨#[100, 97, 116, 97]⟩, (c.d.n : Int), 0, 8, fun i => datC (c.room i)⟩ : PS) rfl (.inr (show (8 : Int) < (c.d.n : Int) by omega))⟩, below_up HB0.out HB3.out (Nat.le_succ _)⟩
                  · have HN3 := Aside0.mk (show c.d.n ≤ 8 by omega)
                    go_wp2
                    clear g2 g3
                    go_loopw [11, 12, 13] (fun i _ _ w' => ∃ j : Nat, j ≤ c.d.n ∧ i = .int .i64 j ∧ Aside0 (Below (W.heap.size + 1) (W.alloc (.cells c.vals 72)) w' ∧ ∀ i, i < j → datC (c.room i) = 0)) (fun i _ _ _ => c.d.n - (intOf i).toNat)
                    case atStart => exact ⟨0, Nat.zero_le _, rfl, HB3.out, fun i hi => by omega⟩
                    case round =>
                      obtain ⟨j, hj, rfl, HBJ⟩ := hrel
                      have HJB := Aside0.mk HBJ.out.1
                      have HJZ := Aside0.mk HBJ.out.2
                      clear HBJ
                      have HC := Aside0.mk (below_up HB0.out HJB.out (Nat.le_succ _))
                      have gb : World.cell? _ ⟨W.heap.size, 4, none⟩ = some (.slice c.d.A c.d.n c.d.c) := (HJB.out.cell (p := ⟨W.heap.size, 4, none⟩) (by exact Nat.lt_succ_self _)).trans (HX0.out 4 _ rfl)
                      by_cases hlt : j < c.d.n
                      · obtain ⟨B, O, hA, hc⟩ := HF.out.d (by omega)
                        have p0 : W.cell? ⟨B, O + j * 2, none⟩ = some (.bool (c.db j)) := hc j hlt 0 _ rfl
                        have p1 : W.cell? ⟨B, O + j * 2 + 1, none⟩ = some (.int .i64 (c.room j)) := hc j hlt 1 _ rfl
                        have hBl := World.block_lt_of_cell? _ _ p0
                        have y0 := (HC.out.cell (p := ⟨B, O + j * 2, none⟩) hBl).trans p0
                        have y1 := (HC.out.cell (p := ⟨B, O + j * 2 + 1, none⟩) hBl).trans p1
                        have hj16 : j ≤ 16 := by have := HN3.out; omega
                        clear hc p0 p1
                        rw [hA] at gb ⊢
                        have HA := Aside0.mk hA; clear hA
                        obtain ⟨cj, hcj⟩ : ∃ cj, datC (c.room j) = cj := ⟨_, rfl⟩
                        have HCJ := Aside0.mk hcj; clear hcj
                        by_cases hc0 : cj = 0
                        · have HC0 := Aside0.mk (show datC (c.room j) = 0 by rw [HCJ.out]; exact hc0)
                          subst hc0
                          as_aux_lemma =>
                            go_wp2_with fail
                            have hcall := (ref_dtq false (c.room j) wr)
                            rw [HCJ.out] at hcall
                            refine hcall.mono ?_
                            clear hcall
                            rintro e w2 ⟨⟨p, rfl⟩, hbe⟩
                            have HB2 := Aside0.mk (below_up HJB.out hbe (by have := HJB.out.size; rw [World.size_alloc] at this; exact this)); clear hbe
                            go_wp2
                            go_roundw
                            case rel => exact ⟨j + 1, by omega, by go_num, HB2.out, fun i hi => by rcases Nat.lt_succ_iff_lt_or_eq.1 hi with h | h; exact HJZ.out i h; exact h ▸ HC0.out⟩
                            case measure => simp [intOf]; omega
                        · have HC0 := Aside0.mk (show datC (c.room j) ≠ 0 by rw [HCJ.out]; exact hc0)
                          have b0 : (cj == 0) = false := beq_eq_false_iff_ne.2 hc0
                          have b1 : (cj != 0) = true := bne_iff_ne.2 hc0
                          clear hc0
                          as_aux_lemma =>
                            go_wp2_with fail
                            have hcall := (ref_dtq false (c.room j) wr)
                            rw [HCJ.out] at hcall
                            refine hcall.mono ?_
                            clear hcall
                            rintro e w2 ⟨⟨p, rfl⟩, hbe⟩
                            have HB2 := Aside0.mk (below_up HJB.out hbe (by have := HJB.out.size; rw [World.size_alloc] at this; exact this)); clear hbe
                            go_wp2
                            go_ret3
                            exact ⟨⟨_, _, _, rfl, by unfold Ans; rw [if_pos HT.out]; have := up_one U3.out (⟨⟨#[100, 97, 116, 97]⟩, ⟨#[100, 97, 116, 97]⟩, (c.d.n : Int), 0, 8, fun i => datC (c.room i)⟩ : PS) rfl (show (0 : Int) ≤ (c.d.n : Int) by omega) (show (c.d.n : Int) ≤ 8 by have := HN3.out; omega) j (show (j : Int) < (c.d.n : Int) by omega) HC0.out HJZ.out; rw [show ((⟨⟨#[100, 97, 116, 97]⟩, ⟨#[100, 97, 116, 97]⟩, (c.d.n : Int), 0, 8, fun i => datC (c.room i)⟩ : PS)).code j = _ from HCJ.out] at this; exact this⟩, below_up HB0.out HB2.out (Nat.le_succ _)⟩
                      · obtain rfl : j = c.d.n := by omega
                        have HB5 := Aside0.mk HJB.out
                        have U4 := Aside0.mk (up_next U3.out (⟨⟨#[100, 97, 116, 97]⟩, ⟨#[100, 97, 116, 97]⟩, (c.d.n : Int), 0, 8, fun i => datC (c.room i)⟩ : PS) rfl (show (0 : Int) ≤ (c.d.n : Int) by omega) (show (c.d.n : Int) ≤ 8 by have := HN3.out; omega) (fun i hi => HJZ.out i (by have hi : (i : Int) < (c.d.n : Int) := hi; omega)))
                        have hge := HN3.out
                        clear HJB HJZ
                        have g4 : World.cell? _ ⟨W.heap.size, 5, none⟩ = some (.slice c.m.A c.m.n c.m.c) := (HB5.out.cell (p := ⟨W.heap.size, 5, none⟩) (by exact Nat.lt_succ_self _)).trans (HX0.out 5 _ rfl)
                        by_cases hn1 : 8 < c.m.n
                        · as_aux_lemma =>
                            go_wp2
                            go_ret3
                            exact ⟨⟨_, _, _, rfl, by unfold Ans; rw [if_pos HT.out]; exact up_num U4.out (⟨⟨#[109, 116, 120]⟩, ⟨#[109, 116, 120]⟩, (c.m.n : Int), 0, 8, fun i => mtxC (c.attr i) (c.ceil i)⟩ : PS) rfl (.inr (show (8 : Int) < (c.m.n : Int) by omega))⟩, below_up HB0.out HB5.out (Nat.le_succ _)⟩
                        · have HN4 := Aside0.mk (show c.m.n ≤ 8 by omega)
                          go_wp2
                          clear g4
                          go_loopw [14, 15, 16] (fun i _ _ w' => ∃ j : Nat, j ≤ c.m.n ∧ i = .int .i64 j ∧ Aside0 (Below (W.heap.size + 1) (W.alloc (.cells c.vals 72)) w' ∧ ∀ i, i < j → mtxC (c.attr i) (c.ceil i) = 0)) (fun i _ _ _ => c.m.n - (intOf i).toNat)
                          case atStart => exact ⟨0, Nat.zero_le _, rfl, HB5.out, fun i hi => by omega⟩
                          case round =>
                            obtain ⟨j, hj, rfl, HBJ⟩ := hrel
                            have HJB := Aside0.mk HBJ.out.1
                            have HJZ := Aside0.mk HBJ.out.2
                            clear HBJ
                            have HC := Aside0.mk (below_up HB0.out HJB.out (Nat.le_succ _))
                            have gb : World.cell? _ ⟨W.heap.size, 5, none⟩ = some (.slice c.m.A c.m.n c.m.c) := (HJB.out.cell (p := ⟨W.heap.size, 5, none⟩) (by exact Nat.lt_succ_self _)).trans (HX0.out 5 _ rfl)
                            by_cases hlt : j < c.m.n
                            · obtain ⟨B, O, hA, hc⟩ := HF.out.m (by omega)
                              have p0 : W.cell? ⟨B, O + j * 2, none⟩ = some (.int .i64 (c.attr j)) := hc j hlt 0 _ rfl
                              have p1 : W.cell? ⟨B, O + j * 2 + 1, none⟩ = some (.int .i64 (c.ceil j)) := hc j hlt 1 _ rfl
                              have hBl := World.block_lt_of_cell? _ _ p0
                              have y0 := (HC.out.cell (p := ⟨B, O + j * 2, none⟩) hBl).trans p0
                              have y1 := (HC.out.cell (p := ⟨B, O + j * 2 + 1, none⟩) hBl).trans p1
                              have hj16 : j ≤ 16 := by have := HN4.out; omega
                              clear hc p0 p1
                              obtain ⟨hmc, hmx⟩ := HLM.out
                              unfold maxLen at hmx
                              rw [hA] at gb ⊢
                              have HA := Aside0.mk hA; clear hA
                              obtain ⟨cj, hcj⟩ : ∃ cj, mtxC (c.attr j) (c.ceil j) = cj := ⟨_, rfl⟩
                              have HCJ := Aside0.mk hcj; clear hcj
                              by_cases hc0 : cj = 0
                              · have HC0 := Aside0.mk (show mtxC (c.attr j) (c.ceil j) = 0 by rw [HCJ.out]; exact hc0)
                                subst hc0
                                as_aux_lemma =>
                                  go_wp2_with fail
                                  have hcall := (ref_mtx (c.attr j) (c.ceil j) wr B (O + j * 2) (c.m.c - j) y0 y1)
                                  rw [HCJ.out] at hcall
                                  refine hcall.mono ?_
                                  clear hcall
                                  rintro e w2 ⟨⟨p, rfl⟩, hbe⟩
                                  have HB2 := Aside0.mk (below_up HJB.out hbe (by have := HJB.out.size; rw [World.size_alloc] at this; exact this)); clear hbe
                                  go_wp2
                                  go_roundw
                                  case rel => exact ⟨j + 1, by omega, by go_num, HB2.out, fun i hi => by rcases Nat.lt_succ_iff_lt_or_eq.1 hi with h | h; exact HJZ.out i h; exact h ▸ HC0.out⟩
                                  case measure => simp [intOf]; omega
                              · have HC0 := Aside0.mk (show mtxC (c.attr j) (c.ceil j) ≠ 0 by rw [HCJ.out]; exact hc0)
                                have b0 : (cj == 0) = false := beq_eq_false_iff_ne.2 hc0
                                have b1 : (cj != 0) = true := bne_iff_ne.2 hc0
                                clear hc0
                                as_aux_lemma =>
                                  go_wp2_with fail
                                  have hcall := (ref_mtx (c.attr j) (c.ceil j) wr B (O + j * 2) (c.m.c - j) y0 y1)
                                  rw [HCJ.out] at hcall
                                  refine hcall.mono ?_
                                  clear hcall
                                  rintro e w2 ⟨⟨p, rfl⟩, hbe⟩
                                  have HB2 := Aside0.mk (below_up HJB.out hbe (by have := HJB.out.size; rw [World.size_alloc] at this; exact this)); clear hbe
                                  go_wp2
                                  go_ret3
                                  exact ⟨⟨_, _, _, rfl, by unfold Ans; rw [if_pos HT.out]; have := up_one U4.out (⟨⟨#[109, 116, 120]⟩, ⟨#[109, 116, 120]⟩, (c.m.n : Int), 0, 8, fun i => mtxC (c.attr i) (c.ceil i)⟩ : PS) rfl (show (0 : Int) ≤ (c.m.n : Int) by omega) (show (c.m.n : Int) ≤ 8 by have := HN4.out; omega) j (show (j : Int) < (c.m.n : Int) by omega) HC0.out HJZ.out; rw [show ((⟨⟨#[109, 116, 120]⟩, ⟨#[109, 116, 120]⟩, (c.m.n : Int), 0, 8, fun i => mtxC (c.attr i) (c.ceil i)⟩ : PS)).code j = _ from HCJ.out] at this; exact this⟩, below_up HB0.out HB2.out (Nat.le_succ _)⟩
                            · obtain rfl : j = c.m.n := by omega
                              have HB6 := Aside0.mk HJB.out
                              have U5 := Aside0.mk (up_next U4.out (⟨⟨#[109, 116, 120]⟩, ⟨#[109, 116, 120]⟩, (c.m.n : Int), 0, 8, fun i => mtxC (c.attr i) (c.ceil i)⟩ : PS) rfl (show (0 : Int) ≤ (c.m.n : Int) by omega) (show (c.m.n : Int) ≤ 8 by have := HN4.out; omega) (fun i hi => HJZ.out i (by have hi : (i : Int) < (c.m.n : Int) := hi; omega)))
                              have hge := HN4.out
                              clear HJB HJZ
                              have g5 : World.cell? _ ⟨W.heap.size, 6, none⟩ = some (.slice c.p.A c.p.n c.p.c) := (HB6.out.cell (p := ⟨W.heap.size, 6, none⟩) (by exact Nat.lt_succ_self _)).trans (HX0.out 6 _ rfl)
                              by_cases hn1 : 8 < c.p.n
                              · as_aux_lemma =>
                                  go_wp2
                                  go_ret3
                                  exact ⟨⟨_, _, _, rfl, by unfold Ans; rw [if_pos HT.out]; exact up_num U5.out (⟨⟨#[112, 111, 111, 108]⟩, ⟨#[112, 111, 111, 108]⟩, (c.p.n : Int), 0, 8, fun i => poolC (atP c.blk c.siz i) (c.blk i) (c.siz i)⟩ : PS) rfl (.inr (show (8 : Int) < (c.p.n : Int) by omega))⟩, below_up HB0.out HB6.out (Nat.le_succ _)⟩
                              · have HN5 := Aside0.mk (show c.p.n ≤ 8 by omega)
                                go_wp2
                                clear g5
                                go_loopw [18, 17, 19, 20] (fun i z _ _ w' => ∃ j : Nat, j ≤ c.p.n ∧ i = .int .i64 j ∧ z = .int .i64 (atP c.blk c.siz j) ∧ Aside0 ((Below (W.heap.size + 1) (W.alloc (.cells c.vals 72)) w' ∧ ∀ i, i < j → poolC (atP c.blk c.siz i) (c.blk i) (c.siz i) = 0) ∧ 0 ≤ atP c.blk c.siz j ∧ atP c.blk c.siz j ≤ 65536 ∧ atP c.blk c.siz j % 4 = 0)) (fun i _ _ _ _ => c.p.n - (intOf i).toNat)
                                case atStart => exact ⟨0, Nat.zero_le _, rfl, rfl, ⟨⟨HB6.out, fun i hi => by omega⟩, Int.le_refl _, by show (0 : Int) ≤ 65536; decide, rfl⟩⟩
                                case round =>
                                  obtain ⟨j, hj, rfl, rfl, HBJ⟩ := hrel
                                  have HJB := Aside0.mk HBJ.out.1.1
                                  have HJZ := Aside0.mk HBJ.out.1.2
                                  have HJA := Aside0.mk HBJ.out.2
                                  clear HBJ
                                  have HC := Aside0.mk (below_up HB0.out HJB.out (Nat.le_succ _))
                                  have gb : World.cell? _ ⟨W.heap.size, 6, none⟩ = some (.slice c.p.A c.p.n c.p.c) := (HJB.out.cell (p := ⟨W.heap.size, 6, none⟩) (by exact Nat.lt_succ_self _)).trans (HX0.out 6 _ rfl)
                                  by_cases hlt : j < c.p.n
                                  · obtain ⟨B, O, hA, hc⟩ := HF.out.p (by omega)
                                    have p0 : W.cell? ⟨B, O + j * 3, none⟩ = some (.bool (c.pb j)) := hc j hlt 0 _ rfl
                                    have p1 : W.cell? ⟨B, O + j * 3 + 1, none⟩ = some (.int .i64 (c.blk j)) := hc j hlt 1 _ rfl
                                    have p2 : W.cell? ⟨B, O + j * 3 + 2, none⟩ = some (.int .i64 (c.siz j)) := hc j hlt 2 _ rfl
                                    have hBl := World.block_lt_of_cell? _ _ p0
                                    have y0 := (HC.out.cell (p := ⟨B, O + j * 3, none⟩) hBl).trans p0
                                    have y1 := (HC.out.cell (p := ⟨B, O + j * 3 + 1, none⟩) hBl).trans p1
                                    have y2 := (HC.out.cell (p := ⟨B, O + j * 3 + 2, none⟩) hBl).trans p2
                                    have hj16 : j ≤ 16 := by have := HN5.out; omega
                                    clear hc p0 p1 p2
                                    rw [hA] at gb ⊢
                                    have HA := Aside0.mk hA; clear hA
                                    obtain ⟨a0, a1, a2⟩ := HJA.out
                                    by_cases hc0 : poolC (atP c.blk c.siz j) (c.blk j) (c.siz j) = 0
                                    · have HZ1 := Aside0.mk (show ∀ i, i < j + 1 → poolC (atP c.blk c.siz i) (c.blk i) (c.siz i) = 0 from fun i hi => by rcases Nat.lt_succ_iff_lt_or_eq.1 hi with h | h; exact HJZ.out i h; exact h ▸ hc0)
                                      obtain ⟨n0, n1, n2, n3⟩ := nx_good a0 a1 a2 hc0
                                      have HNG := Aside0.mk (show 0 ≤ atP c.blk c.siz (j + 1) ∧ atP c.blk c.siz (j + 1) ≤ 65536 ∧ atP c.blk c.siz (j + 1) % 4 = 0 from ⟨n0, n1, n2⟩)
                                      have HNX := Aside0.mk (show atP c.blk c.siz (j + 1) = atP c.blk c.siz j + c.blk j * al (c.siz j) from n3)
                                      obtain ⟨b1, b2, b3, b4, b5⟩ := poolC_bd hc0
                                      have HP := Aside0.mk (fun w => ref_pool_ok false (atP c.blk c.siz j) (c.blk j) (c.siz j) a0 a1 a2 hc0 w)
                                      have HST := Aside0.mk (fun (w : World) (q : Nat) (hq : w.cell? ⟨q, 3, none⟩ = some (.int .i64 (c.siz j))) => ref_step w q (c.siz j) (by omega) b4 hq)
                                      have ha := al_bd (c.siz j) (by omega)
                                      have hp := mul_bd (a := c.blk j) (b := al (c.siz j)) (m := 256) (n := 4099) (by omega) (by omega) (by omega) (by omega)
                                      clear n0 n1 n2 n3 hc0 HJA
                                      as_aux_lemma =>
                                        generalize c.blk j = bl at *
                                        generalize c.siz j = sz at *
                                        generalize al sz = z at *
                                        generalize atP c.blk c.siz j = at_ at *
                                        go_wp2
                                        refine Rgn.wp_region_tail [0, 1, 2, 3, 4, 5, 6, 7, 8, 9, 10, 11, 12] [13] 14 (by kernel_rfl) (by kernel_rfl) ?_
                                        simp only [List.map_cons, List.map_nil, List.getD_cons_succ, List.getD_cons_zero, List.drop_succ_cons, List.drop_zero]
                                        repeat (go_big_quiet_step (fail))
                                        refine wpQuiet_nil ?_
                                        intro nq
                                        go_wp2_with fail
                                        refine (HP.out (wr.drewN nq)).mono ?_
                                        rintro e w2 ⟨qb, rfl, e2, e3, hbe⟩
                                        have HB2 := Aside0.mk (below_up (below_drewN HJB.out nq) hbe (by have := HJB.out.size; rw [World.size_alloc] at this; exact this)); clear hbe
                                        go_wp2
                                        refine Rgn.rest_walk ?_
                                        repeat (go_big_quiet_step (fail))
                                        refine wpQuiet_nil ?_
                                        go_wp2
                                        have HSQ := Aside0.mk (fun n => HST.out (w2.drewN n) qb e3)
                                        have r1 : IntKind.i64.wrap (bl * z) = bl * z := IntWalk.i64_in _ (by omega)
                                        have r2 : IntKind.i64.wrap (at_ + bl * z) = at_ + bl * z := IntWalk.i64_in _ (by omega)
                                        refine wp_region_quiet_lit (by kernel_rfl) (by kernel_rfl) ?_
                                        repeat (go_big_quiet_step ((go_at_call 70; exact Calls.quiet_of_same ((HSQ.out _).mono fun e w' ⟨h1, h2⟩ => ⟨h1, h2.symm⟩))))
                                        refine wpQuiet_nil ?_
                                        intro _ hw'
                                        obtain ⟨nq2, hw''⟩ := hw'
                                        subst hw''
                                        clear r1 r2 e2 e3
                                        go_wp2
                                        go_roundw
                                        case rel => exact ⟨j + 1, by omega, by go_num, by rw [HNX.out], ⟨⟨below_drewN HB2.out nq2, HZ1.out⟩, HNG.out⟩⟩
                                        case measure => simp [intOf]; omega
                                    · have HC0 := Aside0.mk (show poolC (atP c.blk c.siz j) (c.blk j) (c.siz j) = -17 from (ref_pool_no false _ _ _ a0 a1 a2 hc0 wr).1)
                                      have HP := Aside0.mk (fun w => (ref_pool_no false _ _ _ a0 a1 a2 hc0 w).2)
                                      clear hc0
                                      as_aux_lemma =>
                                        go_wp2
                                        refine Rgn.wp_region_tail [0, 1, 2, 3, 4, 5, 6, 7, 8, 9, 10, 11, 12] [13] 14 (by kernel_rfl) (by kernel_rfl) ?_
                                        simp only [List.map_cons, List.map_nil, List.getD_cons_succ, List.getD_cons_zero, List.drop_succ_cons, List.drop_zero]
                                        repeat (go_big_quiet_step (fail))
                                        refine wpQuiet_nil ?_
                                        intro nq
                                        go_wp2_with fail
                                        refine (HP.out (wr.drewN nq)).mono ?_
                                        rintro e w2 ⟨⟨p, rfl⟩, hbe⟩
                                        have HB2 := Aside0.mk (below_up (below_drewN HJB.out nq) hbe (by have := HJB.out.size; rw [World.size_alloc] at this; exact this)); clear hbe
                                        go_wp2
                                        refine Rgn.rest_walk ?_
                                        repeat (go_big_quiet_step (fail))
                                        refine wpQuiet_nil ?_
                                        go_wp2
                                        go_ret3
                                        exact ⟨⟨_, _, _, rfl, by unfold Ans; rw [if_pos HT.out]; have := up_one U5.out (⟨⟨#[112, 111, 111, 108]⟩, ⟨#[112, 111, 111, 108]⟩, (c.p.n : Int), 0, 8, fun i => poolC (atP c.blk c.siz i) (c.blk i) (c.siz i)⟩ : PS) rfl (show (0 : Int) ≤ (c.p.n : Int) by omega) (show (c.p.n : Int) ≤ 8 by have := HN5.out; omega) j (show (j : Int) < (c.p.n : Int) by omega) (show poolC (atP c.blk c.siz j) (c.blk j) (c.siz j) ≠ 0 by rw [HC0.out]; decide) HJZ.out; rw [show ((⟨⟨#[112, 111, 111, 108]⟩, ⟨#[112, 111, 111, 108]⟩, (c.p.n : Int), 0, 8, fun i => poolC (atP c.blk c.siz i) (c.blk i) (c.siz i)⟩ : PS)).code j = _ from HC0.out] at this; exact this⟩, below_up HB0.out HB2.out (Nat.le_succ _)⟩
                                  · obtain rfl : j = c.p.n := by omega
                                    have HB7 := Aside0.mk HJB.out
                                    have U6 := Aside0.mk (up_next U5.out (⟨⟨#[112, 111, 111, 108]⟩, ⟨#[112, 111, 111, 108]⟩, (c.p.n : Int), 0, 8, fun i => poolC (atP c.blk c.siz i) (c.blk i) (c.siz i)⟩ : PS) rfl (show (0 : Int) ≤ (c.p.n : Int) by omega) (show (c.p.n : Int) ≤ 8 by have := HN5.out; omega) (fun i hi => HJZ.out i (by have hi : (i : Int) < (c.p.n : Int) := hi; omega)))
                                    have hge := HN5.out
                                    clear HJB HJZ
                                    have g6 : World.cell? _ ⟨W.heap.size, 7, none⟩ = some (.slice c.y.A c.y.n c.y.c) := (HB7.out.cell (p := ⟨W.heap.size, 7, none⟩) (by exact Nat.lt_succ_self _)).trans (HX0.out 7 _ rfl)
                                    by_cases hn1 : 8 < c.y.n
                                    · as_aux_lemma =>
                                        go_wp2
                                        go_ret3
                                        exact ⟨⟨_, _, _, rfl, by unfold Ans; rw [if_pos HT.out]; exact up_num U6.out (⟨⟨#[99, 121, 99]⟩, ⟨#[99, 121, 99]⟩, (c.y.n : Int), 0, 8, fun i => cycC (c.per i) (c.pha i)⟩ : PS) rfl (.inr (show (8 : Int) < (c.y.n : Int) by omega))⟩, below_up HB0.out HB7.out (Nat.le_succ _)⟩
                                    · have HN6 := Aside0.mk (show c.y.n ≤ 8 by omega)
                                      go_wp2_with fail
                                      refine (ref_hands _).mono ?_
                                      rintro e w6 ⟨rfl, hd, hbe, hsz⟩
                                      have HHB := Aside0.mk (below_up HB7.out hbe (by have := HB7.out.size; rw [World.size_alloc] at this; exact this))
                                      have HHD := Aside0.mk (hd w6.heap.size (by omega))
                                      have HGW := Aside0.mk (show W.heap.size + 1 ≤ wr.heap.size + 2 by have := HB7.out.size; rw [World.size_alloc] at this; omega)
                                      clear hd hbe hsz
                                      generalize wr.heap.size + 2 = gh at *
                                      generalize wr.heap.size + 1 = kk at *
                                      go_wp2
                                      clear g6
                                      go_loopw [23, 24, 25] (fun i _ _ w' => ∃ j : Nat, j ≤ c.y.n ∧ i = .int .i64 j ∧ Aside0 ((Fr w6.heap.size (· = gh) w6 w' ∧ RHd w6.heap.size w' gh kk j) ∧ ∀ i, i < j → cycC (c.per i) (c.pha i) = 0)) (fun i _ _ _ => c.y.n - (intOf i).toNat)
                                      case atStart => exact ⟨0, Nat.zero_le _, rfl, ⟨⟨Fr.refl _ _ _, HHD.out⟩, fun i hi => by omega⟩⟩
                                      case round =>
                                        obtain ⟨j, hj, rfl, HBJ⟩ := hrel
                                        have HJF := Aside0.mk HBJ.out.1.1
                                        have HJD := Aside0.mk HBJ.out.1.2
                                        have HJB := Aside0.mk (below_up HHB.out (HBJ.out.1.1.below (C := W.heap.size + 1) (by have := HHB.out.size; rw [World.size_alloc] at this; exact this) (fun i hi e => by have e : i = gh := e; have := HGW.out; omega)) (Nat.le_refl _))
                                        have HJZ := Aside0.mk HBJ.out.2
                                        clear HBJ
                                        have HC := Aside0.mk (below_up HB0.out HJB.out (Nat.le_succ _))
                                        have gb : World.cell? _ ⟨W.heap.size, 7, none⟩ = some (.slice c.y.A c.y.n c.y.c) := (HJB.out.cell (p := ⟨W.heap.size, 7, none⟩) (by exact Nat.lt_succ_self _)).trans (HX0.out 7 _ rfl)
                                        by_cases hlt : j < c.y.n
                                        · obtain ⟨B, O, hA, hc⟩ := HF.out.y (by omega)
                                          have p0 : W.cell? ⟨B, O + j * 4, none⟩ = some (.int .i64 (c.per j)) := hc j hlt 0 _ rfl
                                          have p1 : W.cell? ⟨B, O + j * 4 + 1, none⟩ = some (.int .i64 (c.pha j)) := hc j hlt 1 _ rfl
                                          have p2 : W.cell? ⟨B, O + j * 4 + 2, none⟩ = some (.bool (c.ys j)) := hc j hlt 2 _ rfl
                                          have p3 : W.cell? ⟨B, O + j * 4 + 3, none⟩ = some (.bool (c.yk j)) := hc j hlt 3 _ rfl
                                          have hBl := World.block_lt_of_cell? _ _ p0
                                          have y0 := (HC.out.cell (p := ⟨B, O + j * 4, none⟩) hBl).trans p0
                                          have y1 := (HC.out.cell (p := ⟨B, O + j * 4 + 1, none⟩) hBl).trans p1
                                          have y2 := (HC.out.cell (p := ⟨B, O + j * 4 + 2, none⟩) hBl).trans p2
                                          have y3 := (HC.out.cell (p := ⟨B, O + j * 4 + 3, none⟩) hBl).trans p3
                                          have hj16 : j ≤ 16 := by have := HN6.out; omega
                                          clear hc p0 p1 p2 p3
                                          rw [hA] at gb ⊢
                                          have HA := Aside0.mk hA; clear hA
                                          obtain ⟨cj, hcj⟩ : ∃ cj, cycC (c.per j) (c.pha j) = cj := ⟨_, rfl⟩
                                          have HCJ := Aside0.mk hcj; clear hcj
                                          have HCC := Aside0.mk (fun n => ref_cyc (HJD.out.below (below_drewN (Below.refl wr.heap.size wr) n)) (show j < 8 by have := HN6.out; omega) (show w6.heap.size ≤ (wr.drewN n).heap.size from HJF.out.size) (c.per j) (c.pha j) false false)
                                          rw [HCJ.out] at HCC
                                          by_cases hc0 : cj = 0
                                          · have HC0 := Aside0.mk (show cycC (c.per j) (c.pha j) = 0 by rw [HCJ.out]; exact hc0)
                                            subst hc0
                                            as_aux_lemma =>
                                              go_wp2
                                              refine Rgn.wp_region_tail [0, 1, 2, 3, 4, 5, 6, 7, 8, 9, 10, 11, 12] [13] 14 (by kernel_rfl) (by kernel_rfl) ?_
                                              simp only [List.map_cons, List.map_nil, List.getD_cons_succ, List.getD_cons_zero, List.drop_succ_cons, List.drop_zero]
                                              repeat (go_big_quiet_step (fail))
                                              refine wpQuiet_nil ?_
                                              intro nq
                                              go_wp2_with fail
                                              refine (HCC.out nq).mono ?_
                                              rintro e w2 ⟨⟨p, rfl⟩, hd2, hf2⟩
                                              have HF2 := Aside0.mk (HJF.out.trans ((Fr.of_below (below_drewN (Below.refl wr.heap.size wr) nq) HJF.out.size).trans hf2))
                                              have HD2 := Aside0.mk (hd2 rfl)
                                              clear hd2 hf2
                                              go_wp2
                                              refine Rgn.rest_walk ?_
                                              repeat (go_big_quiet_step (fail))
                                              refine wpQuiet_nil ?_
                                              go_wp2
                                              go_roundw
                                              case rel => exact ⟨j + 1, by omega, by go_num, ⟨⟨HF2.out, HD2.out⟩, fun i hi => by rcases Nat.lt_succ_iff_lt_or_eq.1 hi with h | h; exact HJZ.out i h; exact h ▸ HC0.out⟩⟩
                                              case measure => simp [intOf]; omega
                                          · have HC0 := Aside0.mk (show cycC (c.per j) (c.pha j) ≠ 0 by rw [HCJ.out]; exact hc0)
                                            have b0 : (cj == 0) = false := beq_eq_false_iff_ne.2 hc0
                                            have b1 : (cj != 0) = true := bne_iff_ne.2 hc0
                                            clear hc0
                                            as_aux_lemma =>
                                              go_wp2
                                              refine Rgn.wp_region_tail [0, 1, 2, 3, 4, 5, 6, 7, 8, 9, 10, 11, 12] [13] 14 (by kernel_rfl) (by kernel_rfl) ?_
                                              simp only [List.map_cons, List.map_nil, List.getD_cons_succ, List.getD_cons_zero, List.drop_succ_cons, List.drop_zero]
                                              repeat (go_big_quiet_step (fail))
                                              refine wpQuiet_nil ?_
                                              intro nq
                                              go_wp2_with fail
                                              refine (HCC.out nq).mono ?_
                                              rintro e w2 ⟨⟨p, rfl⟩, hd2, hf2⟩
                                              have HF2 := Aside0.mk (HJF.out.trans ((Fr.of_below (below_drewN (Below.refl wr.heap.size wr) nq) HJF.out.size).trans hf2))
                                              clear hd2 hf2
                                              go_wp2
                                              refine Rgn.rest_walk ?_
                                              repeat (go_big_quiet_step (fail))
                                              refine wpQuiet_nil ?_
                                              go_wp2
                                              go_ret3
                                              have HB2 := Aside0.mk (below_up HHB.out (HF2.out.below (C := W.heap.size + 1) (by have := HHB.out.size; rw [World.size_alloc] at this; exact this) (fun i hi e => by have e : i = gh := e; have := HGW.out; omega)) (Nat.le_refl _))
                                              exact ⟨⟨_, _, _, rfl, by unfold Ans; rw [if_pos HT.out]; have := up_one U6.out (⟨⟨#[99, 121, 99]⟩, ⟨#[99, 121, 99]⟩, (c.y.n : Int), 0, 8, fun i => cycC (c.per i) (c.pha i)⟩ : PS) rfl (show (0 : Int) ≤ (c.y.n : Int) by omega) (show (c.y.n : Int) ≤ 8 by have := HN6.out; omega) j (show (j : Int) < (c.y.n : Int) by omega) HC0.out HJZ.out; rw [show ((⟨⟨#[99, 121, 99]⟩, ⟨#[99, 121, 99]⟩, (c.y.n : Int), 0, 8, fun i => cycC (c.per i) (c.pha i)⟩ : PS)).code j = _ from HCJ.out] at this; exact this⟩, below_up HB0.out HB2.out (Nat.le_succ _)⟩
                                        · obtain rfl : j = c.y.n := by omega
                                          have HB8 := Aside0.mk HJB.out
                                          have U7 := Aside0.mk (up_next U6.out (⟨⟨#[99, 121, 99]⟩, ⟨#[99, 121, 99]⟩, (c.y.n : Int), 0, 8, fun i => cycC (c.per i) (c.pha i)⟩ : PS) rfl (show (0 : Int) ≤ (c.y.n : Int) by omega) (show (c.y.n : Int) ≤ 8 by have := HN6.out; omega) (fun i hi => HJZ.out i (by have hi : (i : Int) < (c.y.n : Int) := hi; omega)))
                                          have hge := HN6.out
                                          clear HJB HJZ
                                          have g7 : World.cell? _ ⟨W.heap.size, 8, none⟩ = some (.int .i64 c.al) := (HB8.out.cell (p := ⟨W.heap.size, 8, none⟩) (by exact Nat.lt_succ_self _)).trans (HX0.out 8 _ rfl)
                                          by_cases hn0 : c.al < 0
                                          · as_aux_lemma =>
                                              go_wp2
                                              go_ret3
                                              exact ⟨⟨_, _, _, rfl, by unfold Ans; rw [if_pos HT.out]; exact up_num U7.out (⟨⟨#[97, 108, 97, 114, 109]⟩, ⟨#[97, 108, 97, 114, 109]⟩, c.al, 0, 8, fun i => 0⟩ : PS) rfl (.inl (show c.al < 0 by omega))⟩, below_up HB0.out HB8.out (Nat.le_succ _)⟩
                                          · skip
                                            by_cases hn1 : 8 < c.al
                                            · as_aux_lemma =>
                                                go_wp2
                                                go_ret3
                                                exact ⟨⟨_, _, _, rfl, by unfold Ans; rw [if_pos HT.out]; exact up_num U7.out (⟨⟨#[97, 108, 97, 114, 109]⟩, ⟨#[97, 108, 97, 114, 109]⟩, c.al, 0, 8, fun i => 0⟩ : PS) rfl (.inr (show (8 : Int) < c.al by omega))⟩, below_up HB0.out HB8.out (Nat.le_succ _)⟩
                                            · have HN7 := Aside0.mk (show c.al ≤ 8 by omega)
                                              have HL7 := Aside0.mk (show 0 ≤ c.al by omega)
                                              as_aux_lemma =>
                                                go_wp2
                                                go_ret3
                                                exact ⟨⟨_, _, _, rfl, by unfold Ans; rw [if_pos HT.out]; exact up_next U7.out (⟨⟨#[97, 108, 97, 114, 109]⟩, ⟨#[97, 108, 97, 114, 109]⟩, c.al, 0, 8, fun i => 0⟩ : PS) rfl HL7.out HN7.out (fun i hi => rfl) _ _ _ .none⟩, below_up HB0.out HB8.out (Nat.le_succ _)⟩
theorem rcheck_calls {c : CF} {W : World} (h : CFin W c) (hlm : c.m.n ≤ c.m.c ∧ c.m.c ≤ maxLen) : Calls Try.prog 34 #[.agg #[.int .i64 c.tic, .slice c.t.A c.t.n c.t.c, .slice c.s.A c.s.n c.s.c, .slice c.f.A c.f.n c.f.c, .slice c.d.A c.d.n c.d.c, .slice c.m.A c.m.n c.m.c, .slice c.p.A c.p.n c.p.c, .slice c.y.A c.y.n c.y.c, .int .i64 c.al]] W (CheckSays c W) := by
  by_cases ht : 1 ≤ c.tic ∧ c.tic ≤ 1000
  · exact rcheck_yes h hlm ht.1 ht.2
  · exact rcheck_no ht
end Go.Proofs.Yteiepbjajennkaa.ConfHand
