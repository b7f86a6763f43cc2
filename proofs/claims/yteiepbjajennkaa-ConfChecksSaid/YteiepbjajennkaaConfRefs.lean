/- The document's clock, handlers, pool steps, as they are made. Conditions: none. -/
import Derived.Test.YteiepbjajennkaaConfKnown
import Derived.Laws.AppendOwnNone
namespace Go.Proofs.Yteiepbjajennkaa.ConfHand
set_option linter.unusedVariables false
set_option linter.unusedSimpArgs false
open Go.RowKit Go.Proofs.YteiepbjajennkaaW.PrintWords Go.Proofs.YteiepbjajennkaaW.PrintMore
theorem ref_clock_no (tic : Int) (h : tic < 1 ∨ 1000 < tic) (W : World) : Calls Try.prog 65 #[.int .i64 tic] W fun e w' => e = .returned (.tuple #[.pointer none, .int .i64 (-17)]) ∧ W = w' := by
  by_cases h0 : tic < 1
  · clear h
    go_enter Try.func65, Try.ntmps65
    go_wp2
    go_ret2
    exact ⟨rfl, rfl⟩
  · have h1 : 1000 < tic := by omega
    clear h
    go_enter Try.func65, Try.ntmps65
    go_wp2
    go_ret2
    exact ⟨rfl, rfl⟩
theorem ref_clock_yes (tic : Int) (h0 : 1 ≤ tic) (h1 : tic ≤ 1000) (W : World) : Calls Try.prog 65 #[.int .i64 tic] W fun e w' => e = .returned (.tuple #[.pointer (some ⟨W.heap.size + 1, 0, none⟩), .int .i64 0]) ∧ w' = (W.alloc (.cells #[.slice none 0 0, .int .i64 0] 204)).alloc (.cells #[.pointer (some ⟨W.heap.size, 0, none⟩), .int .i64 tic, .int .u64 0, .int .u64 0] 206) := by
  go_enter Try.func65, Try.ntmps65
  go_wp2
  go_ret2
  exact ⟨rfl, rfl⟩
/-- The document's handlers at block g, their clock at block k, m cyclic ones; the row of these from block B on. -/
structure RHd (B : Nat) (W : World) (g k m : Nat) : Prop where
  c0 : W.cell? ⟨g, 0, none⟩ = some (.pointer (some ⟨k, 0, none⟩))
  up : W.cell? ⟨k, 2, none⟩ = some (.int .u64 0)
  cy : ∃ v xs, W.cell? ⟨g, 1, none⟩ = some v ∧ W.ownsRow B 224 5 v m xs ∧ ∀ u ∈ xs, u.oneCell' = true
  fr : W.frozen? ⟨g, 1, none⟩ = false
  gB : g < B
  kB : k < B
  gk : g ≠ k
theorem RHd.below {B : Nat} {W w' : World} {g k m : Nat} (h : RHd B W g k m) (b : Below W.heap.size W w') : RHd B w' g k m := by
  have hg := World.block_lt_of_cell? W _ h.c0
  have hk := World.block_lt_of_cell? W _ h.up
  obtain ⟨v, xs, e1, e2, e3⟩ := h.cy
  exact ⟨(b.cell (p := ⟨g, 0, none⟩) hg).trans h.c0, (b.cell (p := ⟨k, 2, none⟩) hk).trans h.up, ⟨v, xs, (b.cell (p := ⟨g, 1, none⟩) hg).trans e1, own_move e2 (fun j hj => b.block j (own_lt e2 j hj)), e3⟩, (World.frozen?_of_block (a := ⟨g, 1, none⟩) (b.block g hg)).trans h.fr, h.gB, h.kB, h.gk⟩
theorem ref_hands (W : World) : Calls Try.prog 71 #[.int .i64 1] W fun e w' => e = .returned (.tuple #[.pointer (some ⟨W.heap.size + 2, 0, none⟩), .int .i64 0]) ∧ (∀ C, W.heap.size + 3 ≤ C → RHd C w' (W.heap.size + 2) (W.heap.size + 1) 0) ∧ Below W.heap.size W w' ∧ w'.heap.size = W.heap.size + 3 := by
  go_enter Try.func71, Try.ntmps71
  go_wp2_with fail
  refine (ref_clock_yes 1 (by decide) (by decide) W).mono ?_
  rintro e w' ⟨rfl, rfl⟩
  go_wp2
  go_ret2
  refine ⟨rfl, fun C hC => ⟨?_, ?_, ⟨.slice none 0 0, [], ?_, own_nil _ _ _ _, fun u hu => absurd hu (by simp)⟩, ?_, by omega, by omega, by omega⟩, below_alloc (below_alloc (below_alloc (Below.refl _ _) _) _) _, by simp⟩
  · rw [World.cell?_alloc_at _ _ _ _ (by simp)]; rfl
  · rw [World.cell?_alloc_past _ _ _ (by simp), World.cell?_alloc_at _ _ _ _ (by simp)]; rfl
  · rw [World.cell?_alloc_at _ _ _ _ (by simp)]; rfl
  · rw [World.frozen?_alloc_at _ _ _ _ (by simp)]
theorem ref_step (W : World) (q : Nat) (siz : Int) (h0 : 0 ≤ siz) (h1 : siz ≤ 4096) (hc : W.cell? ⟨q, 3, none⟩ = some (.int .i64 siz)) : Calls Try.prog 70 #[.pointer (some ⟨q, 0, none⟩)] W fun e w' => e = .returned (.int .i64 (al siz)) ∧ W = w' := by
  go_enter Try.func70, Try.ntmps70
  go_wp2_with fail
  refine (ref_align siz h0 (by omega) W).mono ?_
  rintro e w' ⟨rfl, rfl⟩
  go_wp2
  go_ret
  exact ⟨rfl, rfl⟩
theorem info224 : (Try.prog.info? 224).map (fun i => (i.zero, i.size, i.bytes)) = some (some (.agg #[.int .u64 0, .int .u64 0, .bool false, .bool false, .int .u64 0]), 5, 32) := by kernel_rfl
def RCycSays (B g k m : Nat) (c : Int) (W : World) (e : Ending) (w' : World) : Prop := (∃ n, e = .returned (.tuple #[.int .i64 n, .int .i64 c])) ∧ (c = 0 → RHd B w' g k (m + 1)) ∧ Fr B (· = g) W w'
theorem rcyc_no {B g k m : Nat} {W : World} (per pha : Int) (s q : Bool) (hb : per < 1 ∨ 2147483647 < per ∨ pha < 0 ∨ 2147483647 < pha) :
    Calls Try.prog 72 #[.pointer (some ⟨g, 0, none⟩), .int .i64 per, .int .i64 pha, .bool s, .bool q] W (RCycSays B g k m (-17) W) := by
  by_cases h0 : per < 1
  · clear hb
    go_enter Try.func72, Try.ntmps72
    go_wp2
    go_ret2
    exact ⟨⟨_, rfl⟩, fun h => absurd h (by decide), Fr.refl _ _ _⟩
  · by_cases h1 : 2147483647 < per
    · clear hb
      go_enter Try.func72, Try.ntmps72
      go_wp2
      go_ret2
      exact ⟨⟨_, rfl⟩, fun h => absurd h (by decide), Fr.refl _ _ _⟩
    · by_cases h2 : pha < 0
      · clear hb
        go_enter Try.func72, Try.ntmps72
        go_wp2
        go_ret2
        exact ⟨⟨_, rfl⟩, fun h => absurd h (by decide), Fr.refl _ _ _⟩
      · have h3 : 2147483647 < pha := by omega
        clear hb
        go_enter Try.func72, Try.ntmps72
        go_wp2
        go_ret2
        exact ⟨⟨_, rfl⟩, fun h => absurd h (by decide), Fr.refl _ _ _⟩
theorem rec_one (a b d : Int) (s q : Bool) : ∀ u ∈ [Value.int .u64 a, .int .u64 b, .bool s, .bool q, .int .u64 d], u.oneCell' = true := fun u hu => by simp at hu; rcases hu with rfl | rfl | rfl | rfl | rfl <;> rfl
theorem own_weaken {W : World} {B C e s n : Nat} {v : Value} {xs : List Value} (hBC : B ≤ C) (h : W.ownsRow C e s v n xs) : W.ownsRow B e s v n xs := by
  refine ⟨h.1, ?_⟩
  rcases h.2 with q | ⟨g, cap, cur, e1, e2, e3⟩
  · exact .inl q
  · exact .inr ⟨g, cap, cur, e1, Nat.le_trans hBC e2, e3⟩
/-- What was to be shown of the handlers, once the row has grown. -/
theorem rhd_end {B g k m : Nat} {W w2 w3 : World} (HL : RHd B W g k m) (hBW : B ≤ W.heap.size) (hb : Below W.heap.size W w2) {row : Option Nat} (hrow : ∀ j, row = some j → B ≤ j) (hg : w2.grownBy w3 row) (hr2 : ∀ j, row = some j → W.heap.size ≤ j) {v : Value} {ys : List Value} (hown : w3.ownsRow B 224 5 v (m + 1) ys) (hone : ∀ u ∈ ys, u.oneCell' = true) {vo : Value} (d : w3.cell? ⟨g, 1, none⟩ = some vo) (n : Int) :
    RCycSays B g k m 0 W (.returned (.tuple #[.int .i64 n, .int .i64 0])) (w3.setCell ⟨g, 1, none⟩ v) := by
  have lg : g < W.heap.size := World.block_lt_of_cell? W _ HL.c0
  have lk : k < W.heap.size := World.block_lt_of_cell? W _ HL.up
  have hb3 : Below W.heap.size W w3 := pw_below_grown hb row hb.size hg hr2
  refine ⟨⟨_, rfl⟩, fun _ => ⟨?_, ?_, ⟨v, ys, World.cell?_setCell_same _ _ _ d, own_setCell hown (fun e => by have := own_base hown g e.symm; have := HL.gB; omega) _, hone⟩, ?_, HL.gB, HL.kB, HL.gk⟩, ?_⟩
  · rw [World.cell?_setCell_other _ _ _ _ (by intro z; injection z with _ z; omega)]
    exact (hb3.cell (p := ⟨g, 0, none⟩) lg).trans HL.c0
  · rw [World.cell?_setCell_other _ _ _ _ (by intro z; injection z with z; exact HL.gk z)]
    exact (hb3.cell (p := ⟨k, 2, none⟩) lk).trans HL.up
  · rw [World.frozen?_setCell]
    exact (World.frozen?_of_block (a := ⟨g, 1, none⟩) (hb3.block g lg)).trans HL.fr
  · exact Fr.set (Fr.of_below hb3 hBW) _ _ (.inl rfl)
set_option maxHeartbeats 2000000 in
set_option maxRecDepth 100000 in
theorem rcyc_yes {B g k m : Nat} {W : World} (h : RHd B W g k m) (hm : m < 8) (hBW : B ≤ W.heap.size) (per pha : Int) (s q : Bool) (p0 : 1 ≤ per) (p1 : per ≤ 2147483647) (q0 : 0 ≤ pha) (q1 : pha ≤ 2147483647) :
    Calls Try.prog 72 #[.pointer (some ⟨g, 0, none⟩), .int .i64 per, .int .i64 pha, .bool s, .bool q] W (RCycSays B g k m 0 W) := by
  obtain ⟨i0, hi, hz0, hz1, hz2⟩ := info_parts info224
  have HI := Aside0.mk (And.intro hi (And.intro hz0 (And.intro hz1 hz2))); clear hi hz0 hz1 hz2
  have c0 := h.c0
  have c2 := h.up
  have HL := Aside0.mk h; clear h
  obtain ⟨v, xs, e1, e2, e3⟩ := HL.out.cy
  have HX := Aside0.mk e3; clear e3
  have lg : g < W.heap.size := World.block_lt_of_cell? W _ HL.out.c0
  have HB0 := below_alloc (Below.refl W.heap.size W) (.cells #[] 224)
  have HO0 := (show (W.alloc (.cells #[] 224)).ownsRow B 224 5 (.slice (some ⟨W.heap.size, 0, none⟩) 0 0) 0 [] from ⟨rfl, .inr ⟨_, 0, _, rfl, hBW, heap_alloc_new _ _, Nat.le_refl _, by decide, rfl, rfl⟩⟩)
  have HS := Aside0.mk hBW
  have hsz : (W.alloc (.cells #[] 224)).heap.size = W.heap.size + 1 := by simp
  have e2' := e2.alloc (.cells #[] 224)
  obtain ⟨W1, hW1⟩ : ∃ W1, W.alloc (.cells #[] 224) = W1 := ⟨_, rfl⟩
  rw [hW1] at HB0 HO0 hsz e2'
  obtain ⟨v0, hv0⟩ : ∃ v0, Value.slice (some ⟨W.heap.size, 0, none⟩) 0 0 = v0 := ⟨_, rfl⟩
  have hvb : v0.ownBlock = some W.heap.size := by rw [← hv0]; rfl
  rw [hv0] at HO0
  have HVB := Aside0.mk hvb; clear hvb
  have HB0 := Aside0.mk HB0
  have HO0 := Aside0.mk HO0
  have ee1 := (HB0.out.cell (p := ⟨g, 1, none⟩) lg).trans e1
  have ee2 := (HB0.out.cell (p := ⟨g, 0, none⟩) lg).trans c0
  rcases e2.2 with ⟨rfl, rfl⟩ | ⟨g2, cap, cur, rfl, f2, f3, f4, f5, f6, f7⟩
  · have HO1 := Aside0.mk (HO0.out.alloc (.cells #[.int .u64 pha, .int .u64 per, .bool s, .bool q, .int .u64 pha] 224))
    have hn1 := cells_new W1 #[.int .u64 pha, .int .u64 per, .bool s, .bool q, .int .u64 pha] 224
    have HN1 := Aside0.mk hn1; clear hn1
    have HB2 := Aside0.mk (below_alloc HB0.out (.cells #[.int .u64 pha, .int .u64 per, .bool s, .bool q, .int .u64 pha] 224))
    have HBS := Aside0.mk (show B ≤ (W1.alloc (.cells #[.int .u64 pha, .int .u64 per, .bool s, .bool q, .int .u64 pha] 224)).heap.size by simp; omega)
    have HF := Aside0.mk ((HB2.out.cell (p := ⟨g, 1, none⟩) lg).trans e1)
    have HF2 := Aside0.mk ((World.frozen?_of_block (a := ⟨g, 1, none⟩) (HB2.out.block g lg)).trans HL.out.fr)
    clear e2 e2' hsz
    go_enter Try.func72, Try.ntmps72
    go_wp2_with (first | (at_builtin; refine wpList_append_own_none rfl _ _ 219 rfl B 224 i0 5 Try.underlying219 HI.out.1 _ _ _ rfl HO0.out rfl ?_) | (at_builtin; refine wpList_append_own _ rfl _ _ 219 rfl B 224 i0 (.agg #[.int .u64 0, .int .u64 0, .bool false, .bool false, .int .u64 0]) 5 32 Try.underlying219 HI.out.1 HI.out.2.1 HI.out.2.2.1 HI.out.2.2.2 rfl (by decide) _ _ _ rfl HO1.out ⟨W1.heap.size, 0, none⟩ 1 1 [.int .u64 pha, .int .u64 per, .bool s, .bool q, .int .u64 pha] rfl rfl HN1.out (rec_one _ _ _ _ _) (by decide) (by decide) HBS.out ?_; intro v2 w3 hown2 hgrow2 _; have HG3 := Aside0.mk hgrow2; have HO3 := Aside0.mk hown2; clear hgrow2; obtain ⟨A2, k2, rfl⟩ := own_slice hown2; clear hown2; have ng : some g ≠ v0.ownBlock := fun e => (by rw [HVB.out] at e; injection e with e; omega); have d2 := HG3.out.cell HF.out ng; have f2 : w3.frozen? ⟨g, 1, none⟩ = false := (HG3.out.frozen_far ⟨g, 1, none⟩ (Nat.lt_of_lt_of_le lg HB2.out.size) ng).trans HF2.out; clear ng))
    go_ret2
    refine rhd_end HL.out HS.out HB2.out (row := v0.ownBlock) (fun j hj => by rw [HVB.out] at hj; injection hj with hj; have := HS.out; omega) HG3.out (fun j hj => by rw [HVB.out] at hj; injection hj with hj; omega) HO3.out (rec_one _ _ _ _ _) d2 _
  · have HN0 := Aside0.mk (show ∀ j u, xs[j]? = some u → W1.cell? ((⟨g2, 0, none⟩ : Addr).add j) = some u from fun j u hu => by
      have := e2'.cells (g := g2) rfl j u hu
      exact this)
    have HL0 := Aside0.mk e2.1
    have HSZ := Aside0.mk hsz
    have hm63 : m + 1 ≤ maxLen := by unfold maxLen; omega
    have HM := Aside0.mk (And.intro (show 0 + m ≤ maxLen by omega) (And.intro (show (0 + m) * 32 ≤ 140737488355328 by omega) (And.intro (show 0 + m + 1 ≤ maxLen by omega) (show (0 + m + 1) * 32 ≤ 140737488355328 by omega))))
    have HB1S := Aside0.mk (show B ≤ W1.heap.size by omega)
    have HE1 := Aside0.mk ee1
    have HF1 := Aside0.mk ((World.frozen?_of_block (a := ⟨g, 1, none⟩) (HB0.out.block g lg)).trans HL.out.fr)
    have HLG := Aside0.mk (show g < W1.heap.size by omega)
    have HNG := Aside0.mk (show some g ≠ v0.ownBlock from fun e => by rw [HVB.out] at e; injection e with e; omega)
    have HO0w := Aside0.mk (show W1.ownsRow W.heap.size 224 5 v0 0 [] from by rw [← hv0, ← hW1]; exact ⟨rfl, .inr ⟨_, 0, _, rfl, Nat.le_refl _, heap_alloc_new _ _, Nat.le_refl _, by decide, rfl, rfl⟩⟩)
    have HSZ' := Aside0.mk (show W.heap.size < W1.heap.size by omega)
    clear e2 e2' hsz hm63
    go_enter Try.func72, Try.ntmps72
    go_wp2_with (first | (at_builtin; refine wpList_append_own _ rfl _ _ 219 rfl W.heap.size 224 i0 (.agg #[.int .u64 0, .int .u64 0, .bool false, .bool false, .int .u64 0]) 5 32 Try.underlying219 HI.out.1 HI.out.2.1 HI.out.2.2.1 HI.out.2.2.2 rfl (by decide) v0 0 [] rfl HO0w.out ⟨g2, 0, none⟩ m cap xs rfl HL0.out HN0.out HX.out HM.out.1 HM.out.2.1 (Nat.le_of_lt HSZ'.out) ?_; intro v1 w2 hown1 hgrow1 _; have HG2 := Aside0.mk hgrow1; have HB2 := Aside0.mk (pw_below_grown HB0.out _ HB0.out.size hgrow1 (fun j hj => (by rw [HVB.out] at hj; injection hj with hj; omega))); have HO1 := Aside0.mk (hown1.alloc (.cells #[.int .u64 pha, .int .u64 per, .bool s, .bool q, .int .u64 pha] 224)); have HB3 := Aside0.mk (below_alloc HB2.out (.cells #[.int .u64 pha, .int .u64 per, .bool s, .bool q, .int .u64 pha] 224)); clear hown1 hgrow1) | (at_builtin; refine wpList_append_own _ rfl _ _ 219 rfl W.heap.size 224 i0 (.agg #[.int .u64 0, .int .u64 0, .bool false, .bool false, .int .u64 0]) 5 32 Try.underlying219 HI.out.1 HI.out.2.1 HI.out.2.2.1 HI.out.2.2.2 rfl (by decide) v1 (0 + m) ([] ++ xs) rfl HO1.out ⟨w2.heap.size, 0, none⟩ 1 1 [.int .u64 pha, .int .u64 per, .bool s, .bool q, .int .u64 pha] rfl rfl (cells_new w2 _ 224) (rec_one _ _ _ _ _) HM.out.2.2.1 HM.out.2.2.2 HB3.out.size ?_; intro v2 w3 hown2 hgrow2 _; have HG3 := Aside0.mk hgrow2; have HO3 := Aside0.mk hown2; clear hgrow2; obtain ⟨A2, k2, rfl⟩ := own_slice hown2; clear hown2; have ng : some g ≠ v1.ownBlock := fun e => (by have := own_base HO1.out g e.symm; omega); have d2 := HG3.out.cell ((HB3.out.cell (p := ⟨g, 1, none⟩) lg).trans e1) ng; have f2 : w3.frozen? ⟨g, 1, none⟩ = false := (HG3.out.frozen_far ⟨g, 1, none⟩ (Nat.lt_of_lt_of_le lg HB3.out.size) ng).trans ((World.frozen?_of_block (a := ⟨g, 1, none⟩) (HB3.out.block g lg)).trans HL.out.fr); clear ng))
    go_ret2
    refine rhd_end HL.out HS.out HB3.out (row := v1.ownBlock) (fun j hj => by have := own_base HO1.out j hj; have := HS.out; omega) HG3.out (fun j hj => own_base HO1.out j hj) (own_weaken HS.out (by have := HO3.out; rw [Nat.zero_add] at this; exact this)) (fun u hu => ?_) d2 _
    rcases List.mem_append.1 hu with hu | hu
    · exact HX.out u (by simpa using hu)
    · exact rec_one _ _ _ _ _ u hu
theorem ref_cyc {B g k m : Nat} {W : World} (h : RHd B W g k m) (hm : m < 8) (hBW : B ≤ W.heap.size) (per pha : Int) (s q : Bool) :
    Calls Try.prog 72 #[.pointer (some ⟨g, 0, none⟩), .int .i64 per, .int .i64 pha, .bool s, .bool q] W (RCycSays B g k m (cycC per pha) W) := by
  unfold cycC
  by_cases hb : per < 1 ∨ 2147483647 < per ∨ pha < 0 ∨ 2147483647 < pha
  · rw [if_pos hb]; exact rcyc_no per pha s q hb
  · rw [if_neg hb]; exact rcyc_yes h hm hBW per pha s q (by omega) (by omega) (by omega) (by omega)
end Go.Proofs.Yteiepbjajennkaa.ConfHand
