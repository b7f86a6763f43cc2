/- A configuration as the document's: the walk of Of. Conditions: none. -/
import Derived.Test.YteiepbjajennkaaConfOf2
import Derived.Deep.RegionHeld3
import Derived.Deep.CutRange
import Derived.Deep.DeepCutAuto
namespace Go.Proofs.Yteiepbjajennkaa.ConfHand
set_option linter.unusedVariables false
set_option linter.unusedSimpArgs false
open Go.RowKit Go.Proofs.YteiepbjajennkaaW.PrintWords Go.Proofs.YteiepbjajennkaaW.PrintMore
/-- Not too many. -/
structure FewSays (c : CF) : Prop where
  t : c.t.n ≤ 30
  s : c.s.n ≤ 20
  f : c.f.n ≤ 20
  d : c.d.n ≤ 20
  m : c.m.n ≤ 1000
  p : c.p.n ≤ 20
  y : c.y.n ≤ 20
/-- The same, in other slices. -/
def CF.with7 (c : CF) (t s f d m p y : SL) : CF := { c with t := t, s := s, f := f, d := d, m := m, p := p, y := y }
structure Lens (c : CF) (t s f d m p y : SL) : Prop where
  t : t.n = c.t.n
  s : s.n = c.s.n
  f : f.n = c.f.n
  d : d.n = c.d.n
  m : m.n = c.m.n
  p : p.n = c.p.n
  y : y.n = c.y.n
def OfSays (c : CF) (W : World) (e : Ending) (w' : World) : Prop := (∃ t s f d m p y, e = .returned (.agg (c.with7 t s f d m p y).vals) ∧ Lens c t s f d m p y ∧ (m.n ≤ m.c ∧ m.c ≤ maxLen) ∧ CFin w' (c.with7 t s f d m p y)) ∧ Below W.heap.size W w'
set_option maxHeartbeats 4000000 in
set_option maxRecDepth 100000 in
theorem of_calls {c : CF} {W : World} (h : CFin W c) (hfew : FewSays c) : Calls Try.prog 35 #[.agg #[.int .i64 c.tic, .slice c.t.A c.t.n c.t.c, .slice c.s.A c.s.n c.s.c, .slice c.f.A c.f.n c.f.c, .slice c.d.A c.d.n c.d.c, .slice c.m.A c.m.n c.m.c, .slice c.p.A c.p.n c.p.c, .slice c.y.A c.y.n c.y.c, .int .i64 c.al]] W (OfSays c W) := by
  have hm := hfew.m
  have HFEW := Aside0.mk hfew; clear hfew
  have HF := Aside0.mk h; clear h
  have HK := Aside0.mk (fun (w : World) (q : Below W.heap.size W w) => kinds_calls (W := w) (cp := c.m.c) c.attr c.ceil (HF.out.m.below q) hm)
  go_enter Try.func35, Try.ntmps35
  go_upto_region 1 with fail
  have HB2 := Aside0.mk (below_alloc (below_alloc (Below.refl W.heap.size W) (.cells c.vals 58)) (.cells #[.int .i64 0, .slice none 0 0, .slice none 0 0, .slice none 0 0, .slice none 0 0, .slice none 0 0, .slice none 0 0, .slice none 0 0, .int .i64 0] 72))
  have HX2 := Aside0.mk (show ∀ j u, c.vals[j]? = some u → ((W.alloc (.cells c.vals 58)).alloc (.cells #[.int .i64 0, .slice none 0 0, .slice none 0 0, .slice none 0 0, .slice none 0 0, .slice none 0 0, .slice none 0 0, .slice none 0 0, .int .i64 0] 72)).cell? ⟨W.heap.size, j, none⟩ = some u from fun j u hu => by
    rw [World.cell?_alloc_past _ _ _ (by simp), World.cell?_alloc_at _ _ _ _ rfl]; exact hu)
  have HS2 := Aside0.mk (show ((W.alloc (.cells c.vals 58)).alloc (.cells #[.int .i64 0, .slice none 0 0, .slice none 0 0, .slice none 0 0, .slice none 0 0, .slice none 0 0, .slice none 0 0, .slice none 0 0, .int .i64 0] 72)).heap.size = W.heap.size + 2 by simp)
  have HZ2 := Aside0.mk (show (∀ j u, #[.int .i64 0, .slice none 0 0, .slice none 0 0, .slice none 0 0, .slice none 0 0, .slice none 0 0, .slice none 0 0, .slice none 0 0, .int .i64 0][j]? = some u → ((W.alloc (.cells c.vals 58)).alloc (.cells #[.int .i64 0, .slice none 0 0, .slice none 0 0, .slice none 0 0, .slice none 0 0, .slice none 0 0, .slice none 0 0, .slice none 0 0, .int .i64 0] 72)).cell? ⟨W.heap.size + 1, j, none⟩ = some u) ∧ ∀ j, ((W.alloc (.cells c.vals 58)).alloc (.cells #[.int .i64 0, .slice none 0 0, .slice none 0 0, .slice none 0 0, .slice none 0 0, .slice none 0 0, .slice none 0 0, .slice none 0 0, .int .i64 0] 72)).frozen? ⟨W.heap.size + 1, j, none⟩ = false from ⟨fun j u hu => by
    rw [World.cell?_alloc_at _ _ _ _ (by simp)]; exact hu, fun j => by rw [World.frozen?_alloc_at _ _ _ _ (by simp)]⟩)
  rw [show c.vals = #[.int .i64 c.tic, .slice c.t.A c.t.n c.t.c, .slice c.s.A c.s.n c.s.c, .slice c.f.A c.f.n c.f.c, .slice c.d.A c.d.n c.d.c, .slice c.m.A c.m.n c.m.c, .slice c.p.A c.p.n c.p.c, .slice c.y.A c.y.n c.y.c, .int .i64 c.al] from rfl] at HB2 HS2 HX2 HZ2
  generalize (W.alloc (.cells #[.int .i64 c.tic, .slice c.t.A c.t.n c.t.c, .slice c.s.A c.s.n c.s.c, .slice c.f.A c.f.n c.f.c, .slice c.d.A c.d.n c.d.c, .slice c.m.A c.m.n c.m.c, .slice c.p.A c.p.n c.p.c, .slice c.y.A c.y.n c.y.c, .int .i64 c.al] 58)).alloc (.cells #[.int .i64 0, .slice none 0 0, .slice none 0 0, .slice none 0 0, .slice none 0 0, .slice none 0 0, .slice none 0 0, .slice none 0 0, .int .i64 0] 72) = W2 at *
  go_cut [3] from 12 to 19 (fun v wx => ∃ xb Am cm, v = .pointer (some ⟨xb, 0, none⟩) ∧ Aside0 (O1 c W2 xb Am cm wx))
  case first =>
    have hne : W.heap.size < W2.heap.size := by have := HS2.out; omega
    have s0 := HX2.out 0 _ rfl
    have s5 := HX2.out 5 _ rfl
    have s8 := HX2.out 8 _ rfl
    go_region_held3 (fun w' => w'.cell? ⟨W.heap.size, 0, none⟩ = some (.int .i64 c.tic) ∧ w'.cell? ⟨W.heap.size, 5, none⟩ = some (.slice c.m.A c.m.n c.m.c) ∧ w'.cell? ⟨W.heap.size, 8, none⟩ = some (.int .i64 c.al)) ((first | go_keep | (refine ⟨?_, ?_, ?_⟩ <;> (repeat rw [World.cell?_setCell_other _ _ _ _ (by intro z; injection z with z; omega)]) <;> assumption))) (first | (go_at_call 73; refine (HK.out _ (by first | exact HB2.out | exact below_drew HB2.out | exact below_alloc (below_drew HB2.out) _)).mono ?_; rintro e w1 ⟨⟨A', cc, rfl, hown⟩, hbe⟩; have HOWN := Aside0.mk hown; have HBE := Aside0.mk hbe; clear hown; have t0 : w1.cell? ⟨W.heap.size, 0, none⟩ = some (.int .i64 c.tic) := (hbe.cell (p := ⟨W.heap.size, 0, none⟩) (by have := HS2.out; simp only [World.size_alloc, World.size_drew]; omega)).trans (by simp [*]); have t5 : w1.cell? ⟨W.heap.size, 5, none⟩ = some (.slice c.m.A c.m.n c.m.c) := (hbe.cell (p := ⟨W.heap.size, 5, none⟩) (by have := HS2.out; simp only [World.size_alloc, World.size_drew]; omega)).trans (by simp [*]); have t8 : w1.cell? ⟨W.heap.size, 8, none⟩ = some (.int .i64 c.al) := (hbe.cell (p := ⟨W.heap.size, 8, none⟩) (by have := HS2.out; simp only [World.size_alloc, World.size_drew]; omega)).trans (by simp [*]); first | (have z0 : w1.cell? ⟨W2.heap.size, 0, none⟩ = some (.int .i64 0) := (hbe.cell (p := ⟨W2.heap.size, 0, none⟩) (by simp)).trans (by simp only [World.cell?_drew]; rw [World.cell?_alloc_at _ _ _ _ rfl]; rfl); have z1 : w1.cell? ⟨W2.heap.size, 1, none⟩ = some (.slice none 0 0) := (hbe.cell (p := ⟨W2.heap.size, 1, none⟩) (by simp)).trans (by simp only [World.cell?_drew]; rw [World.cell?_alloc_at _ _ _ _ rfl]; rfl); have z2 : w1.cell? ⟨W2.heap.size, 2, none⟩ = some (.slice none 0 0) := (hbe.cell (p := ⟨W2.heap.size, 2, none⟩) (by simp)).trans (by simp only [World.cell?_drew]; rw [World.cell?_alloc_at _ _ _ _ rfl]; rfl); have z3 : w1.cell? ⟨W2.heap.size, 3, none⟩ = some (.slice none 0 0) := (hbe.cell (p := ⟨W2.heap.size, 3, none⟩) (by simp)).trans (by simp only [World.cell?_drew]; rw [World.cell?_alloc_at _ _ _ _ rfl]; rfl); have z4 : w1.cell? ⟨W2.heap.size, 4, none⟩ = some (.slice none 0 0) := (hbe.cell (p := ⟨W2.heap.size, 4, none⟩) (by simp)).trans (by simp only [World.cell?_drew]; rw [World.cell?_alloc_at _ _ _ _ rfl]; rfl); have z5 : w1.cell? ⟨W2.heap.size, 5, none⟩ = some (.slice none 0 0) := (hbe.cell (p := ⟨W2.heap.size, 5, none⟩) (by simp)).trans (by simp only [World.cell?_drew]; rw [World.cell?_alloc_at _ _ _ _ rfl]; rfl); have z6 : w1.cell? ⟨W2.heap.size, 6, none⟩ = some (.slice none 0 0) := (hbe.cell (p := ⟨W2.heap.size, 6, none⟩) (by simp)).trans (by simp only [World.cell?_drew]; rw [World.cell?_alloc_at _ _ _ _ rfl]; rfl); have z7 : w1.cell? ⟨W2.heap.size, 7, none⟩ = some (.slice none 0 0) := (hbe.cell (p := ⟨W2.heap.size, 7, none⟩) (by simp)).trans (by simp only [World.cell?_drew]; rw [World.cell?_alloc_at _ _ _ _ rfl]; rfl); have z8 : w1.cell? ⟨W2.heap.size, 8, none⟩ = some (.int .i64 0) := (hbe.cell (p := ⟨W2.heap.size, 8, none⟩) (by simp)).trans (by simp only [World.cell?_drew]; rw [World.cell?_alloc_at _ _ _ _ rfl]; rfl); have y0 : w1.frozen? ⟨W2.heap.size, 0, none⟩ = false := (World.frozen?_of_block (a := ⟨W2.heap.size, 0, none⟩) (hbe.block W2.heap.size (by simp))).trans (by simp only [World.frozen?_drew]; rw [World.frozen?_alloc_at _ _ _ _ rfl]); have y1 : w1.frozen? ⟨W2.heap.size, 1, none⟩ = false := (World.frozen?_of_block (a := ⟨W2.heap.size, 1, none⟩) (hbe.block W2.heap.size (by simp))).trans (by simp only [World.frozen?_drew]; rw [World.frozen?_alloc_at _ _ _ _ rfl]); have y2 : w1.frozen? ⟨W2.heap.size, 2, none⟩ = false := (World.frozen?_of_block (a := ⟨W2.heap.size, 2, none⟩) (hbe.block W2.heap.size (by simp))).trans (by simp only [World.frozen?_drew]; rw [World.frozen?_alloc_at _ _ _ _ rfl]); have y3 : w1.frozen? ⟨W2.heap.size, 3, none⟩ = false := (World.frozen?_of_block (a := ⟨W2.heap.size, 3, none⟩) (hbe.block W2.heap.size (by simp))).trans (by simp only [World.frozen?_drew]; rw [World.frozen?_alloc_at _ _ _ _ rfl]); have y4 : w1.frozen? ⟨W2.heap.size, 4, none⟩ = false := (World.frozen?_of_block (a := ⟨W2.heap.size, 4, none⟩) (hbe.block W2.heap.size (by simp))).trans (by simp only [World.frozen?_drew]; rw [World.frozen?_alloc_at _ _ _ _ rfl]); have y5 : w1.frozen? ⟨W2.heap.size, 5, none⟩ = false := (World.frozen?_of_block (a := ⟨W2.heap.size, 5, none⟩) (hbe.block W2.heap.size (by simp))).trans (by simp only [World.frozen?_drew]; rw [World.frozen?_alloc_at _ _ _ _ rfl]); have y6 : w1.frozen? ⟨W2.heap.size, 6, none⟩ = false := (World.frozen?_of_block (a := ⟨W2.heap.size, 6, none⟩) (hbe.block W2.heap.size (by simp))).trans (by simp only [World.frozen?_drew]; rw [World.frozen?_alloc_at _ _ _ _ rfl]); have y7 : w1.frozen? ⟨W2.heap.size, 7, none⟩ = false := (World.frozen?_of_block (a := ⟨W2.heap.size, 7, none⟩) (hbe.block W2.heap.size (by simp))).trans (by simp only [World.frozen?_drew]; rw [World.frozen?_alloc_at _ _ _ _ rfl]); have y8 : w1.frozen? ⟨W2.heap.size, 8, none⟩ = false := (World.frozen?_of_block (a := ⟨W2.heap.size, 8, none⟩) (hbe.block W2.heap.size (by simp))).trans (by simp only [World.frozen?_drew]; rw [World.frozen?_alloc_at _ _ _ _ rfl])) | skip; clear hbe))
    · go_wp2_with fail
      go_meet
      exact ⟨_, A', cc, rfl, ⟨o1_a HOWN.out HBE.out⟩⟩
    · go_wp2_with fail
      go_meet
      exact ⟨_, A', cc, rfl, ⟨o1_b HOWN.out HBE.out⟩⟩
  case rest =>
    obtain ⟨xb, Am, cm, rfl, HO1⟩ := hcut
    have OX0 := Aside0.mk HO1.out.ox
    have HLM := Aside0.mk HO1.out.lm
    have Rm := Aside0.mk (show RowX W2.heap.size xb wc Am c.m.n 2 fun i => [.int .i64 (c.attr i), .int .i64 (c.ceil i)] from ⟨HO1.out.rm, HO1.out.fm⟩)
    have HCL := Aside0.mk (show W.heap.size < W2.heap.size by have := HS2.out; omega)
    have HCL1 := Aside0.mk (show W.heap.size + 1 < W2.heap.size by have := HS2.out; omega)
    clear HO1 HK HS2 hm
    go_wp2
    obtain ⟨i0, hi, hz0, hz1, hz2⟩ := info_parts info139
    have HI0 := Aside0.mk (And.intro hi (And.intro hz0 (And.intro hz1 hz2))); clear hi hz0 hz1 hz2
    have HXB0 := Aside0.mk OX0.out.xl
    go_loopw [4] (fun i w' => ∃ k : Nat, k ≤ c.t.n ∧ i = .int .i64 k ∧ Aside0 (PX xb wc.heap.size (fun v => #[.int .i64 c.tic, v, .slice none 0 0, .slice none 0 0, .slice none 0 0, .slice Am c.m.n cm, .slice none 0 0, .slice none 0 0, .int .i64 c.al]) 139 2 (fun i => [.int .i64 (c.pri i), .bool (c.act i)]) wc k w')) (fun i _ => c.t.n - (intOf i).toNat)
    case atStart => exact ⟨0, Nat.zero_le _, rfl, ⟨px_start OX0.out rfl⟩⟩
    case round =>
      obtain ⟨k, hk, rfl, HP⟩ := hrel
      have HBW := Aside0.mk (below_up OX0.out.be (HP.out.fr.below (C := W2.heap.size) OX0.out.be.size (fun i hi e => by have := OX0.out.xg; have e : i = xb := e; omega)) (Nat.le_refl _))
      have HBO := Aside0.mk (below_up HB2.out HBW.out HB2.out.size)
      have cb : World.cell? _ ⟨W.heap.size, 1, none⟩ = some (.slice c.t.A c.t.n c.t.c) := (HBW.out.cell (p := ⟨W.heap.size, 1, none⟩) HCL.out).trans (HX2.out 1 _ rfl)
      by_cases hlt : k < c.t.n
      · obtain ⟨v, ho, hbx⟩ := HP.out.own
        obtain ⟨Av, cv, rfl⟩ := own_slice ho
        obtain ⟨Br, Or, hA, hc⟩ := HF.out.t (by omega)
        have p0 : W.cell? ⟨Br, Or + k * 2, none⟩ = some (.int .i64 (c.pri k)) := hc k hlt 0 _ rfl
        have p1 : W.cell? ⟨Br, Or + k * 2 + 1, none⟩ = some (.bool (c.act k)) := hc k hlt 1 _ rfl
        have hBl := World.block_lt_of_cell? _ _ p0
        have y0 := (HBO.out.cell (p := ⟨Br, Or + k * 2, none⟩) hBl).trans p0
        have y1 := (HBO.out.cell (p := ⟨Br, Or + k * 2 + 1, none⟩) hBl).trans p1
        have HFW := Aside0.mk (show k ≤ 30 by have := HFEW.out.t; omega)
        have hk30 := HFW.out
        clear hc p0 p1
        rw [hA] at cb ⊢
        have HA := Aside0.mk hA; clear hA
        have HO := Aside0.mk ho; clear ho
        have HBX := Aside0.mk hbx; clear hbx
        have HSW := Aside0.mk HP.out.fr.size
        have HQ := Aside0.mk (show k + 1 ≤ maxLen ∧ (k + 1) * 16 ≤ 140737488355328 by have := HFW.out; unfold maxLen; omega)
        have c6 := HBX.out 1 (.slice Av k cv) rfl
        have lb := World.block_lt_of_cell? _ _ c6
        go_wp2
        refine Rgn.wp_region_full ⟨[0], [1], [2, 3, 4, 5, 6, 7, 8, 9, 10, 11, 12, 13, 14], [15], [16, 17, 18], 19⟩ (by kernel_rfl) (by kernel_rfl) (by kernel_rfl) (by kernel_rfl) ?_
        simp only [List.map_cons, List.map_nil, List.getD_cons_succ, List.getD_cons_zero, List.drop_succ_cons, List.drop_zero]
        intro W3 B3 hW3 hB3
        have HS3 := Aside0.mk hB3
        subst hW3
        have f0 : ∀ x : Rgn.Old W3 B3, x.now.cell? ⟨xb, 1, none⟩ = some (.slice Av k cv) := fun x => by
          rw [x.be.cell (p := ⟨xb, 1, none⟩) (by rw [HS3.out]; exact lb)]
          exact c6
        clear hB3
        repeat (go_big_quiet_step (fail))
        refine wpQuiet_nil ?_
        repeat (go_big_quiet_step (fail))
        refine wpQuiet_nil ?_
        repeat (go_big_quiet_step (fail))
        refine wpQuiet_nil ?_
        intro nq
        refine Rgn.keep_step ?_
        go_wp2
        refine Rgn.keep_end (Rgn.grown.of (by rw [HS3.out]; exact below_alloc Rgn.below_drawn _)) (Rgn.keep_nil ?_)
        have HBE := Aside0.mk (show Below W3.heap.size W3 ((W3.drewN nq).alloc (.cells #[.int .i64 (c.pri k), .bool (c.act k)] 139)) from below_alloc Rgn.below_drawn _)
        have HO1 := Aside0.mk ((own_drewN HO.out nq).alloc (.cells #[.int .i64 (c.pri k), .bool (c.act k)] 139))
        have HBS := Aside0.mk (Nat.le_trans HSW.out HBE.out.size)
        clear f0 c6 cb y0 y1
        go_wp2_with (at_builtin; refine wpList_append_own _ rfl _ _ 64 rfl wc.heap.size 139 i0 (.agg #[.int .i64 0, .bool false]) 2 16 Try.underlying64 HI0.out.1 HI0.out.2.1 HI0.out.2.2.1 HI0.out.2.2.2 rfl (by decide) _ _ _ rfl HO1.out ⟨W3.heap.size, 0, none⟩ 1 1 [.int .i64 (c.pri k), .bool (c.act k)] rfl rfl (cells_new (W3.drewN nq) _ 139) (fun u hu => by simp at hu; rcases hu with rfl | rfl <;> rfl) HQ.out.1 HQ.out.2 HBS.out ?_; intro v2 w3 hown2 hgrow2 _; have HG3 := Aside0.mk hgrow2; have HO3 := Aside0.mk hown2; clear hgrow2; obtain ⟨A3, c3, rfl⟩ := own_slice hown2; clear hown2; obtain ⟨d6, g6⟩ := px_ready (q := 1) HP.out HBE.out HXB0.out HO.out HBX.out rfl HG3.out)
        refine Rgn.rest_end ?_
        go_wp2
        go_roundw
        case rel => exact ⟨k + 1, by omega, by go_num, ⟨px_push (q := 1) HP.out HBE.out HXB0.out HSW.out HO.out HBX.out (fun _ => rfl) (fun a b j hj => by match j, hj with | 0, _ => rfl | 1, hj => exact absurd rfl hj | 2, _ => rfl | 3, _ => rfl | 4, _ => rfl | 5, _ => rfl | 6, _ => rfl | 7, _ => rfl | 8, _ => rfl | j + 9, _ => rfl) HG3.out HO3.out⟩⟩
        case measure => simp [intOf]; omega
      · obtain rfl : k = c.t.n := by omega
        obtain ⟨v0, ho, hbx⟩ := HP.out.own
        obtain ⟨At, ct, rfl⟩ := own_slice ho
        have OX1 := Aside0.mk (px_ox OX0.out HP.out hbx)
        have Rm := Aside0.mk (Rm.out.fr HP.out.fr)
        have Rt := Aside0.mk (px_row (lo := W2.heap.size) OX0.out.be.size (sz := 2) (f := (fun i => [.int .i64 (c.pri i), .bool (c.act i)])) (fun _ => rfl) (by decide) HXB0.out ho)
        clear ho hbx HP HI0
        go_wp2
        clear cb HBW HBO
        rename World => wq1
        obtain ⟨i1, hi, hz0, hz1, hz2⟩ := info_parts info143
        have HI1 := Aside0.mk (And.intro hi (And.intro hz0 (And.intro hz1 hz2))); clear hi hz0 hz1 hz2
        have HXB1 := Aside0.mk OX1.out.xl
        go_loopw [5] (fun i w' => ∃ k : Nat, k ≤ c.s.n ∧ i = .int .i64 k ∧ Aside0 (PX xb wq1.heap.size (fun v => #[.int .i64 c.tic, .slice At c.t.n ct, v, .slice none 0 0, .slice none 0 0, .slice Am c.m.n cm, .slice none 0 0, .slice none 0 0, .int .i64 c.al]) 143 3 (fun i => [.bool (c.sb i), .int .i64 (c.cnt i), .int .i64 (c.mst i)]) wq1 k w')) (fun i _ => c.s.n - (intOf i).toNat)
        case atStart => exact ⟨0, Nat.zero_le _, rfl, ⟨px_start OX1.out rfl⟩⟩
        case round =>
          obtain ⟨k, hk, rfl, HP⟩ := hrel
          have HBW := Aside0.mk (below_up OX1.out.be (HP.out.fr.below (C := W2.heap.size) OX1.out.be.size (fun i hi e => by have := OX1.out.xg; have e : i = xb := e; omega)) (Nat.le_refl _))
          have HBO := Aside0.mk (below_up HB2.out HBW.out HB2.out.size)
          have cb : World.cell? _ ⟨W.heap.size, 2, none⟩ = some (.slice c.s.A c.s.n c.s.c) := (HBW.out.cell (p := ⟨W.heap.size, 2, none⟩) HCL.out).trans (HX2.out 2 _ rfl)
          by_cases hlt : k < c.s.n
          · obtain ⟨v, ho, hbx⟩ := HP.out.own
            obtain ⟨Av, cv, rfl⟩ := own_slice ho
            obtain ⟨Br, Or, hA, hc⟩ := HF.out.s (by omega)
            have p0 : W.cell? ⟨Br, Or + k * 3, none⟩ = some (.bool (c.sb k)) := hc k hlt 0 _ rfl
            have p1 : W.cell? ⟨Br, Or + k * 3 + 1, none⟩ = some (.int .i64 (c.cnt k)) := hc k hlt 1 _ rfl
            have p2 : W.cell? ⟨Br, Or + k * 3 + 2, none⟩ = some (.int .i64 (c.mst k)) := hc k hlt 2 _ rfl
            have hBl := World.block_lt_of_cell? _ _ p0
            have y0 := (HBO.out.cell (p := ⟨Br, Or + k * 3, none⟩) hBl).trans p0
            have y1 := (HBO.out.cell (p := ⟨Br, Or + k * 3 + 1, none⟩) hBl).trans p1
            have y2 := (HBO.out.cell (p := ⟨Br, Or + k * 3 + 2, none⟩) hBl).trans p2
            have HFW := Aside0.mk (show k ≤ 30 by have := HFEW.out.s; omega)
            have hk30 := HFW.out
            clear hc p0 p1 p2
            rw [hA] at cb ⊢
            have HA := Aside0.mk hA; clear hA
            have HO := Aside0.mk ho; clear ho
            have HBX := Aside0.mk hbx; clear hbx
            have HSW := Aside0.mk HP.out.fr.size
            have HQ := Aside0.mk (show k + 1 ≤ maxLen ∧ (k + 1) * 24 ≤ 140737488355328 by have := HFW.out; unfold maxLen; omega)
            have c6 := HBX.out 2 (.slice Av k cv) rfl
            have lb := World.block_lt_of_cell? _ _ c6
            go_wp2
            refine Rgn.wp_region_full ⟨[0], [1], [2, 3, 4, 5, 6, 7, 8, 9, 10, 11, 12, 13, 14, 15, 16, 17, 18, 19, 20], [21], [22, 23, 24], 25⟩ (by kernel_rfl) (by kernel_rfl) (by kernel_rfl) (by kernel_rfl) ?_
            simp only [List.map_cons, List.map_nil, List.getD_cons_succ, List.getD_cons_zero, List.drop_succ_cons, List.drop_zero]
            intro W3 B3 hW3 hB3
            have HS3 := Aside0.mk hB3
            subst hW3
            have f0 : ∀ x : Rgn.Old W3 B3, x.now.cell? ⟨xb, 2, none⟩ = some (.slice Av k cv) := fun x => by
              rw [x.be.cell (p := ⟨xb, 2, none⟩) (by rw [HS3.out]; exact lb)]
              exact c6
            clear hB3
            repeat (go_big_quiet_step (fail))
            refine wpQuiet_nil ?_
            repeat (go_big_quiet_step (fail))
            refine wpQuiet_nil ?_
            repeat (go_big_quiet_step (fail))
            refine wpQuiet_nil ?_
            intro nq
            refine Rgn.keep_step ?_
            go_wp2
            refine Rgn.keep_end (Rgn.grown.of (by rw [HS3.out]; exact below_alloc Rgn.below_drawn _)) (Rgn.keep_nil ?_)
            have HBE := Aside0.mk (show Below W3.heap.size W3 ((W3.drewN nq).alloc (.cells #[.bool (c.sb k), .int .i64 (c.cnt k), .int .i64 (c.mst k)] 143)) from below_alloc Rgn.below_drawn _)
            have HO1 := Aside0.mk ((own_drewN HO.out nq).alloc (.cells #[.bool (c.sb k), .int .i64 (c.cnt k), .int .i64 (c.mst k)] 143))
            have HBS := Aside0.mk (Nat.le_trans HSW.out HBE.out.size)
            clear f0 c6 cb y0 y1 y2
            go_wp2_with (at_builtin; refine wpList_append_own _ rfl _ _ 65 rfl wq1.heap.size 143 i1 (.agg #[.bool false, .int .i64 0, .int .i64 0]) 3 24 Try.underlying65 HI1.out.1 HI1.out.2.1 HI1.out.2.2.1 HI1.out.2.2.2 rfl (by decide) _ _ _ rfl HO1.out ⟨W3.heap.size, 0, none⟩ 1 1 [.bool (c.sb k), .int .i64 (c.cnt k), .int .i64 (c.mst k)] rfl rfl (cells_new (W3.drewN nq) _ 143) (fun u hu => by simp at hu; rcases hu with rfl | rfl | rfl <;> rfl) HQ.out.1 HQ.out.2 HBS.out ?_; intro v2 w3 hown2 hgrow2 _; have HG3 := Aside0.mk hgrow2; have HO3 := Aside0.mk hown2; clear hgrow2; obtain ⟨A3, c3, rfl⟩ := own_slice hown2; clear hown2; obtain ⟨d6, g6⟩ := px_ready (q := 2) HP.out HBE.out HXB1.out HO.out HBX.out rfl HG3.out)
            refine Rgn.rest_end ?_
            go_wp2
            go_roundw
            case rel => exact ⟨k + 1, by omega, by go_num, ⟨px_push (q := 2) HP.out HBE.out HXB1.out HSW.out HO.out HBX.out (fun _ => rfl) (fun a b j hj => by match j, hj with | 0, _ => rfl | 1, _ => rfl | 2, hj => exact absurd rfl hj | 3, _ => rfl | 4, _ => rfl | 5, _ => rfl | 6, _ => rfl | 7, _ => rfl | 8, _ => rfl | j + 9, _ => rfl) HG3.out HO3.out⟩⟩
            case measure => simp [intOf]; omega
          · obtain rfl : k = c.s.n := by omega
            obtain ⟨v1, ho, hbx⟩ := HP.out.own
            obtain ⟨As, cs, rfl⟩ := own_slice ho
            have OX2 := Aside0.mk (px_ox OX1.out HP.out hbx)
            have Rm := Aside0.mk (Rm.out.fr HP.out.fr)
            have Rt := Aside0.mk (Rt.out.fr HP.out.fr)
            have Rs := Aside0.mk (px_row (lo := W2.heap.size) OX1.out.be.size (sz := 3) (f := (fun i => [.bool (c.sb i), .int .i64 (c.cnt i), .int .i64 (c.mst i)])) (fun _ => rfl) (by decide) HXB1.out ho)
            clear ho hbx HP HI1
            go_wp2
            clear cb HBW HBO
            rename World => wq2
            obtain ⟨i2, hi, hz0, hz1, hz2⟩ := info_parts info165
            have HI2 := Aside0.mk (And.intro hi (And.intro hz0 (And.intro hz1 hz2))); clear hi hz0 hz1 hz2
            have HXB2 := Aside0.mk OX2.out.xl
            go_loopw [6, 7] (fun i _ w' => ∃ k : Nat, k ≤ c.f.n ∧ i = .int .i64 k ∧ Aside0 (PX xb wq2.heap.size (fun v => #[.int .i64 c.tic, .slice At c.t.n ct, .slice As c.s.n cs, v, .slice none 0 0, .slice Am c.m.n cm, .slice none 0 0, .slice none 0 0, .int .i64 c.al]) 165 4 (fun i => [.bool (c.f0 i), .bool (c.f1 i), .bool (c.f2 i), .int .u32 (c.fb i)]) wq2 k w')) (fun i _ _ => c.f.n - (intOf i).toNat)
            case atStart => exact ⟨0, Nat.zero_le _, rfl, ⟨px_start OX2.out rfl⟩⟩
            case round =>
              obtain ⟨k, hk, rfl, HP⟩ := hrel
              have HBW := Aside0.mk (below_up OX2.out.be (HP.out.fr.below (C := W2.heap.size) OX2.out.be.size (fun i hi e => by have := OX2.out.xg; have e : i = xb := e; omega)) (Nat.le_refl _))
              have HBO := Aside0.mk (below_up HB2.out HBW.out HB2.out.size)
              have cb : World.cell? _ ⟨W.heap.size, 3, none⟩ = some (.slice c.f.A c.f.n c.f.c) := (HBW.out.cell (p := ⟨W.heap.size, 3, none⟩) HCL.out).trans (HX2.out 3 _ rfl)
              by_cases hlt : k < c.f.n
              · obtain ⟨v, ho, hbx⟩ := HP.out.own
                obtain ⟨Av, cv, rfl⟩ := own_slice ho
                obtain ⟨Br, Or, hA, hc⟩ := HF.out.f (by omega)
                have p0 : W.cell? ⟨Br, Or + k * 4, none⟩ = some (.bool (c.f0 k)) := hc k hlt 0 _ rfl
                have p1 : W.cell? ⟨Br, Or + k * 4 + 1, none⟩ = some (.bool (c.f1 k)) := hc k hlt 1 _ rfl
                have p2 : W.cell? ⟨Br, Or + k * 4 + 2, none⟩ = some (.bool (c.f2 k)) := hc k hlt 2 _ rfl
                have p3 : W.cell? ⟨Br, Or + k * 4 + 3, none⟩ = some (.int .u32 (c.fb k)) := hc k hlt 3 _ rfl
                have hBl := World.block_lt_of_cell? _ _ p0
                have y0 := (HBO.out.cell (p := ⟨Br, Or + k * 4, none⟩) hBl).trans p0
                have y1 := (HBO.out.cell (p := ⟨Br, Or + k * 4 + 1, none⟩) hBl).trans p1
                have y2 := (HBO.out.cell (p := ⟨Br, Or + k * 4 + 2, none⟩) hBl).trans p2
                have y3 := (HBO.out.cell (p := ⟨Br, Or + k * 4 + 3, none⟩) hBl).trans p3
                have HFW := Aside0.mk (show k ≤ 30 by have := HFEW.out.f; omega)
                have hk30 := HFW.out
                clear hc p0 p1 p2 p3
                rw [hA] at cb ⊢
                have HA := Aside0.mk hA; clear hA
                have HO := Aside0.mk ho; clear ho
                have HBX := Aside0.mk hbx; clear hbx
                have HSW := Aside0.mk HP.out.fr.size
                have HQ := Aside0.mk (show k + 1 ≤ maxLen ∧ (k + 1) * 8 ≤ 140737488355328 by have := HFW.out; unfold maxLen; omega)
                have c6 := HBX.out 3 (.slice Av k cv) rfl
                have lb := World.block_lt_of_cell? _ _ c6
                have HBE := Aside0.mk (show Below wr.heap.size wr ((wr.alloc (.cells #[.bool (c.f0 k), .bool (c.f1 k), .bool (c.f2 k), .int .u32 (c.fb k)] 95)).alloc (.cells #[.bool (c.f0 k), .bool (c.f1 k), .bool (c.f2 k), .int .u32 (c.fb k)] 165)) from below_alloc (below_alloc (Below.refl _ _) _) _)
                have HO1 := Aside0.mk ((HO.out.alloc (.cells #[.bool (c.f0 k), .bool (c.f1 k), .bool (c.f2 k), .int .u32 (c.fb k)] 95)).alloc (.cells #[.bool (c.f0 k), .bool (c.f1 k), .bool (c.f2 k), .int .u32 (c.fb k)] 165))
                have HBS := Aside0.mk (Nat.le_trans HSW.out HBE.out.size)
                have HN1 := Aside0.mk (cells_new (wr.alloc (.cells #[.bool (c.f0 k), .bool (c.f1 k), .bool (c.f2 k), .int .u32 (c.fb k)] 95)) #[.bool (c.f0 k), .bool (c.f1 k), .bool (c.f2 k), .int .u32 (c.fb k)] 165)
                have c7 := (below_alloc (Below.refl wr.heap.size wr) (.cells #[.bool (c.f0 k), .bool (c.f1 k), .bool (c.f2 k), .int .u32 (c.fb k)] 95)).cell (p := ⟨xb, 3, none⟩) lb
                rw [c6] at c7
                go_wp2_with (at_builtin; refine wpList_append_own _ rfl _ _ 66 rfl wq2.heap.size 165 i2 (.agg #[.bool false, .bool false, .bool false, .int .u32 0]) 4 8 Try.underlying66 HI2.out.1 HI2.out.2.1 HI2.out.2.2.1 HI2.out.2.2.2 rfl (by decide) _ _ _ rfl HO1.out ⟨wr.heap.size + 1, 0, none⟩ 1 1 [.bool (c.f0 k), .bool (c.f1 k), .bool (c.f2 k), .int .u32 (c.fb k)] rfl rfl (fun j u hu => by have := HN1.out j u hu; simpa using this) (fun u hu => by simp at hu; rcases hu with rfl | rfl | rfl | rfl <;> rfl) HQ.out.1 HQ.out.2 HBS.out ?_; intro v2 w3 hown2 hgrow2 _; have HG3 := Aside0.mk hgrow2; have HO3 := Aside0.mk hown2; clear hgrow2; obtain ⟨A3, c3, rfl⟩ := own_slice hown2; clear hown2; obtain ⟨d6, g6⟩ := px_ready (q := 3) HP.out HBE.out HXB2.out HO.out HBX.out rfl HG3.out)
                go_wp2
                go_roundw
                case rel => exact ⟨k + 1, by omega, by go_num, ⟨px_push (q := 3) HP.out HBE.out HXB2.out HSW.out HO.out HBX.out (fun _ => rfl) (fun a b j hj => by match j, hj with | 0, _ => rfl | 1, _ => rfl | 2, _ => rfl | 3, hj => exact absurd rfl hj | 4, _ => rfl | 5, _ => rfl | 6, _ => rfl | 7, _ => rfl | 8, _ => rfl | j + 9, _ => rfl) HG3.out HO3.out⟩⟩
                case measure => simp [intOf]; omega
              · obtain rfl : k = c.f.n := by omega
                obtain ⟨v2, ho, hbx⟩ := HP.out.own
                obtain ⟨Af, cf, rfl⟩ := own_slice ho
                have OX3 := Aside0.mk (px_ox OX2.out HP.out hbx)
                have Rm := Aside0.mk (Rm.out.fr HP.out.fr)
                have Rt := Aside0.mk (Rt.out.fr HP.out.fr)
                have Rs := Aside0.mk (Rs.out.fr HP.out.fr)
                have Rf := Aside0.mk (px_row (lo := W2.heap.size) OX2.out.be.size (sz := 4) (f := (fun i => [.bool (c.f0 i), .bool (c.f1 i), .bool (c.f2 i), .int .u32 (c.fb i)])) (fun _ => rfl) (by decide) HXB2.out ho)
                clear ho hbx HP HI2
                go_wp2
                clear cb HBW HBO
                rename World => wq3
                obtain ⟨i3, hi, hz0, hz1, hz2⟩ := info_parts info147
                have HI3 := Aside0.mk (And.intro hi (And.intro hz0 (And.intro hz1 hz2))); clear hi hz0 hz1 hz2
                have HXB3 := Aside0.mk OX3.out.xl
                go_loopw [8] (fun i w' => ∃ k : Nat, k ≤ c.d.n ∧ i = .int .i64 k ∧ Aside0 (PX xb wq3.heap.size (fun v => #[.int .i64 c.tic, .slice At c.t.n ct, .slice As c.s.n cs, .slice Af c.f.n cf, v, .slice Am c.m.n cm, .slice none 0 0, .slice none 0 0, .int .i64 c.al]) 147 2 (fun i => [.bool (c.db i), .int .i64 (c.room i)]) wq3 k w')) (fun i _ => c.d.n - (intOf i).toNat)
                case atStart => exact ⟨0, Nat.zero_le _, rfl, ⟨px_start OX3.out rfl⟩⟩
                case round =>
                  obtain ⟨k, hk, rfl, HP⟩ := hrel
                  have HBW := Aside0.mk (below_up OX3.out.be (HP.out.fr.below (C := W2.heap.size) OX3.out.be.size (fun i hi e => by have := OX3.out.xg; have e : i = xb := e; omega)) (Nat.le_refl _))
                  have HBO := Aside0.mk (below_up HB2.out HBW.out HB2.out.size)
                  have cb : World.cell? _ ⟨W.heap.size, 4, none⟩ = some (.slice c.d.A c.d.n c.d.c) := (HBW.out.cell (p := ⟨W.heap.size, 4, none⟩) HCL.out).trans (HX2.out 4 _ rfl)
                  by_cases hlt : k < c.d.n
                  · obtain ⟨v, ho, hbx⟩ := HP.out.own
                    obtain ⟨Av, cv, rfl⟩ := own_slice ho
                    obtain ⟨Br, Or, hA, hc⟩ := HF.out.d (by omega)
                    have p0 : W.cell? ⟨Br, Or + k * 2, none⟩ = some (.bool (c.db k)) := hc k hlt 0 _ rfl
                    have p1 : W.cell? ⟨Br, Or + k * 2 + 1, none⟩ = some (.int .i64 (c.room k)) := hc k hlt 1 _ rfl
                    have hBl := World.block_lt_of_cell? _ _ p0
                    have y0 := (HBO.out.cell (p := ⟨Br, Or + k * 2, none⟩) hBl).trans p0
                    have y1 := (HBO.out.cell (p := ⟨Br, Or + k * 2 + 1, none⟩) hBl).trans p1
                    have HFW := Aside0.mk (show k ≤ 30 by have := HFEW.out.d; omega)
                    have hk30 := HFW.out
                    clear hc p0 p1
                    rw [hA] at cb ⊢
                    have HA := Aside0.mk hA; clear hA
                    have HO := Aside0.mk ho; clear ho
                    have HBX := Aside0.mk hbx; clear hbx
                    have HSW := Aside0.mk HP.out.fr.size
                    have HQ := Aside0.mk (show k + 1 ≤ maxLen ∧ (k + 1) * 16 ≤ 140737488355328 by have := HFW.out; unfold maxLen; omega)
                    have c6 := HBX.out 4 (.slice Av k cv) rfl
                    have lb := World.block_lt_of_cell? _ _ c6
                    go_wp2
                    refine Rgn.wp_region_full ⟨[0], [1], [2, 3, 4, 5, 6, 7, 8, 9, 10, 11, 12, 13, 14], [15], [16, 17, 18], 19⟩ (by kernel_rfl) (by kernel_rfl) (by kernel_rfl) (by kernel_rfl) ?_
                    simp only [List.map_cons, List.map_nil, List.getD_cons_succ, List.getD_cons_zero, List.drop_succ_cons, List.drop_zero]
                    intro W3 B3 hW3 hB3
                    have HS3 := Aside0.mk hB3
                    subst hW3
                    have f0 : ∀ x : Rgn.Old W3 B3, x.now.cell? ⟨xb, 4, none⟩ = some (.slice Av k cv) := fun x => by
                      rw [x.be.cell (p := ⟨xb, 4, none⟩) (by rw [HS3.out]; exact lb)]
                      exact c6
                    clear hB3
                    repeat (go_big_quiet_step (fail))
                    refine wpQuiet_nil ?_
                    repeat (go_big_quiet_step (fail))
                    refine wpQuiet_nil ?_
                    repeat (go_big_quiet_step (fail))
                    refine wpQuiet_nil ?_
                    intro nq
                    refine Rgn.keep_step ?_
                    go_wp2
                    refine Rgn.keep_end (Rgn.grown.of (by rw [HS3.out]; exact below_alloc Rgn.below_drawn _)) (Rgn.keep_nil ?_)
                    have HBE := Aside0.mk (show Below W3.heap.size W3 ((W3.drewN nq).alloc (.cells #[.bool (c.db k), .int .i64 (c.room k)] 147)) from below_alloc Rgn.below_drawn _)
                    have HO1 := Aside0.mk ((own_drewN HO.out nq).alloc (.cells #[.bool (c.db k), .int .i64 (c.room k)] 147))
                    have HBS := Aside0.mk (Nat.le_trans HSW.out HBE.out.size)
                    clear f0 c6 cb y0 y1
                    go_wp2_with (at_builtin; refine wpList_append_own _ rfl _ _ 67 rfl wq3.heap.size 147 i3 (.agg #[.bool false, .int .i64 0]) 2 16 Try.underlying67 HI3.out.1 HI3.out.2.1 HI3.out.2.2.1 HI3.out.2.2.2 rfl (by decide) _ _ _ rfl HO1.out ⟨W3.heap.size, 0, none⟩ 1 1 [.bool (c.db k), .int .i64 (c.room k)] rfl rfl (cells_new (W3.drewN nq) _ 147) (fun u hu => by simp at hu; rcases hu with rfl | rfl <;> rfl) HQ.out.1 HQ.out.2 HBS.out ?_; intro v2 w3 hown2 hgrow2 _; have HG3 := Aside0.mk hgrow2; have HO3 := Aside0.mk hown2; clear hgrow2; obtain ⟨A3, c3, rfl⟩ := own_slice hown2; clear hown2; obtain ⟨d6, g6⟩ := px_ready (q := 4) HP.out HBE.out HXB3.out HO.out HBX.out rfl HG3.out)
                    refine Rgn.rest_end ?_
                    go_wp2
                    go_roundw
                    case rel => exact ⟨k + 1, by omega, by go_num, ⟨px_push (q := 4) HP.out HBE.out HXB3.out HSW.out HO.out HBX.out (fun _ => rfl) (fun a b j hj => by match j, hj with | 0, _ => rfl | 1, _ => rfl | 2, _ => rfl | 3, _ => rfl | 4, hj => exact absurd rfl hj | 5, _ => rfl | 6, _ => rfl | 7, _ => rfl | 8, _ => rfl | j + 9, _ => rfl) HG3.out HO3.out⟩⟩
                    case measure => simp [intOf]; omega
                  · obtain rfl : k = c.d.n := by omega
                    obtain ⟨v3, ho, hbx⟩ := HP.out.own
                    obtain ⟨Ad, cd, rfl⟩ := own_slice ho
                    have OX4 := Aside0.mk (px_ox OX3.out HP.out hbx)
                    have Rm := Aside0.mk (Rm.out.fr HP.out.fr)
                    have Rt := Aside0.mk (Rt.out.fr HP.out.fr)
                    have Rs := Aside0.mk (Rs.out.fr HP.out.fr)
                    have Rf := Aside0.mk (Rf.out.fr HP.out.fr)
                    have Rd := Aside0.mk (px_row (lo := W2.heap.size) OX3.out.be.size (sz := 2) (f := (fun i => [.bool (c.db i), .int .i64 (c.room i)])) (fun _ => rfl) (by decide) HXB3.out ho)
                    clear ho hbx HP HI3
                    go_wp2
                    clear cb HBW HBO
                    rename World => wq4
                    obtain ⟨i4, hi, hz0, hz1, hz2⟩ := info_parts info154
                    have HI4 := Aside0.mk (And.intro hi (And.intro hz0 (And.intro hz1 hz2))); clear hi hz0 hz1 hz2
                    have HXB4 := Aside0.mk OX4.out.xl
                    go_loopw [9] (fun i w' => ∃ k : Nat, k ≤ c.p.n ∧ i = .int .i64 k ∧ Aside0 (PX xb wq4.heap.size (fun v => #[.int .i64 c.tic, .slice At c.t.n ct, .slice As c.s.n cs, .slice Af c.f.n cf, .slice Ad c.d.n cd, .slice Am c.m.n cm, v, .slice none 0 0, .int .i64 c.al]) 154 3 (fun i => [.bool (c.pb i), .int .i64 (c.blk i), .int .i64 (c.siz i)]) wq4 k w')) (fun i _ => c.p.n - (intOf i).toNat)
                    case atStart => exact ⟨0, Nat.zero_le _, rfl, ⟨px_start OX4.out rfl⟩⟩
                    case round =>
                      obtain ⟨k, hk, rfl, HP⟩ := hrel
                      have HBW := Aside0.mk (below_up OX4.out.be (HP.out.fr.below (C := W2.heap.size) OX4.out.be.size (fun i hi e => by have := OX4.out.xg; have e : i = xb := e; omega)) (Nat.le_refl _))
                      have HBO := Aside0.mk (below_up HB2.out HBW.out HB2.out.size)
                      have cb : World.cell? _ ⟨W.heap.size, 6, none⟩ = some (.slice c.p.A c.p.n c.p.c) := (HBW.out.cell (p := ⟨W.heap.size, 6, none⟩) HCL.out).trans (HX2.out 6 _ rfl)
                      by_cases hlt : k < c.p.n
                      · obtain ⟨v, ho, hbx⟩ := HP.out.own
                        obtain ⟨Av, cv, rfl⟩ := own_slice ho
                        obtain ⟨Br, Or, hA, hc⟩ := HF.out.p (by omega)
                        have p0 : W.cell? ⟨Br, Or + k * 3, none⟩ = some (.bool (c.pb k)) := hc k hlt 0 _ rfl
                        have p1 : W.cell? ⟨Br, Or + k * 3 + 1, none⟩ = some (.int .i64 (c.blk k)) := hc k hlt 1 _ rfl
                        have p2 : W.cell? ⟨Br, Or + k * 3 + 2, none⟩ = some (.int .i64 (c.siz k)) := hc k hlt 2 _ rfl
                        have hBl := World.block_lt_of_cell? _ _ p0
                        have y0 := (HBO.out.cell (p := ⟨Br, Or + k * 3, none⟩) hBl).trans p0
                        have y1 := (HBO.out.cell (p := ⟨Br, Or + k * 3 + 1, none⟩) hBl).trans p1
                        have y2 := (HBO.out.cell (p := ⟨Br, Or + k * 3 + 2, none⟩) hBl).trans p2
                        have HFW := Aside0.mk (show k ≤ 30 by have := HFEW.out.p; omega)
                        have hk30 := HFW.out
                        clear hc p0 p1 p2
                        rw [hA] at cb ⊢
                        have HA := Aside0.mk hA; clear hA
                        have HO := Aside0.mk ho; clear ho
                        have HBX := Aside0.mk hbx; clear hbx
                        have HSW := Aside0.mk HP.out.fr.size
                        have HQ := Aside0.mk (show k + 1 ≤ maxLen ∧ (k + 1) * 24 ≤ 140737488355328 by have := HFW.out; unfold maxLen; omega)
                        have c6 := HBX.out 6 (.slice Av k cv) rfl
                        have lb := World.block_lt_of_cell? _ _ c6
                        go_wp2
                        refine Rgn.wp_region_full ⟨[0], [1], [2, 3, 4, 5, 6, 7, 8, 9, 10, 11, 12, 13, 14, 15, 16, 17, 18, 19, 20], [21], [22, 23, 24], 25⟩ (by kernel_rfl) (by kernel_rfl) (by kernel_rfl) (by kernel_rfl) ?_
                        simp only [List.map_cons, List.map_nil, List.getD_cons_succ, List.getD_cons_zero, List.drop_succ_cons, List.drop_zero]
                        intro W3 B3 hW3 hB3
                        have HS3 := Aside0.mk hB3
                        subst hW3
                        have f0 : ∀ x : Rgn.Old W3 B3, x.now.cell? ⟨xb, 6, none⟩ = some (.slice Av k cv) := fun x => by
                          rw [x.be.cell (p := ⟨xb, 6, none⟩) (by rw [HS3.out]; exact lb)]
                          exact c6
                        clear hB3
                        repeat (go_big_quiet_step (fail))
                        refine wpQuiet_nil ?_
                        repeat (go_big_quiet_step (fail))
                        refine wpQuiet_nil ?_
                        repeat (go_big_quiet_step (fail))
                        refine wpQuiet_nil ?_
                        intro nq
                        refine Rgn.keep_step ?_
                        go_wp2
                        refine Rgn.keep_end (Rgn.grown.of (by rw [HS3.out]; exact below_alloc Rgn.below_drawn _)) (Rgn.keep_nil ?_)
                        have HBE := Aside0.mk (show Below W3.heap.size W3 ((W3.drewN nq).alloc (.cells #[.bool (c.pb k), .int .i64 (c.blk k), .int .i64 (c.siz k)] 154)) from below_alloc Rgn.below_drawn _)
                        have HO1 := Aside0.mk ((own_drewN HO.out nq).alloc (.cells #[.bool (c.pb k), .int .i64 (c.blk k), .int .i64 (c.siz k)] 154))
                        have HBS := Aside0.mk (Nat.le_trans HSW.out HBE.out.size)
                        clear f0 c6 cb y0 y1 y2
                        go_wp2_with (at_builtin; refine wpList_append_own _ rfl _ _ 69 rfl wq4.heap.size 154 i4 (.agg #[.bool false, .int .i64 0, .int .i64 0]) 3 24 Try.underlying69 HI4.out.1 HI4.out.2.1 HI4.out.2.2.1 HI4.out.2.2.2 rfl (by decide) _ _ _ rfl HO1.out ⟨W3.heap.size, 0, none⟩ 1 1 [.bool (c.pb k), .int .i64 (c.blk k), .int .i64 (c.siz k)] rfl rfl (cells_new (W3.drewN nq) _ 154) (fun u hu => by simp at hu; rcases hu with rfl | rfl | rfl <;> rfl) HQ.out.1 HQ.out.2 HBS.out ?_; intro v2 w3 hown2 hgrow2 _; have HG3 := Aside0.mk hgrow2; have HO3 := Aside0.mk hown2; clear hgrow2; obtain ⟨A3, c3, rfl⟩ := own_slice hown2; clear hown2; obtain ⟨d6, g6⟩ := px_ready (q := 6) HP.out HBE.out HXB4.out HO.out HBX.out rfl HG3.out)
                        refine Rgn.rest_end ?_
                        go_wp2
                        go_roundw
                        case rel => exact ⟨k + 1, by omega, by go_num, ⟨px_push (q := 6) HP.out HBE.out HXB4.out HSW.out HO.out HBX.out (fun _ => rfl) (fun a b j hj => by match j, hj with | 0, _ => rfl | 1, _ => rfl | 2, _ => rfl | 3, _ => rfl | 4, _ => rfl | 5, _ => rfl | 6, hj => exact absurd rfl hj | 7, _ => rfl | 8, _ => rfl | j + 9, _ => rfl) HG3.out HO3.out⟩⟩
                        case measure => simp [intOf]; omega
                      · obtain rfl : k = c.p.n := by omega
                        obtain ⟨v4, ho, hbx⟩ := HP.out.own
                        obtain ⟨Ap, cp, rfl⟩ := own_slice ho
                        have OX5 := Aside0.mk (px_ox OX4.out HP.out hbx)
                        have Rm := Aside0.mk (Rm.out.fr HP.out.fr)
                        have Rt := Aside0.mk (Rt.out.fr HP.out.fr)
                        have Rs := Aside0.mk (Rs.out.fr HP.out.fr)
                        have Rf := Aside0.mk (Rf.out.fr HP.out.fr)
                        have Rd := Aside0.mk (Rd.out.fr HP.out.fr)
                        have Rp := Aside0.mk (px_row (lo := W2.heap.size) OX4.out.be.size (sz := 3) (f := (fun i => [.bool (c.pb i), .int .i64 (c.blk i), .int .i64 (c.siz i)])) (fun _ => rfl) (by decide) HXB4.out ho)
                        clear ho hbx HP HI4
                        go_wp2
                        clear cb HBW HBO
                        rename World => wq5
                        obtain ⟨i5, hi, hz0, hz1, hz2⟩ := info_parts info163
                        have HI5 := Aside0.mk (And.intro hi (And.intro hz0 (And.intro hz1 hz2))); clear hi hz0 hz1 hz2
                        have HXB5 := Aside0.mk OX5.out.xl
                        go_loopw [10, 11] (fun i _ w' => ∃ k : Nat, k ≤ c.y.n ∧ i = .int .i64 k ∧ Aside0 (PX xb wq5.heap.size (fun v => #[.int .i64 c.tic, .slice At c.t.n ct, .slice As c.s.n cs, .slice Af c.f.n cf, .slice Ad c.d.n cd, .slice Am c.m.n cm, .slice Ap c.p.n cp, v, .int .i64 c.al]) 163 4 (fun i => [.int .i64 (c.per i), .int .i64 (c.pha i), .bool (c.ys i), .bool (c.yk i)]) wq5 k w')) (fun i _ _ => c.y.n - (intOf i).toNat)
                        case atStart => exact ⟨0, Nat.zero_le _, rfl, ⟨px_start OX5.out rfl⟩⟩
                        case round =>
                          obtain ⟨k, hk, rfl, HP⟩ := hrel
                          have HBW := Aside0.mk (below_up OX5.out.be (HP.out.fr.below (C := W2.heap.size) OX5.out.be.size (fun i hi e => by have := OX5.out.xg; have e : i = xb := e; omega)) (Nat.le_refl _))
                          have HBO := Aside0.mk (below_up HB2.out HBW.out HB2.out.size)
                          have cb : World.cell? _ ⟨W.heap.size, 7, none⟩ = some (.slice c.y.A c.y.n c.y.c) := (HBW.out.cell (p := ⟨W.heap.size, 7, none⟩) HCL.out).trans (HX2.out 7 _ rfl)
                          by_cases hlt : k < c.y.n
                          · obtain ⟨v, ho, hbx⟩ := HP.out.own
                            obtain ⟨Av, cv, rfl⟩ := own_slice ho
                            obtain ⟨Br, Or, hA, hc⟩ := HF.out.y (by omega)
                            have p0 : W.cell? ⟨Br, Or + k * 4, none⟩ = some (.int .i64 (c.per k)) := hc k hlt 0 _ rfl
                            have p1 : W.cell? ⟨Br, Or + k * 4 + 1, none⟩ = some (.int .i64 (c.pha k)) := hc k hlt 1 _ rfl
                            have p2 : W.cell? ⟨Br, Or + k * 4 + 2, none⟩ = some (.bool (c.ys k)) := hc k hlt 2 _ rfl
                            have p3 : W.cell? ⟨Br, Or + k * 4 + 3, none⟩ = some (.bool (c.yk k)) := hc k hlt 3 _ rfl
                            have hBl := World.block_lt_of_cell? _ _ p0
                            have y0 := (HBO.out.cell (p := ⟨Br, Or + k * 4, none⟩) hBl).trans p0
                            have y1 := (HBO.out.cell (p := ⟨Br, Or + k * 4 + 1, none⟩) hBl).trans p1
                            have y2 := (HBO.out.cell (p := ⟨Br, Or + k * 4 + 2, none⟩) hBl).trans p2
                            have y3 := (HBO.out.cell (p := ⟨Br, Or + k * 4 + 3, none⟩) hBl).trans p3
                            have HFW := Aside0.mk (show k ≤ 30 by have := HFEW.out.y; omega)
                            have hk30 := HFW.out
                            clear hc p0 p1 p2 p3
                            rw [hA] at cb ⊢
                            have HA := Aside0.mk hA; clear hA
                            have HO := Aside0.mk ho; clear ho
                            have HBX := Aside0.mk hbx; clear hbx
                            have HSW := Aside0.mk HP.out.fr.size
                            have HQ := Aside0.mk (show k + 1 ≤ maxLen ∧ (k + 1) * 24 ≤ 140737488355328 by have := HFW.out; unfold maxLen; omega)
                            have c6 := HBX.out 7 (.slice Av k cv) rfl
                            have lb := World.block_lt_of_cell? _ _ c6
                            have HBE := Aside0.mk (show Below wr.heap.size wr ((wr.alloc (.cells #[.int .i64 (c.per k), .int .i64 (c.pha k), .bool (c.ys k), .bool (c.yk k)] 91)).alloc (.cells #[.int .i64 (c.per k), .int .i64 (c.pha k), .bool (c.ys k), .bool (c.yk k)] 163)) from below_alloc (below_alloc (Below.refl _ _) _) _)
                            have HO1 := Aside0.mk ((HO.out.alloc (.cells #[.int .i64 (c.per k), .int .i64 (c.pha k), .bool (c.ys k), .bool (c.yk k)] 91)).alloc (.cells #[.int .i64 (c.per k), .int .i64 (c.pha k), .bool (c.ys k), .bool (c.yk k)] 163))
                            have HBS := Aside0.mk (Nat.le_trans HSW.out HBE.out.size)
                            have HN1 := Aside0.mk (cells_new (wr.alloc (.cells #[.int .i64 (c.per k), .int .i64 (c.pha k), .bool (c.ys k), .bool (c.yk k)] 91)) #[.int .i64 (c.per k), .int .i64 (c.pha k), .bool (c.ys k), .bool (c.yk k)] 163)
                            have c7 := (below_alloc (Below.refl wr.heap.size wr) (.cells #[.int .i64 (c.per k), .int .i64 (c.pha k), .bool (c.ys k), .bool (c.yk k)] 91)).cell (p := ⟨xb, 7, none⟩) lb
                            rw [c6] at c7
                            go_wp2_with (at_builtin; refine wpList_append_own _ rfl _ _ 70 rfl wq5.heap.size 163 i5 (.agg #[.int .i64 0, .int .i64 0, .bool false, .bool false]) 4 24 Try.underlying70 HI5.out.1 HI5.out.2.1 HI5.out.2.2.1 HI5.out.2.2.2 rfl (by decide) _ _ _ rfl HO1.out ⟨wr.heap.size + 1, 0, none⟩ 1 1 [.int .i64 (c.per k), .int .i64 (c.pha k), .bool (c.ys k), .bool (c.yk k)] rfl rfl (fun j u hu => by have := HN1.out j u hu; simpa using this) (fun u hu => by simp at hu; rcases hu with rfl | rfl | rfl | rfl <;> rfl) HQ.out.1 HQ.out.2 HBS.out ?_; intro v2 w3 hown2 hgrow2 _; have HG3 := Aside0.mk hgrow2; have HO3 := Aside0.mk hown2; clear hgrow2; obtain ⟨A3, c3, rfl⟩ := own_slice hown2; clear hown2; obtain ⟨d6, g6⟩ := px_ready (q := 7) HP.out HBE.out HXB5.out HO.out HBX.out rfl HG3.out)
                            go_wp2
                            go_roundw
                            case rel => exact ⟨k + 1, by omega, by go_num, ⟨px_push (q := 7) HP.out HBE.out HXB5.out HSW.out HO.out HBX.out (fun _ => rfl) (fun a b j hj => by match j, hj with | 0, _ => rfl | 1, _ => rfl | 2, _ => rfl | 3, _ => rfl | 4, _ => rfl | 5, _ => rfl | 6, _ => rfl | 7, hj => exact absurd rfl hj | 8, _ => rfl | j + 9, _ => rfl) HG3.out HO3.out⟩⟩
                            case measure => simp [intOf]; omega
                          · obtain rfl : k = c.y.n := by omega
                            obtain ⟨v5, ho, hbx⟩ := HP.out.own
                            obtain ⟨Ay, cy, rfl⟩ := own_slice ho
                            have OX6 := Aside0.mk (px_ox OX5.out HP.out hbx)
                            have Rm := Aside0.mk (Rm.out.fr HP.out.fr)
                            have Rt := Aside0.mk (Rt.out.fr HP.out.fr)
                            have Rs := Aside0.mk (Rs.out.fr HP.out.fr)
                            have Rf := Aside0.mk (Rf.out.fr HP.out.fr)
                            have Rd := Aside0.mk (Rd.out.fr HP.out.fr)
                            have Rp := Aside0.mk (Rp.out.fr HP.out.fr)
                            have Ry := Aside0.mk (px_row (lo := W2.heap.size) OX5.out.be.size (sz := 4) (f := (fun i => [.int .i64 (c.per i), .int .i64 (c.pha i), .bool (c.ys i), .bool (c.yk i)])) (fun _ => rfl) (by decide) HXB5.out ho)
                            clear ho hbx HP HI5
                            have HBF := Aside0.mk OX6.out.be
                            have e0 := OX6.out.cell 0 (.int .i64 c.tic) rfl
                            have e1 := OX6.out.cell 1 (.slice At c.t.n ct) rfl
                            have e2 := OX6.out.cell 2 (.slice As c.s.n cs) rfl
                            have e3 := OX6.out.cell 3 (.slice Af c.f.n cf) rfl
                            have e4 := OX6.out.cell 4 (.slice Ad c.d.n cd) rfl
                            have e5 := OX6.out.cell 5 (.slice Am c.m.n cm) rfl
                            have e6 := OX6.out.cell 6 (.slice Ap c.p.n cp) rfl
                            have e7 := OX6.out.cell 7 (.slice Ay c.y.n cy) rfl
                            have e8 := OX6.out.cell 8 (.int .i64 c.al) rfl
                            have z0 := (HBF.out.cell (p := ⟨W.heap.size + 1, 0, none⟩) HCL1.out).trans (HZ2.out.1 0 (.int .i64 0) rfl)
                            have z1 := (HBF.out.cell (p := ⟨W.heap.size + 1, 1, none⟩) HCL1.out).trans (HZ2.out.1 1 (.slice none 0 0) rfl)
                            have z2 := (HBF.out.cell (p := ⟨W.heap.size + 1, 2, none⟩) HCL1.out).trans (HZ2.out.1 2 (.slice none 0 0) rfl)
                            have z3 := (HBF.out.cell (p := ⟨W.heap.size + 1, 3, none⟩) HCL1.out).trans (HZ2.out.1 3 (.slice none 0 0) rfl)
                            have z4 := (HBF.out.cell (p := ⟨W.heap.size + 1, 4, none⟩) HCL1.out).trans (HZ2.out.1 4 (.slice none 0 0) rfl)
                            have z5 := (HBF.out.cell (p := ⟨W.heap.size + 1, 5, none⟩) HCL1.out).trans (HZ2.out.1 5 (.slice none 0 0) rfl)
                            have z6 := (HBF.out.cell (p := ⟨W.heap.size + 1, 6, none⟩) HCL1.out).trans (HZ2.out.1 6 (.slice none 0 0) rfl)
                            have z7 := (HBF.out.cell (p := ⟨W.heap.size + 1, 7, none⟩) HCL1.out).trans (HZ2.out.1 7 (.slice none 0 0) rfl)
                            have z8 := (HBF.out.cell (p := ⟨W.heap.size + 1, 8, none⟩) HCL1.out).trans (HZ2.out.1 8 (.int .i64 0) rfl)
                            have f0 := (World.frozen?_of_block (a := ⟨W.heap.size + 1, 0, none⟩) (HBF.out.block _ HCL1.out)).trans (HZ2.out.2 0)
                            have f1 := (World.frozen?_of_block (a := ⟨W.heap.size + 1, 1, none⟩) (HBF.out.block _ HCL1.out)).trans (HZ2.out.2 1)
                            have f2 := (World.frozen?_of_block (a := ⟨W.heap.size + 1, 2, none⟩) (HBF.out.block _ HCL1.out)).trans (HZ2.out.2 2)
                            have f3 := (World.frozen?_of_block (a := ⟨W.heap.size + 1, 3, none⟩) (HBF.out.block _ HCL1.out)).trans (HZ2.out.2 3)
                            have f4 := (World.frozen?_of_block (a := ⟨W.heap.size + 1, 4, none⟩) (HBF.out.block _ HCL1.out)).trans (HZ2.out.2 4)
                            have f5 := (World.frozen?_of_block (a := ⟨W.heap.size + 1, 5, none⟩) (HBF.out.block _ HCL1.out)).trans (HZ2.out.2 5)
                            have f6 := (World.frozen?_of_block (a := ⟨W.heap.size + 1, 6, none⟩) (HBF.out.block _ HCL1.out)).trans (HZ2.out.2 6)
                            have f7 := (World.frozen?_of_block (a := ⟨W.heap.size + 1, 7, none⟩) (HBF.out.block _ HCL1.out)).trans (HZ2.out.2 7)
                            have f8 := (World.frozen?_of_block (a := ⟨W.heap.size + 1, 8, none⟩) (HBF.out.block _ HCL1.out)).trans (HZ2.out.2 8)
                            go_wp2
                            clear cb HBW HBO
                            rename World => wq6
                            have hn9 : Nine wq6 (W.heap.size + 1) := fun j hj => by
                              rw [HBF.out.cell (p := ⟨W.heap.size + 1, j, none⟩) HCL1.out]
                              exact ⟨_, HZ2.out.1 j _ (Array.getElem?_eq_getElem (show j < 9 from hj))⟩
                            have hs9 := sets9 hn9 (.int .i64 c.tic) (.slice At c.t.n ct) (.slice As c.s.n cs) (.slice Af c.f.n cf) (.slice Ad c.d.n cd) (.slice Am c.m.n cm) (.slice Ap c.p.n cp) (.slice Ay c.y.n cy) (.int .i64 c.al)
                            have hfr : Fr wq6.heap.size (· = W.heap.size + 1) wq6 (World.setCell (World.setCell (World.setCell (World.setCell (World.setCell (World.setCell (World.setCell (World.setCell (World.setCell wq6 ⟨W.heap.size + 1, 0, none⟩ (.int .i64 c.tic)) ⟨W.heap.size + 1, 1, none⟩ (.slice At c.t.n ct)) ⟨W.heap.size + 1, 2, none⟩ (.slice As c.s.n cs)) ⟨W.heap.size + 1, 3, none⟩ (.slice Af c.f.n cf)) ⟨W.heap.size + 1, 4, none⟩ (.slice Ad c.d.n cd)) ⟨W.heap.size + 1, 5, none⟩ (.slice Am c.m.n cm)) ⟨W.heap.size + 1, 6, none⟩ (.slice Ap c.p.n cp)) ⟨W.heap.size + 1, 7, none⟩ (.slice Ay c.y.n cy)) ⟨W.heap.size + 1, 8, none⟩ (.int .i64 c.al)) := by
                              repeat refine Fr.set ?_ _ _ (.inl rfl)
                              exact Fr.refl _ _ _
                            clear e0 z0 f0 e1 z1 f1 e2 z2 f2 e3 z3 f3 e4 z4 f4 e5 z5 f5 e6 z6 f6 e7 z7 f7 e8 z8 f8 hn9
                            generalize (World.setCell (World.setCell (World.setCell (World.setCell (World.setCell (World.setCell (World.setCell (World.setCell (World.setCell wq6 ⟨W.heap.size + 1, 0, none⟩ (.int .i64 c.tic)) ⟨W.heap.size + 1, 1, none⟩ (.slice At c.t.n ct)) ⟨W.heap.size + 1, 2, none⟩ (.slice As c.s.n cs)) ⟨W.heap.size + 1, 3, none⟩ (.slice Af c.f.n cf)) ⟨W.heap.size + 1, 4, none⟩ (.slice Ad c.d.n cd)) ⟨W.heap.size + 1, 5, none⟩ (.slice Am c.m.n cm)) ⟨W.heap.size + 1, 6, none⟩ (.slice Ap c.p.n cp)) ⟨W.heap.size + 1, 7, none⟩ (.slice Ay c.y.n cy)) ⟨W.heap.size + 1, 8, none⟩ (.int .i64 c.al)) = wf at hs9 hfr ⊢
                            have r0 := hs9 0 (.int .i64 c.tic) rfl
                            have r1 := hs9 1 (.slice At c.t.n ct) rfl
                            have r2 := hs9 2 (.slice As c.s.n cs) rfl
                            have r3 := hs9 3 (.slice Af c.f.n cf) rfl
                            have r4 := hs9 4 (.slice Ad c.d.n cd) rfl
                            have r5 := hs9 5 (.slice Am c.m.n cm) rfl
                            have r6 := hs9 6 (.slice Ap c.p.n cp) rfl
                            have r7 := hs9 7 (.slice Ay c.y.n cy) rfl
                            have r8 := hs9 8 (.int .i64 c.al) rfl
                            have hmv : ∀ {A : Option Addr} {n s : Nat} {g : Nat → List Value}, RowX W2.heap.size xb wq6 A n s g → Recs wf A n s g := fun h => h.recs.fr hfr fun ad e hn => ⟨(h.far ad e hn).2.1, by have := (h.far ad e hn).2.2; have := HCL1.out; omega⟩
                            refine bodyPost_ret (v := .agg #[.int .i64 c.tic, .slice At c.t.n ct, .slice As c.s.n cs, .slice Af c.f.n cf, .slice Ad c.d.n cd, .slice Am c.m.n cm, .slice Ap c.p.n cp, .slice Ay c.y.n cy, .int .i64 c.al]) (by simp [results, Try.results35, go_sem, r0, r1, r2, r3, r4, r5, r6, r7, r8]) rfl ⟨⟨⟨At, c.t.n, ct⟩, ⟨As, c.s.n, cs⟩, ⟨Af, c.f.n, cf⟩, ⟨Ad, c.d.n, cd⟩, ⟨Am, c.m.n, cm⟩, ⟨Ap, c.p.n, cp⟩, ⟨Ay, c.y.n, cy⟩, rfl, ⟨rfl, rfl, rfl, rfl, rfl, rfl, rfl⟩, HLM.out, ⟨hmv Rt.out, hmv Rs.out, hmv Rf.out, hmv Rd.out, hmv Rm.out, hmv Rp.out, hmv Ry.out⟩⟩, below_up (below_up HB2.out HBF.out HB2.out.size) (hfr.below (C := W.heap.size) (Nat.le_trans HB2.out.size HBF.out.size) (fun i hi e => by have e : i = W.heap.size + 1 := e; omega)) (Nat.le_refl _)⟩
end Go.Proofs.Yteiepbjajennkaa.ConfHand
