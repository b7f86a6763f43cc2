/- Any configuration, both ways: the walk of ConfChecks. Conditions: none. -/
import Derived.Test.YteiepbjajennkaaConfChecks0
namespace Go.Proofs.Yteiepbjajennkaa.ConfHand
set_option linter.unusedVariables false
set_option linter.unusedSimpArgs false
open Go.RowKit Go.Proofs.YteiepbjajennkaaW.PrintWords Go.Proofs.YteiepbjajennkaaW.PrintMore
set_option maxHeartbeats 2000000 in
set_option maxRecDepth 100000 in
theorem checks_in {c : CF} {W : World} (h : CFin W c) (hl : c.y.n ≤ 9223372036854775807) : Calls Try.prog 9 #[.agg #[.int .i64 c.tic, .slice c.t.A c.t.n c.t.c, .slice c.s.A c.s.n c.s.c, .slice c.f.A c.f.n c.f.c, .slice c.d.A c.d.n c.d.c, .slice c.m.A c.m.n c.m.c, .slice c.p.A c.p.n c.p.c, .slice c.y.A c.y.n c.y.c, .int .i64 c.al]] W fun e w' => e = .returned (.bool true) ∧ Below W.heap.size W w' := by
  have HF := Aside0.mk h; clear h
  have HYL := Aside0.mk hl; clear hl
  have HB0 := Aside0.mk (below_alloc (Below.refl W.heap.size W) (.cells c.vals 58))
  have HX0 := Aside0.mk (show ∀ j u, c.vals[j]? = some u → (W.alloc (.cells c.vals 58)).cell? ⟨W.heap.size, j, none⟩ = some u from fun j u hu => by rw [World.cell?_alloc_at _ _ _ _ rfl]; exact hu)
  go_enter Try.func9, Try.ntmps9
  go_wp2_with fail
  refine (known_calls _).mono ?_
  rintro e w1 ⟨rfl, hbe⟩
  have B1 := Aside0.mk (show Below (W.heap.size + 1) (W.alloc (.cells c.vals 58)) w1 from ⟨hbe.os, hbe.tape, hbe.output, hbe.size, fun i hi => hbe.block i (by rw [World.size_alloc]; exact hi)⟩)
  clear hbe
  have F1 := Aside0.mk (HF.out.below (below_up HB0.out B1.out (Nat.le_succ _)))
  have g0 : World.cell? _ ⟨W.heap.size, 0, none⟩ = some (.int .i64 c.tic) := (B1.out.cell (p := ⟨W.heap.size, 0, none⟩) (by exact Nat.lt_succ_self _)).trans (HX0.out 0 _ rfl)
  have g1 : World.cell? _ ⟨W.heap.size, 1, none⟩ = some (.slice c.t.A c.t.n c.t.c) := (B1.out.cell (p := ⟨W.heap.size, 1, none⟩) (by exact Nat.lt_succ_self _)).trans (HX0.out 1 _ rfl)
  have g2 : World.cell? _ ⟨W.heap.size, 2, none⟩ = some (.slice c.s.A c.s.n c.s.c) := (B1.out.cell (p := ⟨W.heap.size, 2, none⟩) (by exact Nat.lt_succ_self _)).trans (HX0.out 2 _ rfl)
  have g3 : World.cell? _ ⟨W.heap.size, 3, none⟩ = some (.slice c.f.A c.f.n c.f.c) := (B1.out.cell (p := ⟨W.heap.size, 3, none⟩) (by exact Nat.lt_succ_self _)).trans (HX0.out 3 _ rfl)
  have g4 : World.cell? _ ⟨W.heap.size, 4, none⟩ = some (.slice c.d.A c.d.n c.d.c) := (B1.out.cell (p := ⟨W.heap.size, 4, none⟩) (by exact Nat.lt_succ_self _)).trans (HX0.out 4 _ rfl)
  have g5 : World.cell? _ ⟨W.heap.size, 5, none⟩ = some (.slice c.m.A c.m.n c.m.c) := (B1.out.cell (p := ⟨W.heap.size, 5, none⟩) (by exact Nat.lt_succ_self _)).trans (HX0.out 5 _ rfl)
  have g6 : World.cell? _ ⟨W.heap.size, 6, none⟩ = some (.slice c.p.A c.p.n c.p.c) := (B1.out.cell (p := ⟨W.heap.size, 6, none⟩) (by exact Nat.lt_succ_self _)).trans (HX0.out 6 _ rfl)
  have g7 : World.cell? _ ⟨W.heap.size, 7, none⟩ = some (.slice c.y.A c.y.n c.y.c) := (B1.out.cell (p := ⟨W.heap.size, 7, none⟩) (by exact Nat.lt_succ_self _)).trans (HX0.out 7 _ rfl)
  have g8 : World.cell? _ ⟨W.heap.size, 8, none⟩ = some (.int .i64 c.al) := (B1.out.cell (p := ⟨W.heap.size, 8, none⟩) (by exact Nat.lt_succ_self _)).trans (HX0.out 8 _ rfl)
  go_wp2_with fail
  refine (few_calls F1.out HYL.out).mono ?_
  rintro e w2 ⟨⟨r0, rfl, hfew⟩, hbe⟩
  have B2 := Aside0.mk (below_up B1.out hbe (by have := B1.out.size; rw [World.size_alloc] at this; exact this))
  clear hbe
  clear g0 g1 g2 g3 g4 g5 g6 g7 g8
  have HFEW := Aside0.mk hfew; clear hfew
  cases r0 with
  | false =>
    as_aux_lemma =>
      go_wp2
      go_ret
      exact ⟨rfl, below_up HB0.out B2.out (Nat.le_succ _)⟩
  | true =>
  have F2 := Aside0.mk (HF.out.below (below_up HB0.out B2.out (Nat.le_succ _)))
  have g0 : World.cell? _ ⟨W.heap.size, 0, none⟩ = some (.int .i64 c.tic) := (B2.out.cell (p := ⟨W.heap.size, 0, none⟩) (by exact Nat.lt_succ_self _)).trans (HX0.out 0 _ rfl)
  have g1 : World.cell? _ ⟨W.heap.size, 1, none⟩ = some (.slice c.t.A c.t.n c.t.c) := (B2.out.cell (p := ⟨W.heap.size, 1, none⟩) (by exact Nat.lt_succ_self _)).trans (HX0.out 1 _ rfl)
  have g2 : World.cell? _ ⟨W.heap.size, 2, none⟩ = some (.slice c.s.A c.s.n c.s.c) := (B2.out.cell (p := ⟨W.heap.size, 2, none⟩) (by exact Nat.lt_succ_self _)).trans (HX0.out 2 _ rfl)
  have g3 : World.cell? _ ⟨W.heap.size, 3, none⟩ = some (.slice c.f.A c.f.n c.f.c) := (B2.out.cell (p := ⟨W.heap.size, 3, none⟩) (by exact Nat.lt_succ_self _)).trans (HX0.out 3 _ rfl)
  have g4 : World.cell? _ ⟨W.heap.size, 4, none⟩ = some (.slice c.d.A c.d.n c.d.c) := (B2.out.cell (p := ⟨W.heap.size, 4, none⟩) (by exact Nat.lt_succ_self _)).trans (HX0.out 4 _ rfl)
  have g5 : World.cell? _ ⟨W.heap.size, 5, none⟩ = some (.slice c.m.A c.m.n c.m.c) := (B2.out.cell (p := ⟨W.heap.size, 5, none⟩) (by exact Nat.lt_succ_self _)).trans (HX0.out 5 _ rfl)
  have g6 : World.cell? _ ⟨W.heap.size, 6, none⟩ = some (.slice c.p.A c.p.n c.p.c) := (B2.out.cell (p := ⟨W.heap.size, 6, none⟩) (by exact Nat.lt_succ_self _)).trans (HX0.out 6 _ rfl)
  have g7 : World.cell? _ ⟨W.heap.size, 7, none⟩ = some (.slice c.y.A c.y.n c.y.c) := (B2.out.cell (p := ⟨W.heap.size, 7, none⟩) (by exact Nat.lt_succ_self _)).trans (HX0.out 7 _ rfl)
  have g8 : World.cell? _ ⟨W.heap.size, 8, none⟩ = some (.int .i64 c.al) := (B2.out.cell (p := ⟨W.heap.size, 8, none⟩) (by exact Nat.lt_succ_self _)).trans (HX0.out 8 _ rfl)
  go_wp2_with fail
  refine (check_calls F2.out).mono ?_
  rintro e w3 ⟨⟨a, n, r, rfl, hans⟩, hbe⟩
  have HANS := Aside0.mk hans; clear hans
  have B3 := Aside0.mk (below_up B2.out hbe (by have := B2.out.size; rw [World.size_alloc] at this; exact this))
  clear hbe
  clear g0 g1 g2 g3 g4 g5 g6 g7 g8
  have F3 := Aside0.mk (HF.out.below (below_up HB0.out B3.out (Nat.le_succ _)))
  have g0 : World.cell? _ ⟨W.heap.size, 0, none⟩ = some (.int .i64 c.tic) := (B3.out.cell (p := ⟨W.heap.size, 0, none⟩) (by exact Nat.lt_succ_self _)).trans (HX0.out 0 _ rfl)
  have g1 : World.cell? _ ⟨W.heap.size, 1, none⟩ = some (.slice c.t.A c.t.n c.t.c) := (B3.out.cell (p := ⟨W.heap.size, 1, none⟩) (by exact Nat.lt_succ_self _)).trans (HX0.out 1 _ rfl)
  have g2 : World.cell? _ ⟨W.heap.size, 2, none⟩ = some (.slice c.s.A c.s.n c.s.c) := (B3.out.cell (p := ⟨W.heap.size, 2, none⟩) (by exact Nat.lt_succ_self _)).trans (HX0.out 2 _ rfl)
  have g3 : World.cell? _ ⟨W.heap.size, 3, none⟩ = some (.slice c.f.A c.f.n c.f.c) := (B3.out.cell (p := ⟨W.heap.size, 3, none⟩) (by exact Nat.lt_succ_self _)).trans (HX0.out 3 _ rfl)
  have g4 : World.cell? _ ⟨W.heap.size, 4, none⟩ = some (.slice c.d.A c.d.n c.d.c) := (B3.out.cell (p := ⟨W.heap.size, 4, none⟩) (by exact Nat.lt_succ_self _)).trans (HX0.out 4 _ rfl)
  have g5 : World.cell? _ ⟨W.heap.size, 5, none⟩ = some (.slice c.m.A c.m.n c.m.c) := (B3.out.cell (p := ⟨W.heap.size, 5, none⟩) (by exact Nat.lt_succ_self _)).trans (HX0.out 5 _ rfl)
  have g6 : World.cell? _ ⟨W.heap.size, 6, none⟩ = some (.slice c.p.A c.p.n c.p.c) := (B3.out.cell (p := ⟨W.heap.size, 6, none⟩) (by exact Nat.lt_succ_self _)).trans (HX0.out 6 _ rfl)
  have g7 : World.cell? _ ⟨W.heap.size, 7, none⟩ = some (.slice c.y.A c.y.n c.y.c) := (B3.out.cell (p := ⟨W.heap.size, 7, none⟩) (by exact Nat.lt_succ_self _)).trans (HX0.out 7 _ rfl)
  have g8 : World.cell? _ ⟨W.heap.size, 8, none⟩ = some (.int .i64 c.al) := (B3.out.cell (p := ⟨W.heap.size, 8, none⟩) (by exact Nat.lt_succ_self _)).trans (HX0.out 8 _ rfl)
  go_wp2_with fail
  refine (of_calls F3.out (HFEW.out trivial)).mono ?_
  rintro e w4 ⟨⟨t, s, f, d, m, p, y, rfl, hlen, hlm, hin⟩, hbe⟩
  have HLE := Aside0.mk hlen; clear hlen
  have HIN := Aside0.mk hin; clear hin
  have HLM := Aside0.mk hlm; clear hlm
  have B4 := Aside0.mk (below_up B3.out hbe (by have := B3.out.size; rw [World.size_alloc] at this; exact this))
  clear hbe
  clear g0 g1 g2 g3 g4 g5 g6 g7 g8
  go_wp2_with fail
  refine (rcheck_calls (c := c.with7 t s f d m p y) HIN.out HLM.out).mono ?_
  rintro e w5 ⟨⟨a', n', r', rfl, hans⟩, hbe⟩
  obtain ⟨rfl, rfl, rfl⟩ := ans_unique HANS.out (ans_with7 HLE.out hans)
  clear hans
  have B5 := Aside0.mk (below_up B4.out hbe (by have := B4.out.size; rw [World.size_alloc] at this; exact this))
  clear hbe
  have F5 := Aside0.mk (HF.out.below (below_up HB0.out B5.out (Nat.le_succ _)))
  by_cases hr : r = 0
  · subst hr
    have HPK := Aside0.mk (ans_pk HANS.out)
    have g0 : World.cell? _ ⟨W.heap.size, 0, none⟩ = some (.int .i64 c.tic) := (B5.out.cell (p := ⟨W.heap.size, 0, none⟩) (by exact Nat.lt_succ_self _)).trans (HX0.out 0 _ rfl)
    have g1 : World.cell? _ ⟨W.heap.size, 1, none⟩ = some (.slice c.t.A c.t.n c.t.c) := (B5.out.cell (p := ⟨W.heap.size, 1, none⟩) (by exact Nat.lt_succ_self _)).trans (HX0.out 1 _ rfl)
    have g2 : World.cell? _ ⟨W.heap.size, 2, none⟩ = some (.slice c.s.A c.s.n c.s.c) := (B5.out.cell (p := ⟨W.heap.size, 2, none⟩) (by exact Nat.lt_succ_self _)).trans (HX0.out 2 _ rfl)
    have g3 : World.cell? _ ⟨W.heap.size, 3, none⟩ = some (.slice c.f.A c.f.n c.f.c) := (B5.out.cell (p := ⟨W.heap.size, 3, none⟩) (by exact Nat.lt_succ_self _)).trans (HX0.out 3 _ rfl)
    have g4 : World.cell? _ ⟨W.heap.size, 4, none⟩ = some (.slice c.d.A c.d.n c.d.c) := (B5.out.cell (p := ⟨W.heap.size, 4, none⟩) (by exact Nat.lt_succ_self _)).trans (HX0.out 4 _ rfl)
    have g5 : World.cell? _ ⟨W.heap.size, 5, none⟩ = some (.slice c.m.A c.m.n c.m.c) := (B5.out.cell (p := ⟨W.heap.size, 5, none⟩) (by exact Nat.lt_succ_self _)).trans (HX0.out 5 _ rfl)
    have g6 : World.cell? _ ⟨W.heap.size, 6, none⟩ = some (.slice c.p.A c.p.n c.p.c) := (B5.out.cell (p := ⟨W.heap.size, 6, none⟩) (by exact Nat.lt_succ_self _)).trans (HX0.out 6 _ rfl)
    have g7 : World.cell? _ ⟨W.heap.size, 7, none⟩ = some (.slice c.y.A c.y.n c.y.c) := (B5.out.cell (p := ⟨W.heap.size, 7, none⟩) (by exact Nat.lt_succ_self _)).trans (HX0.out 7 _ rfl)
    have g8 : World.cell? _ ⟨W.heap.size, 8, none⟩ = some (.int .i64 c.al) := (B5.out.cell (p := ⟨W.heap.size, 8, none⟩) (by exact Nat.lt_succ_self _)).trans (HX0.out 8 _ rfl)
    go_wp2_with fail
    refine (of_calls F5.out (HFEW.out trivial)).mono ?_
    rintro e w6 ⟨⟨t2, s2, f2, d2, m2, p2, y2, rfl, hlen2, _, hin2⟩, hbe⟩
    have HPK2 := Aside0.mk (pk_with7 hlen2 HPK.out)
    have HPN := Aside0.mk hlen2.p
    have HIN2 := Aside0.mk hin2; clear hin2 hlen2
    have B6 := Aside0.mk (below_up B5.out hbe (by have := B5.out.size; rw [World.size_alloc] at this; exact this))
    clear hbe
    clear g0 g1 g2 g3 g4 g5 g6 g7 g8
    go_wp2_with fail
    refine (ref_layout (c := c.with7 t2 s2 f2 d2 m2 p2 y2) HIN2.out HPK2.out).mono ?_
    rintro e w7 ⟨⟨A, cc, he, hrd⟩, hbe⟩
    have he : e = .returned (.tuple #[.slice A p2.n cc, .int .i64 (atP c.blk c.siz p2.n)]) := he
    have hrd : ReadsInt w7 .i64 A p2.n (starts c p2.n) := hrd
    rw [HPN.out] at he hrd
    subst he
    have HRD := Aside0.mk hrd; clear hrd
    have B7 := Aside0.mk (below_up B6.out hbe (by have := B6.out.size; rw [World.size_alloc] at this; exact this))
    clear hbe
    have F7 := Aside0.mk (HF.out.below (below_up HB0.out B7.out (Nat.le_succ _)))
    have g0 : World.cell? _ ⟨W.heap.size, 0, none⟩ = some (.int .i64 c.tic) := (B7.out.cell (p := ⟨W.heap.size, 0, none⟩) (by exact Nat.lt_succ_self _)).trans (HX0.out 0 _ rfl)
    have g1 : World.cell? _ ⟨W.heap.size, 1, none⟩ = some (.slice c.t.A c.t.n c.t.c) := (B7.out.cell (p := ⟨W.heap.size, 1, none⟩) (by exact Nat.lt_succ_self _)).trans (HX0.out 1 _ rfl)
    have g2 : World.cell? _ ⟨W.heap.size, 2, none⟩ = some (.slice c.s.A c.s.n c.s.c) := (B7.out.cell (p := ⟨W.heap.size, 2, none⟩) (by exact Nat.lt_succ_self _)).trans (HX0.out 2 _ rfl)
    have g3 : World.cell? _ ⟨W.heap.size, 3, none⟩ = some (.slice c.f.A c.f.n c.f.c) := (B7.out.cell (p := ⟨W.heap.size, 3, none⟩) (by exact Nat.lt_succ_self _)).trans (HX0.out 3 _ rfl)
    have g4 : World.cell? _ ⟨W.heap.size, 4, none⟩ = some (.slice c.d.A c.d.n c.d.c) := (B7.out.cell (p := ⟨W.heap.size, 4, none⟩) (by exact Nat.lt_succ_self _)).trans (HX0.out 4 _ rfl)
    have g5 : World.cell? _ ⟨W.heap.size, 5, none⟩ = some (.slice c.m.A c.m.n c.m.c) := (B7.out.cell (p := ⟨W.heap.size, 5, none⟩) (by exact Nat.lt_succ_self _)).trans (HX0.out 5 _ rfl)
    have g6 : World.cell? _ ⟨W.heap.size, 6, none⟩ = some (.slice c.p.A c.p.n c.p.c) := (B7.out.cell (p := ⟨W.heap.size, 6, none⟩) (by exact Nat.lt_succ_self _)).trans (HX0.out 6 _ rfl)
    have g7 : World.cell? _ ⟨W.heap.size, 7, none⟩ = some (.slice c.y.A c.y.n c.y.c) := (B7.out.cell (p := ⟨W.heap.size, 7, none⟩) (by exact Nat.lt_succ_self _)).trans (HX0.out 7 _ rfl)
    have g8 : World.cell? _ ⟨W.heap.size, 8, none⟩ = some (.int .i64 c.al) := (B7.out.cell (p := ⟨W.heap.size, 8, none⟩) (by exact Nat.lt_succ_self _)).trans (HX0.out 8 _ rfl)
    go_wp2_with fail
    refine (layout_calls F7.out HPK.out.pg).mono ?_
    rintro e w8 ⟨⟨A2, cc2, rfl, hrd2⟩, hbe⟩
    have HRD1 := Aside0.mk (HRD.out.below hbe)
    have HRD2 := Aside0.mk hrd2; clear hrd2
    have B8 := Aside0.mk (below_up B7.out hbe (by have := B7.out.size; rw [World.size_alloc] at this; exact this))
    clear hbe
    clear g0 g1 g2 g3 g4 g5 g6 g7 g8
    have hsl := starts_len c c.p.n
    have h8 := HPK.out.n8
    go_wp2_with fail
    refine (ListHand.same_calls (starts c c.p.n) (by omega) A2 A c.p.n c.p.n cc2 cc hsl.symm hsl.symm w8 (by rw [hsl]; exact HRD2.out) (by rw [hsl]; exact HRD1.out)).mono ?_
    rintro e w9 ⟨rfl, hbe⟩
    have B9 := Aside0.mk (below_up B8.out hbe (by have := B8.out.size; rw [World.size_alloc] at this; exact this))
    clear hbe hsl
    have F9 := Aside0.mk (HF.out.below (below_up HB0.out B9.out (Nat.le_succ _)))
    have g0 : World.cell? _ ⟨W.heap.size, 0, none⟩ = some (.int .i64 c.tic) := (B9.out.cell (p := ⟨W.heap.size, 0, none⟩) (by exact Nat.lt_succ_self _)).trans (HX0.out 0 _ rfl)
    have g1 : World.cell? _ ⟨W.heap.size, 1, none⟩ = some (.slice c.t.A c.t.n c.t.c) := (B9.out.cell (p := ⟨W.heap.size, 1, none⟩) (by exact Nat.lt_succ_self _)).trans (HX0.out 1 _ rfl)
    have g2 : World.cell? _ ⟨W.heap.size, 2, none⟩ = some (.slice c.s.A c.s.n c.s.c) := (B9.out.cell (p := ⟨W.heap.size, 2, none⟩) (by exact Nat.lt_succ_self _)).trans (HX0.out 2 _ rfl)
    have g3 : World.cell? _ ⟨W.heap.size, 3, none⟩ = some (.slice c.f.A c.f.n c.f.c) := (B9.out.cell (p := ⟨W.heap.size, 3, none⟩) (by exact Nat.lt_succ_self _)).trans (HX0.out 3 _ rfl)
    have g4 : World.cell? _ ⟨W.heap.size, 4, none⟩ = some (.slice c.d.A c.d.n c.d.c) := (B9.out.cell (p := ⟨W.heap.size, 4, none⟩) (by exact Nat.lt_succ_self _)).trans (HX0.out 4 _ rfl)
    have g5 : World.cell? _ ⟨W.heap.size, 5, none⟩ = some (.slice c.m.A c.m.n c.m.c) := (B9.out.cell (p := ⟨W.heap.size, 5, none⟩) (by exact Nat.lt_succ_self _)).trans (HX0.out 5 _ rfl)
    have g6 : World.cell? _ ⟨W.heap.size, 6, none⟩ = some (.slice c.p.A c.p.n c.p.c) := (B9.out.cell (p := ⟨W.heap.size, 6, none⟩) (by exact Nat.lt_succ_self _)).trans (HX0.out 6 _ rfl)
    have g7 : World.cell? _ ⟨W.heap.size, 7, none⟩ = some (.slice c.y.A c.y.n c.y.c) := (B9.out.cell (p := ⟨W.heap.size, 7, none⟩) (by exact Nat.lt_succ_self _)).trans (HX0.out 7 _ rfl)
    have g8 : World.cell? _ ⟨W.heap.size, 8, none⟩ = some (.int .i64 c.al) := (B9.out.cell (p := ⟨W.heap.size, 8, none⟩) (by exact Nat.lt_succ_self _)).trans (HX0.out 8 _ rfl)
    go_wp2_with fail
    refine (bytes_calls F9.out HPK.out.pg).mono ?_
    rintro e w10 ⟨rfl, hbe⟩
    have B10 := Aside0.mk (below_up B9.out hbe (by have := B9.out.size; rw [World.size_alloc] at this; exact this))
    clear hbe
    clear g0 g1 g2 g3 g4 g5 g6 g7 g8
    go_wp2
    go_ret
    exact ⟨rfl, below_up HB0.out B10.out (Nat.le_succ _)⟩
  · have HR := Aside0.mk (ans_name HANS.out hr)
    have b0 : (r == 0) = false := beq_eq_false_iff_ne.2 hr
    have b1 : (r != 0) = true := bne_iff_ne.2 hr
    have hra := toL1 a HR.out
    clear hr
    as_aux_lemma =>
      go_wp2
      go_ret
      exact ⟨rfl, below_up HB0.out B5.out (Nat.le_succ _)⟩
end Go.Proofs.Yteiepbjajennkaa.ConfHand
