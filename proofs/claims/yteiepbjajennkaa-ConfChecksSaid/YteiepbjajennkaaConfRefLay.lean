/- Where the document's pools lie. Conditions: none. -/
import Derived.Test.YteiepbjajennkaaConfRefs
namespace Go.Proofs.Yteiepbjajennkaa.ConfHand
set_option linter.unusedVariables false
set_option linter.unusedSimpArgs false
open Go.RowKit Go.Proofs.YteiepbjajennkaaW.PrintWords Go.Proofs.YteiepbjajennkaaW.PrintMore
/-- Each pool is as it should be. -/
structure PK (c : CF) : Prop where
  n8 : c.p.n ≤ 8
  ok : ∀ i, i < c.p.n → poolC (atP c.blk c.siz i) (c.blk i) (c.siz i) = 0
theorem poolC_bd {a b s : Int} (h : poolC a b s = 0) : 1 ≤ b ∧ b ≤ 256 ∧ 1 ≤ s ∧ s ≤ 4096 ∧ b * al s ≤ 65536 - a := by
  unfold poolC at h
  split at h
  · omega
  · rename_i hn
    have h0 : ¬ b < 1 := fun e => hn (.inl e)
    have h1 : ¬ 256 < b := fun e => hn (.inr (.inl e))
    have h2 : ¬ s < 1 := fun e => hn (.inr (.inr (.inl e)))
    have h3 : ¬ 4096 < s := fun e => hn (.inr (.inr (.inr (.inl e))))
    have h4 : ¬ 65536 - a < b * al s := fun e => hn (.inr (.inr (.inr (.inr e))))
    omega
theorem PK.pg {c : CF} (h : PK c) : PG c := by
  refine ⟨h.n8, fun i hi => ?_⟩
  induction i with
  | zero => exact ⟨Int.le_refl _, by show (0 : Int) ≤ 65536; decide, rfl⟩
  | succ i ih =>
    obtain ⟨a0, a1, a2⟩ := ih (by omega)
    obtain ⟨n0, n1, n2, _⟩ := nx_good a0 a1 a2 (h.ok i (by omega))
    exact ⟨n0, n1, n2⟩
theorem PK.next {c : CF} (h : PK c) (i : Nat) (hi : i < c.p.n) : atP c.blk c.siz (i + 1) = atP c.blk c.siz i + c.blk i * al (c.siz i) := by
  obtain ⟨a0, a1, a2⟩ := h.pg.at_ i (by omega)
  exact (nx_good a0 a1 a2 (h.ok i hi)).2.2.2
set_option maxHeartbeats 1000000 in
set_option maxRecDepth 100000 in
theorem ref_layout {c : CF} {W : World} (h : CFin W c) (hk : PK c) : Calls Try.prog 36 #[.agg #[.int .i64 c.tic, .slice c.t.A c.t.n c.t.c, .slice c.s.A c.s.n c.s.c, .slice c.f.A c.f.n c.f.c, .slice c.d.A c.d.n c.d.c, .slice c.m.A c.m.n c.m.c, .slice c.p.A c.p.n c.p.c, .slice c.y.A c.y.n c.y.c, .int .i64 c.al]] W fun e w' => (∃ A cc, e = .returned (.tuple #[.slice A c.p.n cc, .int .i64 (atP c.blk c.siz c.p.n)]) ∧ ReadsInt w' .i64 A c.p.n (starts c c.p.n)) ∧ Below W.heap.size W w' := by
  have HF := Aside0.mk h; clear h
  have HK := Aside0.mk hk; clear hk
  have HB0 := Aside0.mk (below_alloc (Below.refl W.heap.size W) (.cells c.vals 72))
  have HX0 := Aside0.mk (show (W.alloc (.cells c.vals 72)).cell? ⟨W.heap.size, 6, none⟩ = some (.slice c.p.A c.p.n c.p.c) by rw [World.cell?_alloc_at _ _ _ _ rfl]; rfl)
  go_enter Try.func36, Try.ntmps36
  go_wp2
  go_loopw [6, 5, 4] (fun i z r w' => ∃ k : Nat, k ≤ c.p.n ∧ i = .int .i64 k ∧ z = .int .i64 (atP c.blk c.siz k) ∧ Aside0 (Below (W.heap.size + 1) (W.alloc (.cells c.vals 72)) w' ∧ w'.ownsRow (W.heap.size + 1) 3 1 r k (nums .i64 (starts c k)))) (fun i _ _ _ => c.p.n - (intOf i).toNat)
  case atStart => exact ⟨0, Nat.zero_le _, rfl, rfl, Below.refl _ _, own_nil _ _ _ _⟩
  case round =>
    obtain ⟨k, hk, rfl, rfl, HBO⟩ := hrel
    have HB := Aside0.mk HBO.out.1
    have HO := Aside0.mk HBO.out.2
    have HC := Aside0.mk (below_up HB0.out HB.out (Nat.le_succ _))
    clear HBO
    have g6 := (HB.out.cell (p := ⟨W.heap.size, 6, none⟩) (Nat.lt_succ_self _)).trans HX0.out
    by_cases hlt : k < c.p.n
    · obtain ⟨B, O, hA, hc⟩ := HF.out.p (by omega)
      have p1 : W.cell? ⟨B, O + k * 3 + 1, none⟩ = some (.int .i64 (c.blk k)) := hc k hlt 1 _ rfl
      have p2 : W.cell? ⟨B, O + k * 3 + 2, none⟩ = some (.int .i64 (c.siz k)) := hc k hlt 2 _ rfl
      have HP := Aside0.mk (And.intro p1 p2)
      have HBl := Aside0.mk (World.block_lt_of_cell? _ _ p1)
      clear hc p1 p2
      rw [hA] at g6 ⊢
      have HA := Aside0.mk hA; clear hA
      have h8 := HK.out.n8
      have HSL := Aside0.mk (starts_len c k)
      have HSZ := Aside0.mk (show W.heap.size + 1 ≤ wr.heap.size by have := HB.out.size; simpa using this)
      go_wp2_with (at_builtin; refine print_append_num (W.heap.size + 1) rfl _ _ 28 3 .i64 8 rfl Try.underlying28 info3 (by decide) _ (starts c k) _ rfl rfl (by rw [HSL.out]; exact HO.out) HB.out HSZ.out (by rw [HSL.out]; omega) ?_; intro v3 w3 hown3 hb3 _ _; have HB3 := Aside0.mk hb3; have HO3 := Aside0.mk hown3; clear hb3 hown3)
      have HC3 := Aside0.mk (below_up HB0.out HB3.out (Nat.le_succ _))
      have g6' := (HB3.out.cell (p := ⟨W.heap.size, 6, none⟩) (Nat.lt_succ_self _)).trans HX0.out
      have x1 := (HC3.out.cell (p := ⟨B, O + k * 3 + 1, none⟩) HBl.out).trans HP.out.1
      have x2 := (HC3.out.cell (p := ⟨B, O + k * 3 + 2, none⟩) HBl.out).trans HP.out.2
      rw [HA.out] at g6'
      obtain ⟨a0, a1, a2⟩ := HK.out.pg.at_ k hk
      obtain ⟨b1, b2, b3, b4, b5⟩ := poolC_bd (HK.out.ok k hlt)
      have HNX := Aside0.mk (HK.out.next k hlt)
      have HSS := Aside0.mk (starts_succ c k)
      have HAL := Aside0.mk (fun w => ref_align (c.siz k) (by omega) (by omega) w)
      have ha := al_bd (c.siz k) (by omega)
      have hp := mul_bd (a := c.blk k) (b := al (c.siz k)) (m := 256) (n := 4099) (by omega) (by omega) (by omega) (by omega)
      clear g6 HP
      generalize c.blk k = bl at *
      generalize c.siz k = sz at *
      generalize al sz = z at *
      generalize atP c.blk c.siz k = at_ at *
      have r1 : IntKind.i64.wrap (bl * z) = bl * z := IntWalk.i64_in _ (by omega)
      have r2 : IntKind.i64.wrap (at_ + bl * z) = at_ + bl * z := IntWalk.i64_in _ (by omega)
      refine wp_region_quiet_lit (by kernel_rfl) (by kernel_rfl) ?_
      repeat (go_big_quiet_step ((go_at_call 74; exact Calls.quiet_of_same ((HAL.out _).mono fun e w' ⟨h1, h2⟩ => ⟨h1, h2.symm⟩))))
      refine wpQuiet_nil ?_
      intro _ hw'
      obtain ⟨nq, hw''⟩ := hw'
      subst hw''
      clear r1 r2 x1 x2 g6'
      go_wp2
      go_roundw
      case rel => exact ⟨k + 1, by omega, by go_num, by rw [HNX.out], below_drewN HB3.out nq, own_drewN (by have := HO3.out; rw [← HSS.out, starts_len] at this; exact this) nq⟩
      case measure => simp [intOf]; omega
    · obtain rfl : k = c.p.n := by omega
      go_wp2
      go_ret2
      obtain ⟨A, cc, e, hrd⟩ := own_reads HO.out
      subst e
      exact ⟨⟨A, cc, rfl, hrd⟩, HC.out⟩
end Go.Proofs.Yteiepbjajennkaa.ConfHand
