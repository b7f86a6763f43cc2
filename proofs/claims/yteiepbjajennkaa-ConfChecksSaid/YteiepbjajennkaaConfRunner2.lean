/- A configuration's parts are run as they are said. Conditions: none. -/
import Derived.Test.YteiepbjajennkaaConfRunner
namespace Go.Proofs.Yteiepbjajennkaa.ConfHand
set_option linter.unusedVariables false
set_option linter.unusedSimpArgs false
open Go.RowKit Go.Proofs.YteiepbjajennkaaW.PrintWords Go.Proofs.YteiepbjajennkaaW.PrintMore
variable {c : CF} {Wf : World} {b a7 h5 g kk : Nat}
theorem run_step (E : Env c Wf b a7 h5 g kk) (B k : Nat) (i : Nat) (w : World) (hk : k < 8) (h0 : (c.parts.getD k default).lo ≤ (c.parts.getD k default).n) (h1 : (c.parts.getD k default).n ≤ (c.parts.getD k default).hi) (hi : (i : Int) < (c.parts.getD k default).n) (S : Si c Wf a7 g kk B k i w) :
    Calls Try.prog (fidOf k) (#[.int .i64 i] ++ capsOf b a7 h5 k) w fun e w' => e = .returned (.int .i64 ((c.parts.getD k default).code i)) ∧ ((c.parts.getD k default).code i = 0 → Si c Wf a7 g kk B k (i + 1) w') ∧ Fr B (XX a7 g) w w' := by
  have hk' : k = 0 ∨ k = 1 ∨ k = 2 ∨ k = 3 ∨ k = 4 ∨ k = 5 ∨ k = 6 ∨ k = 7 := by omega
  rcases hk' with rfl | rfl | rfl | rfl | rfl | rfl | rfl | rfl
  · have hi : (i : Int) < c.t.n := hi
    have h1 : (c.t.n : Int) ≤ 16 := h1
    exact ret_step S (by decide) (by decide) (one_task (b := b) (A := c.t.A) (n := c.t.n) (c := c.t.c) (E.boxAt S 1 _ rfl) c.pri c.act (E.recsAt S c.t (.inl rfl) E.dat.t (fun i => ⟨_, rfl⟩)) i (by omega) (by omega))
  · have hi : (i : Int) < c.s.n := hi
    have h1 : (c.s.n : Int) ≤ 8 := h1
    exact ret_step S (by decide) (by decide) (one_sem (b := b) (A := c.s.A) (n := c.s.n) (c := c.s.c) (E.boxAt S 2 _ rfl) c.sb c.cnt c.mst (E.recsAt S c.s (.inr (.inl rfl)) E.dat.s (fun i => ⟨_, rfl⟩)) i (by omega) (by omega))
  · exact ret_step S (by decide) (by decide) (one_fine i)
  · have hi : (i : Int) < c.d.n := hi
    have h1 : (c.d.n : Int) ≤ 8 := h1
    exact ret_step S (by decide) (by decide) (one_data (b := b) (A := c.d.A) (n := c.d.n) (c := c.d.c) (E.boxAt S 4 _ rfl) c.db c.room (E.recsAt S c.d (.inr (.inr (.inl rfl))) E.dat.d (fun i => ⟨_, rfl⟩)) i (by omega) (by omega))
  · have hi : (i : Int) < c.m.n := hi
    have h1 : (c.m.n : Int) ≤ 8 := h1
    exact ret_step S (by decide) (by decide) (one_mtx (b := b) (A := c.m.A) (n := c.m.n) (c := c.m.c) (E.boxAt S 5 _ rfl) c.attr c.ceil (E.recsAt S c.m (.inr (.inr (.inr (.inl rfl)))) E.dat.m (fun i => ⟨_, rfl⟩)) i (by omega) (by omega))
  · have hi : (i : Int) < c.p.n := hi
    have h1 : (c.p.n : Int) ≤ 8 := h1
    obtain ⟨z, e1, e2, e3⟩ := S.at_
    obtain ⟨rfl, z0, z1, z2⟩ := e3 rfl
    refine (one_pool (b := b) (A := c.p.A) (n := c.p.n) (c := c.p.c) (E.boxAt S 6 _ rfl) c.pb c.blk c.siz (E.recsAt S c.p (.inr (.inr (.inr (.inr (.inl rfl))))) E.dat.p (fun i => ⟨_, rfl⟩)) i (by omega) (by omega) a7 _ e1 S.fz z0 z1 z2).mono ?_
    rintro e w' ⟨p1, p2, p3, p4⟩
    have fw := p4.wide (Y := XX a7 g) (fun j hj => .inl hj)
    refine ⟨p1, fun hc => ?_, fw.less S.b1⟩
    obtain ⟨q0, q1, q2, _⟩ := nx_good z0 z1 z2 hc
    have hlk : ∀ C, Wf.heap.size ≤ C → Hd C w' g kk 0 := fun C hC => by
      have hd := S.hd (by decide) C hC
      have lg := World.block_lt_of_cell? _ _ hd.c0
      have lk := World.block_lt_of_cell? _ _ hd.up
      obtain ⟨v, xs, v1, v2⟩ := hd.cy
      have eg : w'.heap[g]? = w.heap[g]? := p4.block g lg (fun e => E.ba.2.2.2.2.1 e.symm)
      have ek : w'.heap[kk]? = w.heap[kk]? := p4.block kk lk (fun e => E.ba.2.2.2.2.2.1 e)
      refine ⟨(World.cell?_of_block (a := ⟨g, 0, none⟩) eg).trans hd.c0, (World.cell?_of_block (a := ⟨kk, 2, none⟩) ek).trans hd.up, ⟨v, xs, (World.cell?_of_block (a := ⟨g, 2, none⟩) eg).trans v1, own_move v2 fun j hj => p4.block j (own_lt v2 j hj) fun e => ?_⟩, (World.frozen?_of_block (a := ⟨g, 2, none⟩) eg).trans hd.fr, hd.gB, hd.kB, hd.gk⟩
      have e : j = a7 := e
      have := own_base v2 j hj
      have la := World.block_lt_of_cell? _ _ E.at_
      have la : a7 < Wf.heap.size := la
      omega
    exact ⟨S.fr.trans (fw.less (Nat.le_trans S.b0 S.b1)), S.b0, Nat.le_trans S.b1 fw.size, ⟨_, p2, fun h => absurd h (by decide), fun _ => ⟨rfl, q0, q1, q2⟩⟩, p3, fun _ => hlk, fun h => absurd h (by decide)⟩
  · have hi : (i : Int) < c.y.n := hi
    have h1 : (c.y.n : Int) ≤ 8 := h1
    have hd := S.hc rfl
    have eh := E.hh
    have hh : w.cell? ⟨h5, 0, none⟩ = some (.pointer (some ⟨g, 0, none⟩)) := (S.fr.cell (p := ⟨h5, 0, none⟩) (World.block_lt_of_cell? _ _ eh) (by rintro (q | q); exact E.ba.2.2.1 q; exact E.ba.2.2.2.1 q)).trans eh
    refine (one_cyc (b := b) (A := c.y.A) (n := c.y.n) (c := c.y.c) (E.boxAt S 7 _ rfl) c.per c.pha c.ys c.yk (E.recsAt S c.y (.inr (.inr (.inr (.inr (.inr rfl))))) E.dat.y (fun i => ⟨_, rfl⟩)) i (by omega) (by omega) h5 B g kk i hh hd (by omega) S.b1).mono ?_
    rintro e w' ⟨p1, p2, p3⟩
    have fw := p3.wide (Y := XX a7 g) (fun j hj => .inr hj)
    refine ⟨p1, fun hc => ?_, fw⟩
    obtain ⟨z, e1, e2, e3⟩ := S.at_
    have la : a7 < Wf.heap.size := World.block_lt_of_cell? _ _ E.at_
    have ea : w'.heap[a7]? = w.heap[a7]? := p3.block a7 (Nat.lt_of_lt_of_le la S.b0) E.ba.2.2.2.2.1
    exact ⟨S.fr.trans (fw.less S.b0), S.b0, Nat.le_trans S.b1 fw.size, ⟨z, (World.cell?_of_block (a := ⟨a7, 0, none⟩) ea).trans e1, e2, fun h => absurd h (by decide)⟩, (World.frozen?_of_block (a := ⟨a7, 0, none⟩) ea).trans S.fz, fun h => absurd h (by decide), fun _ => p2 hc⟩
  · exact ret_step S (by decide) (by decide) (one_fine i)
theorem runner (E : Env c Wf b a7 h5 g kk) : Runner Wf c.parts fidOf (capsOf b a7 h5) (XX a7 g) (Sk Wf a7 g kk) (Si c Wf a7 g kk) where
  hX := by
    rintro i (rfl | rfl)
    · exact World.block_lt_of_cell? _ _ E.at_
    · exact World.block_lt_of_cell? _ _ (E.hd _ (Nat.le_refl _)).c0
  start := ⟨Fr.refl _ _ _, ⟨0, E.at_, fun _ => rfl⟩, E.fz, fun _ => E.hd⟩
  calls := by
    intro k hk args w
    have hk : k < 8 := hk
    have hk' : k = 0 ∨ k = 1 ∨ k = 2 ∨ k = 3 ∨ k = 4 ∨ k = 5 ∨ k = 6 ∨ k = 7 := by omega
    rcases hk' with rfl | rfl | rfl | rfl | rfl | rfl | rfl | rfl
    · exact enter51 args w
    · exact enter53 args w
    · exact enter55 args w
    · exact enter56 args w
    · exact enter58 args w
    · exact enter60 args w
    · exact enter63 args w
    · exact enter55 args w
  keep := fun k w w' h q => h.below q
  ahead := by
    intro k w hk h0 h1 S
    obtain ⟨z, e1, e2⟩ := S.at_
    refine ⟨S.fr, S.fr.size, Nat.le_refl _, ⟨z, e1, fun h => e2 (by omega), fun h => ?_⟩, S.fz, fun h => S.hd (by omega), fun h => S.hd (by omega) _ S.fr.size⟩
    have := e2 (by omega)
    subst this
    exact ⟨rfl, by decide, by decide, by decide⟩
  big := fun B k i w S => S.b1
  step := fun B k i w hk h0 h1 hi S => run_step E B k i w hk h0 h1 hi S
  over := by
    intro B k w hk S
    obtain ⟨z, e1, e2, e3⟩ := S.at_
    exact ⟨S.fr, ⟨z, e1, fun h => e2 (by omega)⟩, S.fz, fun h => S.hd (by omega)⟩
end Go.Proofs.Yteiepbjajennkaa.ConfHand
