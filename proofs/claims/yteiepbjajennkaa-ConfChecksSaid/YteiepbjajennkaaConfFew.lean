/- Is a configuration worth a play? Conditions: none. -/
import Derived.Test.YteiepbjajennkaaConfOf
namespace Go.Proofs.Yteiepbjajennkaa.ConfHand
set_option linter.unusedVariables false
set_option linter.unusedSimpArgs false
open Go.RowKit Go.Proofs.YteiepbjajennkaaW.PrintWords Go.Proofs.YteiepbjajennkaaW.PrintMore
def FewOut (c : CF) (W : World) (e : Ending) (w' : World) : Prop := (∃ r, e = .returned (.bool r) ∧ (r = true → FewSays c)) ∧ Below W.heap.size W w'
set_option maxHeartbeats 1000000 in
set_option maxRecDepth 100000 in
theorem few_calls {c : CF} {W : World} (h : CFin W c) (hl : c.y.n ≤ 9223372036854775807) : Calls Try.prog 32 #[.agg #[.int .i64 c.tic, .slice c.t.A c.t.n c.t.c, .slice c.s.A c.s.n c.s.c, .slice c.f.A c.f.n c.f.c, .slice c.d.A c.d.n c.d.c, .slice c.m.A c.m.n c.m.c, .slice c.p.A c.p.n c.p.c, .slice c.y.A c.y.n c.y.c, .int .i64 c.al]] W (FewOut c W) := by
  have HF := Aside0.mk h; clear h
  have HB0 := Aside0.mk (below_alloc (Below.refl W.heap.size W) (.cells c.vals 58))
  have HX0 := Aside0.mk (show ∀ j u, c.vals[j]? = some u → (W.alloc (.cells c.vals 58)).cell? ⟨W.heap.size, j, none⟩ = some u from fun j u hu => by rw [World.cell?_alloc_at _ _ _ _ rfl]; exact hu)
  go_enter Try.func32, Try.ntmps32
  go_wp2
  go_loopw [3] (fun i w' => ∃ k : Nat, k ≤ c.y.n ∧ i = .int .i64 k ∧ Aside0 (Below (W.heap.size + 1) (W.alloc (.cells c.vals 58)) w')) (fun i _ => c.y.n - (intOf i).toNat)
  case atStart => exact ⟨0, Nat.zero_le _, rfl, ⟨Below.refl _ _⟩⟩
  case round =>
    obtain ⟨k, hk, rfl, HB⟩ := hrel
    have HC := Aside0.mk (below_up HB0.out HB.out (Nat.le_succ _))
    have gx : ∀ j u, c.vals[j]? = some u → wr.cell? ⟨W.heap.size, j, none⟩ = some u := fun j u hu => (HB.out.cell (p := ⟨W.heap.size, j, none⟩) (Nat.lt_succ_self _)).trans (HX0.out j u hu)
    have g0 := gx 0 (.int .i64 c.tic) rfl
    have g1 := gx 1 (.slice c.t.A c.t.n c.t.c) rfl
    have g2 := gx 2 (.slice c.s.A c.s.n c.s.c) rfl
    have g3 := gx 3 (.slice c.f.A c.f.n c.f.c) rfl
    have g4 := gx 4 (.slice c.d.A c.d.n c.d.c) rfl
    have g5 := gx 5 (.slice c.m.A c.m.n c.m.c) rfl
    have g6 := gx 6 (.slice c.p.A c.p.n c.p.c) rfl
    have g7 := gx 7 (.slice c.y.A c.y.n c.y.c) rfl
    clear gx
    by_cases hlt : k < c.y.n
    · obtain ⟨B, O, hA, hc⟩ := HF.out.y (by omega)
      have p0 : W.cell? ⟨B, O + k * 4, none⟩ = some (.int .i64 (c.per k)) := hc k hlt 0 _ rfl
      have y0 := (HC.out.cell (p := ⟨B, O + k * 4, none⟩) (World.block_lt_of_cell? _ _ p0)).trans p0
      clear hc p0
      rw [hA] at g7 ⊢
      clear g1 g2 g3 g4 g5 g6
      by_cases h1 : 1 ≤ c.per k
      · as_aux_lemma =>
          go_wp2
          refine wp_region_quiet_lit (by kernel_rfl) (by kernel_rfl) ?_
          repeat (go_big_quiet_step (fail))
          refine wpQuiet_nil ?_
          intro _ hw'
          obtain ⟨nq, hw''⟩ := hw'
          subst hw''
          clear y0 g0 g7
          go_wp2
          all_goals first
            | (go_ret; exact ⟨⟨_, rfl, fun h => absurd h (by decide)⟩, below_drewN HC.out nq⟩)
            | (go_roundw
               case rel => exact ⟨k + 1, by omega, by go_num, ⟨below_drewN HB.out nq⟩⟩
               case measure => simp [intOf]; omega)
      · have b1 : decide (1 ≤ c.per k) = false := decide_eq_false h1
        as_aux_lemma =>
          go_wp2
          refine wp_region_quiet_lit (by kernel_rfl) (by kernel_rfl) ?_
          repeat (go_big_quiet_step (fail))
          refine wpQuiet_nil ?_
          intro _ hw'
          obtain ⟨nq, hw''⟩ := hw'
          subst hw''
          clear y0 g0 g7
          go_wp2
          go_roundw
          case rel => exact ⟨k + 1, by omega, by go_num, ⟨below_drewN HB.out nq⟩⟩
          case measure => simp [intOf]; omega
    · obtain rfl : k = c.y.n := by omega
      go_wp2
      all_goals
        go_ret
        first
          | exact ⟨⟨_, rfl, fun h => absurd h (by decide)⟩, HC.out⟩
          | exact ⟨⟨_, rfl, fun h => by
              first
                | (have h' := of_decide_eq_true h; exact ⟨by omega, by omega, by omega, by omega, by omega, by omega, by omega⟩)
                | exact ⟨by omega, by omega, by omega, by omega, by omega, by omega, by omega⟩⟩, HC.out⟩
end Go.Proofs.Yteiepbjajennkaa.ConfHand
