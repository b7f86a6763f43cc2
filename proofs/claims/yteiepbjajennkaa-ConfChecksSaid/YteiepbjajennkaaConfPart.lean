/- What is wrong of one object: the functions that a configuration's check hands on. Conditions: none. -/
import Derived.Test.YteiepbjajennkaaConfPool
namespace Go.Proofs.Yteiepbjajennkaa.ConfHand
set_option linter.unusedVariables false
set_option linter.unusedSimpArgs false
open Go.RowKit Go.Proofs.YteiepbjajennkaaW.PrintWords Go.Proofs.YteiepbjajennkaaW.PrintMore
/-- A slice of structs of sz cells each. -/
def Recs (W : World) (A : Option Addr) (n sz : Nat) (f : Nat → List Value) : Prop := 0 < n → ∃ B O, A = some ⟨B, O, none⟩ ∧ ∀ i, i < n → ∀ k v, (f i)[k]? = some v → W.cell? ⟨B, O + i * sz + k, none⟩ = some v
theorem Recs.below {W w' : World} {A : Option Addr} {n sz : Nat} {f : Nat → List Value} (h : Recs W A n sz f) (b : Below W.heap.size W w') : Recs w' A n sz f := by
  intro hn
  obtain ⟨B, O, e, hc⟩ := h hn
  refine ⟨B, O, e, fun i hi k v hv => ?_⟩
  have := hc i hi k v hv
  exact (b.cell (World.block_lt_of_cell? W _ this)).trans this
theorem Recs.nil (W : World) (A : Option Addr) (sz : Nat) (f : Nat → List Value) : Recs W A 0 sz f := fun h => by omega
theorem Recs.fr {B : Nat} {X : Nat → Prop} {W w' : World} {A : Option Addr} {n sz : Nat} {f : Nat → List Value} (h : Recs W A n sz f) (b : Fr B X W w') (hA : ∀ ad, A = some ad → 0 < n → ad.block < B ∧ ¬ X ad.block) : Recs w' A n sz f := by
  intro hn
  obtain ⟨C, O, e, hc⟩ := h hn
  refine ⟨C, O, e, fun i hi k v hv => ?_⟩
  have := hA _ e hn
  exact (b.cell (p := ⟨C, O + i * sz + k, none⟩) this.1 this.2).trans (hc i hi k v hv)
/-- A code; what was there stands. -/
def RetC (r : Int) (W : World) (e : Ending) (w' : World) : Prop := e = .returned (.int .i64 r) ∧ Below W.heap.size W w'
def taskC (p : Int) : Int := if p < 1 ∨ 16 < p then -17 else 0
variable {W : World} {b : Nat} {A : Option Addr} {n c : Nat}
theorem one_task (hb : W.cell? ⟨b, 1, none⟩ = some (.slice A n c)) (pri : Nat → Int) (act : Nat → Bool) (hr : Recs W A n 2 fun i => [.int .i64 (pri i), .bool (act i)]) (i : Nat) (hi : i < n) (hn : n ≤ 1000000) :
    Calls Try.prog 51 #[.int .i64 i, .pointer (some ⟨b, 0, none⟩)] W (RetC (taskC (pri i)) W) := by
  obtain ⟨B, O, rfl, hc⟩ := hr (by omega)
  have x0 : W.cell? ⟨B, O + i * 2, none⟩ = some _ := hc i hi 0 _ rfl
  clear hc hr
  unfold taskC
  generalize pri i = p at *
  by_cases h0 : p < 1
  · rw [if_pos (.inl h0)]
    go_enter Try.func51, Try.ntmps51
    go_wp2
    go_ret
    exact ⟨rfl, Below.refl _ _⟩
  · by_cases h1 : 16 < p
    · rw [if_pos (.inr h1)]
      go_enter Try.func51, Try.ntmps51
      go_wp2
      go_ret
      exact ⟨rfl, Below.refl _ _⟩
    · rw [if_neg (by rintro (h | h) <;> contradiction)]
      go_enter Try.func51, Try.ntmps51
      go_wp2
      go_ret
      exact ⟨rfl, Below.refl _ _⟩
theorem one_fine (i : Nat) : Calls Try.prog 55 #[.int .i64 i] W (RetC 0 W) := by
  go_enter Try.func55, Try.ntmps55
  go_wp2
  go_ret
  exact ⟨rfl, Below.refl _ _⟩

set_option maxHeartbeats 1000000 in
set_option maxRecDepth 100000 in
theorem one_sem (hb : W.cell? ⟨b, 2, none⟩ = some (.slice A n c)) (bp : Nat → Bool) (cnt mst : Nat → Int) (hr : Recs W A n 3 fun i => [.bool (bp i), .int .i64 (cnt i), .int .i64 (mst i)]) (i : Nat) (hi : i < n) (hn : n ≤ 1000000) :
    Calls Try.prog 53 #[.int .i64 i, .pointer (some ⟨b, 0, none⟩)] W (RetC (semC (cnt i) (mst i)) W) := by
  obtain ⟨B, O, rfl, hc⟩ := hr (by omega)
  have x0 : W.cell? ⟨B, O + i * 3, none⟩ = some _ := hc i hi 0 _ rfl
  have x1 := hc i hi 1 _ rfl
  have x2 := hc i hi 2 _ rfl
  clear hc hr
  generalize bp i = q at *
  generalize cnt i = x at *
  generalize mst i = y at *
  go_enter Try.func53, Try.ntmps53
  go_wp2
  refine Rgn.wp_region_tail [0, 1, 2, 3, 4, 5, 6, 7, 8, 9, 10, 11, 12, 13, 14, 15, 16, 17] [18] 19 (by kernel_rfl) (by kernel_rfl) ?_
  simp only [List.map_cons, List.map_nil, List.getD_cons_succ, List.getD_cons_zero, List.drop_succ_cons, List.drop_zero]
  repeat (go_big_quiet_step (fail))
  refine wpQuiet_nil ?_
  intro nq
  go_wp2_with fail
  refine (sem_calls q x y (W.drewN nq)).mono ?_
  rintro e w' ⟨⟨p, rfl⟩, hbe⟩
  have HB := Aside0.mk (below_up (below_drewN (Below.refl W.heap.size W) nq) hbe (Nat.le_refl _)); clear hbe
  go_wp2
  refine Rgn.rest_walk ?_
  repeat (go_big_quiet_step (fail))
  refine wpQuiet_nil ?_
  go_wp2
  go_ret
  exact ⟨rfl, HB.out⟩
set_option maxHeartbeats 1000000 in
set_option maxRecDepth 100000 in
theorem one_data (hb : W.cell? ⟨b, 4, none⟩ = some (.slice A n c)) (bp : Nat → Bool) (room : Nat → Int) (hr : Recs W A n 2 fun i => [.bool (bp i), .int .i64 (room i)]) (i : Nat) (hi : i < n) (hn : n ≤ 1000000) :
    Calls Try.prog 56 #[.int .i64 i, .pointer (some ⟨b, 0, none⟩)] W (RetC (datC (room i)) W) := by
  obtain ⟨B, O, rfl, hc⟩ := hr (by omega)
  have x0 : W.cell? ⟨B, O + i * 2, none⟩ = some _ := hc i hi 0 _ rfl
  have x1 := hc i hi 1 _ rfl
  clear hc hr
  generalize bp i = q at *
  generalize room i = x at *
  go_enter Try.func56, Try.ntmps56
  go_wp2
  refine Rgn.wp_region_tail [0, 1, 2, 3, 4, 5, 6, 7, 8, 9, 10, 11] [12] 13 (by kernel_rfl) (by kernel_rfl) ?_
  simp only [List.map_cons, List.map_nil, List.getD_cons_succ, List.getD_cons_zero, List.drop_succ_cons, List.drop_zero]
  repeat (go_big_quiet_step (fail))
  refine wpQuiet_nil ?_
  intro nq
  go_wp2_with fail
  refine (dtq_calls q x (W.drewN nq)).mono ?_
  rintro e w' ⟨⟨p, rfl⟩, hbe⟩
  have HB := Aside0.mk (below_up (below_drewN (Below.refl W.heap.size W) nq) hbe (Nat.le_refl _)); clear hbe
  go_wp2
  refine Rgn.rest_walk ?_
  repeat (go_big_quiet_step (fail))
  refine wpQuiet_nil ?_
  go_wp2
  go_ret
  exact ⟨rfl, HB.out⟩
theorem one_mtx (hb : W.cell? ⟨b, 5, none⟩ = some (.slice A n c)) (attr ceil : Nat → Int) (hr : Recs W A n 2 fun i => [.int .i64 (attr i), .int .i64 (ceil i)]) (i : Nat) (hi : i < n) (hn : n ≤ 1000000) :
    Calls Try.prog 58 #[.int .i64 i, .pointer (some ⟨b, 0, none⟩)] W (RetC (mtxC (attr i) (ceil i)) W) := by
  obtain ⟨B, O, rfl, hc⟩ := hr (by omega)
  have x0 : W.cell? ⟨B, O + i * 2, none⟩ = some _ := hc i hi 0 _ rfl
  have x1 := hc i hi 1 _ rfl
  clear hc hr
  generalize attr i = x at *
  generalize ceil i = y at *
  have HM := Aside0.mk (mtx_calls x y (W.alloc (.cells #[.int .i64 x, .int .i64 y] 89)) W.heap.size (by rw [World.cell?_alloc_at _ _ _ _ rfl]; rfl) (by rw [World.cell?_alloc_at _ _ _ _ rfl]; rfl))
  go_enter Try.func58, Try.ntmps58
  go_wp2_with fail
  refine HM.out.mono ?_
  rintro e w' ⟨⟨p, rfl⟩, hbe⟩
  have HB := Aside0.mk (below_up (below_alloc (Below.refl W.heap.size W) (.cells #[.int .i64 x, .int .i64 y] 89)) hbe (by simp)); clear hbe
  go_wp2
  go_ret
  exact ⟨rfl, HB.out⟩

/-- What a pool's check says: a code; where the next one may begin. -/
def PoolSays (a7 : Nat) (at_ blk siz : Int) (W : World) (e : Ending) (w' : World) : Prop := e = .returned (.int .i64 (poolC at_ blk siz)) ∧ w'.cell? ⟨a7, 0, none⟩ = some (.int .i64 (nx at_ blk siz)) ∧ w'.frozen? ⟨a7, 0, none⟩ = false ∧ Fr W.heap.size (· = a7) W w'
set_option maxHeartbeats 1000000 in
set_option maxRecDepth 100000 in
theorem one_pool (hb : W.cell? ⟨b, 6, none⟩ = some (.slice A n c)) (bp : Nat → Bool) (blk siz : Nat → Int) (hr : Recs W A n 3 fun i => [.bool (bp i), .int .i64 (blk i), .int .i64 (siz i)]) (i : Nat) (hi : i < n) (hn : n ≤ 1000000)
    (a7 : Nat) (at_ : Int) (ha : W.cell? ⟨a7, 0, none⟩ = some (.int .i64 at_)) (hf : W.frozen? ⟨a7, 0, none⟩ = false) (a0 : 0 ≤ at_) (a1 : at_ ≤ 65536) (a2 : at_ % 4 = 0) :
    Calls Try.prog 60 #[.int .i64 i, .pointer (some ⟨a7, 0, none⟩), .pointer (some ⟨b, 0, none⟩)] W (PoolSays a7 at_ (blk i) (siz i) W) := by
  obtain ⟨B, O, rfl, hc⟩ := hr (by omega)
  have x0 : W.cell? ⟨B, O + i * 3, none⟩ = some _ := hc i hi 0 _ rfl
  have x1 := hc i hi 1 _ rfl
  have x2 := hc i hi 2 _ rfl
  clear hc hr
  generalize bp i = q at *
  generalize blk i = x at *
  generalize siz i = y at *
  have HA2 := Aside0.mk a2; clear a2
  have hbl := World.block_lt_of_cell? W _ hb
  have hal := World.block_lt_of_cell? W _ ha
  have hxl := World.block_lt_of_cell? W _ x0
  have HNX := Aside0.mk (show ∃ z, z = nx at_ x y from ⟨_, rfl⟩)
  have HN := Aside0.mk (fun w => next_calls q at_ x y a0 a1 HA2.out w)
  have HP := Aside0.mk (fun w => pool_calls q at_ x y a0 a1 HA2.out w)
  obtain ⟨z, hz⟩ := HNX.out
  rw [← hz] at HN
  have HZ := Aside0.mk hz; clear hz
  clear HNX
  go_enter Try.func60, Try.ntmps60
  go_wp2
  refine Rgn.wp_region_tail [0, 1, 2, 3, 4, 5] [6] 7 (by kernel_rfl) (by kernel_rfl) ?_
  simp only [List.map_cons, List.map_nil, List.getD_cons_succ, List.getD_cons_zero, List.drop_succ_cons, List.drop_zero]
  repeat (go_big_quiet_step (fail))
  refine wpQuiet_nil ?_
  intro nq
  go_wp2_with fail
  refine (HN.out (W.drewN nq)).mono ?_
  rintro e w1 ⟨rfl, hbe⟩
  have HB := Aside0.mk (below_up (below_drewN (Below.refl W.heap.size W) nq) hbe (Nat.le_refl _)); clear hbe
  have hb1 := (HB.out.cell (p := ⟨b, 6, none⟩) hbl).trans hb
  have y0 := (HB.out.cell (p := ⟨B, O + i * 3, none⟩) hxl).trans x0
  have y1 := (HB.out.cell (p := ⟨B, O + i * 3 + 1, none⟩) hxl).trans x1
  have y2 := (HB.out.cell (p := ⟨B, O + i * 3 + 2, none⟩) hxl).trans x2
  go_wp2
  refine Rgn.rest_walk ?_
  repeat (go_big_quiet_step (fail))
  refine wpQuiet_nil ?_
  go_wp2
  refine Rgn.wp_region_tail [0, 1, 2, 3, 4, 5, 6, 7, 8, 9, 10, 11, 12, 13, 14, 15, 16, 17, 18] [19] 20 (by kernel_rfl) (by kernel_rfl) ?_
  simp only [List.map_cons, List.map_nil, List.getD_cons_succ, List.getD_cons_zero, List.drop_succ_cons, List.drop_zero]
  repeat (go_big_quiet_step (fail))
  refine wpQuiet_nil ?_
  intro nq_1
  go_wp2_with fail
  refine (HP.out (w1.drewN nq_1)).mono ?_
  rintro e w2 ⟨⟨p, rfl⟩, hbe⟩
  have HB2 := Aside0.mk (below_up HB.out (below_up (below_drewN (Below.refl w1.heap.size w1) nq_1) hbe (Nat.le_refl _)) HB.out.size); clear hbe
  have z0 := (HB2.out.cell (p := ⟨a7, 0, none⟩) hal).trans ha
  have z1 := (World.frozen?_of_block (a := ⟨a7, 0, none⟩) (HB2.out.block a7 hal)).trans hf
  go_wp2
  refine Rgn.rest_walk ?_
  repeat (go_big_quiet_step (fail))
  refine wpQuiet_nil ?_
  go_wp2
  go_ret
  exact ⟨rfl, by rw [World.cell?_setCell_same _ _ _ z0, HZ.out], by rw [World.frozen?_setCell]; exact z1, (Fr.of_below HB2.out (Nat.le_refl _)).set _ _ (.inl rfl)⟩
/-- What a cyclic handler's check says. -/
def CycOne (B g k m : Nat) (r : Int) (W : World) (e : Ending) (w' : World) : Prop := e = .returned (.int .i64 r) ∧ (r = 0 → Hd B w' g k (m + 1)) ∧ Fr B (· = g) W w'
theorem one_cyc (hb : W.cell? ⟨b, 7, none⟩ = some (.slice A n c)) (per pha : Nat → Int) (ys yk : Nat → Bool) (hr : Recs W A n 4 fun i => [.int .i64 (per i), .int .i64 (pha i), .bool (ys i), .bool (yk i)]) (i : Nat) (hi : i < n) (hn : n ≤ 1000000)
    (h5 B g k m : Nat) (hh : W.cell? ⟨h5, 0, none⟩ = some (.pointer (some ⟨g, 0, none⟩))) (hd : Hd B W g k m) (hm : m < 8) (hBW : B ≤ W.heap.size) :
    Calls Try.prog 63 #[.int .i64 i, .pointer (some ⟨b, 0, none⟩), .pointer (some ⟨h5, 0, none⟩)] W (CycOne B g k m (cycC (per i) (pha i)) W) := by
  obtain ⟨Bx, O, rfl, hc⟩ := hr (by omega)
  have x0 : W.cell? ⟨Bx, O + i * 4, none⟩ = some _ := hc i hi 0 _ rfl
  have x1 := hc i hi 1 _ rfl
  have x2 := hc i hi 2 _ rfl
  have x3 := hc i hi 3 _ rfl
  clear hc hr
  generalize per i = x at *
  generalize pha i = y at *
  generalize ys i = s at *
  generalize yk i = q at *
  have HB := Aside0.mk (below_alloc (Below.refl W.heap.size W) (.cells #[.int .i64 x, .int .i64 y, .bool s, .bool q] 91))
  have hhl := World.block_lt_of_cell? W _ hh
  have hh2 := (HB.out.cell (p := ⟨h5, 0, none⟩) hhl).trans hh
  have HC := Aside0.mk (cyclic_calls (hd.below HB.out) hm (Nat.le_trans hBW HB.out.size) x y s q)
  have HBW := Aside0.mk hBW
  clear hd hBW
  go_enter Try.func63, Try.ntmps63
  go_wp2_with fail
  refine HC.out.mono ?_
  rintro e w' ⟨⟨r, rfl⟩, hd2, fr2⟩
  have H2 := Aside0.mk (And.intro hd2 ((Fr.of_below (X := (· = g)) HB.out HBW.out).trans fr2)); clear hd2 fr2
  go_wp2
  go_ret
  exact ⟨rfl, H2.out.1, H2.out.2⟩
end Go.Proofs.Yteiepbjajennkaa.ConfHand
