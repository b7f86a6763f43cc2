/- What the calls on overruns do: of, New, Start, Stop, Ran, Left, each by what is left of each task. Conditions: none. -/
import Derived.Test.YtgkemmhpfekoaaaPTaskPlaysx0
import Derived.Laws.MakeOwn
namespace Go.Proofs.Ytgkemmhpfekoaaa.WatchHand
set_option linter.unusedVariables false
open Go.RowKit Go.Proofs.YtgkemmhpfekoaaaW.PrintWords Go.Proofs.YtgkemmhpfekoaaaW.PrintLast Go.Proofs.YtgkemmhpfekoaaaW.PrintMore

theorem info43 : (Try.prog.info? 43).map (fun i => (i.zero, i.size, i.bytes)) = some (some (.agg #[.bool false, .int .i64 0]), 2, 16) := by kernel_rfl
/-- A watch at block g over its tasks' times at block b: task i + 1 may run f i; a time of nought is not set. Nothing that was there before w0 has turned. -/
structure Wt (w0 W : World) (g b n : Nat) (f : Nat → Int) : Prop where
  cg : W.cell? ⟨g, 0, none⟩ = some (.slice (some ⟨b, 0, none⟩) n n)
  c0 : ∀ i, i < n → W.cell? ⟨b, i * 2, none⟩ = some (.bool (decide (0 < f i)))
  c1 : ∀ i, i < n → W.cell? ⟨b, i * 2 + 1, none⟩ = some (.int .i64 (f i))
  fr : ∀ j, W.frozen? ⟨b, j, none⟩ = false
  ne : g ≠ b
  gw : w0.heap.size ≤ g
  bw : w0.heap.size ≤ b
  rg : ∀ i, i < n → 0 ≤ f i ∧ f i ≤ 2147483647
  n0 : 1 ≤ n
  n1 : n ≤ 16
  be : Below w0.heap.size w0 W
def upd (f : Nat → Int) (i : Nat) (t : Int) : Nat → Int := fun j => if j = i then t else f j
theorem upd_at (f : Nat → Int) (i : Nat) (t : Int) : upd f i t i = t := if_pos rfl
theorem upd_other (f : Nat → Int) {i j : Nat} (t : Int) (h : j ≠ i) : upd f i t j = f j := if_neg h
variable {w0 W : World} {g b n : Nat} {f : Nat → Int}
/-- One task's time is stored anew, both cells. -/
theorem Wt.store (h : Wt w0 W g b n f) (i : Nat) (hi : i < n) (t : Int) (v : Bool) (hv : v = decide (0 < t)) (t0 : 0 ≤ t) (t1 : t ≤ 2147483647) :
    Wt w0 ((W.setCell ⟨b, i * 2, none⟩ (.bool v)).setCell ⟨b, i * 2 + 1, none⟩ (.int .i64 t)) g b n (upd f i t) := by
  subst hv
  have e0 := h.c0 i hi
  have e1 := h.c1 i hi
  refine ⟨?_, ?_, ?_, ?_, h.ne, h.gw, h.bw, ?_, h.n0, h.n1, ?_⟩
  · rw [World.cell?_setCell_other _ _ _ _ (by intro q; injection q with q; exact h.ne q.symm), World.cell?_setCell_other _ _ _ _ (by intro q; injection q with q; exact h.ne q.symm)]
    exact h.cg
  · intro j hj
    rw [World.cell?_setCell_other _ _ _ _ (by intro q; injection q with _ q; omega)]
    by_cases e : j = i
    · subst e
      rw [World.cell?_setCell_same _ _ _ e0, upd_at]
    · rw [World.cell?_setCell_other _ _ _ _ (by intro q; injection q with _ q; omega), upd_other f t e]
      exact h.c0 j hj
  · intro j hj
    by_cases e : j = i
    · subst e
      rw [World.cell?_setCell_same _ _ _ ((World.cell?_setCell_other _ _ _ _ (by intro q; injection q with _ q; omega)).trans e1), upd_at]
    · rw [World.cell?_setCell_other _ _ _ _ (by intro q; injection q with _ q; omega), World.cell?_setCell_other _ _ _ _ (by intro q; injection q with _ q; omega), upd_other f t e]
      exact h.c1 j hj
  · intro j
    rw [World.frozen?_setCell, World.frozen?_setCell]
    exact h.fr j
  · intro j hj
    by_cases e : j = i
    · subst e; rw [upd_at]; exact ⟨t0, t1⟩
    · rw [upd_other f t e]; exact h.rg j hj
  · exact below_set (below_set h.be h.bw) h.bw
/-- Its time alone is stored anew. -/
theorem Wt.time (h : Wt w0 W g b n f) (i : Nat) (hi : i < n) (t : Int) (hp : 0 < f i) (t0 : 0 < t) (t1 : t ≤ 2147483647) :
    Wt w0 (W.setCell ⟨b, i * 2 + 1, none⟩ (.int .i64 t)) g b n (upd f i t) := by
  have e1 := h.c1 i hi
  refine ⟨?_, ?_, ?_, ?_, h.ne, h.gw, h.bw, ?_, h.n0, h.n1, ?_⟩
  · rw [World.cell?_setCell_other _ _ _ _ (by intro q; injection q with q; exact h.ne q.symm)]
    exact h.cg
  · intro j hj
    rw [World.cell?_setCell_other _ _ _ _ (by intro q; injection q with _ q; omega), h.c0 j hj]
    by_cases e : j = i
    · subst e; rw [upd_at]; simp [hp, t0]
    · rw [upd_other f t e]
  · intro j hj
    by_cases e : j = i
    · subst e
      rw [World.cell?_setCell_same _ _ _ e1, upd_at]
    · rw [World.cell?_setCell_other _ _ _ _ (by intro q; injection q with _ q; omega), upd_other f t e]
      exact h.c1 j hj
  · intro j
    rw [World.frozen?_setCell]
    exact h.fr j
  · intro j hj
    by_cases e : j = i
    · subst e; rw [upd_at]; exact ⟨by omega, t1⟩
    · rw [upd_other f t e]; exact h.rg j hj
  · exact below_set h.be h.bw
theorem Wt.drew (h : Wt w0 W g b n f) : Wt w0 W.drew g b n f := ⟨h.cg, h.c0, h.c1, h.fr, h.ne, h.gw, h.bw, h.rg, h.n0, h.n1, below_drew h.be⟩
theorem Wt.below {W1 : World} (h : Wt w0 W g b n f) (hb : Below W.heap.size W W1) : Wt w0 W1 g b n f := by
  have gl := World.block_lt_of_cell? W _ h.cg
  have bl := World.block_lt_of_cell? W _ (h.c0 0 h.n0)
  refine ⟨(hb.cell (p := ⟨g, 0, none⟩) gl).trans h.cg, fun i hi => (hb.cell (p := ⟨b, i * 2, none⟩) bl).trans (h.c0 i hi), fun i hi => (hb.cell (p := ⟨b, i * 2 + 1, none⟩) bl).trans (h.c1 i hi),
    fun j => (hb.frozen (p := ⟨b, j, none⟩) bl).trans (h.fr j), h.ne, h.gw, h.bw, h.rg, h.n0, h.n1, h.be.trans ⟨hb.os, hb.tape, hb.output, hb.size, fun i hi => hb.block i (Nat.lt_of_lt_of_le hi h.be.size)⟩⟩
theorem made_cells (w : World) (n : Nat) (j : Nat) (hj : j < n * 2) (o : Obj) :
    ((w.alloc (.cells (madeCells (Value.agg #[.bool false, .int .i64 0]).cells (n * 2)) 43)).alloc o).cell? ⟨w.heap.size, j, none⟩ = some (if j % 2 = 0 then .bool false else .int .i64 0) := by
  rw [World.cell?_alloc_past _ _ _ (by simp), World.cell?_alloc_at _ _ _ _ rfl]
  have hz : (Value.agg #[.bool false, .int .i64 0]).cells = #[.bool false, .int .i64 0] := rfl
  rw [hz]
  have : (madeCells #[.bool false, .int .i64 0] (n * 2))[j]? = some (#[Value.bool false, .int .i64 0][j % 2]!) := by
    simp [madeCells, hj]
  rw [this]
  have hm : j % 2 = 0 ∨ j % 2 = 1 := by omega
  rcases hm with e | e <;> rw [e] <;> rfl
theorem Wt.made {w : World} (h : Below w0.heap.size w0 w) (n : Nat) (n0 : 1 ≤ n) (n1 : n ≤ 16) :
    Wt w0 ((w.alloc (.cells (madeCells (Value.agg #[.bool false, .int .i64 0]).cells (n * 2)) 43)).alloc (.cells #[.slice (some ⟨w.heap.size, 0, none⟩) n n] 77)) (w.heap.size + 1) w.heap.size n (fun _ => 0) := by
  refine ⟨?_, ?_, ?_, ?_, by omega, by have := h.size; omega, h.size, fun i hi => ⟨by omega, by omega⟩, n0, n1, below_alloc (below_alloc h _) _⟩
  · rw [World.cell?_alloc_at _ _ _ _ (by simp)]; rfl
  · intro i hi
    rw [made_cells w n _ (by omega), if_pos (by omega)]; rfl
  · intro i hi
    rw [made_cells w n _ (by omega), if_neg (by omega)]
  · intro j
    rw [World.frozen?_alloc_past _ _ _ (by simp), World.frozen?_alloc_at _ _ _ _ rfl]
set_option maxHeartbeats 1000000 in
theorem new_calls (n : Nat) (h0 : 1 ≤ n) (h1 : n ≤ 16) (w : World) :
    Calls Try.prog 15 #[.int .i64 n] w fun e w' => e = .returned (.tuple #[.pointer (some ⟨w.heap.size + 1, 0, none⟩), .int .i64 0]) ∧
      w' = (w.alloc (.cells (madeCells (Value.agg #[.bool false, .int .i64 0]).cells (n * 2)) 43)).alloc (.cells #[.slice (some ⟨w.heap.size, 0, none⟩) n n] 77) := by
  obtain ⟨i0, hi, hz0, hz1, hz2⟩ := info_parts info43
  have hmk := run_make (P := Try.prog) w 75 43 i0 _ Try.underlying75 hi hz0 .i64 .i64 n n (by omega) (by omega) (by rw [hz2]; omega) (by omega)
  rw [hz1, Int.toNat_natCast] at hmk
  clear hi hz0 hz1 hz2
  go_enter Try.func15, Try.ntmps15
  go_wp2
  go_ret2
  exact ⟨rfl, rfl⟩
set_option maxHeartbeats 1000000 in
theorem new_no (n : Int) (h : n < 1 ∨ 16 < n) (w : World) :
    Calls Try.prog 15 #[.int .i64 n] w fun e w' => e = .returned (.tuple #[.pointer none, .int .i64 (-17)]) ∧ w' = w := by
  by_cases h0 : n < 1
  · clear h
    go_enter Try.func15, Try.ntmps15
    go_wp2
    go_ret2
    exact ⟨rfl, rfl⟩
  · have h1 : 16 < n := by omega
    clear h
    go_enter Try.func15, Try.ntmps15
    go_wp2
    go_ret2
    exact ⟨rfl, rfl⟩
theorem of_in (g b n i : Nat) (hn : n ≤ 16) (hi : i < n) (t : Int) (ht : t = i + 1) (w : World) (hc : w.cell? ⟨g, 0, none⟩ = some (.slice (some ⟨b, 0, none⟩) n n)) :
    Calls Try.prog 38 #[.pointer (some ⟨g, 0, none⟩), .int .i64 t] w fun e w' => e = .returned (.pointer (some ⟨b, i * 2, none⟩)) ∧ w = w' := by
  subst ht
  go_enter Try.func38, Try.ntmps38
  go_wp2
  go_ret
  exact ⟨rfl, rfl⟩
theorem of_out (g b n : Nat) (hn : n ≤ 16) (t : Int) (ht : t < 1 ∨ n < t) (w : World) (hc : w.cell? ⟨g, 0, none⟩ = some (.slice (some ⟨b, 0, none⟩) n n)) :
    Calls Try.prog 38 #[.pointer (some ⟨g, 0, none⟩), .int .i64 t] w fun e w' => e = .returned (.pointer none) ∧ w = w' := by
  by_cases h0 : t < 1
  · clear ht
    go_enter Try.func38, Try.ntmps38
    go_wp2
    go_ret
    exact ⟨rfl, rfl⟩
  · have h1 : (n : Int) < t := by omega
    clear ht
    go_enter Try.func38, Try.ntmps38
    go_wp2
    go_ret
    exact ⟨rfl, rfl⟩
set_option maxHeartbeats 1000000 in
theorem start_out (h : Wt w0 W g b n f) (t d : Int) (ht : t < 1 ∨ n < t) :
    Calls Try.prog 16 #[.pointer (some ⟨g, 0, none⟩), .int .i64 t, .int .i64 d] W fun e w' => e = .returned (.int .i64 (-18)) ∧ Wt w0 w' g b n f ∧ KeepBut W w' b none := by
  have H := Aside0.mk h; clear h
  have HT := Aside0.mk ht; clear ht
  go_enter Try.func16, Try.ntmps16
  go_wp2_with fail
  refine (of_out g b n H.out.n1 t HT.out W H.out.cg).mono ?_
  rintro e w' ⟨rfl, rfl⟩
  go_wp2
  go_ret
  exact ⟨rfl, H.out, (by repeat (first | exact KeepBut.refl _ _ _ | apply KeepBut.set_))⟩
set_option maxHeartbeats 1000000 in
theorem start_par (h : Wt w0 W g b n f) (i : Nat) (hi : i < n) (t d : Int) (ht : t = i + 1) (hd : d < 1 ∨ 2147483647 < d) :
    Calls Try.prog 16 #[.pointer (some ⟨g, 0, none⟩), .int .i64 t, .int .i64 d] W fun e w' => e = .returned (.int .i64 (-17)) ∧ Wt w0 w' g b n f ∧ KeepBut W w' b none := by
  have H := Aside0.mk h; clear h
  have HT := Aside0.mk ht; clear ht
  have HI := Aside0.mk hi; clear hi
  by_cases h0 : d < 1
  · clear hd
    go_enter Try.func16, Try.ntmps16
    go_wp2_with fail
    refine (of_in g b n i H.out.n1 HI.out t HT.out W H.out.cg).mono ?_
    rintro e w' ⟨rfl, rfl⟩
    go_wp2
    go_ret
    exact ⟨rfl, H.out, (by repeat (first | exact KeepBut.refl _ _ _ | apply KeepBut.set_))⟩
  · have h1 : 2147483647 < d := by omega
    clear hd
    go_enter Try.func16, Try.ntmps16
    go_wp2_with fail
    refine (of_in g b n i H.out.n1 HI.out t HT.out W H.out.cg).mono ?_
    rintro e w' ⟨rfl, rfl⟩
    go_wp2
    go_ret
    exact ⟨rfl, H.out, (by repeat (first | exact KeepBut.refl _ _ _ | apply KeepBut.set_))⟩
set_option maxHeartbeats 1000000 in
theorem start_in (h : Wt w0 W g b n f) (i : Nat) (hi : i < n) (t d : Int) (ht : t = i + 1) (d0 : 1 ≤ d) (d1 : d ≤ 2147483647) :
    Calls Try.prog 16 #[.pointer (some ⟨g, 0, none⟩), .int .i64 t, .int .i64 d] W fun e w' => e = .returned (.int .i64 0) ∧ Wt w0 w' g b n (upd f i d) ∧ KeepBut W w' b none := by
  have p0 := h.c0 i hi
  have p1 := h.c1 i hi
  have q0 := h.fr (i * 2)
  have q1 := h.fr (i * 2 + 1)
  have HS := Aside0.mk (h.store i hi d true (by simp; omega) (by omega) d1)
  have H := Aside0.mk h; clear h
  have HT := Aside0.mk ht; clear ht
  have HI := Aside0.mk hi; clear hi
  have hu43 := Try.underlying43
  go_enter Try.func16, Try.ntmps16
  go_wp2_with fail
  refine (of_in g b n i H.out.n1 HI.out t HT.out W H.out.cg).mono ?_
  rintro e w' ⟨rfl, rfl⟩
  go_wp2
  go_ret
  exact ⟨rfl, HS.out, (by repeat (first | exact KeepBut.refl _ _ _ | apply KeepBut.set_))⟩
set_option maxHeartbeats 1000000 in
theorem ran_in (h : Wt w0 W g b n f) (i : Nat) (hi : i < n) (t d : Int) (ht : t = i + 1) (d0 : 0 ≤ d) (d1 : d ≤ 2147483647) :
    Calls Try.prog 17 #[.pointer (some ⟨g, 0, none⟩), .int .i64 t, .int .i64 d] W fun e w' => e = .returned (.tuple #[.bool (decide (0 < f i ∧ f i ≤ d)), .int .i64 0]) ∧ Wt w0 w' g b n (upd f i (if d < f i then f i - d else 0)) ∧ KeepBut W w' b none := by
  have p0 := h.c0 i hi
  have p1 := h.c1 i hi
  have q0 := h.fr (i * 2)
  have q1 := h.fr (i * 2 + 1)
  have hr := h.rg i hi
  have hu43 := Try.underlying43
  have HT := Aside0.mk ht; clear ht
  have HI := Aside0.mk hi
  by_cases z : f i = 0
  · have e1 : upd f i (if d < f i then f i - d else 0) = f := by
      funext j
      by_cases e : j = i
      · subst e; rw [upd_at, if_neg (by omega), z]
      · rw [upd_other f _ e]
    have e2 : decide (0 < f i ∧ f i ≤ d) = false := by simp; omega
    rw [e1, e2]
    have hn : decide (0 < f i) = false := by simp; omega
    rw [hn] at p0
    have H := Aside0.mk h; clear h e1 e2 hn z hi
    go_enter Try.func17, Try.ntmps17
    go_wp2_with fail
    refine (of_in g b n i H.out.n1 HI.out t HT.out W H.out.cg).mono ?_
    rintro e w' ⟨rfl, rfl⟩
    go_wp2
    go_ret2
    exact ⟨rfl, H.out, (by repeat (first | exact KeepBut.refl _ _ _ | apply KeepBut.set_))⟩
  · have hp : 0 < f i := by omega
    have hn : decide (0 < f i) = true := by simp; omega
    rw [hn] at p0
    by_cases c : d < f i
    · have e2 : decide (0 < f i ∧ f i ≤ d) = false := by simp; omega
      have HS := Aside0.mk (h.time i hi (f i - d) hp (by omega) (by omega))
      rw [if_pos c, e2]
      have H := Aside0.mk h; clear h e2 hn z hi
      generalize f i = v at *
      go_enter Try.func17, Try.ntmps17
      go_wp2_with fail
      refine (of_in g b n i H.out.n1 HI.out t HT.out W H.out.cg).mono ?_
      rintro e w' ⟨rfl, rfl⟩
      go_wp2
      go_ret2
      exact ⟨rfl, HS.out, (by repeat (first | exact KeepBut.refl _ _ _ | apply KeepBut.set_))⟩
    · have e2 : decide (0 < f i ∧ f i ≤ d) = true := by simp; omega
      have HS := Aside0.mk (h.store i hi 0 false rfl (by omega) (by omega))
      rw [if_neg c, e2]
      have H := Aside0.mk h; clear h e2 hn z hi
      generalize f i = v at *
      go_enter Try.func17, Try.ntmps17
      go_wp2_with fail
      refine (of_in g b n i H.out.n1 HI.out t HT.out W H.out.cg).mono ?_
      rintro e w' ⟨rfl, rfl⟩
      go_wp2
      go_ret2
      exact ⟨rfl, HS.out, (by repeat (first | exact KeepBut.refl _ _ _ | apply KeepBut.set_))⟩
set_option maxHeartbeats 1000000 in
theorem ran_out (h : Wt w0 W g b n f) (t d : Int) (ht : t < 1 ∨ n < t) :
    Calls Try.prog 17 #[.pointer (some ⟨g, 0, none⟩), .int .i64 t, .int .i64 d] W fun e w' => e = .returned (.tuple #[.bool false, .int .i64 (-18)]) ∧ Wt w0 w' g b n f ∧ KeepBut W w' b none := by
  have H := Aside0.mk h; clear h
  have HT := Aside0.mk ht; clear ht
  go_enter Try.func17, Try.ntmps17
  go_wp2_with fail
  refine (of_out g b n H.out.n1 t HT.out W H.out.cg).mono ?_
  rintro e w' ⟨rfl, rfl⟩
  go_wp2
  go_ret2
  exact ⟨rfl, H.out, (by repeat (first | exact KeepBut.refl _ _ _ | apply KeepBut.set_))⟩
set_option maxHeartbeats 1000000 in
theorem ran_par (h : Wt w0 W g b n f) (i : Nat) (hi : i < n) (t d : Int) (ht : t = i + 1) (hd : d < 0 ∨ 2147483647 < d) :
    Calls Try.prog 17 #[.pointer (some ⟨g, 0, none⟩), .int .i64 t, .int .i64 d] W fun e w' => e = .returned (.tuple #[.bool false, .int .i64 (-17)]) ∧ Wt w0 w' g b n f ∧ KeepBut W w' b none := by
  have H := Aside0.mk h; clear h
  have HT := Aside0.mk ht; clear ht
  have HI := Aside0.mk hi; clear hi
  by_cases h0 : d < 0
  · clear hd
    go_enter Try.func17, Try.ntmps17
    go_wp2_with fail
    refine (of_in g b n i H.out.n1 HI.out t HT.out W H.out.cg).mono ?_
    rintro e w' ⟨rfl, rfl⟩
    go_wp2
    go_ret2
    exact ⟨rfl, H.out, (by repeat (first | exact KeepBut.refl _ _ _ | apply KeepBut.set_))⟩
  · have h1 : 2147483647 < d := by omega
    clear hd
    go_enter Try.func17, Try.ntmps17
    go_wp2_with fail
    refine (of_in g b n i H.out.n1 HI.out t HT.out W H.out.cg).mono ?_
    rintro e w' ⟨rfl, rfl⟩
    go_wp2
    go_ret2
    exact ⟨rfl, H.out, (by repeat (first | exact KeepBut.refl _ _ _ | apply KeepBut.set_))⟩
set_option maxHeartbeats 1000000 in
theorem stop_in (h : Wt w0 W g b n f) (i : Nat) (hi : i < n) (t : Int) (ht : t = i + 1) :
    Calls Try.prog 19 #[.pointer (some ⟨g, 0, none⟩), .int .i64 t] W fun e w' => e = .returned (.int .i64 0) ∧ Wt w0 w' g b n (upd f i 0) ∧ KeepBut W w' b none := by
  have p0 := h.c0 i hi
  have p1 := h.c1 i hi
  have q0 := h.fr (i * 2)
  have q1 := h.fr (i * 2 + 1)
  have HS := Aside0.mk (h.store i hi 0 false rfl (by omega) (by omega))
  have H := Aside0.mk h; clear h
  have HT := Aside0.mk ht; clear ht
  have HI := Aside0.mk hi; clear hi
  have hu43 := Try.underlying43
  go_enter Try.func19, Try.ntmps19
  go_wp2_with fail
  refine (of_in g b n i H.out.n1 HI.out t HT.out W H.out.cg).mono ?_
  rintro e w' ⟨rfl, rfl⟩
  go_wp2
  go_ret
  exact ⟨rfl, HS.out, (by repeat (first | exact KeepBut.refl _ _ _ | apply KeepBut.set_))⟩
set_option maxHeartbeats 1000000 in
theorem stop_out (h : Wt w0 W g b n f) (t : Int) (ht : t < 1 ∨ n < t) :
    Calls Try.prog 19 #[.pointer (some ⟨g, 0, none⟩), .int .i64 t] W fun e w' => e = .returned (.int .i64 (-18)) ∧ Wt w0 w' g b n f ∧ KeepBut W w' b none := by
  have H := Aside0.mk h; clear h
  have HT := Aside0.mk ht; clear ht
  go_enter Try.func19, Try.ntmps19
  go_wp2_with fail
  refine (of_out g b n H.out.n1 t HT.out W H.out.cg).mono ?_
  rintro e w' ⟨rfl, rfl⟩
  go_wp2
  go_ret
  exact ⟨rfl, H.out, (by repeat (first | exact KeepBut.refl _ _ _ | apply KeepBut.set_))⟩
/-- As ran_in, with what it comes to named. -/
theorem ran_at (h : Wt w0 W g b n f) (i : Nat) (hi : i < n) (t d : Int) (ht : t = i + 1) (d0 : 0 ≤ d) (d1 : d ≤ 2147483647) (v : Int) (hv : f i = v) (r : Bool) (hr : decide (0 < v ∧ v ≤ d) = r) (v' : Int) (hv' : (if d < v then v - d else 0) = v') :
    Calls Try.prog 17 #[.pointer (some ⟨g, 0, none⟩), .int .i64 t, .int .i64 d] W fun e w' => e = .returned (.tuple #[.bool r, .int .i64 0]) ∧ Wt w0 w' g b n (upd f i v') ∧ KeepBut W w' b none := by
  subst hv hr hv'
  exact ran_in h i hi t d ht d0 d1
set_option maxHeartbeats 1000000 in
theorem left_in (h : Wt w0 W g b n f) (i : Nat) (hi : i < n) (t : Int) (ht : t = i + 1) (v : Int) (hv : f i = v) (q : Bool) (hq : decide (0 < v) = q) :
    Calls Try.prog 20 #[.pointer (some ⟨g, 0, none⟩), .int .i64 t] W fun e w' => e = .returned (.tuple #[.agg #[.bool q, .int .i64 v], .int .i64 0]) ∧ Wt w0 w' g b n f ∧ KeepBut W w' b none := by
  have p0 := h.c0 i hi
  have p1 := h.c1 i hi
  rw [hv, hq] at p0
  rw [hv] at p1
  have bl := World.block_lt_of_cell? W _ p0
  have H := Aside0.mk h; clear h
  have HT := Aside0.mk ht; clear ht
  have HI := Aside0.mk hi; clear hi
  have HV := Aside0.mk hv; clear hv
  have HQ := Aside0.mk hq; clear hq
  have hu43 := Try.underlying43
  have hne : b ≠ W.heap.size := by simp at bl; omega
  have p0' := (World.cell?_alloc_past (w := W) (.cells #[.bool false, .int .i64 0] 43) b (i * 2) bl).trans p0
  have p1' := (World.cell?_alloc_past (w := W) (.cells #[.bool false, .int .i64 0] 43) b (i * 2 + 1) bl).trans p1
  have hcg := (H.out.below (below_alloc (Below.refl _ _) (.cells #[.bool false, .int .i64 0] 43))).cg
  go_enter Try.func20, Try.ntmps20
  go_wp2_with fail
  refine (of_in g b n i H.out.n1 HI.out t HT.out _ hcg).mono ?_
  rintro e w' ⟨rfl, rfl⟩
  clear hcg
  go_wp2
  refine bodyPost_ret (v := .tuple #[.agg #[.bool q, .int .i64 v], .int .i64 0]) (by simp [results, Try.results20, go_sem]) rfl ⟨rfl, ?_, ?_⟩
  · exact H.out.below (by repeat (first | exact Below.refl _ _ | apply below_alloc))
  · exact KeepBut.of_below (by repeat (first | exact Below.refl _ _ | apply below_alloc)) _ _
set_option maxHeartbeats 1000000 in
theorem left_out (h : Wt w0 W g b n f) (t : Int) (ht : t < 1 ∨ n < t) :
    Calls Try.prog 20 #[.pointer (some ⟨g, 0, none⟩), .int .i64 t] W fun e w' => e = .returned (.tuple #[.agg #[.bool false, .int .i64 0], .int .i64 (-18)]) ∧ Wt w0 w' g b n f ∧ KeepBut W w' b none := by
  have H := Aside0.mk h; clear h
  have HT := Aside0.mk ht; clear ht
  have hu43 := Try.underlying43
  have hcg := (H.out.below (below_alloc (Below.refl _ _) (.cells #[.bool false, .int .i64 0] 43))).cg
  go_enter Try.func20, Try.ntmps20
  go_wp2_with fail
  refine (of_out g b n H.out.n1 t HT.out _ hcg).mono ?_
  rintro e w' ⟨rfl, rfl⟩
  clear hcg
  go_wp2
  refine bodyPost_ret (v := .tuple #[.agg #[.bool false, .int .i64 0], .int .i64 (-18)]) (by simp [results, Try.results20, go_sem]) rfl ⟨rfl, ?_, ?_⟩
  · exact H.out.below (by repeat (first | exact Below.refl _ _ | apply below_alloc))
  · exact KeepBut.of_below (by repeat (first | exact Below.refl _ _ | apply below_alloc)) _ _
/-- What is left of a task by its number; nought where there is none. -/
def ofT (f : Nat → Int) (n : Nat) (x : Int) : Int := if 1 ≤ x ∧ x ≤ n then f (x - 1).toNat else 0
def sumT (f : Nat → Int) (n : Nat) (xs : List Int) : Int := (xs.map (ofT f n)).sum
theorem sumT_snoc (f : Nat → Int) (n : Nat) (xs : List Int) (k : Nat) (h : k < xs.length) : sumT f n (xs.take (k + 1)) = sumT f n (xs.take k) + ofT f n (xs.getD k 0) := by
  have : xs.getD k 0 = xs[k] := by simp [h]
  rw [this, List.take_succ_eq_append_getElem h]
  simp only [sumT, List.map_append, List.sum_append, List.map_cons, List.map_nil, List.sum_cons, List.sum_nil, Int.add_zero]
theorem ofT_rg (h : Wt w0 W g b n f) (x : Int) : 0 ≤ ofT f n x ∧ ofT f n x ≤ 2147483647 := by
  unfold ofT
  split
  · exact h.rg _ (by omega)
  · omega
theorem sumT_rg (h : Wt w0 W g b n f) (xs : List Int) : 0 ≤ sumT f n xs ∧ sumT f n xs ≤ xs.length * 2147483647 := by
  induction xs with
  | nil => simp [sumT]
  | cons x xs ih =>
    have := ofT_rg h x
    simp only [sumT, List.map_cons, List.sum_cons, List.length_cons] at ih ⊢
    omega
set_option maxHeartbeats 2000000 in
theorem sum_calls (h : Wt w0 W g b n f) (xs : List Int) (hn : xs.length ≤ 1000) (A : Option Addr) (c m : Nat) (hm : m = xs.length) (hr : ReadsInt W .i64 A xs.length xs) (hc : xs.length ≤ c) (s : Int) (hs : sumT f n xs = s) :
    Calls Try.prog 18 #[.pointer (some ⟨g, 0, none⟩), .slice A m c] W fun e w' => e = .returned (.int .i64 s) ∧ w' = W := by
  subst hm hs
  have H := Aside0.mk h; clear h
  have HR := Aside0.mk hr; clear hr
  go_enter Try.func18, Try.ntmps18
  go_wp2_with fail
  go_loop [5, 11] (fun a i => ∃ j : Nat, j ≤ xs.length ∧ i = .int .i64 j ∧ a = .int .i64 (sumT f n (xs.take j))) (fun _ i => xs.length - (intOf i).toNat)
  case atStart => exact ⟨0, Nat.zero_le _, rfl, rfl⟩
  case round =>
    obtain ⟨j, hj, rfl, rfl⟩ := hrel
    by_cases hlt : j < xs.length
    · obtain ⟨ad, hA, hcell⟩ := HR.out.2.2 (by omega)
      have HS := Aside0.mk (sumT_snoc f n xs j hlt)
      have hx := hcell j hlt
      subst hA
      have hg : xs.getD j 0 = xs[j] := by simp [hlt]
      rw [hg] at hx HS
      have hb := sumT_rg H.out (xs.take j)
      have hb2 : (xs.take j).length ≤ 1000 := by rw [List.length_take]; omega
      obtain ⟨hb0, hb1⟩ := hb
      have hb3 : sumT f n (xs.take j) ≤ 2147483647000 := by omega
      clear hcell hg hb1 hb2
      generalize xs[j] = x at hx HS
      generalize sumT f n (xs.take j) = y at *
      by_cases hin : 1 ≤ x ∧ x ≤ n
      · obtain ⟨i, rfl⟩ : ∃ i : Nat, x = (i : Int) + 1 := ⟨(x - 1).toNat, by omega⟩
        have hi : i < n := by omega
        have hv : ofT f n ((i : Int) + 1) = f i := by unfold ofT; rw [if_pos hin]; congr 1; omega
        rw [hv] at HS
        have hfr := H.out.rg i hi
        have p1 := H.out.c1 i hi
        have HI := Aside0.mk hi; clear hi hv hin
        generalize f i = v at *
        go_wp2_with fail
        refine (of_in g b n i H.out.n1 HI.out _ rfl W H.out.cg).mono ?_
        rintro e w' ⟨rfl, rfl⟩
        go_wp2
        go_round
        case rel => exact ⟨j + 1, by omega, by go_num, by rw [HS.out]⟩
        case measure => simp [intOf]; omega
      · have hv : ofT f n x = 0 := by unfold ofT; rw [if_neg hin]
        rw [hv, Int.add_zero] at HS
        have HX := Aside0.mk (show x < 1 ∨ n < x by omega); clear hin hv
        go_wp2_with fail
        refine (of_out g b n H.out.n1 x HX.out W H.out.cg).mono ?_
        rintro e w' ⟨rfl, rfl⟩
        go_wp2
        go_round
        case rel => exact ⟨j + 1, by omega, by go_num, by rw [HS.out]⟩
        case measure => simp [intOf]; omega
    · obtain rfl : j = xs.length := by omega
      have HT := Aside0.mk (show xs.take xs.length = xs from List.take_length)
      rw [HT.out]
      go_wp2
      go_ret
      exact ⟨rfl, rfl⟩
theorem reads_two (w : World) (x y : Int) : ReadsInt (w.alloc (.cells #[.int .i64 x, .int .i64 y] 3)) .i64 (some ⟨w.heap.size, 0, none⟩) [x, y].length [x, y] :=
  ⟨rfl, by simp, fun _ => ⟨_, rfl, fun j hj => by
    have hb : (w.alloc (.cells #[.int .i64 x, .int .i64 y] 3)).heap[w.heap.size]? = some (.cells #[.int .i64 x, .int .i64 y] 3 (0, 0)) := heap_alloc_new w _
    have : j = 0 ∨ j = 1 := by simp at hj; omega
    rcases this with rfl | rfl
    · exact (blk_cell hb 0).trans rfl
    · exact (blk_cell hb 1).trans rfl⟩⟩
theorem Wt.alloc (h : Wt w0 W g b n f) (o : Obj) : Wt w0 (W.alloc o) g b n f := h.below (below_alloc (Below.refl _ _) o)
set_option maxHeartbeats 1000000 in
set_option maxRecDepth 100000 in
theorem known_calls (w : World) : Calls Try.prog 14 #[] w fun e w' => e = .returned (.bool true) ∧ Below w.heap.size w w' := by
  go_enter Try.func14, Try.ntmps14
  go_wp2_with fail
  refine (new_calls 2 (by omega) (by omega) w).mono ?_
  rintro e w1 ⟨rfl, h1⟩
  have h1' := Wt.made (Below.refl w.heap.size w) 2 (by omega) (by omega)
  rw [← h1] at h1'
  have H1 := Aside0.mk h1'; clear h1' h1
  go_wp2_with fail
  refine (start_in H1.out 0 (by omega) 1 5 (by rfl) (by omega) (by omega)).mono ?_
  rintro e w2 ⟨rfl, h2, _⟩
  have H2 := Aside0.mk h2; clear h2
  go_wp2_with fail
  refine (ran_at H2.out 0 (by omega) 1 3 rfl (by omega) (by omega) 5 rfl false rfl 2 rfl).mono ?_
  rintro e w3 ⟨rfl, h3, _⟩
  have H3 := Aside0.mk h3; clear h3
  go_wp2_with fail
  refine (left_in H3.out 0 (by omega) 1 rfl 2 rfl true rfl).mono ?_
  rintro e w4 ⟨rfl, h4, _⟩
  have H4 := Aside0.mk (h4.alloc (.cells #[.bool true, .int .i64 2] 43)); clear h4
  have hb : (w4.alloc (.cells #[.bool true, .int .i64 2] 43)).heap[w4.heap.size]? = some (.cells #[.bool true, .int .i64 2] 43 (0, 0)) := heap_alloc_new w4 _
  have hne : w4.heap.size ≠ w.heap.size := by
    have := World.block_lt_of_cell? _ _ H4.out.cg
    simp at this; omega
  have HB := Aside0.mk hb; clear hb
  have HN := Aside0.mk hne; clear hne
  go_wp2_with fail
  refine (ran_at H4.out 0 (by omega) 1 9 rfl (by omega) (by omega) 2 rfl true rfl 0 rfl).mono ?_
  rintro e w5 ⟨rfl, h5, k5⟩
  have HB5 := Aside0.mk (k5.blk HB.out HN.out (by simp)); clear HB k5
  have H5 := Aside0.mk h5; clear h5
  go_wp2_with fail
  refine (ran_at H5.out 0 (by omega) 1 9 rfl (by omega) (by omega) 0 rfl false rfl 0 rfl).mono ?_
  rintro e w6 ⟨rfl, h6, k6⟩
  have HB6 := Aside0.mk (k6.blk HB5.out HN.out (by simp)); clear HB5 k6
  have H6 := Aside0.mk h6; clear h6
  go_wp2_with fail
  refine (start_out H6.out 3 1 (by omega)).mono ?_
  rintro e w7 ⟨rfl, h7, k7⟩
  have HB7 := Aside0.mk (k7.blk HB6.out HN.out (by simp)); clear HB6 k7
  have H7 := Aside0.mk h7; clear h7
  have c0 : w7.cell? ⟨w4.heap.size, 0, none⟩ = some (.bool true) := (blk_cell HB7.out 0).trans rfl
  have c1 : w7.cell? ⟨w4.heap.size, 1, none⟩ = some (.int .i64 2) := (blk_cell HB7.out 1).trans rfl
  go_wp2_with fail
  refine (sum_calls (H7.out.alloc _) [1, 2] (by decide) _ 2 2 rfl (reads_two w7 1 2) (by decide) 0 rfl).mono ?_
  rintro e w8 ⟨rfl, rfl⟩
  go_wp2
  go_ret
  exact ⟨rfl, below_alloc H7.out.be _⟩
end Go.Proofs.Ytgkemmhpfekoaaa.WatchHand
