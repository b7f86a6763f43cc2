/- Any calls on overruns: what is left of each task, when it is over, once; sums of any tasks: the walk of WatchPlays. Conditions: none. -/
import Derived.Test.YtgkemmhpfekoaaaWatchBase
import Derived.OwnWalk
import Derived.RegionTactic
import Derived.BigRegion
import Derived.ChangeAlike
import Derived.Deep.QuietTactic
import Derived.BigQuiet
namespace Go.Proofs.Ytgkemmhpfekoaaa.WatchHand
set_option linter.unusedVariables false
open Go.RowKit Go.Proofs.YtgkemmhpfekoaaaW.PrintWords Go.Proofs.YtgkemmhpfekoaaaW.PrintLast Go.Proofs.YtgkemmhpfekoaaaW.PrintMore
/-- A row of three numbers each, as it came in. -/
def Recs (W : World) (a : Option Addr) (len cap : Nat) (F : Nat → Nat → Int) : Prop :=
  len ≤ cap ∧ cap ≤ maxLen ∧ (0 < len → ∃ B O, a = some ⟨B, O, none⟩ ∧ ∀ i, i < len → ∀ j, j < 3 → W.cell? ⟨B, O + i * 3 + j, none⟩ = some (.int .i64 (F i j))) ∧ ∀ i, i < len → ∀ j, j < 3 → (Lit.int .i64 (F i j)).wf = true
variable {w0 W : World} {g b n : Nat} {f : Nat → Int}
/-- What the law itself keeps of each task, in an array at block L. -/
structure Lf (w0 W : World) (L n : Nat) (f : Nat → Int) : Prop where
  c : ∀ t, t < 17 → W.cell? ⟨L, t, none⟩ = some (.int .i64 (ofT f n (t : Int)))
  fr : ∀ t, W.frozen? ⟨L, t, none⟩ = false
  lw : w0.heap.size ≤ L
theorem ofT_in (f : Nat → Int) {n i : Nat} (h : i < n) : ofT f n ((i + 1 : Nat) : Int) = f i := by
  unfold ofT
  rw [if_pos (by omega)]
  congr 1; omega
theorem Lf.lt {L : Nat} (h : Lf w0 W L n f) : L < W.heap.size := World.block_lt_of_cell? W _ (h.c 0 (by omega))
theorem Lf.store {L : Nat} (h : Lf w0 W L n f) (i : Nat) (hi : i < n) (hn : n ≤ 16) (v : Int) : Lf w0 (W.setCell ⟨L, i + 1, none⟩ (.int .i64 v)) L n (upd f i v) := by
  refine ⟨fun t ht => ?_, fun t => by rw [World.frozen?_setCell]; exact h.fr t, h.lw⟩
  by_cases e : t = i + 1
  · subst e
    rw [World.cell?_setCell_same _ _ _ (h.c _ ht), ofT_in _ hi, upd_at]
  · rw [World.cell?_setCell_other _ _ _ _ (by intro q; injection q with _ q; omega), h.c t ht]
    congr 2
    unfold ofT
    split
    · rw [upd_other f v (by omega)]
    · rfl
theorem Lf.keep {L : Nat} {w' : World} (h : Lf w0 W L n f) (k : KeepBut W w' b none) (hne : L ≠ b) : Lf w0 w' L n f := by
  have e := k.2 L h.lt hne (by simp)
  exact ⟨fun t ht => (World.cell?_of_block (a := ⟨L, t, none⟩) e).trans (h.c t ht), fun t => (World.frozen?_of_block (a := ⟨L, t, none⟩) e).trans (h.fr t), h.lw⟩
theorem Lf.below {L : Nat} {w' : World} (h : Lf w0 W L n f) (k : Below W.heap.size W w') : Lf w0 w' L n f := by
  have e := k.block L h.lt
  exact ⟨fun t ht => (World.cell?_of_block (a := ⟨L, t, none⟩) e).trans (h.c t ht), fun t => (World.frozen?_of_block (a := ⟨L, t, none⟩) e).trans (h.fr t), h.lw⟩
theorem Lf.alloc {L : Nat} (h : Lf w0 W L n f) (o : Obj) : Lf w0 (W.alloc o) L n f := h.below (below_alloc (Below.refl _ _) o)
theorem Lf.drew {L : Nat} (h : Lf w0 W L n f) : Lf w0 W.drew L n f := h.below (below_drew (Below.refl _ _))
theorem Lf.congr {L : Nat} {f' : Nat → Int} (h : Lf w0 W L n f) (e : ∀ i, i < n → f i = f' i) : Lf w0 W L n f' := by
  refine ⟨fun t ht => (h.c t ht).trans ?_, h.fr, h.lw⟩
  congr 2
  unfold ofT
  split
  · exact e _ (by omega)
  · rfl
/-- Another block is written. -/
theorem Wt.other (h : Wt w0 W g b n f) {L : Nat} (o : Nat) (v : Value) (hg : g ≠ L) (hb : b ≠ L) (hL : w0.heap.size ≤ L) : Wt w0 (W.setCell ⟨L, o, none⟩ v) g b n f :=
  ⟨by rw [World.cell?_setCell_other _ _ _ _ (by intro q; injection q with q; exact hg q.symm)]; exact h.cg,
   fun i hi => by rw [World.cell?_setCell_other _ _ _ _ (by intro q; injection q with q; exact hb q.symm)]; exact h.c0 i hi,
   fun i hi => by rw [World.cell?_setCell_other _ _ _ _ (by intro q; injection q with q; exact hb q.symm)]; exact h.c1 i hi,
   fun j => by rw [World.frozen?_setCell]; exact h.fr j, h.ne, h.gw, h.bw, h.rg, h.n0, h.n1, below_set h.be hL⟩
theorem Wt.congr {f' : Nat → Int} (h : Wt w0 W g b n f) (e : ∀ i, i < n → f i = f' i) : Wt w0 W g b n f' :=
  ⟨h.cg, fun i hi => (h.c0 i hi).trans (by rw [e i hi]), fun i hi => (h.c1 i hi).trans (by rw [e i hi]), h.fr, h.ne, h.gw, h.bw, fun i hi => (e i hi) ▸ h.rg i hi, h.n0, h.n1, h.be⟩
theorem Lf.drewn {L : Nat} (h : Lf w0 W L n f) (k : Nat) : Lf w0 (W.drewN k) L n f := ⟨h.c, h.fr, h.lw⟩
theorem Wt.drewn (h : Wt w0 W g b n f) (k : Nat) : Wt w0 (W.drewN k) g b n f := ⟨h.cg, h.c0, h.c1, h.fr, h.ne, h.gw, h.bw, h.rg, h.n0, h.n1, ⟨h.be.os, h.be.tape, h.be.output, h.be.size, h.be.block⟩⟩
theorem zeros17 (w : World) (h : Below w0.heap.size w0 w) (n : Nat) : Lf w0 (w.alloc (.cells #[.int .i64 0, .int .i64 0, .int .i64 0, .int .i64 0, .int .i64 0, .int .i64 0, .int .i64 0, .int .i64 0, .int .i64 0, .int .i64 0, .int .i64 0, .int .i64 0, .int .i64 0, .int .i64 0, .int .i64 0, .int .i64 0, .int .i64 0] 38)) w.heap.size n (fun _ => 0) := by
  refine ⟨fun t ht => ?_, fun t => ?_, h.size⟩
  · have e : ofT (fun _ => 0) n (t : Int) = 0 := by unfold ofT; split <;> rfl
    rw [World.cell?_alloc_at _ _ _ _ rfl, e]
    match t, ht with
    | 0, _ => rfl
    | 1, _ => rfl
    | 2, _ => rfl
    | 3, _ => rfl
    | 4, _ => rfl
    | 5, _ => rfl
    | 6, _ => rfl
    | 7, _ => rfl
    | 8, _ => rfl
    | 9, _ => rfl
    | 10, _ => rfl
    | 11, _ => rfl
    | 12, _ => rfl
    | 13, _ => rfl
    | 14, _ => rfl
    | 15, _ => rfl
    | 16, _ => rfl
    | k + 17, h => omega
  · rw [World.frozen?_alloc_at _ _ _ _ rfl]
set_option maxHeartbeats 8000000 in
set_option maxRecDepth 100000 in
theorem plays_in (n : Nat) (n0 : 1 ≤ n) (n1 : n ≤ 16) (A : Option Addr) (len cap : Nat) (F : Nat → Nat → Int) (ss : List Int) (SA : Option Addr) (sc : Nat) (hl : len ≤ 100) (hs : ss.length ≤ 40) (w : World) (hR : Recs w A len cap F) (hS : ReadsInt w .i64 SA ss.length ss) (hsc : ss.length ≤ sc) :
    Calls Try.prog 5 #[.int .i64 n, .slice A len cap, .slice SA ss.length sc] w fun e w' => e = .returned (.bool true) ∧ Below w.heap.size w w' := by
  have HR := Aside0.mk hR; clear hR
  have HS := Aside0.mk hS; clear hS
  go_enter Try.func5, Try.ntmps5
  go_wp2_with fail
  refine (known_calls w).mono ?_
  rintro e w1 ⟨rfl, h1⟩
  have H1 := Aside0.mk h1; clear h1
  go_wp2_with fail
  refine (new_calls n n0 n1 w1).mono ?_
  rintro e w2 ⟨rfl, h2⟩
  have h2' := Wt.made H1.out n n0 n1
  rw [← h2] at h2'
  have H2 := Aside0.mk h2'; clear h2' h2
  have HA2 := Aside0.mk (H2.out.below (below_alloc (Below.refl _ _) (.cells #[.int .i64 0, .int .i64 0, .int .i64 0, .int .i64 0, .int .i64 0, .int .i64 0, .int .i64 0, .int .i64 0, .int .i64 0, .int .i64 0, .int .i64 0, .int .i64 0, .int .i64 0, .int .i64 0, .int .i64 0, .int .i64 0, .int .i64 0] 38)))
  have HL2 := Aside0.mk (zeros17 (w0 := w) w2 H2.out.be n)
  obtain ⟨L, hL⟩ : ∃ L, w2.heap.size = L := ⟨_, rfl⟩
  have gl := World.block_lt_of_cell? w2 _ H2.out.cg
  have bl := World.block_lt_of_cell? w2 _ (H2.out.c0 0 n0)
  have HNE := Aside0.mk (show (w1.heap.size + 1) ≠ L ∧ w1.heap.size ≠ L from ⟨by simp at gl; omega, by simp at bl; omega⟩)
  clear gl bl
  rw [hL] at HL2
  go_wp2
  go_loopw [10] (fun i w' => ∃ (j : Nat) (f : Nat → Int), j ≤ len ∧ i = .int .i64 j ∧ Aside0 (Wt w w' (w1.heap.size + 1) w1.heap.size n f) ∧ Aside0 (Lf w w' L n f)) (fun i _ => len - (intOf i).toNat)
  case atStart => exact ⟨0, _, Nat.zero_le _, rfl, HA2, HL2⟩
  case round =>
    clear HA2 HL2 H2
    obtain ⟨j, f, hj, rfl, HW, HLj⟩ := hrel
    by_cases hlt : j < len
    · obtain ⟨B, O, hA, hc⟩ := HR.out.2.2.1 (by omega)
      subst hA
      have x0 := hc j hlt 0 (by omega)
      have x1 := hc j hlt 1 (by omega)
      have x2 := hc j hlt 2 (by omega)
      have hB := World.block_lt_of_cell? w _ x0
      have x0 := (HW.out.be.cell (p := ⟨B, O + j * 3 + 0, none⟩) hB).trans x0
      have x1 := (HW.out.be.cell (p := ⟨B, O + j * 3 + 1, none⟩) hB).trans x1
      have x2 := (HW.out.be.cell (p := ⟨B, O + j * 3 + 2, none⟩) hB).trans x2
      rw [Nat.add_zero] at x0
      clear hc hB
      generalize F j 0 = op at *
      generalize F j 1 = task at *
      generalize F j 2 = d at *
      have ncl : wr.heap.size ≠ L := by have := HLj.out.lt; omega
      have HCN := Aside0.mk (show wr.heap.size ≠ w1.heap.size by have := World.block_lt_of_cell? wr _ (HW.out.c0 0 n0); simp at this; omega)
      have HWA := Aside0.mk (HW.out.below (below_alloc (Below.refl _ _) (.cells #[.int .i64 op, .int .i64 task, .int .i64 d] 40)))
      have HLA := Aside0.mk (HLj.out.alloc (.cells #[.int .i64 op, .int .i64 task, .int .i64 d] 40))
      have HCB := Aside0.mk (show (wr.alloc (.cells #[.int .i64 op, .int .i64 task, .int .i64 d] 40)).heap[wr.heap.size]? = some (.cells #[.int .i64 op, .int .i64 task, .int .i64 d] 40 (0, 0)) from heap_alloc_new wr _)
      by_cases t0 : task < 1
      · have HTO := Aside0.mk (show task < 1 ∨ (n : Int) < task from .inl t0)
        by_cases o1 : op = 1
        · subst o1
          as_aux_lemma =>
            go_wp2_with fail
            refine (start_out HWA.out task d HTO.out).mono ?_
            rintro e w4 ⟨rfl, h4, k4⟩
            have hb4 := k4.blk HCB.out HCN.out (by simp)
            have d0 : w4.cell? ⟨wr.heap.size, 0, none⟩ = some (.int .i64 1) := (blk_cell hb4 0).trans rfl
            have d1 : w4.cell? ⟨wr.heap.size, 1, none⟩ = some (.int .i64 task) := (blk_cell hb4 1).trans rfl
            have d2 : w4.cell? ⟨wr.heap.size, 2, none⟩ = some (.int .i64 d) := (blk_cell hb4 2).trans rfl
            have HL4 := Aside0.mk (HLA.out.keep k4 HNE.out.2.symm)
            have H4 := Aside0.mk h4
            have HSZ := Aside0.mk k4.1
            clear h4 k4 hb4
            go_wp2
            go_roundw
            case rel => exact ⟨j + 1, f, by omega, by go_num, ⟨H4.out⟩, ⟨HL4.out⟩⟩
            case measure => simp [intOf]; omega
        · have b1 : (op == 1) = false := beq_eq_false_iff_ne.2 o1
          by_cases o2 : op = 2
          · subst o2
            as_aux_lemma =>
              go_wp2_with fail
              refine (stop_out HWA.out task HTO.out).mono ?_
              rintro e w4 ⟨rfl, h4, k4⟩
              have hb4 := k4.blk HCB.out HCN.out (by simp)
              have d0 : w4.cell? ⟨wr.heap.size, 0, none⟩ = some (.int .i64 2) := (blk_cell hb4 0).trans rfl
              have d1 : w4.cell? ⟨wr.heap.size, 1, none⟩ = some (.int .i64 task) := (blk_cell hb4 1).trans rfl
              have d2 : w4.cell? ⟨wr.heap.size, 2, none⟩ = some (.int .i64 d) := (blk_cell hb4 2).trans rfl
              have HL4 := Aside0.mk (HLA.out.keep k4 HNE.out.2.symm)
              have H4 := Aside0.mk h4
              have HSZ := Aside0.mk k4.1
              clear h4 k4 hb4
              go_wp2
              go_roundw
              case rel => exact ⟨j + 1, f, by omega, by go_num, ⟨H4.out⟩, ⟨HL4.out⟩⟩
              case measure => simp [intOf]; omega
          · have b2 : (op == 2) = false := beq_eq_false_iff_ne.2 o2
            by_cases o3 : op = 3
            · subst o3
              as_aux_lemma =>
                go_wp2_with fail
                refine (ran_out HWA.out task d HTO.out).mono ?_
                rintro e w4 ⟨rfl, h4, k4⟩
                have hb4 := k4.blk HCB.out HCN.out (by simp)
                have d0 : w4.cell? ⟨wr.heap.size, 0, none⟩ = some (.int .i64 3) := (blk_cell hb4 0).trans rfl
                have d1 : w4.cell? ⟨wr.heap.size, 1, none⟩ = some (.int .i64 task) := (blk_cell hb4 1).trans rfl
                have d2 : w4.cell? ⟨wr.heap.size, 2, none⟩ = some (.int .i64 d) := (blk_cell hb4 2).trans rfl
                have HL4 := Aside0.mk (HLA.out.keep k4 HNE.out.2.symm)
                have H4 := Aside0.mk h4
                have HSZ := Aside0.mk k4.1
                clear h4 k4 hb4
                go_wp2
                go_roundw
                case rel => exact ⟨j + 1, f, by omega, by go_num, ⟨H4.out⟩, ⟨HL4.out⟩⟩
                case measure => simp [intOf]; omega
            · have b3 : (op == 3) = false := beq_eq_false_iff_ne.2 o3
              go_wp2
              go_roundw
              case rel => exact ⟨j + 1, f, by omega, by go_num, ⟨HWA.out⟩, ⟨HLA.out⟩⟩
              case measure => simp [intOf]; omega
      · by_cases t1 : (n : Int) < task
        · have HTO := Aside0.mk (show task < 1 ∨ (n : Int) < task from .inr t1)
          have g1 : decide (1 ≤ task) = true := decide_eq_true (by omega)
          have g2 : decide (task ≤ (n : Int)) = false := decide_eq_false (by omega)
          by_cases o1 : op = 1
          · subst o1
            as_aux_lemma =>
              go_wp2_with fail
              refine (start_out HWA.out task d HTO.out).mono ?_
              rintro e w4 ⟨rfl, h4, k4⟩
              have hb4 := k4.blk HCB.out HCN.out (by simp)
              have d0 : w4.cell? ⟨wr.heap.size, 0, none⟩ = some (.int .i64 1) := (blk_cell hb4 0).trans rfl
              have d1 : w4.cell? ⟨wr.heap.size, 1, none⟩ = some (.int .i64 task) := (blk_cell hb4 1).trans rfl
              have d2 : w4.cell? ⟨wr.heap.size, 2, none⟩ = some (.int .i64 d) := (blk_cell hb4 2).trans rfl
              have HL4 := Aside0.mk (HLA.out.keep k4 HNE.out.2.symm)
              have H4 := Aside0.mk h4
              have HSZ := Aside0.mk k4.1
              clear h4 k4 hb4
              go_wp2
              go_roundw
              case rel => exact ⟨j + 1, f, by omega, by go_num, ⟨H4.out⟩, ⟨HL4.out⟩⟩
              case measure => simp [intOf]; omega
          · have b1 : (op == 1) = false := beq_eq_false_iff_ne.2 o1
            by_cases o2 : op = 2
            · subst o2
              as_aux_lemma =>
                go_wp2_with fail
                refine (stop_out HWA.out task HTO.out).mono ?_
                rintro e w4 ⟨rfl, h4, k4⟩
                have hb4 := k4.blk HCB.out HCN.out (by simp)
                have d0 : w4.cell? ⟨wr.heap.size, 0, none⟩ = some (.int .i64 2) := (blk_cell hb4 0).trans rfl
                have d1 : w4.cell? ⟨wr.heap.size, 1, none⟩ = some (.int .i64 task) := (blk_cell hb4 1).trans rfl
                have d2 : w4.cell? ⟨wr.heap.size, 2, none⟩ = some (.int .i64 d) := (blk_cell hb4 2).trans rfl
                have HL4 := Aside0.mk (HLA.out.keep k4 HNE.out.2.symm)
                have H4 := Aside0.mk h4
                have HSZ := Aside0.mk k4.1
                clear h4 k4 hb4
                go_wp2
                go_roundw
                case rel => exact ⟨j + 1, f, by omega, by go_num, ⟨H4.out⟩, ⟨HL4.out⟩⟩
                case measure => simp [intOf]; omega
            · have b2 : (op == 2) = false := beq_eq_false_iff_ne.2 o2
              by_cases o3 : op = 3
              · subst o3
                as_aux_lemma =>
                  go_wp2_with fail
                  refine (ran_out HWA.out task d HTO.out).mono ?_
                  rintro e w4 ⟨rfl, h4, k4⟩
                  have hb4 := k4.blk HCB.out HCN.out (by simp)
                  have d0 : w4.cell? ⟨wr.heap.size, 0, none⟩ = some (.int .i64 3) := (blk_cell hb4 0).trans rfl
                  have d1 : w4.cell? ⟨wr.heap.size, 1, none⟩ = some (.int .i64 task) := (blk_cell hb4 1).trans rfl
                  have d2 : w4.cell? ⟨wr.heap.size, 2, none⟩ = some (.int .i64 d) := (blk_cell hb4 2).trans rfl
                  have HL4 := Aside0.mk (HLA.out.keep k4 HNE.out.2.symm)
                  have H4 := Aside0.mk h4
                  have HSZ := Aside0.mk k4.1
                  clear h4 k4 hb4
                  go_wp2
                  go_roundw
                  case rel => exact ⟨j + 1, f, by omega, by go_num, ⟨H4.out⟩, ⟨HL4.out⟩⟩
                  case measure => simp [intOf]; omega
              · have b3 : (op == 3) = false := beq_eq_false_iff_ne.2 o3
                go_wp2
                go_roundw
                case rel => exact ⟨j + 1, f, by omega, by go_num, ⟨HWA.out⟩, ⟨HLA.out⟩⟩
                case measure => simp [intOf]; omega
        · obtain ⟨i, rfl⟩ : ∃ i : Nat, task = (i : Int) + 1 := ⟨(task - 1).toNat, by omega⟩
          have hi : i < n := by omega
          by_cases o1 : op = 1
          · subst o1
            by_cases q0 : d < 1
            · as_aux_lemma =>
                go_wp2_with fail
                refine (start_par HWA.out i hi _ d rfl (.inl q0)).mono ?_
                rintro e w4 ⟨rfl, h4, k4⟩
                have hb4 := k4.blk HCB.out HCN.out (by simp)
                have d0 : w4.cell? ⟨wr.heap.size, 0, none⟩ = some (.int .i64 1) := (blk_cell hb4 0).trans rfl
                have d1 : w4.cell? ⟨wr.heap.size, 1, none⟩ = some (.int .i64 ((i : Int) + 1)) := (blk_cell hb4 1).trans rfl
                have d2 : w4.cell? ⟨wr.heap.size, 2, none⟩ = some (.int .i64 d) := (blk_cell hb4 2).trans rfl
                have HL4 := Aside0.mk (HLA.out.keep k4 HNE.out.2.symm)
                have H4 := Aside0.mk h4
                have HSZ := Aside0.mk k4.1
                clear h4 k4 hb4
                go_wp2
                go_roundw
                case rel => exact ⟨j + 1, f, by omega, by go_num, ⟨H4.out⟩, ⟨HL4.out⟩⟩
                case measure => simp [intOf]; omega
            · by_cases q1 : 2147483647 < d
              · as_aux_lemma =>
                  go_wp2_with fail
                  refine (start_par HWA.out i hi _ d rfl (.inr q1)).mono ?_
                  rintro e w4 ⟨rfl, h4, k4⟩
                  have hb4 := k4.blk HCB.out HCN.out (by simp)
                  have d0 : w4.cell? ⟨wr.heap.size, 0, none⟩ = some (.int .i64 1) := (blk_cell hb4 0).trans rfl
                  have d1 : w4.cell? ⟨wr.heap.size, 1, none⟩ = some (.int .i64 ((i : Int) + 1)) := (blk_cell hb4 1).trans rfl
                  have d2 : w4.cell? ⟨wr.heap.size, 2, none⟩ = some (.int .i64 d) := (blk_cell hb4 2).trans rfl
                  have HL4 := Aside0.mk (HLA.out.keep k4 HNE.out.2.symm)
                  have H4 := Aside0.mk h4
                  have HSZ := Aside0.mk k4.1
                  clear h4 k4 hb4
                  go_wp2
                  go_roundw
                  case rel => exact ⟨j + 1, f, by omega, by go_num, ⟨H4.out⟩, ⟨HL4.out⟩⟩
                  case measure => simp [intOf]; omega
              · as_aux_lemma =>
                  go_wp2_with fail
                  refine (start_in HWA.out i hi _ d rfl (by omega) (by omega)).mono ?_
                  rintro e w4 ⟨rfl, h4, k4⟩
                  have hb4 := k4.blk HCB.out HCN.out (by simp)
                  have d0 : w4.cell? ⟨wr.heap.size, 0, none⟩ = some (.int .i64 1) := (blk_cell hb4 0).trans rfl
                  have d1 : w4.cell? ⟨wr.heap.size, 1, none⟩ = some (.int .i64 ((i : Int) + 1)) := (blk_cell hb4 1).trans rfl
                  have d2 : w4.cell? ⟨wr.heap.size, 2, none⟩ = some (.int .i64 d) := (blk_cell hb4 2).trans rfl
                  have HL4 := Aside0.mk (HLA.out.keep k4 HNE.out.2.symm)
                  have H4 := Aside0.mk h4
                  have HSZ := Aside0.mk k4.1
                  clear h4 k4 hb4
                  have l4 : w4.cell? ⟨L, i + 1, none⟩ = some (.int .i64 (f i)) := (HL4.out.c (i + 1) (by omega)).trans (by rw [ofT_in f hi])
                  have lf := HL4.out.fr (i + 1)
                  go_wp2
                  go_roundw
                  case rel => exact ⟨j + 1, upd f i d, by omega, by go_num, ⟨H4.out.other (i + 1) _ HNE.out.1 HNE.out.2 HL4.out.lw⟩, ⟨HL4.out.store i hi n1 d⟩⟩
                  case measure => simp [intOf]; omega
          · have b1 : (op == 1) = false := beq_eq_false_iff_ne.2 o1
            by_cases o2 : op = 2
            · subst o2
              as_aux_lemma =>
                go_wp2_with fail
                refine (stop_in HWA.out i hi _ rfl).mono ?_
                rintro e w4 ⟨rfl, h4, k4⟩
                have hb4 := k4.blk HCB.out HCN.out (by simp)
                have d0 : w4.cell? ⟨wr.heap.size, 0, none⟩ = some (.int .i64 2) := (blk_cell hb4 0).trans rfl
                have d1 : w4.cell? ⟨wr.heap.size, 1, none⟩ = some (.int .i64 ((i : Int) + 1)) := (blk_cell hb4 1).trans rfl
                have d2 : w4.cell? ⟨wr.heap.size, 2, none⟩ = some (.int .i64 d) := (blk_cell hb4 2).trans rfl
                have HL4 := Aside0.mk (HLA.out.keep k4 HNE.out.2.symm)
                have H4 := Aside0.mk h4
                have HSZ := Aside0.mk k4.1
                clear h4 k4 hb4
                have l4 : w4.cell? ⟨L, i + 1, none⟩ = some (.int .i64 (f i)) := (HL4.out.c (i + 1) (by omega)).trans (by rw [ofT_in f hi])
                have lf := HL4.out.fr (i + 1)
                go_wp2
                go_roundw
                case rel => exact ⟨j + 1, upd f i 0, by omega, by go_num, ⟨H4.out.other (i + 1) _ HNE.out.1 HNE.out.2 HL4.out.lw⟩, ⟨HL4.out.store i hi n1 0⟩⟩
                case measure => simp [intOf]; omega
            · have b2 : (op == 2) = false := beq_eq_false_iff_ne.2 o2
              by_cases o3 : op = 3
              · subst o3
                by_cases q0 : d < 0
                · as_aux_lemma =>
                    go_wp2_with fail
                    refine (ran_par HWA.out i hi _ d rfl (.inl q0)).mono ?_
                    rintro e w4 ⟨rfl, h4, k4⟩
                    have hb4 := k4.blk HCB.out HCN.out (by simp)
                    have d0 : w4.cell? ⟨wr.heap.size, 0, none⟩ = some (.int .i64 3) := (blk_cell hb4 0).trans rfl
                    have d1 : w4.cell? ⟨wr.heap.size, 1, none⟩ = some (.int .i64 ((i : Int) + 1)) := (blk_cell hb4 1).trans rfl
                    have d2 : w4.cell? ⟨wr.heap.size, 2, none⟩ = some (.int .i64 d) := (blk_cell hb4 2).trans rfl
                    have HL4 := Aside0.mk (HLA.out.keep k4 HNE.out.2.symm)
                    have H4 := Aside0.mk h4
                    have HSZ := Aside0.mk k4.1
                    clear h4 k4 hb4
                    go_wp2
                    go_roundw
                    case rel => exact ⟨j + 1, f, by omega, by go_num, ⟨H4.out⟩, ⟨HL4.out⟩⟩
                    case measure => simp [intOf]; omega
                · by_cases q1 : 2147483647 < d
                  · as_aux_lemma =>
                      go_wp2_with fail
                      refine (ran_par HWA.out i hi _ d rfl (.inr q1)).mono ?_
                      rintro e w4 ⟨rfl, h4, k4⟩
                      have hb4 := k4.blk HCB.out HCN.out (by simp)
                      have d0 : w4.cell? ⟨wr.heap.size, 0, none⟩ = some (.int .i64 3) := (blk_cell hb4 0).trans rfl
                      have d1 : w4.cell? ⟨wr.heap.size, 1, none⟩ = some (.int .i64 ((i : Int) + 1)) := (blk_cell hb4 1).trans rfl
                      have d2 : w4.cell? ⟨wr.heap.size, 2, none⟩ = some (.int .i64 d) := (blk_cell hb4 2).trans rfl
                      have HL4 := Aside0.mk (HLA.out.keep k4 HNE.out.2.symm)
                      have H4 := Aside0.mk h4
                      have HSZ := Aside0.mk k4.1
                      clear h4 k4 hb4
                      go_wp2
                      go_roundw
                      case rel => exact ⟨j + 1, f, by omega, by go_num, ⟨H4.out⟩, ⟨HL4.out⟩⟩
                      case measure => simp [intOf]; omega
                  · have hrg := HW.out.rg i hi
                    by_cases v0 : 0 < f i
                    · by_cases v1 : d < f i
                      · as_aux_lemma =>
                          go_wp2_with fail
                          refine (ran_at HWA.out i hi _ d rfl (by omega) (by omega) (f i) rfl false (by simp; omega) (f i - d) (by rw [if_pos (by omega)])).mono ?_
                          rintro e w4 ⟨rfl, h4, k4⟩
                          have hb4 := k4.blk HCB.out HCN.out (by simp)
                          have d0 : w4.cell? ⟨wr.heap.size, 0, none⟩ = some (.int .i64 3) := (blk_cell hb4 0).trans rfl
                          have d1 : w4.cell? ⟨wr.heap.size, 1, none⟩ = some (.int .i64 ((i : Int) + 1)) := (blk_cell hb4 1).trans rfl
                          have d2 : w4.cell? ⟨wr.heap.size, 2, none⟩ = some (.int .i64 d) := (blk_cell hb4 2).trans rfl
                          have HL4 := Aside0.mk (HLA.out.keep k4 HNE.out.2.symm)
                          have H4 := Aside0.mk h4
                          have HSZ := Aside0.mk k4.1
                          clear h4 k4 hb4
                          have l4 : w4.cell? ⟨L, i + 1, none⟩ = some (.int .i64 (f i)) := (HL4.out.c (i + 1) (by omega)).trans (by rw [ofT_in f hi])
                          have lf := HL4.out.fr (i + 1)
                          have HL5 := Aside0.mk (HL4.out.store i hi n1 (f i - d)).drew
                          have HS1 := Aside0.mk (HL4.out.store i hi n1 (f i - d))
                          have HW1 := Aside0.mk (H4.out.other (i + 1) _ HNE.out.1 HNE.out.2 HL4.out.lw : Wt w (w4.setCell ⟨L, i + 1, none⟩ (.int .i64 (f i - d))) (w1.heap.size + 1) w1.heap.size n (upd f i (f i - d)))
                          have l5 : ((w4.setCell ⟨L, i + 1, none⟩ (.int .i64 (f i - d))).drew).cell? ⟨L, i + 1, none⟩ = some (.int .i64 (f i - d)) := (HL5.out.c (i + 1) (by omega)).trans (by rw [ofT_in _ hi, upd_at])
                          have l6 := HL5.out.fr (i + 1)
                          go_wp2
                          go_region
                          all_goals (go_wp2)
                          go_roundw
                          case rel => exact ⟨j + 1, upd f i (f i - d), by omega, by go_num, ⟨HW1.out.drew⟩, ⟨HS1.out.drew⟩⟩
                          case measure => simp [intOf]; omega
                      · as_aux_lemma =>
                          go_wp2_with fail
                          refine (ran_at HWA.out i hi _ d rfl (by omega) (by omega) (f i) rfl true (by simp; omega) 0 (by rw [if_neg (by omega)])).mono ?_
                          rintro e w4 ⟨rfl, h4, k4⟩
                          have hb4 := k4.blk HCB.out HCN.out (by simp)
                          have d0 : w4.cell? ⟨wr.heap.size, 0, none⟩ = some (.int .i64 3) := (blk_cell hb4 0).trans rfl
                          have d1 : w4.cell? ⟨wr.heap.size, 1, none⟩ = some (.int .i64 ((i : Int) + 1)) := (blk_cell hb4 1).trans rfl
                          have d2 : w4.cell? ⟨wr.heap.size, 2, none⟩ = some (.int .i64 d) := (blk_cell hb4 2).trans rfl
                          have HL4 := Aside0.mk (HLA.out.keep k4 HNE.out.2.symm)
                          have H4 := Aside0.mk h4
                          have HSZ := Aside0.mk k4.1
                          clear h4 k4 hb4
                          have l4 : w4.cell? ⟨L, i + 1, none⟩ = some (.int .i64 (f i)) := (HL4.out.c (i + 1) (by omega)).trans (by rw [ofT_in f hi])
                          have lf := HL4.out.fr (i + 1)
                          have HL5 := Aside0.mk (HL4.out.store i hi n1 (f i - d)).drew
                          have HS1 := Aside0.mk ((HL4.out.store i hi n1 (f i - d)).store i hi n1 0)
                          have HW1 := Aside0.mk ((H4.out.other (i + 1) _ HNE.out.1 HNE.out.2 HL4.out.lw : Wt w (w4.setCell ⟨L, i + 1, none⟩ (.int .i64 (f i - d))) (w1.heap.size + 1) w1.heap.size n (upd f i 0)).other (i + 1) (.int .i64 0) HNE.out.1 HNE.out.2 HL4.out.lw)
                          have l5 : ((w4.setCell ⟨L, i + 1, none⟩ (.int .i64 (f i - d))).drew).cell? ⟨L, i + 1, none⟩ = some (.int .i64 (f i - d)) := (HL5.out.c (i + 1) (by omega)).trans (by rw [ofT_in _ hi, upd_at])
                          have l6 := HL5.out.fr (i + 1)
                          go_wp2
                          go_region
                          all_goals (go_wp2)
                          go_roundw
                          case rel => exact ⟨j + 1, upd f i 0, by omega, by go_num, ⟨HW1.out.drew⟩, ⟨(HS1.out.congr (fun k _ => by by_cases e : k = i; (subst e; rw [upd_at, upd_at]); rw [upd_other _ _ e, upd_other _ _ e, upd_other _ _ e])).drew⟩⟩
                          case measure => simp [intOf]; omega
                    · as_aux_lemma =>
                        go_wp2_with fail
                        refine (ran_at HWA.out i hi _ d rfl (by omega) (by omega) (f i) rfl false (by simp; omega) (f i) (by by_cases e : d < f i; omega; rw [if_neg e]; omega)).mono ?_
                        rintro e w4 ⟨rfl, h4, k4⟩
                        have hb4 := k4.blk HCB.out HCN.out (by simp)
                        have d0 : w4.cell? ⟨wr.heap.size, 0, none⟩ = some (.int .i64 3) := (blk_cell hb4 0).trans rfl
                        have d1 : w4.cell? ⟨wr.heap.size, 1, none⟩ = some (.int .i64 ((i : Int) + 1)) := (blk_cell hb4 1).trans rfl
                        have d2 : w4.cell? ⟨wr.heap.size, 2, none⟩ = some (.int .i64 d) := (blk_cell hb4 2).trans rfl
                        have HL4 := Aside0.mk (HLA.out.keep k4 HNE.out.2.symm)
                        have H4 := Aside0.mk h4
                        have HSZ := Aside0.mk k4.1
                        clear h4 k4 hb4
                        have l4 : w4.cell? ⟨L, i + 1, none⟩ = some (.int .i64 (f i)) := (HL4.out.c (i + 1) (by omega)).trans (by rw [ofT_in f hi])
                        have lf := HL4.out.fr (i + 1)
                        obtain ⟨v, hv⟩ : ∃ v, f i = v := ⟨_, rfl⟩
                        have HW1 := Aside0.mk (H4.out.congr (f' := f) (fun k _ => by by_cases e : k = i; (subst e; rw [upd_at]); rw [upd_other _ _ e]))
                        rw [hv] at l4 v0 hrg
                        go_wp2
                        go_roundw
                        case rel => exact ⟨j + 1, f, by omega, by go_num, ⟨HW1.out⟩, ⟨HL4.out⟩⟩
                        case measure => simp [intOf]; omega
              · have b3 : (op == 3) = false := beq_eq_false_iff_ne.2 o3
                go_wp2
                go_roundw
                case rel => exact ⟨j + 1, f, by omega, by go_num, ⟨HWA.out⟩, ⟨HLA.out⟩⟩
                case measure => simp [intOf]; omega
    · obtain rfl : j = len := by omega
      as_aux_lemma =>
        go_wp2
        go_loopw [18] (fun i w' => ∃ t : Nat, t ≤ 18 ∧ i = .int .i64 t ∧ Aside0 (Wt w w' (w1.heap.size + 1) w1.heap.size n f) ∧ Aside0 (Lf w w' L n f)) (fun i _ => 18 - (intOf i).toNat)
        case atStart => exact ⟨0, Nat.zero_le _, rfl, HW, HLj⟩
        case round =>
          clear HW HLj
          obtain ⟨t, ht, rfl, HW, HLt⟩ := hrel
          by_cases hlt : t < 18
          · by_cases hin : 1 ≤ t ∧ t ≤ n
            · have hi : t - 1 < n := by omega
              have HV := Aside0.mk (show ofT f n (t : Int) = f (t - 1) by have := ofT_in f hi; rwa [show t - 1 + 1 = t by omega] at this)
              have g1 : decide ((t : Int) ≤ (n : Int)) = true := decide_eq_true (by omega)
              have g2 : decide (t ≤ n) = true := decide_eq_true (by omega)
              have g3 : decide (1 ≤ (t : Int)) = true := decide_eq_true (by omega)
              have t16 : t < 17 := by omega
              have HRG := Aside0.mk (HW.out.rg (t - 1) hi)
              by_cases v0 : 0 < f (t - 1)
              · go_wp2_with fail
                refine (left_in HW.out (t - 1) (by omega) (t : Int) (by omega) (f (t - 1)) rfl true (decide_eq_true (by omega))).mono ?_
                rintro e w4 ⟨rfl, h4, k4⟩
                have HL4 := Aside0.mk (HLt.out.keep k4 HNE.out.2.symm)
                have H4 := Aside0.mk h4
                clear h4 k4
                generalize f (t - 1) = v at *
                have HLA := Aside0.mk (HL4.out.alloc (.cells #[.bool true, .int .i64 v] 43))
                have HWA := Aside0.mk (H4.out.below (below_alloc (Below.refl _ _) (.cells #[.bool true, .int .i64 v] 43)))
                have l5 : (w4.alloc (.cells #[.bool true, .int .i64 v] 43)).cell? ⟨L, t, none⟩ = some (.int .i64 v) := (HLA.out.c t (by omega)).trans (by rw [HV.out])
                have p0 : (w4.alloc (.cells #[.bool true, .int .i64 v] 43)).cell? ⟨w4.heap.size, 0, none⟩ = some (.bool true) := by rw [World.cell?_alloc_at _ _ _ _ rfl]; rfl
                have p1 : (w4.alloc (.cells #[.bool true, .int .i64 v] 43)).cell? ⟨w4.heap.size, 1, none⟩ = some (.int .i64 v) := by rw [World.cell?_alloc_at _ _ _ _ rfl]; rfl
                go_wp2
                generalize w4.alloc (.cells #[.bool true, .int .i64 v] 43) = W5 at *
                generalize w4.heap.size = X at *
                clear H4 HL4
                go_quiet (fail)
                have HLB := Aside0.mk (HLA.out.drewn nq)
                have HWB := Aside0.mk (HWA.out.drewn nq)
                go_wp2
                go_roundw
                case rel => exact ⟨t + 1, by omega, by go_num, HWB, HLB⟩
                case measure => simp [intOf]; omega
              · go_wp2_with fail
                refine (left_in HW.out (t - 1) (by omega) (t : Int) (by omega) (f (t - 1)) rfl false (decide_eq_false (by omega))).mono ?_
                rintro e w4 ⟨rfl, h4, k4⟩
                have HL4 := Aside0.mk (HLt.out.keep k4 HNE.out.2.symm)
                have H4 := Aside0.mk h4
                clear h4 k4
                generalize f (t - 1) = v at *
                obtain rfl : v = 0 := by have := HRG.out; omega
                have HLA := Aside0.mk (HL4.out.alloc (.cells #[.bool false, .int .i64 0] 43))
                have HWA := Aside0.mk (H4.out.below (below_alloc (Below.refl _ _) (.cells #[.bool false, .int .i64 0] 43)))
                have l5 : (w4.alloc (.cells #[.bool false, .int .i64 0] 43)).cell? ⟨L, t, none⟩ = some (.int .i64 0) := (HLA.out.c t (by omega)).trans (by rw [HV.out])
                have p0 : (w4.alloc (.cells #[.bool false, .int .i64 0] 43)).cell? ⟨w4.heap.size, 0, none⟩ = some (.bool false) := by rw [World.cell?_alloc_at _ _ _ _ rfl]; rfl
                have p1 : (w4.alloc (.cells #[.bool false, .int .i64 0] 43)).cell? ⟨w4.heap.size, 1, none⟩ = some (.int .i64 0) := by rw [World.cell?_alloc_at _ _ _ _ rfl]; rfl
                go_wp2
                generalize w4.alloc (.cells #[.bool false, .int .i64 0] 43) = W5 at *
                generalize w4.heap.size = X at *
                clear H4 HL4
                go_quiet (fail)
                have HLB := Aside0.mk (HLA.out.drewn nq)
                have HWB := Aside0.mk (HWA.out.drewn nq)
                go_wp2
                go_roundw
                case rel => exact ⟨t + 1, by omega, by go_num, HWB, HLB⟩
                case measure => simp [intOf]; omega
            · have HTO := Aside0.mk (show (t : Int) < 1 ∨ (n : Int) < (t : Int) by omega)
              by_cases t0 : t = 0
              · subst t0
                go_wp2_with fail
                refine (left_out HW.out _ HTO.out).mono ?_
                rintro e w4 ⟨rfl, h4, k4⟩
                have HL4 := Aside0.mk (HLt.out.keep k4 HNE.out.2.symm)
                have H4 := Aside0.mk h4
                clear h4 k4
                have HLA := Aside0.mk (HL4.out.alloc (.cells #[.bool false, .int .i64 0] 43))
                have HWA := Aside0.mk (H4.out.below (below_alloc (Below.refl _ _) (.cells #[.bool false, .int .i64 0] 43)))
                go_wp2
                go_quiet (fail)
                have HLB := Aside0.mk (HLA.out.drewn nq)
                have HWB := Aside0.mk (HWA.out.drewn nq)
                go_wp2
                go_roundw
                case rel => exact ⟨0 + 1, by omega, by go_num, HWB, HLB⟩
                case measure => simp [intOf]
              · have g0 : decide (1 ≤ (t : Int)) = true := decide_eq_true (by omega)
                have g1 : decide ((t : Int) ≤ (n : Int)) = false := decide_eq_false (by omega)
                have g2 : decide (t ≤ n) = false := decide_eq_false (by omega)
                go_wp2_with fail
                refine (left_out HW.out _ HTO.out).mono ?_
                rintro e w4 ⟨rfl, h4, k4⟩
                have HL4 := Aside0.mk (HLt.out.keep k4 HNE.out.2.symm)
                have H4 := Aside0.mk h4
                clear h4 k4
                have HLA := Aside0.mk (HL4.out.alloc (.cells #[.bool false, .int .i64 0] 43))
                have HWA := Aside0.mk (H4.out.below (below_alloc (Below.refl _ _) (.cells #[.bool false, .int .i64 0] 43)))
                go_wp2
                go_quiet (fail)
                have HLB := Aside0.mk (HLA.out.drewn nq)
                have HWB := Aside0.mk (HWA.out.drewn nq)
                go_wp2
                go_roundw
                case rel => exact ⟨t + 1, by omega, by go_num, HWB, HLB⟩
                case measure => simp [intOf]; omega
          · obtain rfl : t = 18 := by omega
            have HSB := Aside0.mk (HS.out.below HW.out.be)
            have HBE := Aside0.mk HW.out.be
            go_wp2
            go_loop [22, 23] (fun s k => ∃ q : Nat, q ≤ ss.length ∧ k = .int .i64 q ∧ s = .int .i64 (sumT f n (ss.take q))) (fun _ k => ss.length - (intOf k).toNat)
            case atStart => exact ⟨0, Nat.zero_le _, rfl, rfl⟩
            case round =>
              obtain ⟨q, hq, rfl, rfl⟩ := hrel
              by_cases hlt : q < ss.length
              · obtain ⟨ad, hA, hcell⟩ := HSB.out.2.2 (by omega)
                have HSN := Aside0.mk (sumT_snoc f n ss q hlt)
                have hx := hcell q hlt
                subst hA
                have hg : ss.getD q 0 = ss[q] := by simp [hlt]
                rw [hg] at hx HSN
                have hb := sumT_rg HW.out (ss.take q)
                have hb2 : (ss.take q).length ≤ 100 := by rw [List.length_take]; omega
                obtain ⟨hb0, hb1⟩ := hb
                have hb3 : sumT f n (ss.take q) ≤ 214748364700 := by omega
                clear hcell hg hb1 hb2
                generalize ss[q] = x at hx HSN
                generalize sumT f n (ss.take q) = y at *
                by_cases x0 : 1 ≤ x
                · by_cases x1 : x ≤ n
                  · obtain ⟨i, rfl⟩ : ∃ i : Nat, x = (i : Int) + 1 := ⟨(x - 1).toNat, by omega⟩
                    have hi : i < n := by omega
                    have hv : ofT f n ((i : Int) + 1) = f i := ofT_in f hi
                    rw [hv] at HSN
                    have hrg := HW.out.rg i hi
                    have l4 : wr.cell? ⟨L, i + 1, none⟩ = some (.int .i64 (f i)) := (HLt.out.c (i + 1) (by omega)).trans (by rw [ofT_in f hi])
                    generalize f i = v at *
                    go_wp2
                    go_round
                    case rel => exact ⟨q + 1, by omega, by go_num, by rw [HSN.out]⟩
                    case measure => simp [intOf]; omega
                  · have hv : ofT f n x = 0 := by unfold ofT; rw [if_neg (by omega)]
                    rw [hv, Int.add_zero] at HSN
                    have g1 : decide (x ≤ (n : Int)) = false := decide_eq_false x1
                    go_wp2
                    go_round
                    case rel => exact ⟨q + 1, by omega, by go_num, by rw [HSN.out]⟩
                    case measure => simp [intOf]; omega
                · have hv : ofT f n x = 0 := by unfold ofT; rw [if_neg (by omega)]
                  rw [hv, Int.add_zero] at HSN
                  go_wp2
                  go_round
                  case rel => exact ⟨q + 1, by omega, by go_num, by rw [HSN.out]⟩
                  case measure => simp [intOf]; omega
              · obtain rfl : q = ss.length := by omega
                have HT := Aside0.mk (show ss.take ss.length = ss from List.take_length)
                rw [HT.out]
                go_wp2_with fail
                refine (sum_calls HW.out ss (by omega) SA sc _ rfl HSB.out hsc _ rfl).mono ?_
                rintro e w9 ⟨rfl, rfl⟩
                go_wp2
                go_ret
                exact ⟨rfl, HBE.out⟩
set_option maxHeartbeats 1000000 in
set_option maxRecDepth 100000 in
theorem plays_big (t : Int) (len m : Nat) (h : 100 < len ∨ 40 < m) (hl : len ≤ 9223372036854775807) (hm : m ≤ 9223372036854775807) (A B : Option Addr) (c d : Nat) (w : World) :
    Calls Try.prog 5 #[.int .i64 t, .slice A len c, .slice B m d] w fun e w' => e = .returned (.bool true) ∧ Below w.heap.size w w' := by
  by_cases z : 100 < len
  · clear h
    go_enter Try.func5, Try.ntmps5
    go_wp2_with fail
    refine (known_calls w).mono ?_
    rintro e w1 ⟨rfl, h1⟩
    have H1 := Aside0.mk h1; clear h1
    go_wp2
    go_ret
    exact ⟨rfl, H1.out⟩
  · have z2 : 40 < m := by omega
    clear h
    go_enter Try.func5, Try.ntmps5
    go_wp2_with fail
    refine (known_calls w).mono ?_
    rintro e w1 ⟨rfl, h1⟩
    have H1 := Aside0.mk h1; clear h1
    go_wp2
    go_ret
    exact ⟨rfl, H1.out⟩
set_option maxHeartbeats 1000000 in
set_option maxRecDepth 100000 in
theorem plays_none (t : Int) (ht : t < 1 ∨ 16 < t) (len m : Nat) (hl : len ≤ 100) (hm : m ≤ 40) (A B : Option Addr) (c d : Nat) (w : World) :
    Calls Try.prog 5 #[.int .i64 t, .slice A len c, .slice B m d] w fun e w' => e = .returned (.bool true) ∧ Below w.heap.size w w' := by
  have HT := Aside0.mk ht
  by_cases z : t < 1
  · clear ht
    go_enter Try.func5, Try.ntmps5
    go_wp2_with fail
    refine (known_calls w).mono ?_
    rintro e w1 ⟨rfl, h1⟩
    have H1 := Aside0.mk h1; clear h1
    go_wp2_with fail
    refine (new_no t HT.out w1).mono ?_
    rintro e w2 ⟨rfl, rfl⟩
    go_wp2
    go_ret
    exact ⟨rfl, H1.out⟩
  · have z2 : 16 < t := by omega
    have g1 : decide (1 ≤ t) = true := decide_eq_true (by omega)
    have g2 : decide (t ≤ 16) = false := decide_eq_false (by omega)
    clear ht
    go_enter Try.func5, Try.ntmps5
    go_wp2_with fail
    refine (known_calls w).mono ?_
    rintro e w1 ⟨rfl, h1⟩
    have H1 := Aside0.mk h1; clear h1
    go_wp2_with fail
    refine (new_no t HT.out w1).mono ?_
    rintro e w2 ⟨rfl, rfl⟩
    go_wp2
    go_ret
    exact ⟨rfl, H1.out⟩
theorem plays_walk (a0 : Int) (a1 : Option Addr) (len1 cap1 : Nat) (z1 : Nat → Nat → Int) (a2 : Option Addr) (len2 cap2 : Nat) (z2 : List Int) (w : World) (w0 : (Lit.int .i64 a0).wf = true) (w1 : Recs w a1 len1 cap1 z1)
    (w2 : (a2 = none ∧ len2 = 0 ∧ cap2 = 0 ∧ z2 = []) ∨ ∃ x, a2 = some x ∧ len2 ≤ cap2 ∧ cap2 ≤ maxLen ∧ z2.length = cap2 ∧ (∀ i, i < z2.length → w.cell? (x.add i) = some (.int .i64 (z2.getD i 0))) ∧ ∀ n ∈ z2, (Lit.int .i64 n).wf = true) (y2 : len2 * 8 ≤ 140737488351232) :
    Calls Try.prog 5 #[.int .i64 a0, .slice a1 len1 cap1, .slice a2 len2 cap2] w fun e w' => e = .returned (.bool true) ∧ Below w.heap.size w w' := by
  obtain ⟨l2, rfl, hr2, hm2, hw2, hc2⟩ := ReadsInt.ofRowC w2
  have hl1 : len1 ≤ 9223372036854775807 := by have := w1.1; have := w1.2.1; unfold maxLen at this; omega
  by_cases h : 100 < len1 ∨ 40 < l2.length
  · exact plays_big a0 len1 l2.length h hl1 (by omega) a1 a2 cap1 cap2 w
  · by_cases t : a0 < 1 ∨ 16 < a0
    · exact plays_none a0 t len1 l2.length (by omega) (by omega) a1 a2 cap1 cap2 w
    · obtain ⟨n, rfl⟩ : ∃ n : Nat, a0 = n := ⟨a0.toNat, by omega⟩
      exact plays_in n (by omega) (by omega) a1 len1 cap1 z1 l2 a2 cap2 (by omega) (by omega) w w1 hr2 hc2
end Go.Proofs.Ytgkemmhpfekoaaa.WatchHand
