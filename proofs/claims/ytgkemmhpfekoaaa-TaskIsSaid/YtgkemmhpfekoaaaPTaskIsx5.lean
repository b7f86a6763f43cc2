-- Laid by a program out of Lean's own print of the program; not by print.sh as it stands (NOTES.md tells what differs)
import Derived.Test.YtgkemmhpfekoaaaPTaskIsx0
import Derived.Test.YtgkemmhpfekoaaaPTaskIsx2
import Derived.Test.YtgkemmhpfekoaaaPTaskIsx3
import Derived.Test.YtgkemmhpfekoaaaPTaskIsx4
namespace Go.Proofs.Ytgkemmhpfekoaaa.PTaskIs
open Go.RowKit Go.Proofs.YtgkemmhpfekoaaaW.PrintWords Go.Proofs.YtgkemmhpfekoaaaW.PrintLast Go.Proofs.YtgkemmhpfekoaaaW.PrintMore
attribute [local go_sem] max2_int min2_int max_two min_two max_three min_three max_four min_four   -- for this text's walks alone
set_option linter.unusedVariables false
set_option linter.unusedSimpArgs false

/-! ### detentlaw10_TaskIs: function 13 -/
mutual
def detentlaw10_TaskIs.j0 : Nat → List Int → List Int → Bool → Option (Bool)
  | 0, _, _, _ => none
  | k + 1, x0, x1, x21 => if x21 = true then (some true) else ((tcb_New.f).bind fun bt347 => (detentlaw10_TaskIs.l0 k x0 x1 0 bt347.1 bt347.2.1 bt347.2.2.1 bt347.2.2.2.1 bt347.2.2.2.2))
def detentlaw10_TaskIs.l0 : Nat → List Int → List Int → Int → Int → Int → Int → Int → Bool → Option (Bool)
  | 0, _, _, _, _, _, _, _, _ => none
  | k + 1, x0, x1, x6, x353000, x353001, x353002, x353003, x353004 => if x6 < (x0.length : Int) then (if 0 ≤ x6 then ((detentlaw10_do.f k x353000 x353001 x353002 x353003 x353004 (rd x0 x6)).bind fun bt354 => (detentlaw10_TaskIs.l0 k x0 x1 (wrap64 (x6 + 1)) bt354.2.2.1 bt354.2.2.2.1 bt354.2.2.2.2.1 bt354.2.2.2.2.2.1 bt354.2.2.2.2.2.2)) else (none)) else (detentlaw10_TaskIs.l1 k x1 false 0 x353000 x353001 x353002 x353003 x353004)
def detentlaw10_TaskIs.l1 : Nat → List Int → Bool → Int → Int → Int → Int → Int → Bool → Option (Bool)
  | 0, _, _, _, _, _, _, _, _ => none
  | k + 1, x1, x7, x8, x353000, x353001, x353002, x353003, x353004 => if x8 < (x1.length : Int) then (if x7 = true then (detentlaw10_TaskIs.l1 k x1 true (wrap64 (x8 + 1)) x353000 x353001 x353002 x353003 x353004) else (if 0 ≤ x8 then (detentlaw10_TaskIs.l1 k x1 ((rd x1 x8) == x353003) (wrap64 (x8 + 1)) x353000 x353001 x353002 x353003 x353004) else (none))) else ((some (([2, 4, 8, 12, 16] : List Int) : List Int)).bind fun y362 => (detentlaw10_TaskIs.l2 k x1 x7 0 y362 (y362.length : Int) 0 x353000 x353001 x353002 x353003 x353004))
def detentlaw10_TaskIs.l2 : Nat → List Int → Bool → Int → List Int → Int → Int → Int → Int → Int → Int → Bool → Option (Bool)
  | 0, _, _, _, _, _, _, _, _, _, _, _ => none
  | k + 1, x1, x7, x9, x53, x54, x55, x353000, x353001, x353002, x353003, x353004 => if x55 < x54 then (if 0 ≤ x55 then (if x55 < (x53.length : Int) then ((tcb_Task_Is.f k x353000 x353001 x353002 x353003 x353004 (([rd x53 x55] : List Int))).bind fun bt369 => (if bt369.1 = true then (detentlaw10_TaskIs.l2 k x1 x7 (wrap64 (x9 + 1)) x53 x54 (wrap64 (x55 + 1)) bt369.2.1 bt369.2.2.1 bt369.2.2.2.1 bt369.2.2.2.2.1 bt369.2.2.2.2.2) else (detentlaw10_TaskIs.l2 k x1 x7 x9 x53 x54 (wrap64 (x55 + 1)) bt369.2.1 bt369.2.2.1 bt369.2.2.2.1 bt369.2.2.2.2.1 bt369.2.2.2.2.2))) else (none)) else (none)) else ((tcb_Task_Is.f k x353000 x353001 x353002 x353003 x353004 x1).bind fun bt375 => (if (bt375.1 == x7) = true then (some (x9 == 1)) else (some false)))
end
def detentlaw10_TaskIs.f (k : Nat) (l0 : List Int) (l1 : List Int) : Option (Bool) := (detentlaw10_known.f k).bind fun t346 => (if t346 = true then (if (l0.length : Int) > 60 then (detentlaw10_TaskIs.j0 k l0 l1 true) else (detentlaw10_TaskIs.j0 k l0 l1 (decide ((l1.length : Int) > 20)))) else (some false))
theorem detentlaw10_TaskIs.mono_l : ∀ k, (∀ y0 y1 y2, LeO (detentlaw10_TaskIs.j0 k y0 y1 y2) (detentlaw10_TaskIs.j0 (k + 1) y0 y1 y2)) ∧ (∀ y0 y1 y2 y3 y4 y5 y6 y7, LeO (detentlaw10_TaskIs.l0 k y0 y1 y2 y3 y4 y5 y6 y7) (detentlaw10_TaskIs.l0 (k + 1) y0 y1 y2 y3 y4 y5 y6 y7)) ∧ (∀ y0 y1 y2 y3 y4 y5 y6 y7, LeO (detentlaw10_TaskIs.l1 k y0 y1 y2 y3 y4 y5 y6 y7) (detentlaw10_TaskIs.l1 (k + 1) y0 y1 y2 y3 y4 y5 y6 y7)) ∧ (∀ y0 y1 y2 y3 y4 y5 y6 y7 y8 y9 y10, LeO (detentlaw10_TaskIs.l2 k y0 y1 y2 y3 y4 y5 y6 y7 y8 y9 y10) (detentlaw10_TaskIs.l2 (k + 1) y0 y1 y2 y3 y4 y5 y6 y7 y8 y9 y10))
  | 0 => ⟨fun _ _ _ r h => by simp [detentlaw10_TaskIs.j0] at h, fun _ _ _ _ _ _ _ _ r h => by simp [detentlaw10_TaskIs.l0] at h, fun _ _ _ _ _ _ _ _ r h => by simp [detentlaw10_TaskIs.l1] at h, fun _ _ _ _ _ _ _ _ _ _ _ r h => by simp [detentlaw10_TaskIs.l2] at h⟩
  | k + 1 => by
    obtain ⟨ih0, ih1, ih2, ih3⟩ := detentlaw10_TaskIs.mono_l k
    refine ⟨?_, ?_, ?_, ?_⟩
    · intro y0 y1 y2
      unfold detentlaw10_TaskIs.j0
      repeat' first
      | (with_reducible exact ih0 _ _ _)
      | (with_reducible exact ih1 _ _ _ _ _ _ _ _)
      | (with_reducible exact ih2 _ _ _ _ _ _ _ _)
      | (with_reducible exact ih3 _ _ _ _ _ _ _ _ _ _ _)
      | (with_reducible exact detentlaw10_do.mono _ _ _ _ _ _ _)
      | (with_reducible exact detentlaw10_known.mono _)
      | (with_reducible exact tcb_Task_Is.mono _ _ _ _ _ _ _)
      | (with_reducible exact LeO.refl _)
      | (with_reducible exact LeO.none _)
      | (with_reducible refine LeO.ite ?_ ?_)
      | (with_reducible refine LeO.bind ?_ (fun _ => ?_))
      | exact ih0 _ _ _
      | exact ih1 _ _ _ _ _ _ _ _
      | exact ih2 _ _ _ _ _ _ _ _
      | exact ih3 _ _ _ _ _ _ _ _ _ _ _
      | exact detentlaw10_do.mono _ _ _ _ _ _ _
      | exact detentlaw10_known.mono _
      | exact tcb_Task_Is.mono _ _ _ _ _ _ _
      | exact LeO.none _
      | refine LeO.ite ?_ ?_
      | refine LeO.bind ?_ (fun _ => ?_)
    · intro y0 y1 y2 y3 y4 y5 y6 y7
      unfold detentlaw10_TaskIs.l0
      repeat' first
      | (with_reducible exact ih0 _ _ _)
      | (with_reducible exact ih1 _ _ _ _ _ _ _ _)
      | (with_reducible exact ih2 _ _ _ _ _ _ _ _)
      | (with_reducible exact ih3 _ _ _ _ _ _ _ _ _ _ _)
      | (with_reducible exact detentlaw10_do.mono _ _ _ _ _ _ _)
      | (with_reducible exact detentlaw10_known.mono _)
      | (with_reducible exact tcb_Task_Is.mono _ _ _ _ _ _ _)
      | (with_reducible exact LeO.refl _)
      | (with_reducible exact LeO.none _)
      | (with_reducible refine LeO.ite ?_ ?_)
      | (with_reducible refine LeO.bind ?_ (fun _ => ?_))
      | exact ih0 _ _ _
      | exact ih1 _ _ _ _ _ _ _ _
      | exact ih2 _ _ _ _ _ _ _ _
      | exact ih3 _ _ _ _ _ _ _ _ _ _ _
      | exact detentlaw10_do.mono _ _ _ _ _ _ _
      | exact detentlaw10_known.mono _
      | exact tcb_Task_Is.mono _ _ _ _ _ _ _
      | exact LeO.none _
      | refine LeO.ite ?_ ?_
      | refine LeO.bind ?_ (fun _ => ?_)
    · intro y0 y1 y2 y3 y4 y5 y6 y7
      unfold detentlaw10_TaskIs.l1
      repeat' first
      | (with_reducible exact ih0 _ _ _)
      | (with_reducible exact ih1 _ _ _ _ _ _ _ _)
      | (with_reducible exact ih2 _ _ _ _ _ _ _ _)
      | (with_reducible exact ih3 _ _ _ _ _ _ _ _ _ _ _)
      | (with_reducible exact detentlaw10_do.mono _ _ _ _ _ _ _)
      | (with_reducible exact detentlaw10_known.mono _)
      | (with_reducible exact tcb_Task_Is.mono _ _ _ _ _ _ _)
      | (with_reducible exact LeO.refl _)
      | (with_reducible exact LeO.none _)
      | (with_reducible refine LeO.ite ?_ ?_)
      | (with_reducible refine LeO.bind ?_ (fun _ => ?_))
      | exact ih0 _ _ _
      | exact ih1 _ _ _ _ _ _ _ _
      | exact ih2 _ _ _ _ _ _ _ _
      | exact ih3 _ _ _ _ _ _ _ _ _ _ _
      | exact detentlaw10_do.mono _ _ _ _ _ _ _
      | exact detentlaw10_known.mono _
      | exact tcb_Task_Is.mono _ _ _ _ _ _ _
      | exact LeO.none _
      | refine LeO.ite ?_ ?_
      | refine LeO.bind ?_ (fun _ => ?_)
    · intro y0 y1 y2 y3 y4 y5 y6 y7 y8 y9 y10
      unfold detentlaw10_TaskIs.l2
      repeat' first
      | (with_reducible exact ih0 _ _ _)
      | (with_reducible exact ih1 _ _ _ _ _ _ _ _)
      | (with_reducible exact ih2 _ _ _ _ _ _ _ _)
      | (with_reducible exact ih3 _ _ _ _ _ _ _ _ _ _ _)
      | (with_reducible exact detentlaw10_do.mono _ _ _ _ _ _ _)
      | (with_reducible exact detentlaw10_known.mono _)
      | (with_reducible exact tcb_Task_Is.mono _ _ _ _ _ _ _)
      | (with_reducible exact LeO.refl _)
      | (with_reducible exact LeO.none _)
      | (with_reducible refine LeO.ite ?_ ?_)
      | (with_reducible refine LeO.bind ?_ (fun _ => ?_))
      | exact ih0 _ _ _
      | exact ih1 _ _ _ _ _ _ _ _
      | exact ih2 _ _ _ _ _ _ _ _
      | exact ih3 _ _ _ _ _ _ _ _ _ _ _
      | exact detentlaw10_do.mono _ _ _ _ _ _ _
      | exact detentlaw10_known.mono _
      | exact tcb_Task_Is.mono _ _ _ _ _ _ _
      | exact LeO.none _
      | refine LeO.ite ?_ ?_
      | refine LeO.bind ?_ (fun _ => ?_)
theorem detentlaw10_TaskIs.mono : ∀ a0 a1 k, LeO (detentlaw10_TaskIs.f k a0 a1) (detentlaw10_TaskIs.f (k + 1) a0 a1) := by
  intro a0 a1 k
  obtain ⟨ih0, ih1, ih2, ih3⟩ := detentlaw10_TaskIs.mono_l k
  unfold detentlaw10_TaskIs.f
  repeat' first
      | (with_reducible exact ih0 _ _ _)
      | (with_reducible exact ih1 _ _ _ _ _ _ _ _)
      | (with_reducible exact ih2 _ _ _ _ _ _ _ _)
      | (with_reducible exact ih3 _ _ _ _ _ _ _ _ _ _ _)
      | (with_reducible exact detentlaw10_do.mono _ _ _ _ _ _ _)
      | (with_reducible exact detentlaw10_known.mono _)
      | (with_reducible exact tcb_Task_Is.mono _ _ _ _ _ _ _)
      | (with_reducible exact LeO.refl _)
      | (with_reducible exact LeO.none _)
      | (with_reducible refine LeO.ite ?_ ?_)
      | (with_reducible refine LeO.bind ?_ (fun _ => ?_))
      | exact ih0 _ _ _
      | exact ih1 _ _ _ _ _ _ _ _
      | exact ih2 _ _ _ _ _ _ _ _
      | exact ih3 _ _ _ _ _ _ _ _ _ _ _
      | exact detentlaw10_do.mono _ _ _ _ _ _ _
      | exact detentlaw10_known.mono _
      | exact tcb_Task_Is.mono _ _ _ _ _ _ _
      | exact LeO.none _
      | refine LeO.ite ?_ ?_
      | refine LeO.bind ?_ (fun _ => ?_)
set_option maxHeartbeats 8000000 in
set_option maxRecDepth 100000 in
theorem detentlaw10_TaskIs.calls (k : Nat) (A0 : Option Addr) (c0 : Nat) (l0 : List Int) (A1 : Option Addr) (c1 : Nat) (l1 : List Int) (r : Bool) (w : World) (hr0 : Kd.C (Kd.int .i64) w A0 l0.length l0) (hc0 : l0.length ≤ c0) (hr1 : Kd.C (Kd.int .i64) w A1 l1.length l1) (hc1 : l1.length ≤ c1) (h : detentlaw10_TaskIs.f k l0 l1 = some r) :
    Calls Try.prog 13 #[.slice A0 l0.length c0, .slice A1 l1.length c1] w fun e w' => e = .returned (.bool r) ∧ Below w.heap.size w w' := by
  have HR0 := Aside0.mk hr0
  have HC0 := Aside0.mk hc0
  clear hr0 hc0
  have HR1 := Aside0.mk hr1
  have HC1 := Aside0.mk hc1
  clear hr1 hc1
  have HB := Aside0.mk (Below.refl w.heap.size w)
  have H : ((detentlaw10_known.f k).bind fun t346 => (if t346 = true then (if (l0.length : Int) > 60 then (detentlaw10_TaskIs.j0 k l0 l1 true) else (detentlaw10_TaskIs.j0 k l0 l1 (decide ((l1.length : Int) > 20)))) else (some false))) = some r := h
  clear h
  replace H := Option.bind_eq_some_iff.mp H
  obtain ⟨t346, A30, H⟩ := H
  replace H : (if t346 = true then (if (l0.length : Int) > 60 then (detentlaw10_TaskIs.j0 k l0 l1 true) else (detentlaw10_TaskIs.j0 k l0 l1 (decide ((l1.length : Int) > 20)))) else (some false)) = some r := H
  have A3 := Aside0.mk A30
  clear A30
  by_cases c4 : t346 = true
  · subst c4
    have H1 : (if (l0.length : Int) > 60 then (detentlaw10_TaskIs.j0 k l0 l1 true) else (detentlaw10_TaskIs.j0 k l0 l1 (decide ((l1.length : Int) > 20)))) = some r := by rw [if_pos rfl] at H; exact H
    clear H
    have H := H1
    clear H1
    have HC5 := Aside0.mk H
    clear H
    go_enter Try.func13, Try.ntmps13
    go_upto_region 3 with (first | (go_at_call 21; (with_reducible refine (detentlaw10_known.calls k  true _ A3.out).mono ?_); rintro e w6 ⟨rfl, hb⟩; have n0_ := Aside0.mk (below_step (by repeat (first | (with_reducible first | exact HB.out | apply below_alloc | apply pw_below_drewN | apply below_drew1) | exact HB.out)) hb); clear HB; have HB := n0_; clear n0_; (try clear hb); (try clear hb2); (try clear hk); (try clear hi)))
    repeat (go_quiet (first | (go_at_call 21; (with_reducible refine (detentlaw10_known.calls k  true _ A3.out).mono ?_); rintro e w6 ⟨rfl, hb⟩; have n0_ := Aside0.mk (below_step (by repeat (first | (with_reducible first | exact HB.out | apply below_alloc | apply pw_below_drewN | apply below_drew1) | exact HB.out)) hb); clear HB; have HB := n0_; clear n0_; (try clear hb); (try clear hb2); (try clear hk); (try clear hi))); go_upto_region 3 with (first | (go_at_call 21; (with_reducible refine (detentlaw10_known.calls k  true _ A3.out).mono ?_); rintro e w6 ⟨rfl, hb⟩; have n0_ := Aside0.mk (below_step (by repeat (first | (with_reducible first | exact HB.out | apply below_alloc | apply pw_below_drewN | apply below_drew1) | exact HB.out)) hb); clear HB; have HB := n0_; clear n0_; (try clear hb); (try clear hb2); (try clear hk); (try clear hi))))
    (try simp only [Act.put, List.setIfInBounds_toArray, List.set_cons_zero, List.set_cons_succ])
    go_cut [21] (fun v21 wc => ∃ (kq : Nat) (x21_4 : Bool), v21 = .bool x21_4 ∧ Aside0 (detentlaw10_TaskIs.j0 kq l0 l1 x21_4 = some r) ∧ Aside0 (kq ≤ k) ∧ Aside0 (Below w.heap.size w wc))
    case first =>
      have H := HC5.out
      clear HC5
      by_cases c7 : (l0.length : Int) > 60
      · rw [if_pos c7] at H
        have c7b0 : decide (60 < (l0.length : Int)) = true := decide_eq_true c7
        have c7b1 : decide (60 < l0.length) = true := decide_eq_true (by omega)
        clear c7
        (first | rw [c7b0] | (simp only [i64_w, i32_w]; rw [c7b0]) | skip)
        have H' := Aside0.mk H
        clear H
        go_wp2
        repeat (go_quiet (fail); try go_wp2)
        go_meet
        case rel => exact ⟨_, (true), (by first | rfl | (simp; done) | (simp [*]; done)), H', ⟨by first | omega | exact Nat.le_refl _⟩, ⟨by repeat (first | (with_reducible first | exact HB.out | apply below_alloc | apply pw_below_drewN | apply below_drew1) | exact HB.out)⟩⟩
      · rw [if_neg c7] at H
        have c7b0 : decide (60 < (l0.length : Int)) = false := decide_eq_false c7
        have c7b1 : decide (60 < l0.length) = false := decide_eq_false (by omega)
        clear c7
        (first | rw [c7b0] | (simp only [i64_w, i32_w]; rw [c7b0]) | skip)
        have H' := Aside0.mk H
        clear H
        go_wp2
        repeat (go_quiet (fail); try go_wp2)
        go_meet
        case rel => exact ⟨_, (decide ((l1.length : Int) > 20)), (by first | rfl | (simp; done) | (simp [*]; done)), H', ⟨by first | omega | exact Nat.le_refl _⟩, ⟨by repeat (first | (with_reducible first | exact HB.out | apply below_alloc | apply pw_below_drewN | apply below_drew1) | exact HB.out)⟩⟩
    case rest =>
      clear HC5
      try clear c1
      try clear p2
      try clear c4
      try clear c7
      try clear c7b0
      try clear c7b1
      obtain ⟨kq, x21_4, rfl, HA, HJ4, HB⟩ := hcut
      cases kq with
      | zero => exact absurd HA.out (by simp [detentlaw10_TaskIs.j0])
      | succ kj4 =>
        have H := HA.out
        clear HA
        simp only [detentlaw10_TaskIs.j0] at H
        by_cases c8 : x21_4 = true
        · subst c8
          have H1 : (some true) = some r := by rw [if_pos rfl] at H; exact H
          clear H
          have H := H1
          clear H1
          obtain rfl := Option.some.inj H
          go_wp2
          repeat (go_quiet (fail); try go_wp2)
          go_ret
          exact ⟨by first | rfl | (simp [errW_none, errW_some] <;> rfl) | (simp [*, errW_none, errW_some] <;> rfl), by repeat (first | (with_reducible first | exact HB.out | apply below_alloc | apply pw_below_drewN | apply below_drew1) | exact HB.out)⟩
        · replace c8 := Bool.eq_false_iff.mpr c8
          subst c8
          have H1 : ((tcb_New.f).bind fun bt347 => (detentlaw10_TaskIs.l0 kj4 l0 l1 0 bt347.1 bt347.2.1 bt347.2.2.1 bt347.2.2.2.1 bt347.2.2.2.2)) = some r := by rw [if_neg (show ¬ (false = true) by decide)] at H; exact H
          clear H
          have H := H1
          clear H1
          replace H := Option.bind_eq_some_iff.mp H
          obtain ⟨⟨t347, t348, t349, t350, t351⟩, A90, H⟩ := H
          replace H : (detentlaw10_TaskIs.l0 kj4 l0 l1 0 t347 t348 t349 t350 t351) = some r := H
          have A9 := Aside0.mk A90
          clear A90
          have H' := Aside0.mk H
          clear H
          go_wp2_with (first | (go_at_call 22; (with_reducible refine (tcb_New.calls  t347 t348 t349 t350 t351 w _ ?side1 A9.out).mono ?_); (case side1 => repeat (first | (with_reducible first | exact HB.out | apply below_alloc | apply pw_below_drewN | apply below_drew1) | exact HB.out)); rintro e w10 ⟨g352, rfl, hi, hb, hb2⟩; have n0_ := Aside0.mk (hb); have n1_ := Aside0.mk (hi); clear HB; have HB := n0_; have HI352 := n1_; clear n0_ n1_; (try clear hb); (try clear hb2); (try clear hk); (try clear hi)))
          repeat (go_quiet (first | (go_at_call 22; (with_reducible refine (tcb_New.calls  t347 t348 t349 t350 t351 w _ ?side1 A9.out).mono ?_); (case side1 => repeat (first | (with_reducible first | exact HB.out | apply below_alloc | apply pw_below_drewN | apply below_drew1) | exact HB.out)); rintro e w10 ⟨g352, rfl, hi, hb, hb2⟩; have n0_ := Aside0.mk (hb); have n1_ := Aside0.mk (hi); clear HB; have HB := n0_; have HI352 := n1_; clear n0_ n1_; (try clear hb); (try clear hb2); (try clear hk); (try clear hi))); try go_wp2_with (first | (go_at_call 22; (with_reducible refine (tcb_New.calls  t347 t348 t349 t350 t351 w _ ?side1 A9.out).mono ?_); (case side1 => repeat (first | (with_reducible first | exact HB.out | apply below_alloc | apply pw_below_drewN | apply below_drew1) | exact HB.out)); rintro e w10 ⟨g352, rfl, hi, hb, hb2⟩; have n0_ := Aside0.mk (hb); have n1_ := Aside0.mk (hi); clear HB; have HB := n0_; have HI352 := n1_; clear n0_ n1_; (try clear hb); (try clear hb2); (try clear hk); (try clear hi))))
          go_loopg [6] kj4 (fun kq v6 w' => ∃ (x6_2 : Int) (x353000_2 : Int) (x353001_2 : Int) (x353002_2 : Int) (x353003_2 : Int) (x353004_2 : Bool), v6 = .int .i64 x6_2 ∧ Aside0 (detentlaw10_TaskIs.l0 kq l0 l1 x6_2 x353000_2 x353001_2 x353002_2 x353003_2 x353004_2 = some r) ∧ Aside0 (kq ≤ kj4) ∧ Aside0 (IsS55 w w' g352 x353000_2 x353001_2 x353002_2 x353003_2 x353004_2) ∧ Aside0 (Below w.heap.size w w'))
          case atStart => exact ⟨(0), (t347), (t348), (t349), (t350), (t351), (by first | rfl | (simp; done) | (simp [*]; done)), H', ⟨Nat.le_refl _⟩, ⟨by repeat (first | (with_reducible first | exact HI352.out | apply IsS55.alloc | apply IsS55.drewN | apply IsS55.drew | apply IsS55.set_0 | apply IsS55.set_1 | apply IsS55.set_2 | apply IsS55.set_3 | apply IsS55.set_4) | exact HI352.out)⟩, ⟨by repeat (first | (with_reducible first | exact HB.out | apply below_alloc | apply pw_below_drewN | apply below_drew1 | refine below_set ?_ (IsS55.ge HI352.out)) | exact HB.out)⟩⟩
          case round =>
            clear H'
            try clear c1
            try clear p2
            try clear c4
            try clear c7
            try clear c7b0
            try clear c7b1
            try clear c8
            try clear p2
            obtain ⟨x6_2, x353000_2, x353001_2, x353002_2, x353003_2, x353004_2, rfl, HA, HK2, HI352, HB⟩ := hrel
            cases gk with
            | zero => exact absurd HA.out (by simp [detentlaw10_TaskIs.l0])
            | succ k2 =>
              have H := HA.out
              clear HA
              simp only [detentlaw10_TaskIs.l0] at H
              by_cases c11 : x6_2 < (l0.length : Int)
              · rw [if_pos c11] at H
                have c11b0 : decide (x6_2 < (l0.length : Int)) = true := decide_eq_true c11
                clear c11
                by_cases c12 : 0 ≤ x6_2
                · rw [if_pos c12] at H
                  have c12b0 : decide (0 ≤ x6_2) = true := decide_eq_true c12
                  clear c12
                  replace H := Option.bind_eq_some_iff.mp H
                  obtain ⟨⟨t354, t355, t356, t357, t358, t359, t360⟩, A130, H⟩ := H
                  replace H : (detentlaw10_TaskIs.l0 k2 l0 l1 (wrap64 (x6_2 + 1)) t356 t357 t358 t359 t360) = some r := H
                  have A13 := Aside0.mk A130
                  clear A130
                  have H' := Aside0.mk H
                  clear H
                  have p353 : 0 ≤ (x6_2 : Int) := of_decide_eq_true (by first | (with_reducible assumption) | assumption)
                  have q353 : x6_2 < (l0.length : Int) := of_decide_eq_true (by first | (with_reducible assumption) | assumption)
                  obtain ⟨ad353, e353, hx353_0⟩ := Kd.at_int HR0.out x6_2 p353 q353
                  cases e353
                  replace hx353_0 := (HB.out.cell (World.block_lt_of_cell? w _ hx353_0)).trans hx353_0
                  replace p353 := eq_true p353
                  replace q353 := eq_true q353
                  go_wp2_with (first | (go_at_call 35; (with_reducible refine (detentlaw10_do.calls k2 g352 x353000_2 x353001_2 x353002_2 x353003_2 x353004_2 (rd l0 x6_2) t354 t355 t356 t357 t358 t359 t360 w _ ?side1 ?side2 A13.out).mono ?_); (case side1 => repeat (first | (with_reducible first | exact HI352.out | apply IsS55.alloc | apply IsS55.drewN | apply IsS55.drew | apply IsS55.set_0 | apply IsS55.set_1 | apply IsS55.set_2 | apply IsS55.set_3 | apply IsS55.set_4) | exact HI352.out)); (case side2 => repeat (first | (with_reducible first | exact HB.out | apply below_alloc | apply pw_below_drewN | apply below_drew1 | refine below_set ?_ (IsS55.ge HI352.out)) | exact HB.out)); rintro e w14 ⟨rfl, hi, hb, hk⟩; have n0_ := Aside0.mk (hb); have n1_ := Aside0.mk (hi); clear HB; clear HI352; have HB := n0_; have HI352 := n1_; clear n0_ n1_; (try clear hb); (try clear hb2); (try clear hk); (try clear hi)))
                  repeat (go_quiet (first | (go_at_call 35; (with_reducible refine (detentlaw10_do.calls k2 g352 x353000_2 x353001_2 x353002_2 x353003_2 x353004_2 (rd l0 x6_2) t354 t355 t356 t357 t358 t359 t360 w _ ?side1 ?side2 A13.out).mono ?_); (case side1 => repeat (first | (with_reducible first | exact HI352.out | apply IsS55.alloc | apply IsS55.drewN | apply IsS55.drew | apply IsS55.set_0 | apply IsS55.set_1 | apply IsS55.set_2 | apply IsS55.set_3 | apply IsS55.set_4) | exact HI352.out)); (case side2 => repeat (first | (with_reducible first | exact HB.out | apply below_alloc | apply pw_below_drewN | apply below_drew1 | refine below_set ?_ (IsS55.ge HI352.out)) | exact HB.out)); rintro e w14 ⟨rfl, hi, hb, hk⟩; have n0_ := Aside0.mk (hb); have n1_ := Aside0.mk (hi); clear HB; clear HI352; have HB := n0_; have HI352 := n1_; clear n0_ n1_; (try clear hb); (try clear hb2); (try clear hk); (try clear hi))); try go_wp2_with (first | (go_at_call 35; (with_reducible refine (detentlaw10_do.calls k2 g352 x353000_2 x353001_2 x353002_2 x353003_2 x353004_2 (rd l0 x6_2) t354 t355 t356 t357 t358 t359 t360 w _ ?side1 ?side2 A13.out).mono ?_); (case side1 => repeat (first | (with_reducible first | exact HI352.out | apply IsS55.alloc | apply IsS55.drewN | apply IsS55.drew | apply IsS55.set_0 | apply IsS55.set_1 | apply IsS55.set_2 | apply IsS55.set_3 | apply IsS55.set_4) | exact HI352.out)); (case side2 => repeat (first | (with_reducible first | exact HB.out | apply below_alloc | apply pw_below_drewN | apply below_drew1 | refine below_set ?_ (IsS55.ge HI352.out)) | exact HB.out)); rintro e w14 ⟨rfl, hi, hb, hk⟩; have n0_ := Aside0.mk (hb); have n1_ := Aside0.mk (hi); clear HB; clear HI352; have HB := n0_; have HI352 := n1_; clear n0_ n1_; (try clear hb); (try clear hb2); (try clear hk); (try clear hi))))
                  go_roundg k2
                  case measure => have := HJ4.out; have := HK2.out; omega
                  case rel => exact ⟨(wrap64 (x6_2 + 1)), (t356), (t357), (t358), (t359), (t360), (by first | rfl | (simp; done) | (simp [*]; done)), H', ⟨by have := HJ4.out; have := HK2.out; omega⟩, ⟨by repeat (first | (with_reducible first | exact HI352.out | apply IsS55.alloc | apply IsS55.drewN | apply IsS55.drew | apply IsS55.set_0 | apply IsS55.set_1 | apply IsS55.set_2 | apply IsS55.set_3 | apply IsS55.set_4) | exact HI352.out)⟩, ⟨by repeat (first | (with_reducible first | exact HB.out | apply below_alloc | apply pw_below_drewN | apply below_drew1 | refine below_set ?_ (IsS55.ge HI352.out)) | exact HB.out)⟩⟩
                · rw [if_neg c12] at H
                  exact absurd H (by simp)
              · rw [if_neg c11] at H
                have c11b0 : decide (x6_2 < (l0.length : Int)) = false := decide_eq_false c11
                clear c11
                have H' := Aside0.mk H
                clear H
                go_wp2
                repeat (go_quiet (fail); try go_wp2)
                go_loopg [7, 8] k2 (fun kq v7 v8 w' => ∃ (x7_3 : Bool) (x8_3 : Int), v7 = .bool x7_3 ∧ v8 = .int .i64 x8_3 ∧ Aside0 (detentlaw10_TaskIs.l1 kq l1 x7_3 x8_3 x353000_2 x353001_2 x353002_2 x353003_2 x353004_2 = some r) ∧ Aside0 (kq ≤ k2) ∧ Aside0 (IsS55 w w' g352 x353000_2 x353001_2 x353002_2 x353003_2 x353004_2) ∧ Aside0 (Below w.heap.size w w'))
                case atStart => exact ⟨(false), (0), (by first | rfl | (simp; done) | (simp [*]; done)), (by first | rfl | (simp; done) | (simp [*]; done)), H', ⟨Nat.le_refl _⟩, ⟨by repeat (first | (with_reducible first | exact HI352.out | apply IsS55.alloc | apply IsS55.drewN | apply IsS55.drew | apply IsS55.set_0 | apply IsS55.set_1 | apply IsS55.set_2 | apply IsS55.set_3 | apply IsS55.set_4) | exact HI352.out)⟩, ⟨by repeat (first | (with_reducible first | exact HB.out | apply below_alloc | apply pw_below_drewN | apply below_drew1 | refine below_set ?_ (IsS55.ge HI352.out)) | exact HB.out)⟩⟩
                case round =>
                  clear H'
                  try clear c1
                  try clear p2
                  try clear p3
                  try clear q3
                  try clear hx3
                  try clear c4
                  try clear p6
                  try clear c7
                  try clear c7b0
                  try clear c7b1
                  try clear c8
                  try clear c11
                  try clear c11b0
                  try clear c12
                  try clear c12b0
                  try clear c13
                  try clear hx353_0
                  try clear p2
                  try clear p353
                  try clear q353
                  obtain ⟨x7_3, x8_3, rfl, rfl, HA, HK3, HI352, HB⟩ := hrel
                  cases gk with
                  | zero => exact absurd HA.out (by simp [detentlaw10_TaskIs.l1])
                  | succ k3 =>
                    have H := HA.out
                    clear HA
                    simp only [detentlaw10_TaskIs.l1] at H
                    by_cases c15 : x8_3 < (l1.length : Int)
                    · rw [if_pos c15] at H
                      have c15b0 : decide (x8_3 < (l1.length : Int)) = true := decide_eq_true c15
                      clear c15
                      by_cases c16 : x7_3 = true
                      · subst c16
                        have H1 : (detentlaw10_TaskIs.l1 k3 l1 true (wrap64 (x8_3 + 1)) x353000_2 x353001_2 x353002_2 x353003_2 x353004_2) = some r := by rw [if_pos rfl] at H; exact H
                        clear H
                        have H := H1
                        clear H1
                        have H' := Aside0.mk H
                        clear H
                        go_wp2
                        repeat (go_quiet (fail); try go_wp2)
                        go_roundg k3
                        case measure => have := HJ4.out; have := HK2.out; have := HK3.out; omega
                        case rel => exact ⟨(true), (wrap64 (x8_3 + 1)), (by first | rfl | (simp; done) | (simp [*]; done)), (by first | rfl | (simp; done) | (simp [*]; done)), H', ⟨by have := HJ4.out; have := HK2.out; have := HK3.out; omega⟩, ⟨by repeat (first | (with_reducible first | exact HI352.out | apply IsS55.alloc | apply IsS55.drewN | apply IsS55.drew | apply IsS55.set_0 | apply IsS55.set_1 | apply IsS55.set_2 | apply IsS55.set_3 | apply IsS55.set_4) | exact HI352.out)⟩, ⟨by repeat (first | (with_reducible first | exact HB.out | apply below_alloc | apply pw_below_drewN | apply below_drew1 | refine below_set ?_ (IsS55.ge HI352.out)) | exact HB.out)⟩⟩
                      · replace c16 := Bool.eq_false_iff.mpr c16
                        subst c16
                        have H1 : (if 0 ≤ x8_3 then (detentlaw10_TaskIs.l1 k3 l1 ((rd l1 x8_3) == x353003_2) (wrap64 (x8_3 + 1)) x353000_2 x353001_2 x353002_2 x353003_2 x353004_2) else (none)) = some r := by rw [if_neg (show ¬ (false = true) by decide)] at H; exact H
                        clear H
                        have H := H1
                        clear H1
                        by_cases c17 : 0 ≤ x8_3
                        · rw [if_pos c17] at H
                          have c17b0 : decide (0 ≤ x8_3) = true := decide_eq_true c17
                          clear c17
                          have H' := Aside0.mk H
                          clear H
                          have p361 : 0 ≤ (x8_3 : Int) := of_decide_eq_true (by first | (with_reducible assumption) | assumption)
                          have q361 : x8_3 < (l1.length : Int) := of_decide_eq_true (by first | (with_reducible assumption) | assumption)
                          obtain ⟨ad361, e361, hx361_0⟩ := Kd.at_int HR1.out x8_3 p361 q361
                          cases e361
                          replace hx361_0 := (HB.out.cell (World.block_lt_of_cell? w _ hx361_0)).trans hx361_0
                          replace p361 := eq_true p361
                          replace q361 := eq_true q361
                          obtain ⟨HGz18, hgz18⟩ := HI352.out
                          have hcz18_0 := cellS55_0 HGz18
                          have hcz18_1 := cellS55_1 HGz18
                          have hcz18_2 := cellS55_2 HGz18
                          have hcz18_3 := cellS55_3 HGz18
                          have hcz18_4 := cellS55_4 HGz18
                          have hfz18_0 := blk_frozen HGz18 0
                          have hfz18_1 := blk_frozen HGz18 1
                          have hfz18_2 := blk_frozen HGz18 2
                          have hfz18_3 := blk_frozen HGz18 3
                          have hfz18_4 := blk_frozen HGz18 4
                          clear HGz18 hgz18
                          go_wp2
                          repeat (go_quiet (fail); try go_wp2)
                          go_roundg k3
                          case measure => have := HJ4.out; have := HK2.out; have := HK3.out; omega
                          case rel => exact ⟨(((rd l1 x8_3) == x353003_2)), (wrap64 (x8_3 + 1)), (by first | rfl | (simp; done) | (simp [*]; done)), (by first | rfl | (simp; done) | (simp [*]; done)), H', ⟨by have := HJ4.out; have := HK2.out; have := HK3.out; omega⟩, ⟨by repeat (first | (with_reducible first | exact HI352.out | apply IsS55.alloc | apply IsS55.drewN | apply IsS55.drew | apply IsS55.set_0 | apply IsS55.set_1 | apply IsS55.set_2 | apply IsS55.set_3 | apply IsS55.set_4) | exact HI352.out)⟩, ⟨by repeat (first | (with_reducible first | exact HB.out | apply below_alloc | apply pw_below_drewN | apply below_drew1 | refine below_set ?_ (IsS55.ge HI352.out)) | exact HB.out)⟩⟩
                        · rw [if_neg c17] at H
                          exact absurd H (by simp)
                    · rw [if_neg c15] at H
                      have c15b0 : decide (x8_3 < (l1.length : Int)) = false := decide_eq_false c15
                      clear c15
                      obtain ⟨y362, hy362⟩ : ∃ y_ : List Int, y_ = (([2, 4, 8, 12, 16] : List Int)) := ⟨_, rfl⟩
                      replace H : (detentlaw10_TaskIs.l2 k3 l1 x7_3 0 y362 (y362.length : Int) 0 x353000_2 x353001_2 x353002_2 x353003_2 x353004_2) = some r := by first | (rw [hy362]; with_reducible exact H) | (have H2_ := (Option.bind_some _ _).symm.trans H; rw [hy362]; with_reducible exact H2_) | (have H2_ := (Option.bind_some _ _).symm.trans H; with_reducible exact H2_) | with_reducible exact H | (rw [hy362]; exact H) | exact H
                      have Ny362 := Aside0.mk hy362
                      clear hy362
                      have H' := Aside0.mk H
                      clear H
                      go_wp2_with (first | ((with_reducible refine gate_dst (N := 53) rfl ?_); (try (refine gate_guard (by rfl) ?_; dsimp only)); refine Kd.R_lit (Kd.int .i64) _ 3 ?hg (N := 53) ?hd (xs := ([2, 4, 8, 12, 16] : List Int)) (inner := [.int .i64 2, .int .i64 4, .int .i64 8, .int .i64 12, .int .i64 16]) (ok := fun _ => True) (okp := fun _ => True) ?hr ?hp (fun _ hk => hk) trivial (Below.refl _ _) (Nat.le_refl _) (by simp) ?_; (case hd => rfl); (case hg => rfl); (case hr => first | (go_simp; done) | (go_simp; rfl)); (case hp => exact (Reps.one (show Kd.M (Kd.int .i64) _ _ _ 2 [.int .i64 2] from rfl) (Reps.one (show Kd.M (Kd.int .i64) _ _ _ 4 [.int .i64 4] from rfl) (Reps.one (show Kd.M (Kd.int .i64) _ _ _ 8 [.int .i64 8] from rfl) (Reps.one (show Kd.M (Kd.int .i64) _ _ _ 12 [.int .i64 12] from rfl) (Reps.one (show Kd.M (Kd.int .i64) _ _ _ 16 [.int .i64 16] from rfl) (Reps.none _ _))))))); intro v363 w19 ho20 hb hg_ hnew_; clear hg_ hnew_; (first | rw [← Ny362.out] at ho20 | (simp only [Int.reduceToNat] at ho20; rw [← Ny362.out] at ho20)); have n0_ := Aside0.mk (Kd.R_lower ho20 (below_size (by repeat (first | (with_reducible first | exact HB.out | apply below_alloc | apply pw_below_drewN | apply below_drew1 | refine below_set ?_ (IsS55.ge HI352.out)) | exact HB.out)))); have n1_ := Aside0.mk (IsS55.below (by repeat (first | (with_reducible first | exact HI352.out | apply IsS55.alloc | apply IsS55.drewN | apply IsS55.drew | apply IsS55.set_0 | apply IsS55.set_1 | apply IsS55.set_2 | apply IsS55.set_3 | apply IsS55.set_4) | exact HI352.out)) hb); have n2_ := Aside0.mk (below_step (by repeat (first | (with_reducible first | exact HB.out | apply below_alloc | apply pw_below_drewN | apply below_drew1 | refine below_set ?_ (IsS55.ge HI352.out)) | exact HB.out)) hb); clear HI352; clear HB; have HO364 := n0_; have HI352 := n1_; have HB := n2_; clear n0_ n1_ n2_; clear hb ho20; obtain ⟨Ao21, co21, eo21⟩ := Kd.R_slice HO364.out; subst eo21))
                      repeat (go_quiet (first | ((with_reducible refine gate_dst (N := 53) rfl ?_); (try (refine gate_guard (by rfl) ?_; dsimp only)); refine Kd.R_lit (Kd.int .i64) _ 3 ?hg (N := 53) ?hd (xs := ([2, 4, 8, 12, 16] : List Int)) (inner := [.int .i64 2, .int .i64 4, .int .i64 8, .int .i64 12, .int .i64 16]) (ok := fun _ => True) (okp := fun _ => True) ?hr ?hp (fun _ hk => hk) trivial (Below.refl _ _) (Nat.le_refl _) (by simp) ?_; (case hd => rfl); (case hg => rfl); (case hr => first | (go_simp; done) | (go_simp; rfl)); (case hp => exact (Reps.one (show Kd.M (Kd.int .i64) _ _ _ 2 [.int .i64 2] from rfl) (Reps.one (show Kd.M (Kd.int .i64) _ _ _ 4 [.int .i64 4] from rfl) (Reps.one (show Kd.M (Kd.int .i64) _ _ _ 8 [.int .i64 8] from rfl) (Reps.one (show Kd.M (Kd.int .i64) _ _ _ 12 [.int .i64 12] from rfl) (Reps.one (show Kd.M (Kd.int .i64) _ _ _ 16 [.int .i64 16] from rfl) (Reps.none _ _))))))); intro v363 w19 ho20 hb hg_ hnew_; clear hg_ hnew_; (first | rw [← Ny362.out] at ho20 | (simp only [Int.reduceToNat] at ho20; rw [← Ny362.out] at ho20)); have n0_ := Aside0.mk (Kd.R_lower ho20 (below_size (by repeat (first | (with_reducible first | exact HB.out | apply below_alloc | apply pw_below_drewN | apply below_drew1 | refine below_set ?_ (IsS55.ge HI352.out)) | exact HB.out)))); have n1_ := Aside0.mk (IsS55.below (by repeat (first | (with_reducible first | exact HI352.out | apply IsS55.alloc | apply IsS55.drewN | apply IsS55.drew | apply IsS55.set_0 | apply IsS55.set_1 | apply IsS55.set_2 | apply IsS55.set_3 | apply IsS55.set_4) | exact HI352.out)) hb); have n2_ := Aside0.mk (below_step (by repeat (first | (with_reducible first | exact HB.out | apply below_alloc | apply pw_below_drewN | apply below_drew1 | refine below_set ?_ (IsS55.ge HI352.out)) | exact HB.out)) hb); clear HI352; clear HB; have HO364 := n0_; have HI352 := n1_; have HB := n2_; clear n0_ n1_ n2_; clear hb ho20; obtain ⟨Ao21, co21, eo21⟩ := Kd.R_slice HO364.out; subst eo21)); try go_wp2_with (first | ((with_reducible refine gate_dst (N := 53) rfl ?_); (try (refine gate_guard (by rfl) ?_; dsimp only)); refine Kd.R_lit (Kd.int .i64) _ 3 ?hg (N := 53) ?hd (xs := ([2, 4, 8, 12, 16] : List Int)) (inner := [.int .i64 2, .int .i64 4, .int .i64 8, .int .i64 12, .int .i64 16]) (ok := fun _ => True) (okp := fun _ => True) ?hr ?hp (fun _ hk => hk) trivial (Below.refl _ _) (Nat.le_refl _) (by simp) ?_; (case hd => rfl); (case hg => rfl); (case hr => first | (go_simp; done) | (go_simp; rfl)); (case hp => exact (Reps.one (show Kd.M (Kd.int .i64) _ _ _ 2 [.int .i64 2] from rfl) (Reps.one (show Kd.M (Kd.int .i64) _ _ _ 4 [.int .i64 4] from rfl) (Reps.one (show Kd.M (Kd.int .i64) _ _ _ 8 [.int .i64 8] from rfl) (Reps.one (show Kd.M (Kd.int .i64) _ _ _ 12 [.int .i64 12] from rfl) (Reps.one (show Kd.M (Kd.int .i64) _ _ _ 16 [.int .i64 16] from rfl) (Reps.none _ _))))))); intro v363 w19 ho20 hb hg_ hnew_; clear hg_ hnew_; (first | rw [← Ny362.out] at ho20 | (simp only [Int.reduceToNat] at ho20; rw [← Ny362.out] at ho20)); have n0_ := Aside0.mk (Kd.R_lower ho20 (below_size (by repeat (first | (with_reducible first | exact HB.out | apply below_alloc | apply pw_below_drewN | apply below_drew1 | refine below_set ?_ (IsS55.ge HI352.out)) | exact HB.out)))); have n1_ := Aside0.mk (IsS55.below (by repeat (first | (with_reducible first | exact HI352.out | apply IsS55.alloc | apply IsS55.drewN | apply IsS55.drew | apply IsS55.set_0 | apply IsS55.set_1 | apply IsS55.set_2 | apply IsS55.set_3 | apply IsS55.set_4) | exact HI352.out)) hb); have n2_ := Aside0.mk (below_step (by repeat (first | (with_reducible first | exact HB.out | apply below_alloc | apply pw_below_drewN | apply below_drew1 | refine below_set ?_ (IsS55.ge HI352.out)) | exact HB.out)) hb); clear HI352; clear HB; have HO364 := n0_; have HI352 := n1_; have HB := n2_; clear n0_ n1_ n2_; clear hb ho20; obtain ⟨Ao21, co21, eo21⟩ := Kd.R_slice HO364.out; subst eo21)))
                      go_loopg [9, 55] k3 (fun kq v9 v55 w' => ∃ (x9_4 : Int) (x55_4 : Int) (x353000_4 : Int) (x353001_4 : Int) (x353002_4 : Int) (x353003_4 : Int) (x353004_4 : Bool), v9 = .int .i64 x9_4 ∧ v55 = .int .i64 x55_4 ∧ Aside0 (detentlaw10_TaskIs.l2 kq l1 x7_3 x9_4 y362 (y362.length : Int) x55_4 x353000_4 x353001_4 x353002_4 x353003_4 x353004_4 = some r) ∧ Aside0 (kq ≤ k3) ∧ Aside0 (Kd.R (Kd.int .i64) 3 w' w.heap.size (fun _ => True) (.slice Ao21 y362.length co21) y362) ∧ Aside0 (IsS55 w w' g352 x353000_4 x353001_4 x353002_4 x353003_4 x353004_4) ∧ Aside0 (Below w.heap.size w w'))
                      case atStart => exact ⟨(0), (0), (x353000_2), (x353001_2), (x353002_2), (x353003_2), (x353004_2), (by first | rfl | (simp; done) | (simp [*]; done)), (by first | rfl | (simp; done) | (simp [*]; done)), H', ⟨Nat.le_refl _⟩, ⟨by (with_reducible repeat (first | apply Kd.R_alloc | apply Kd.R_drewN | apply Kd.R_drew)); exact HO364.out⟩, ⟨by repeat (first | (with_reducible first | exact HI352.out | apply IsS55.alloc | apply IsS55.drewN | apply IsS55.drew | apply IsS55.set_0 | apply IsS55.set_1 | apply IsS55.set_2 | apply IsS55.set_3 | apply IsS55.set_4) | exact HI352.out)⟩, ⟨by repeat (first | (with_reducible first | exact HB.out | apply below_alloc | apply pw_below_drewN | apply below_drew1 | refine below_set ?_ (IsS55.ge HI352.out)) | exact HB.out)⟩⟩
                      case round =>
                        clear H'
                        try clear c1
                        try clear p2
                        try clear p3
                        try clear q3
                        try clear hx3
                        try clear c4
                        try clear p6
                        try clear c7
                        try clear c7b0
                        try clear c7b1
                        try clear c8
                        try clear c11
                        try clear c11b0
                        try clear c12
                        try clear c12b0
                        try clear c13
                        try clear c15
                        try clear c15b0
                        try clear c16
                        try clear c17
                        try clear c17b0
                        try clear hcz18_0
                        try clear hcz18_1
                        try clear hcz18_2
                        try clear hcz18_3
                        try clear hcz18_4
                        try clear hfz18_0
                        try clear hfz18_1
                        try clear hfz18_2
                        try clear hfz18_3
                        try clear hfz18_4
                        try clear hx353_0
                        try clear hx361_0
                        try clear p2
                        try clear p3
                        try clear p353
                        try clear p361
                        try clear p6
                        try clear q3
                        try clear q353
                        try clear q361
                        obtain ⟨x9_4, x55_4, x353000_4, x353001_4, x353002_4, x353003_4, x353004_4, rfl, rfl, HA, HK4, HO_53, HI352, HB⟩ := hrel
                        cases gk with
                        | zero => exact absurd HA.out (by simp [detentlaw10_TaskIs.l2])
                        | succ k4 =>
                          have H := HA.out
                          clear HA
                          simp only [detentlaw10_TaskIs.l2] at H
                          by_cases c22 : x55_4 < (y362.length : Int)
                          · rw [if_pos c22] at H
                            have c22b0 : decide (x55_4 < (y362.length : Int)) = true := decide_eq_true c22
                            clear c22
                            by_cases c23 : 0 ≤ x55_4
                            · rw [if_pos c23] at H
                              have c23b0 : decide (0 ≤ x55_4) = true := decide_eq_true c23
                              clear c23
                              by_cases c24 : x55_4 < (y362.length : Int)
                              · rw [if_pos c24] at H
                                have c24b0 : decide (x55_4 < (y362.length : Int)) = true := decide_eq_true c24
                                clear c24
                                obtain ⟨y366, hy366⟩ : ∃ y_ : List Int, y_ = (([rd y362 x55_4] : List Int)) := ⟨_, rfl⟩
                                replace H : ((tcb_Task_Is.f k4 x353000_4 x353001_4 x353002_4 x353003_4 x353004_4 y366).bind fun bt369 => (if bt369.1 = true then (detentlaw10_TaskIs.l2 k4 l1 x7_3 (wrap64 (x9_4 + 1)) y362 (y362.length : Int) (wrap64 (x55_4 + 1)) bt369.2.1 bt369.2.2.1 bt369.2.2.2.1 bt369.2.2.2.2.1 bt369.2.2.2.2.2) else (detentlaw10_TaskIs.l2 k4 l1 x7_3 x9_4 y362 (y362.length : Int) (wrap64 (x55_4 + 1)) bt369.2.1 bt369.2.2.1 bt369.2.2.2.1 bt369.2.2.2.2.1 bt369.2.2.2.2.2))) = some r := by first | (rw [hy366]; with_reducible exact H) | (have H2_ := (Option.bind_some _ _).symm.trans H; rw [hy366]; with_reducible exact H2_) | (have H2_ := (Option.bind_some _ _).symm.trans H; with_reducible exact H2_) | with_reducible exact H | (rw [hy366]; exact H) | exact H
                                have Ny366 := Aside0.mk hy366
                                clear hy366
                                replace H := Option.bind_eq_some_iff.mp H
                                obtain ⟨⟨t369, t370, t371, t372, t373, t374⟩, A250, H⟩ := H
                                replace H : (if t369 = true then (detentlaw10_TaskIs.l2 k4 l1 x7_3 (wrap64 (x9_4 + 1)) y362 (y362.length : Int) (wrap64 (x55_4 + 1)) t370 t371 t372 t373 t374) else (detentlaw10_TaskIs.l2 k4 l1 x7_3 x9_4 y362 (y362.length : Int) (wrap64 (x55_4 + 1)) t370 t371 t372 t373 t374)) = some r := H
                                have A25 := Aside0.mk A250
                                clear A250
                                by_cases c26 : t369 = true
                                · subst c26
                                  have H1 : (detentlaw10_TaskIs.l2 k4 l1 x7_3 (wrap64 (x9_4 + 1)) y362 (y362.length : Int) (wrap64 (x55_4 + 1)) t370 t371 t372 t373 t374) = some r := by rw [if_pos rfl] at H; exact H
                                  clear H
                                  have H := H1
                                  clear H1
                                  have H' := Aside0.mk H
                                  clear H
                                  have p365 : 0 ≤ (x55_4 : Int) := of_decide_eq_true (by first | (with_reducible assumption) | assumption)
                                  have q365 : x55_4 < (y362.length : Int) := of_decide_eq_true (by first | (with_reducible assumption) | assumption)
                                  obtain ⟨ad365, e365, hx365_0⟩ := Kd.at_int (Kd.R_reads' HO_53.out).2.2 x55_4 p365 q365
                                  cases e365
                                  replace p365 := eq_true p365
                                  replace q365 := eq_true q365
                                  go_wp2_with (first | ((with_reducible refine gate_dst (N := 61) rfl ?_); (try (refine gate_guard (by rfl) ?_; dsimp only)); refine Kd.R_lit (Kd.int .i64) _ 3 ?hg (N := 61) ?hd (xs := ([rd y362 x55_4] : List Int)) (inner := [.int .i64 (rd y362 x55_4)]) (ok := fun _ => True) (okp := fun _ => True) ?hr ?hp (fun _ hk => hk) trivial (Below.refl _ _) (Nat.le_refl _) (by simp) ?_; (case hd => rfl); (case hg => rfl); (case hr => first | (go_simp; done) | (go_simp; rfl)); (case hp => exact (Reps.one (show Kd.M (Kd.int .i64) _ _ _ (rd y362 x55_4) [.int .i64 (rd y362 x55_4)] from rfl) (Reps.none _ _))); intro v367 w27 ho28 hb hg_ hnew_; clear hg_ hnew_; (first | rw [← Ny366.out] at ho28 | (simp only [Int.reduceToNat] at ho28; rw [← Ny366.out] at ho28)); have n0_ := Aside0.mk (Kd.R_elder' (by (with_reducible repeat (first | apply Kd.R_alloc | apply Kd.R_drewN | apply Kd.R_drew)); exact HO_53.out) (Kd.R_base ho28) hb); have n1_ := Aside0.mk (Kd.R_lower (Kd.R_new' ho28 (Kd.R_lt (by (with_reducible repeat (first | apply Kd.R_alloc | apply Kd.R_drewN | apply Kd.R_drew)); exact HO_53.out))) (below_size (by repeat (first | (with_reducible first | exact HB.out | apply below_alloc | apply pw_below_drewN | apply below_drew1 | refine below_set ?_ (IsS55.ge HI352.out)) | exact HB.out)))); have n2_ := Aside0.mk (IsS55.below (by repeat (first | (with_reducible first | exact HI352.out | apply IsS55.alloc | apply IsS55.drewN | apply IsS55.drew | apply IsS55.set_0 | apply IsS55.set_1 | apply IsS55.set_2 | apply IsS55.set_3 | apply IsS55.set_4) | exact HI352.out)) hb); have n3_ := Aside0.mk (below_step (by repeat (first | (with_reducible first | exact HB.out | apply below_alloc | apply pw_below_drewN | apply below_drew1 | refine below_set ?_ (IsS55.ge HI352.out)) | exact HB.out)) hb); clear HO_53; clear HI352; clear HB; have HO_53 := n0_; have HO368 := n1_; have HI352 := n2_; have HB := n3_; clear n0_ n1_ n2_ n3_; clear hb ho28; obtain ⟨Ao29, co29, eo29⟩ := Kd.R_slice HO368.out; subst eo29) | (go_at_call 25; (with_reducible refine (tcb_Task_Is.calls k4 g352 x353000_4 x353001_4 x353002_4 x353003_4 x353004_4 _ _ y366 true t370 t371 t372 t373 t374 w _ ?side1 ?side2 ?side3 ?side4 ?side5 A25.out).mono ?_); (case side1 => repeat (first | (with_reducible first | exact HI352.out | apply IsS55.alloc | apply IsS55.drewN | apply IsS55.drew | apply IsS55.set_0 | apply IsS55.set_1 | apply IsS55.set_2 | apply IsS55.set_3 | apply IsS55.set_4) | exact HI352.out)); (case side2 => repeat (first | (with_reducible first | exact HB.out | apply below_alloc | apply pw_below_drewN | apply below_drew1 | refine below_set ?_ (IsS55.ge HI352.out)) | exact HB.out)); (case side3 => repeat (first | exact (Kd.R_reads' HO368.out).2.2 | (with_reducible refine Kd.C_alloc ?_ _) | (with_reducible refine Kd.C_drewN ?_ _) | (with_reducible refine Kd.C_drew ?_))); (case side4 => exact (Kd.R_reads' HO368.out).2.1); (case side5 => exact far_slice (IsS55.own_ne HI352.out HO368.out (by decide))); rintro e w30 ⟨rfl, hi, hb, hk⟩; have n0_ := Aside0.mk (Kd.R_mono (Kd.R_keep (IsS55.apart (show IsS55 w _ g352 x353000_4 x353001_4 x353002_4 x353003_4 x353004_4 from by repeat (first | (with_reducible first | exact HI352.out | apply IsS55.alloc | apply IsS55.drewN | apply IsS55.drew | apply IsS55.set_0 | apply IsS55.set_1 | apply IsS55.set_2 | apply IsS55.set_3 | apply IsS55.set_4) | exact HI352.out)) (by (with_reducible repeat (first | apply Kd.R_alloc | apply Kd.R_drewN | apply Kd.R_drew)); exact HO_53.out) (by decide)) hk (fun _ h => h.2)) (fun _ h => h.1)); have n1_ := Aside0.mk (Kd.R_mono (Kd.R_keep (IsS55.apart (show IsS55 w _ g352 x353000_4 x353001_4 x353002_4 x353003_4 x353004_4 from by repeat (first | (with_reducible first | exact HI352.out | apply IsS55.alloc | apply IsS55.drewN | apply IsS55.drew | apply IsS55.set_0 | apply IsS55.set_1 | apply IsS55.set_2 | apply IsS55.set_3 | apply IsS55.set_4) | exact HI352.out)) (by (with_reducible repeat (first | apply Kd.R_alloc | apply Kd.R_drewN | apply Kd.R_drew)); exact HO368.out) (by decide)) hk (fun _ h => h.2)) (fun _ h => h.1)); have n2_ := Aside0.mk (hb); have n3_ := Aside0.mk (hi); clear HO_53; clear HO368; clear HB; clear HI352; have HO_53 := n0_; have HO368 := n1_; have HB := n2_; have HI352 := n3_; clear n0_ n1_ n2_ n3_; (try clear hb); (try clear hb2); (try clear hk); (try clear hi)))
                                  repeat (go_quiet (first | ((with_reducible refine gate_dst (N := 61) rfl ?_); (try (refine gate_guard (by rfl) ?_; dsimp only)); refine Kd.R_lit (Kd.int .i64) _ 3 ?hg (N := 61) ?hd (xs := ([rd y362 x55_4] : List Int)) (inner := [.int .i64 (rd y362 x55_4)]) (ok := fun _ => True) (okp := fun _ => True) ?hr ?hp (fun _ hk => hk) trivial (Below.refl _ _) (Nat.le_refl _) (by simp) ?_; (case hd => rfl); (case hg => rfl); (case hr => first | (go_simp; done) | (go_simp; rfl)); (case hp => exact (Reps.one (show Kd.M (Kd.int .i64) _ _ _ (rd y362 x55_4) [.int .i64 (rd y362 x55_4)] from rfl) (Reps.none _ _))); intro v367 w27 ho28 hb hg_ hnew_; clear hg_ hnew_; (first | rw [← Ny366.out] at ho28 | (simp only [Int.reduceToNat] at ho28; rw [← Ny366.out] at ho28)); have n0_ := Aside0.mk (Kd.R_elder' (by (with_reducible repeat (first | apply Kd.R_alloc | apply Kd.R_drewN | apply Kd.R_drew)); exact HO_53.out) (Kd.R_base ho28) hb); have n1_ := Aside0.mk (Kd.R_lower (Kd.R_new' ho28 (Kd.R_lt (by (with_reducible repeat (first | apply Kd.R_alloc | apply Kd.R_drewN | apply Kd.R_drew)); exact HO_53.out))) (below_size (by repeat (first | (with_reducible first | exact HB.out | apply below_alloc | apply pw_below_drewN | apply below_drew1 | refine below_set ?_ (IsS55.ge HI352.out)) | exact HB.out)))); have n2_ := Aside0.mk (IsS55.below (by repeat (first | (with_reducible first | exact HI352.out | apply IsS55.alloc | apply IsS55.drewN | apply IsS55.drew | apply IsS55.set_0 | apply IsS55.set_1 | apply IsS55.set_2 | apply IsS55.set_3 | apply IsS55.set_4) | exact HI352.out)) hb); have n3_ := Aside0.mk (below_step (by repeat (first | (with_reducible first | exact HB.out | apply below_alloc | apply pw_below_drewN | apply below_drew1 | refine below_set ?_ (IsS55.ge HI352.out)) | exact HB.out)) hb); clear HO_53; clear HI352; clear HB; have HO_53 := n0_; have HO368 := n1_; have HI352 := n2_; have HB := n3_; clear n0_ n1_ n2_ n3_; clear hb ho28; obtain ⟨Ao29, co29, eo29⟩ := Kd.R_slice HO368.out; subst eo29) | (go_at_call 25; (with_reducible refine (tcb_Task_Is.calls k4 g352 x353000_4 x353001_4 x353002_4 x353003_4 x353004_4 _ _ y366 true t370 t371 t372 t373 t374 w _ ?side1 ?side2 ?side3 ?side4 ?side5 A25.out).mono ?_); (case side1 => repeat (first | (with_reducible first | exact HI352.out | apply IsS55.alloc | apply IsS55.drewN | apply IsS55.drew | apply IsS55.set_0 | apply IsS55.set_1 | apply IsS55.set_2 | apply IsS55.set_3 | apply IsS55.set_4) | exact HI352.out)); (case side2 => repeat (first | (with_reducible first | exact HB.out | apply below_alloc | apply pw_below_drewN | apply below_drew1 | refine below_set ?_ (IsS55.ge HI352.out)) | exact HB.out)); (case side3 => repeat (first | exact (Kd.R_reads' HO368.out).2.2 | (with_reducible refine Kd.C_alloc ?_ _) | (with_reducible refine Kd.C_drewN ?_ _) | (with_reducible refine Kd.C_drew ?_))); (case side4 => exact (Kd.R_reads' HO368.out).2.1); (case side5 => exact far_slice (IsS55.own_ne HI352.out HO368.out (by decide))); rintro e w30 ⟨rfl, hi, hb, hk⟩; have n0_ := Aside0.mk (Kd.R_mono (Kd.R_keep (IsS55.apart (show IsS55 w _ g352 x353000_4 x353001_4 x353002_4 x353003_4 x353004_4 from by repeat (first | (with_reducible first | exact HI352.out | apply IsS55.alloc | apply IsS55.drewN | apply IsS55.drew | apply IsS55.set_0 | apply IsS55.set_1 | apply IsS55.set_2 | apply IsS55.set_3 | apply IsS55.set_4) | exact HI352.out)) (by (with_reducible repeat (first | apply Kd.R_alloc | apply Kd.R_drewN | apply Kd.R_drew)); exact HO_53.out) (by decide)) hk (fun _ h => h.2)) (fun _ h => h.1)); have n1_ := Aside0.mk (Kd.R_mono (Kd.R_keep (IsS55.apart (show IsS55 w _ g352 x353000_4 x353001_4 x353002_4 x353003_4 x353004_4 from by repeat (first | (with_reducible first | exact HI352.out | apply IsS55.alloc | apply IsS55.drewN | apply IsS55.drew | apply IsS55.set_0 | apply IsS55.set_1 | apply IsS55.set_2 | apply IsS55.set_3 | apply IsS55.set_4) | exact HI352.out)) (by (with_reducible repeat (first | apply Kd.R_alloc | apply Kd.R_drewN | apply Kd.R_drew)); exact HO368.out) (by decide)) hk (fun _ h => h.2)) (fun _ h => h.1)); have n2_ := Aside0.mk (hb); have n3_ := Aside0.mk (hi); clear HO_53; clear HO368; clear HB; clear HI352; have HO_53 := n0_; have HO368 := n1_; have HB := n2_; have HI352 := n3_; clear n0_ n1_ n2_ n3_; (try clear hb); (try clear hb2); (try clear hk); (try clear hi))); try go_wp2_with (first | ((with_reducible refine gate_dst (N := 61) rfl ?_); (try (refine gate_guard (by rfl) ?_; dsimp only)); refine Kd.R_lit (Kd.int .i64) _ 3 ?hg (N := 61) ?hd (xs := ([rd y362 x55_4] : List Int)) (inner := [.int .i64 (rd y362 x55_4)]) (ok := fun _ => True) (okp := fun _ => True) ?hr ?hp (fun _ hk => hk) trivial (Below.refl _ _) (Nat.le_refl _) (by simp) ?_; (case hd => rfl); (case hg => rfl); (case hr => first | (go_simp; done) | (go_simp; rfl)); (case hp => exact (Reps.one (show Kd.M (Kd.int .i64) _ _ _ (rd y362 x55_4) [.int .i64 (rd y362 x55_4)] from rfl) (Reps.none _ _))); intro v367 w27 ho28 hb hg_ hnew_; clear hg_ hnew_; (first | rw [← Ny366.out] at ho28 | (simp only [Int.reduceToNat] at ho28; rw [← Ny366.out] at ho28)); have n0_ := Aside0.mk (Kd.R_elder' (by (with_reducible repeat (first | apply Kd.R_alloc | apply Kd.R_drewN | apply Kd.R_drew)); exact HO_53.out) (Kd.R_base ho28) hb); have n1_ := Aside0.mk (Kd.R_lower (Kd.R_new' ho28 (Kd.R_lt (by (with_reducible repeat (first | apply Kd.R_alloc | apply Kd.R_drewN | apply Kd.R_drew)); exact HO_53.out))) (below_size (by repeat (first | (with_reducible first | exact HB.out | apply below_alloc | apply pw_below_drewN | apply below_drew1 | refine below_set ?_ (IsS55.ge HI352.out)) | exact HB.out)))); have n2_ := Aside0.mk (IsS55.below (by repeat (first | (with_reducible first | exact HI352.out | apply IsS55.alloc | apply IsS55.drewN | apply IsS55.drew | apply IsS55.set_0 | apply IsS55.set_1 | apply IsS55.set_2 | apply IsS55.set_3 | apply IsS55.set_4) | exact HI352.out)) hb); have n3_ := Aside0.mk (below_step (by repeat (first | (with_reducible first | exact HB.out | apply below_alloc | apply pw_below_drewN | apply below_drew1 | refine below_set ?_ (IsS55.ge HI352.out)) | exact HB.out)) hb); clear HO_53; clear HI352; clear HB; have HO_53 := n0_; have HO368 := n1_; have HI352 := n2_; have HB := n3_; clear n0_ n1_ n2_ n3_; clear hb ho28; obtain ⟨Ao29, co29, eo29⟩ := Kd.R_slice HO368.out; subst eo29) | (go_at_call 25; (with_reducible refine (tcb_Task_Is.calls k4 g352 x353000_4 x353001_4 x353002_4 x353003_4 x353004_4 _ _ y366 true t370 t371 t372 t373 t374 w _ ?side1 ?side2 ?side3 ?side4 ?side5 A25.out).mono ?_); (case side1 => repeat (first | (with_reducible first | exact HI352.out | apply IsS55.alloc | apply IsS55.drewN | apply IsS55.drew | apply IsS55.set_0 | apply IsS55.set_1 | apply IsS55.set_2 | apply IsS55.set_3 | apply IsS55.set_4) | exact HI352.out)); (case side2 => repeat (first | (with_reducible first | exact HB.out | apply below_alloc | apply pw_below_drewN | apply below_drew1 | refine below_set ?_ (IsS55.ge HI352.out)) | exact HB.out)); (case side3 => repeat (first | exact (Kd.R_reads' HO368.out).2.2 | (with_reducible refine Kd.C_alloc ?_ _) | (with_reducible refine Kd.C_drewN ?_ _) | (with_reducible refine Kd.C_drew ?_))); (case side4 => exact (Kd.R_reads' HO368.out).2.1); (case side5 => exact far_slice (IsS55.own_ne HI352.out HO368.out (by decide))); rintro e w30 ⟨rfl, hi, hb, hk⟩; have n0_ := Aside0.mk (Kd.R_mono (Kd.R_keep (IsS55.apart (show IsS55 w _ g352 x353000_4 x353001_4 x353002_4 x353003_4 x353004_4 from by repeat (first | (with_reducible first | exact HI352.out | apply IsS55.alloc | apply IsS55.drewN | apply IsS55.drew | apply IsS55.set_0 | apply IsS55.set_1 | apply IsS55.set_2 | apply IsS55.set_3 | apply IsS55.set_4) | exact HI352.out)) (by (with_reducible repeat (first | apply Kd.R_alloc | apply Kd.R_drewN | apply Kd.R_drew)); exact HO_53.out) (by decide)) hk (fun _ h => h.2)) (fun _ h => h.1)); have n1_ := Aside0.mk (Kd.R_mono (Kd.R_keep (IsS55.apart (show IsS55 w _ g352 x353000_4 x353001_4 x353002_4 x353003_4 x353004_4 from by repeat (first | (with_reducible first | exact HI352.out | apply IsS55.alloc | apply IsS55.drewN | apply IsS55.drew | apply IsS55.set_0 | apply IsS55.set_1 | apply IsS55.set_2 | apply IsS55.set_3 | apply IsS55.set_4) | exact HI352.out)) (by (with_reducible repeat (first | apply Kd.R_alloc | apply Kd.R_drewN | apply Kd.R_drew)); exact HO368.out) (by decide)) hk (fun _ h => h.2)) (fun _ h => h.1)); have n2_ := Aside0.mk (hb); have n3_ := Aside0.mk (hi); clear HO_53; clear HO368; clear HB; clear HI352; have HO_53 := n0_; have HO368 := n1_; have HB := n2_; have HI352 := n3_; clear n0_ n1_ n2_ n3_; (try clear hb); (try clear hb2); (try clear hk); (try clear hi))))
                                  go_roundg k4
                                  case measure => have := HJ4.out; have := HK2.out; have := HK3.out; have := HK4.out; omega
                                  case rel => exact ⟨(wrap64 (x9_4 + 1)), (wrap64 (x55_4 + 1)), (t370), (t371), (t372), (t373), (t374), (by first | rfl | (simp; done) | (simp [*]; done)), (by first | rfl | (simp; done) | (simp [*]; done)), H', ⟨by have := HJ4.out; have := HK2.out; have := HK3.out; have := HK4.out; omega⟩, ⟨by (with_reducible repeat (first | apply Kd.R_alloc | apply Kd.R_drewN | apply Kd.R_drew)); exact Kd.R_mono HO_53.out (fun _ hk => trivial)⟩, ⟨by repeat (first | (with_reducible first | exact HI352.out | apply IsS55.alloc | apply IsS55.drewN | apply IsS55.drew | apply IsS55.set_0 | apply IsS55.set_1 | apply IsS55.set_2 | apply IsS55.set_3 | apply IsS55.set_4) | exact HI352.out)⟩, ⟨by repeat (first | (with_reducible first | exact HB.out | apply below_alloc | apply pw_below_drewN | apply below_drew1 | refine below_set ?_ (IsS55.ge HI352.out)) | exact HB.out)⟩⟩
                                · replace c26 := Bool.eq_false_iff.mpr c26
                                  subst c26
                                  have H1 : (detentlaw10_TaskIs.l2 k4 l1 x7_3 x9_4 y362 (y362.length : Int) (wrap64 (x55_4 + 1)) t370 t371 t372 t373 t374) = some r := by rw [if_neg (show ¬ (false = true) by decide)] at H; exact H
                                  clear H
                                  have H := H1
                                  clear H1
                                  have H' := Aside0.mk H
                                  clear H
                                  have p365 : 0 ≤ (x55_4 : Int) := of_decide_eq_true (by first | (with_reducible assumption) | assumption)
                                  have q365 : x55_4 < (y362.length : Int) := of_decide_eq_true (by first | (with_reducible assumption) | assumption)
                                  obtain ⟨ad365, e365, hx365_0⟩ := Kd.at_int (Kd.R_reads' HO_53.out).2.2 x55_4 p365 q365
                                  cases e365
                                  replace p365 := eq_true p365
                                  replace q365 := eq_true q365
                                  go_wp2_with (first | ((with_reducible refine gate_dst (N := 61) rfl ?_); (try (refine gate_guard (by rfl) ?_; dsimp only)); refine Kd.R_lit (Kd.int .i64) _ 3 ?hg (N := 61) ?hd (xs := ([rd y362 x55_4] : List Int)) (inner := [.int .i64 (rd y362 x55_4)]) (ok := fun _ => True) (okp := fun _ => True) ?hr ?hp (fun _ hk => hk) trivial (Below.refl _ _) (Nat.le_refl _) (by simp) ?_; (case hd => rfl); (case hg => rfl); (case hr => first | (go_simp; done) | (go_simp; rfl)); (case hp => exact (Reps.one (show Kd.M (Kd.int .i64) _ _ _ (rd y362 x55_4) [.int .i64 (rd y362 x55_4)] from rfl) (Reps.none _ _))); intro v367 w31 ho32 hb hg_ hnew_; clear hg_ hnew_; (first | rw [← Ny366.out] at ho32 | (simp only [Int.reduceToNat] at ho32; rw [← Ny366.out] at ho32)); have n0_ := Aside0.mk (Kd.R_elder' (by (with_reducible repeat (first | apply Kd.R_alloc | apply Kd.R_drewN | apply Kd.R_drew)); exact HO_53.out) (Kd.R_base ho32) hb); have n1_ := Aside0.mk (Kd.R_lower (Kd.R_new' ho32 (Kd.R_lt (by (with_reducible repeat (first | apply Kd.R_alloc | apply Kd.R_drewN | apply Kd.R_drew)); exact HO_53.out))) (below_size (by repeat (first | (with_reducible first | exact HB.out | apply below_alloc | apply pw_below_drewN | apply below_drew1 | refine below_set ?_ (IsS55.ge HI352.out)) | exact HB.out)))); have n2_ := Aside0.mk (IsS55.below (by repeat (first | (with_reducible first | exact HI352.out | apply IsS55.alloc | apply IsS55.drewN | apply IsS55.drew | apply IsS55.set_0 | apply IsS55.set_1 | apply IsS55.set_2 | apply IsS55.set_3 | apply IsS55.set_4) | exact HI352.out)) hb); have n3_ := Aside0.mk (below_step (by repeat (first | (with_reducible first | exact HB.out | apply below_alloc | apply pw_below_drewN | apply below_drew1 | refine below_set ?_ (IsS55.ge HI352.out)) | exact HB.out)) hb); clear HO_53; clear HI352; clear HB; have HO_53 := n0_; have HO368 := n1_; have HI352 := n2_; have HB := n3_; clear n0_ n1_ n2_ n3_; clear hb ho32; obtain ⟨Ao33, co33, eo33⟩ := Kd.R_slice HO368.out; subst eo33) | (go_at_call 25; (with_reducible refine (tcb_Task_Is.calls k4 g352 x353000_4 x353001_4 x353002_4 x353003_4 x353004_4 _ _ y366 false t370 t371 t372 t373 t374 w _ ?side1 ?side2 ?side3 ?side4 ?side5 A25.out).mono ?_); (case side1 => repeat (first | (with_reducible first | exact HI352.out | apply IsS55.alloc | apply IsS55.drewN | apply IsS55.drew | apply IsS55.set_0 | apply IsS55.set_1 | apply IsS55.set_2 | apply IsS55.set_3 | apply IsS55.set_4) | exact HI352.out)); (case side2 => repeat (first | (with_reducible first | exact HB.out | apply below_alloc | apply pw_below_drewN | apply below_drew1 | refine below_set ?_ (IsS55.ge HI352.out)) | exact HB.out)); (case side3 => repeat (first | exact (Kd.R_reads' HO368.out).2.2 | (with_reducible refine Kd.C_alloc ?_ _) | (with_reducible refine Kd.C_drewN ?_ _) | (with_reducible refine Kd.C_drew ?_))); (case side4 => exact (Kd.R_reads' HO368.out).2.1); (case side5 => exact far_slice (IsS55.own_ne HI352.out HO368.out (by decide))); rintro e w34 ⟨rfl, hi, hb, hk⟩; have n0_ := Aside0.mk (Kd.R_mono (Kd.R_keep (IsS55.apart (show IsS55 w _ g352 x353000_4 x353001_4 x353002_4 x353003_4 x353004_4 from by repeat (first | (with_reducible first | exact HI352.out | apply IsS55.alloc | apply IsS55.drewN | apply IsS55.drew | apply IsS55.set_0 | apply IsS55.set_1 | apply IsS55.set_2 | apply IsS55.set_3 | apply IsS55.set_4) | exact HI352.out)) (by (with_reducible repeat (first | apply Kd.R_alloc | apply Kd.R_drewN | apply Kd.R_drew)); exact HO_53.out) (by decide)) hk (fun _ h => h.2)) (fun _ h => h.1)); have n1_ := Aside0.mk (Kd.R_mono (Kd.R_keep (IsS55.apart (show IsS55 w _ g352 x353000_4 x353001_4 x353002_4 x353003_4 x353004_4 from by repeat (first | (with_reducible first | exact HI352.out | apply IsS55.alloc | apply IsS55.drewN | apply IsS55.drew | apply IsS55.set_0 | apply IsS55.set_1 | apply IsS55.set_2 | apply IsS55.set_3 | apply IsS55.set_4) | exact HI352.out)) (by (with_reducible repeat (first | apply Kd.R_alloc | apply Kd.R_drewN | apply Kd.R_drew)); exact HO368.out) (by decide)) hk (fun _ h => h.2)) (fun _ h => h.1)); have n2_ := Aside0.mk (hb); have n3_ := Aside0.mk (hi); clear HO_53; clear HO368; clear HB; clear HI352; have HO_53 := n0_; have HO368 := n1_; have HB := n2_; have HI352 := n3_; clear n0_ n1_ n2_ n3_; (try clear hb); (try clear hb2); (try clear hk); (try clear hi)))
                                  repeat (go_quiet (first | ((with_reducible refine gate_dst (N := 61) rfl ?_); (try (refine gate_guard (by rfl) ?_; dsimp only)); refine Kd.R_lit (Kd.int .i64) _ 3 ?hg (N := 61) ?hd (xs := ([rd y362 x55_4] : List Int)) (inner := [.int .i64 (rd y362 x55_4)]) (ok := fun _ => True) (okp := fun _ => True) ?hr ?hp (fun _ hk => hk) trivial (Below.refl _ _) (Nat.le_refl _) (by simp) ?_; (case hd => rfl); (case hg => rfl); (case hr => first | (go_simp; done) | (go_simp; rfl)); (case hp => exact (Reps.one (show Kd.M (Kd.int .i64) _ _ _ (rd y362 x55_4) [.int .i64 (rd y362 x55_4)] from rfl) (Reps.none _ _))); intro v367 w31 ho32 hb hg_ hnew_; clear hg_ hnew_; (first | rw [← Ny366.out] at ho32 | (simp only [Int.reduceToNat] at ho32; rw [← Ny366.out] at ho32)); have n0_ := Aside0.mk (Kd.R_elder' (by (with_reducible repeat (first | apply Kd.R_alloc | apply Kd.R_drewN | apply Kd.R_drew)); exact HO_53.out) (Kd.R_base ho32) hb); have n1_ := Aside0.mk (Kd.R_lower (Kd.R_new' ho32 (Kd.R_lt (by (with_reducible repeat (first | apply Kd.R_alloc | apply Kd.R_drewN | apply Kd.R_drew)); exact HO_53.out))) (below_size (by repeat (first | (with_reducible first | exact HB.out | apply below_alloc | apply pw_below_drewN | apply below_drew1 | refine below_set ?_ (IsS55.ge HI352.out)) | exact HB.out)))); have n2_ := Aside0.mk (IsS55.below (by repeat (first | (with_reducible first | exact HI352.out | apply IsS55.alloc | apply IsS55.drewN | apply IsS55.drew | apply IsS55.set_0 | apply IsS55.set_1 | apply IsS55.set_2 | apply IsS55.set_3 | apply IsS55.set_4) | exact HI352.out)) hb); have n3_ := Aside0.mk (below_step (by repeat (first | (with_reducible first | exact HB.out | apply below_alloc | apply pw_below_drewN | apply below_drew1 | refine below_set ?_ (IsS55.ge HI352.out)) | exact HB.out)) hb); clear HO_53; clear HI352; clear HB; have HO_53 := n0_; have HO368 := n1_; have HI352 := n2_; have HB := n3_; clear n0_ n1_ n2_ n3_; clear hb ho32; obtain ⟨Ao33, co33, eo33⟩ := Kd.R_slice HO368.out; subst eo33) | (go_at_call 25; (with_reducible refine (tcb_Task_Is.calls k4 g352 x353000_4 x353001_4 x353002_4 x353003_4 x353004_4 _ _ y366 false t370 t371 t372 t373 t374 w _ ?side1 ?side2 ?side3 ?side4 ?side5 A25.out).mono ?_); (case side1 => repeat (first | (with_reducible first | exact HI352.out | apply IsS55.alloc | apply IsS55.drewN | apply IsS55.drew | apply IsS55.set_0 | apply IsS55.set_1 | apply IsS55.set_2 | apply IsS55.set_3 | apply IsS55.set_4) | exact HI352.out)); (case side2 => repeat (first | (with_reducible first | exact HB.out | apply below_alloc | apply pw_below_drewN | apply below_drew1 | refine below_set ?_ (IsS55.ge HI352.out)) | exact HB.out)); (case side3 => repeat (first | exact (Kd.R_reads' HO368.out).2.2 | (with_reducible refine Kd.C_alloc ?_ _) | (with_reducible refine Kd.C_drewN ?_ _) | (with_reducible refine Kd.C_drew ?_))); (case side4 => exact (Kd.R_reads' HO368.out).2.1); (case side5 => exact far_slice (IsS55.own_ne HI352.out HO368.out (by decide))); rintro e w34 ⟨rfl, hi, hb, hk⟩; have n0_ := Aside0.mk (Kd.R_mono (Kd.R_keep (IsS55.apart (show IsS55 w _ g352 x353000_4 x353001_4 x353002_4 x353003_4 x353004_4 from by repeat (first | (with_reducible first | exact HI352.out | apply IsS55.alloc | apply IsS55.drewN | apply IsS55.drew | apply IsS55.set_0 | apply IsS55.set_1 | apply IsS55.set_2 | apply IsS55.set_3 | apply IsS55.set_4) | exact HI352.out)) (by (with_reducible repeat (first | apply Kd.R_alloc | apply Kd.R_drewN | apply Kd.R_drew)); exact HO_53.out) (by decide)) hk (fun _ h => h.2)) (fun _ h => h.1)); have n1_ := Aside0.mk (Kd.R_mono (Kd.R_keep (IsS55.apart (show IsS55 w _ g352 x353000_4 x353001_4 x353002_4 x353003_4 x353004_4 from by repeat (first | (with_reducible first | exact HI352.out | apply IsS55.alloc | apply IsS55.drewN | apply IsS55.drew | apply IsS55.set_0 | apply IsS55.set_1 | apply IsS55.set_2 | apply IsS55.set_3 | apply IsS55.set_4) | exact HI352.out)) (by (with_reducible repeat (first | apply Kd.R_alloc | apply Kd.R_drewN | apply Kd.R_drew)); exact HO368.out) (by decide)) hk (fun _ h => h.2)) (fun _ h => h.1)); have n2_ := Aside0.mk (hb); have n3_ := Aside0.mk (hi); clear HO_53; clear HO368; clear HB; clear HI352; have HO_53 := n0_; have HO368 := n1_; have HB := n2_; have HI352 := n3_; clear n0_ n1_ n2_ n3_; (try clear hb); (try clear hb2); (try clear hk); (try clear hi))); try go_wp2_with (first | ((with_reducible refine gate_dst (N := 61) rfl ?_); (try (refine gate_guard (by rfl) ?_; dsimp only)); refine Kd.R_lit (Kd.int .i64) _ 3 ?hg (N := 61) ?hd (xs := ([rd y362 x55_4] : List Int)) (inner := [.int .i64 (rd y362 x55_4)]) (ok := fun _ => True) (okp := fun _ => True) ?hr ?hp (fun _ hk => hk) trivial (Below.refl _ _) (Nat.le_refl _) (by simp) ?_; (case hd => rfl); (case hg => rfl); (case hr => first | (go_simp; done) | (go_simp; rfl)); (case hp => exact (Reps.one (show Kd.M (Kd.int .i64) _ _ _ (rd y362 x55_4) [.int .i64 (rd y362 x55_4)] from rfl) (Reps.none _ _))); intro v367 w31 ho32 hb hg_ hnew_; clear hg_ hnew_; (first | rw [← Ny366.out] at ho32 | (simp only [Int.reduceToNat] at ho32; rw [← Ny366.out] at ho32)); have n0_ := Aside0.mk (Kd.R_elder' (by (with_reducible repeat (first | apply Kd.R_alloc | apply Kd.R_drewN | apply Kd.R_drew)); exact HO_53.out) (Kd.R_base ho32) hb); have n1_ := Aside0.mk (Kd.R_lower (Kd.R_new' ho32 (Kd.R_lt (by (with_reducible repeat (first | apply Kd.R_alloc | apply Kd.R_drewN | apply Kd.R_drew)); exact HO_53.out))) (below_size (by repeat (first | (with_reducible first | exact HB.out | apply below_alloc | apply pw_below_drewN | apply below_drew1 | refine below_set ?_ (IsS55.ge HI352.out)) | exact HB.out)))); have n2_ := Aside0.mk (IsS55.below (by repeat (first | (with_reducible first | exact HI352.out | apply IsS55.alloc | apply IsS55.drewN | apply IsS55.drew | apply IsS55.set_0 | apply IsS55.set_1 | apply IsS55.set_2 | apply IsS55.set_3 | apply IsS55.set_4) | exact HI352.out)) hb); have n3_ := Aside0.mk (below_step (by repeat (first | (with_reducible first | exact HB.out | apply below_alloc | apply pw_below_drewN | apply below_drew1 | refine below_set ?_ (IsS55.ge HI352.out)) | exact HB.out)) hb); clear HO_53; clear HI352; clear HB; have HO_53 := n0_; have HO368 := n1_; have HI352 := n2_; have HB := n3_; clear n0_ n1_ n2_ n3_; clear hb ho32; obtain ⟨Ao33, co33, eo33⟩ := Kd.R_slice HO368.out; subst eo33) | (go_at_call 25; (with_reducible refine (tcb_Task_Is.calls k4 g352 x353000_4 x353001_4 x353002_4 x353003_4 x353004_4 _ _ y366 false t370 t371 t372 t373 t374 w _ ?side1 ?side2 ?side3 ?side4 ?side5 A25.out).mono ?_); (case side1 => repeat (first | (with_reducible first | exact HI352.out | apply IsS55.alloc | apply IsS55.drewN | apply IsS55.drew | apply IsS55.set_0 | apply IsS55.set_1 | apply IsS55.set_2 | apply IsS55.set_3 | apply IsS55.set_4) | exact HI352.out)); (case side2 => repeat (first | (with_reducible first | exact HB.out | apply below_alloc | apply pw_below_drewN | apply below_drew1 | refine below_set ?_ (IsS55.ge HI352.out)) | exact HB.out)); (case side3 => repeat (first | exact (Kd.R_reads' HO368.out).2.2 | (with_reducible refine Kd.C_alloc ?_ _) | (with_reducible refine Kd.C_drewN ?_ _) | (with_reducible refine Kd.C_drew ?_))); (case side4 => exact (Kd.R_reads' HO368.out).2.1); (case side5 => exact far_slice (IsS55.own_ne HI352.out HO368.out (by decide))); rintro e w34 ⟨rfl, hi, hb, hk⟩; have n0_ := Aside0.mk (Kd.R_mono (Kd.R_keep (IsS55.apart (show IsS55 w _ g352 x353000_4 x353001_4 x353002_4 x353003_4 x353004_4 from by repeat (first | (with_reducible first | exact HI352.out | apply IsS55.alloc | apply IsS55.drewN | apply IsS55.drew | apply IsS55.set_0 | apply IsS55.set_1 | apply IsS55.set_2 | apply IsS55.set_3 | apply IsS55.set_4) | exact HI352.out)) (by (with_reducible repeat (first | apply Kd.R_alloc | apply Kd.R_drewN | apply Kd.R_drew)); exact HO_53.out) (by decide)) hk (fun _ h => h.2)) (fun _ h => h.1)); have n1_ := Aside0.mk (Kd.R_mono (Kd.R_keep (IsS55.apart (show IsS55 w _ g352 x353000_4 x353001_4 x353002_4 x353003_4 x353004_4 from by repeat (first | (with_reducible first | exact HI352.out | apply IsS55.alloc | apply IsS55.drewN | apply IsS55.drew | apply IsS55.set_0 | apply IsS55.set_1 | apply IsS55.set_2 | apply IsS55.set_3 | apply IsS55.set_4) | exact HI352.out)) (by (with_reducible repeat (first | apply Kd.R_alloc | apply Kd.R_drewN | apply Kd.R_drew)); exact HO368.out) (by decide)) hk (fun _ h => h.2)) (fun _ h => h.1)); have n2_ := Aside0.mk (hb); have n3_ := Aside0.mk (hi); clear HO_53; clear HO368; clear HB; clear HI352; have HO_53 := n0_; have HO368 := n1_; have HB := n2_; have HI352 := n3_; clear n0_ n1_ n2_ n3_; (try clear hb); (try clear hb2); (try clear hk); (try clear hi))))
                                  go_roundg k4
                                  case measure => have := HJ4.out; have := HK2.out; have := HK3.out; have := HK4.out; omega
                                  case rel => exact ⟨(x9_4), (wrap64 (x55_4 + 1)), (t370), (t371), (t372), (t373), (t374), (by first | rfl | (simp; done) | (simp [*]; done)), (by first | rfl | (simp; done) | (simp [*]; done)), H', ⟨by have := HJ4.out; have := HK2.out; have := HK3.out; have := HK4.out; omega⟩, ⟨by (with_reducible repeat (first | apply Kd.R_alloc | apply Kd.R_drewN | apply Kd.R_drew)); exact Kd.R_mono HO_53.out (fun _ hk => trivial)⟩, ⟨by repeat (first | (with_reducible first | exact HI352.out | apply IsS55.alloc | apply IsS55.drewN | apply IsS55.drew | apply IsS55.set_0 | apply IsS55.set_1 | apply IsS55.set_2 | apply IsS55.set_3 | apply IsS55.set_4) | exact HI352.out)⟩, ⟨by repeat (first | (with_reducible first | exact HB.out | apply below_alloc | apply pw_below_drewN | apply below_drew1 | refine below_set ?_ (IsS55.ge HI352.out)) | exact HB.out)⟩⟩
                              · rw [if_neg c24] at H
                                exact absurd H (by simp)
                            · rw [if_neg c23] at H
                              exact absurd H (by simp)
                          · rw [if_neg c22] at H
                            have c22b0 : decide (x55_4 < (y362.length : Int)) = false := decide_eq_false c22
                            clear c22
                            replace H := Option.bind_eq_some_iff.mp H
                            obtain ⟨⟨t375, t376, t377, t378, t379, t380⟩, A350, H⟩ := H
                            replace H : (if (t375 == x7_3) = true then (some (x9_4 == 1)) else (some false)) = some r := H
                            have A35 := Aside0.mk A350
                            clear A350
                            by_cases c36 : (t375 == x7_3) = true
                            · rw [if_pos c36] at H
                              have c36b0 : (t375 == x7_3) = true := c36
                              (try (have c36b1 : decide (t375 = x7_3) = true := by simpa using c36))
                              (try (have c36b2 : (t375 == x7_3) = true := by simpa using c36))
                              clear c36
                              obtain rfl := Option.some.inj H
                              go_wp2_with (first | (go_at_call 25; (with_reducible refine (tcb_Task_Is.calls k4 g352 x353000_4 x353001_4 x353002_4 x353003_4 x353004_4 _ _ l1 t375 t376 t377 t378 t379 t380 w _ ?side1 ?side2 ?side3 ?side4 ?side5 A35.out).mono ?_); (case side1 => repeat (first | (with_reducible first | exact HI352.out | apply IsS55.alloc | apply IsS55.drewN | apply IsS55.drew | apply IsS55.set_0 | apply IsS55.set_1 | apply IsS55.set_2 | apply IsS55.set_3 | apply IsS55.set_4) | exact HI352.out)); (case side2 => repeat (first | (with_reducible first | exact HB.out | apply below_alloc | apply pw_below_drewN | apply below_drew1 | refine below_set ?_ (IsS55.ge HI352.out)) | exact HB.out)); (case side3 => repeat (first | exact (Kd.C_below HR1.out HB.out) | (with_reducible refine Kd.C_alloc ?_ _) | (with_reducible refine Kd.C_drewN ?_ _) | (with_reducible refine Kd.C_drew ?_))); (case side4 => exact HC1.out); (case side5 => exact Kd.far_C 0 HR1.out (IsS55.ge HI352.out)); rintro e w37 ⟨rfl, hi, hb, hk⟩; have n0_ := Aside0.mk (Kd.R_mono (Kd.R_keep (IsS55.apart (show IsS55 w _ g352 x353000_4 x353001_4 x353002_4 x353003_4 x353004_4 from by repeat (first | (with_reducible first | exact HI352.out | apply IsS55.alloc | apply IsS55.drewN | apply IsS55.drew | apply IsS55.set_0 | apply IsS55.set_1 | apply IsS55.set_2 | apply IsS55.set_3 | apply IsS55.set_4) | exact HI352.out)) (by (with_reducible repeat (first | apply Kd.R_alloc | apply Kd.R_drewN | apply Kd.R_drew)); exact HO_53.out) (by decide)) hk (fun _ h => h.2)) (fun _ h => h.1)); have n1_ := Aside0.mk (hb); have n2_ := Aside0.mk (hi); clear HO_53; clear HB; clear HI352; have HO_53 := n0_; have HB := n1_; have HI352 := n2_; clear n0_ n1_ n2_; (try clear hb); (try clear hb2); (try clear hk); (try clear hi)))
                              repeat (go_quiet (first | (go_at_call 25; (with_reducible refine (tcb_Task_Is.calls k4 g352 x353000_4 x353001_4 x353002_4 x353003_4 x353004_4 _ _ l1 t375 t376 t377 t378 t379 t380 w _ ?side1 ?side2 ?side3 ?side4 ?side5 A35.out).mono ?_); (case side1 => repeat (first | (with_reducible first | exact HI352.out | apply IsS55.alloc | apply IsS55.drewN | apply IsS55.drew | apply IsS55.set_0 | apply IsS55.set_1 | apply IsS55.set_2 | apply IsS55.set_3 | apply IsS55.set_4) | exact HI352.out)); (case side2 => repeat (first | (with_reducible first | exact HB.out | apply below_alloc | apply pw_below_drewN | apply below_drew1 | refine below_set ?_ (IsS55.ge HI352.out)) | exact HB.out)); (case side3 => repeat (first | exact (Kd.C_below HR1.out HB.out) | (with_reducible refine Kd.C_alloc ?_ _) | (with_reducible refine Kd.C_drewN ?_ _) | (with_reducible refine Kd.C_drew ?_))); (case side4 => exact HC1.out); (case side5 => exact Kd.far_C 0 HR1.out (IsS55.ge HI352.out)); rintro e w37 ⟨rfl, hi, hb, hk⟩; have n0_ := Aside0.mk (Kd.R_mono (Kd.R_keep (IsS55.apart (show IsS55 w _ g352 x353000_4 x353001_4 x353002_4 x353003_4 x353004_4 from by repeat (first | (with_reducible first | exact HI352.out | apply IsS55.alloc | apply IsS55.drewN | apply IsS55.drew | apply IsS55.set_0 | apply IsS55.set_1 | apply IsS55.set_2 | apply IsS55.set_3 | apply IsS55.set_4) | exact HI352.out)) (by (with_reducible repeat (first | apply Kd.R_alloc | apply Kd.R_drewN | apply Kd.R_drew)); exact HO_53.out) (by decide)) hk (fun _ h => h.2)) (fun _ h => h.1)); have n1_ := Aside0.mk (hb); have n2_ := Aside0.mk (hi); clear HO_53; clear HB; clear HI352; have HO_53 := n0_; have HB := n1_; have HI352 := n2_; clear n0_ n1_ n2_; (try clear hb); (try clear hb2); (try clear hk); (try clear hi))); try go_wp2_with (first | (go_at_call 25; (with_reducible refine (tcb_Task_Is.calls k4 g352 x353000_4 x353001_4 x353002_4 x353003_4 x353004_4 _ _ l1 t375 t376 t377 t378 t379 t380 w _ ?side1 ?side2 ?side3 ?side4 ?side5 A35.out).mono ?_); (case side1 => repeat (first | (with_reducible first | exact HI352.out | apply IsS55.alloc | apply IsS55.drewN | apply IsS55.drew | apply IsS55.set_0 | apply IsS55.set_1 | apply IsS55.set_2 | apply IsS55.set_3 | apply IsS55.set_4) | exact HI352.out)); (case side2 => repeat (first | (with_reducible first | exact HB.out | apply below_alloc | apply pw_below_drewN | apply below_drew1 | refine below_set ?_ (IsS55.ge HI352.out)) | exact HB.out)); (case side3 => repeat (first | exact (Kd.C_below HR1.out HB.out) | (with_reducible refine Kd.C_alloc ?_ _) | (with_reducible refine Kd.C_drewN ?_ _) | (with_reducible refine Kd.C_drew ?_))); (case side4 => exact HC1.out); (case side5 => exact Kd.far_C 0 HR1.out (IsS55.ge HI352.out)); rintro e w37 ⟨rfl, hi, hb, hk⟩; have n0_ := Aside0.mk (Kd.R_mono (Kd.R_keep (IsS55.apart (show IsS55 w _ g352 x353000_4 x353001_4 x353002_4 x353003_4 x353004_4 from by repeat (first | (with_reducible first | exact HI352.out | apply IsS55.alloc | apply IsS55.drewN | apply IsS55.drew | apply IsS55.set_0 | apply IsS55.set_1 | apply IsS55.set_2 | apply IsS55.set_3 | apply IsS55.set_4) | exact HI352.out)) (by (with_reducible repeat (first | apply Kd.R_alloc | apply Kd.R_drewN | apply Kd.R_drew)); exact HO_53.out) (by decide)) hk (fun _ h => h.2)) (fun _ h => h.1)); have n1_ := Aside0.mk (hb); have n2_ := Aside0.mk (hi); clear HO_53; clear HB; clear HI352; have HO_53 := n0_; have HB := n1_; have HI352 := n2_; clear n0_ n1_ n2_; (try clear hb); (try clear hb2); (try clear hk); (try clear hi))))
                              go_ret
                              exact ⟨by first | rfl | (simp [errW_none, errW_some] <;> rfl) | (simp [*, errW_none, errW_some] <;> rfl), by repeat (first | (with_reducible first | exact HB.out | apply below_alloc | apply pw_below_drewN | apply below_drew1 | refine below_set ?_ (IsS55.ge HI352.out)) | exact HB.out)⟩
                            · rw [if_neg c36] at H
                              have c36b0 : (t375 == x7_3) = false := by simpa using c36
                              (try (have c36b1 : decide (t375 = x7_3) = false := by simpa using c36))
                              (try (have c36b2 : (t375 == x7_3) = false := by simpa using c36))
                              (try (have c36b3 : ¬ (t375 = x7_3) := by simpa using c36))
                              clear c36
                              obtain rfl := Option.some.inj H
                              go_wp2_with (first | (go_at_call 25; (with_reducible refine (tcb_Task_Is.calls k4 g352 x353000_4 x353001_4 x353002_4 x353003_4 x353004_4 _ _ l1 t375 t376 t377 t378 t379 t380 w _ ?side1 ?side2 ?side3 ?side4 ?side5 A35.out).mono ?_); (case side1 => repeat (first | (with_reducible first | exact HI352.out | apply IsS55.alloc | apply IsS55.drewN | apply IsS55.drew | apply IsS55.set_0 | apply IsS55.set_1 | apply IsS55.set_2 | apply IsS55.set_3 | apply IsS55.set_4) | exact HI352.out)); (case side2 => repeat (first | (with_reducible first | exact HB.out | apply below_alloc | apply pw_below_drewN | apply below_drew1 | refine below_set ?_ (IsS55.ge HI352.out)) | exact HB.out)); (case side3 => repeat (first | exact (Kd.C_below HR1.out HB.out) | (with_reducible refine Kd.C_alloc ?_ _) | (with_reducible refine Kd.C_drewN ?_ _) | (with_reducible refine Kd.C_drew ?_))); (case side4 => exact HC1.out); (case side5 => exact Kd.far_C 0 HR1.out (IsS55.ge HI352.out)); rintro e w38 ⟨rfl, hi, hb, hk⟩; have n0_ := Aside0.mk (Kd.R_mono (Kd.R_keep (IsS55.apart (show IsS55 w _ g352 x353000_4 x353001_4 x353002_4 x353003_4 x353004_4 from by repeat (first | (with_reducible first | exact HI352.out | apply IsS55.alloc | apply IsS55.drewN | apply IsS55.drew | apply IsS55.set_0 | apply IsS55.set_1 | apply IsS55.set_2 | apply IsS55.set_3 | apply IsS55.set_4) | exact HI352.out)) (by (with_reducible repeat (first | apply Kd.R_alloc | apply Kd.R_drewN | apply Kd.R_drew)); exact HO_53.out) (by decide)) hk (fun _ h => h.2)) (fun _ h => h.1)); have n1_ := Aside0.mk (hb); have n2_ := Aside0.mk (hi); clear HO_53; clear HB; clear HI352; have HO_53 := n0_; have HB := n1_; have HI352 := n2_; clear n0_ n1_ n2_; (try clear hb); (try clear hb2); (try clear hk); (try clear hi)))
                              repeat (go_quiet (first | (go_at_call 25; (with_reducible refine (tcb_Task_Is.calls k4 g352 x353000_4 x353001_4 x353002_4 x353003_4 x353004_4 _ _ l1 t375 t376 t377 t378 t379 t380 w _ ?side1 ?side2 ?side3 ?side4 ?side5 A35.out).mono ?_); (case side1 => repeat (first | (with_reducible first | exact HI352.out | apply IsS55.alloc | apply IsS55.drewN | apply IsS55.drew | apply IsS55.set_0 | apply IsS55.set_1 | apply IsS55.set_2 | apply IsS55.set_3 | apply IsS55.set_4) | exact HI352.out)); (case side2 => repeat (first | (with_reducible first | exact HB.out | apply below_alloc | apply pw_below_drewN | apply below_drew1 | refine below_set ?_ (IsS55.ge HI352.out)) | exact HB.out)); (case side3 => repeat (first | exact (Kd.C_below HR1.out HB.out) | (with_reducible refine Kd.C_alloc ?_ _) | (with_reducible refine Kd.C_drewN ?_ _) | (with_reducible refine Kd.C_drew ?_))); (case side4 => exact HC1.out); (case side5 => exact Kd.far_C 0 HR1.out (IsS55.ge HI352.out)); rintro e w38 ⟨rfl, hi, hb, hk⟩; have n0_ := Aside0.mk (Kd.R_mono (Kd.R_keep (IsS55.apart (show IsS55 w _ g352 x353000_4 x353001_4 x353002_4 x353003_4 x353004_4 from by repeat (first | (with_reducible first | exact HI352.out | apply IsS55.alloc | apply IsS55.drewN | apply IsS55.drew | apply IsS55.set_0 | apply IsS55.set_1 | apply IsS55.set_2 | apply IsS55.set_3 | apply IsS55.set_4) | exact HI352.out)) (by (with_reducible repeat (first | apply Kd.R_alloc | apply Kd.R_drewN | apply Kd.R_drew)); exact HO_53.out) (by decide)) hk (fun _ h => h.2)) (fun _ h => h.1)); have n1_ := Aside0.mk (hb); have n2_ := Aside0.mk (hi); clear HO_53; clear HB; clear HI352; have HO_53 := n0_; have HB := n1_; have HI352 := n2_; clear n0_ n1_ n2_; (try clear hb); (try clear hb2); (try clear hk); (try clear hi))); try go_wp2_with (first | (go_at_call 25; (with_reducible refine (tcb_Task_Is.calls k4 g352 x353000_4 x353001_4 x353002_4 x353003_4 x353004_4 _ _ l1 t375 t376 t377 t378 t379 t380 w _ ?side1 ?side2 ?side3 ?side4 ?side5 A35.out).mono ?_); (case side1 => repeat (first | (with_reducible first | exact HI352.out | apply IsS55.alloc | apply IsS55.drewN | apply IsS55.drew | apply IsS55.set_0 | apply IsS55.set_1 | apply IsS55.set_2 | apply IsS55.set_3 | apply IsS55.set_4) | exact HI352.out)); (case side2 => repeat (first | (with_reducible first | exact HB.out | apply below_alloc | apply pw_below_drewN | apply below_drew1 | refine below_set ?_ (IsS55.ge HI352.out)) | exact HB.out)); (case side3 => repeat (first | exact (Kd.C_below HR1.out HB.out) | (with_reducible refine Kd.C_alloc ?_ _) | (with_reducible refine Kd.C_drewN ?_ _) | (with_reducible refine Kd.C_drew ?_))); (case side4 => exact HC1.out); (case side5 => exact Kd.far_C 0 HR1.out (IsS55.ge HI352.out)); rintro e w38 ⟨rfl, hi, hb, hk⟩; have n0_ := Aside0.mk (Kd.R_mono (Kd.R_keep (IsS55.apart (show IsS55 w _ g352 x353000_4 x353001_4 x353002_4 x353003_4 x353004_4 from by repeat (first | (with_reducible first | exact HI352.out | apply IsS55.alloc | apply IsS55.drewN | apply IsS55.drew | apply IsS55.set_0 | apply IsS55.set_1 | apply IsS55.set_2 | apply IsS55.set_3 | apply IsS55.set_4) | exact HI352.out)) (by (with_reducible repeat (first | apply Kd.R_alloc | apply Kd.R_drewN | apply Kd.R_drew)); exact HO_53.out) (by decide)) hk (fun _ h => h.2)) (fun _ h => h.1)); have n1_ := Aside0.mk (hb); have n2_ := Aside0.mk (hi); clear HO_53; clear HB; clear HI352; have HO_53 := n0_; have HB := n1_; have HI352 := n2_; clear n0_ n1_ n2_; (try clear hb); (try clear hb2); (try clear hk); (try clear hi))))
                              go_ret
                              exact ⟨by first | rfl | (simp [errW_none, errW_some] <;> rfl) | (simp [*, errW_none, errW_some] <;> rfl), by repeat (first | (with_reducible first | exact HB.out | apply below_alloc | apply pw_below_drewN | apply below_drew1 | refine below_set ?_ (IsS55.ge HI352.out)) | exact HB.out)⟩
  · replace c4 := Bool.eq_false_iff.mpr c4
    subst c4
    have H1 : (some false) = some r := by rw [if_neg (show ¬ (false = true) by decide)] at H; exact H
    clear H
    have H := H1
    clear H1
    obtain rfl := Option.some.inj H
    go_enter Try.func13, Try.ntmps13
    go_wp2_with (first | (go_at_call 21; (with_reducible refine (detentlaw10_known.calls k  false _ A3.out).mono ?_); rintro e w39 ⟨rfl, hb⟩; have n0_ := Aside0.mk (below_step (by repeat (first | (with_reducible first | exact HB.out | apply below_alloc | apply pw_below_drewN | apply below_drew1) | exact HB.out)) hb); clear HB; have HB := n0_; clear n0_; (try clear hb); (try clear hb2); (try clear hk); (try clear hi)))
    repeat (go_quiet (first | (go_at_call 21; (with_reducible refine (detentlaw10_known.calls k  false _ A3.out).mono ?_); rintro e w39 ⟨rfl, hb⟩; have n0_ := Aside0.mk (below_step (by repeat (first | (with_reducible first | exact HB.out | apply below_alloc | apply pw_below_drewN | apply below_drew1) | exact HB.out)) hb); clear HB; have HB := n0_; clear n0_; (try clear hb); (try clear hb2); (try clear hk); (try clear hi))); try go_wp2_with (first | (go_at_call 21; (with_reducible refine (detentlaw10_known.calls k  false _ A3.out).mono ?_); rintro e w39 ⟨rfl, hb⟩; have n0_ := Aside0.mk (below_step (by repeat (first | (with_reducible first | exact HB.out | apply below_alloc | apply pw_below_drewN | apply below_drew1) | exact HB.out)) hb); clear HB; have HB := n0_; clear n0_; (try clear hb); (try clear hb2); (try clear hk); (try clear hi))))
    go_ret
    exact ⟨by first | rfl | (simp [errW_none, errW_some] <;> rfl) | (simp [*, errW_none, errW_some] <;> rfl), by repeat (first | (with_reducible first | exact HB.out | apply below_alloc | apply pw_below_drewN | apply below_drew1) | exact HB.out)⟩

/-- THE ONE PURE STATEMENT of detentlaw10_TaskIs: yours. -/
def detentlaw10_TaskIs.Pure : Prop := ∀ (l0 : List Int) (l1 : List Int), l0.length ≤ maxLen → l0.length * 8 ≤ 140737488351232 → (∀ x ∈ l0, (Lit.int .i64 x).wf = true) → l1.length ≤ maxLen → l1.length * 8 ≤ 140737488351232 → (∀ x ∈ l1, (Lit.int .i64 x).wf = true) → ∃ k, detentlaw10_TaskIs.f k l0 l1 = some true
theorem detentlaw10_TaskIs.walk (P : detentlaw10_TaskIs.Pure) (a0 : Option Addr) (len0 cap0 : Nat) (z0 : List Int) (a1 : Option Addr) (len1 cap1 : Nat) (z1 : List Int) (w : World) (w0 : (a0 = none ∧ len0 = 0 ∧ cap0 = 0 ∧ z0 = []) ∨ ∃ x, a0 = some x ∧ len0 ≤ cap0 ∧ cap0 ≤ maxLen ∧ z0.length = cap0 ∧ (∀ i, i < z0.length → w.cell? (x.add i) = some (.int .i64 (z0.getD i 0))) ∧ ∀ n ∈ z0, (Lit.int .i64 n).wf = true) (y0 : len0 * 8 ≤ 140737488351232) (w1 : (a1 = none ∧ len1 = 0 ∧ cap1 = 0 ∧ z1 = []) ∨ ∃ x, a1 = some x ∧ len1 ≤ cap1 ∧ cap1 ≤ maxLen ∧ z1.length = cap1 ∧ (∀ i, i < z1.length → w.cell? (x.add i) = some (.int .i64 (z1.getD i 0))) ∧ ∀ n ∈ z1, (Lit.int .i64 n).wf = true) (y1 : len1 * 8 ≤ 140737488351232) :
    Calls Try.prog 13 #[.slice a0 len0 cap0, .slice a1 len1 cap1] w fun e w' => e = .returned (.bool true) ∧ Below w.heap.size w w' := by
  obtain ⟨l0, rfl, hr0, hm0, hw0, hc0⟩ := ReadsInt.ofRowC w0
  obtain ⟨l1, rfl, hr1, hm1, hw1, hc1⟩ := ReadsInt.ofRowC w1
  obtain ⟨k, h⟩ := P l0 l1 hm0 y0 hw0 hm1 y1 hw1
  refine (detentlaw10_TaskIs.calls k _ _ l0 _ _ l1 true w (Kd.C_of_reads (d := (0 : Int)) (h1 := fun _ => rfl) hr0) hc0 (Kd.C_of_reads (d := (0 : Int)) (h1 := fun _ => rfl) hr1) hc1 h).mono ?_
  rintro e w' ⟨rfl, hd⟩
  exact ⟨rfl, hd⟩

end Go.Proofs.Ytgkemmhpfekoaaa.PTaskIs
