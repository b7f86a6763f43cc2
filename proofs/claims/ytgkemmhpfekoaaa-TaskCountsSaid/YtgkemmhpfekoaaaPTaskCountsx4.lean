-- Laid by a program out of Lean's own print of the program; not by print.sh as it stands (NOTES.md tells what differs)
import Derived.Test.YtgkemmhpfekoaaaPTaskCountsx0
import Derived.Test.YtgkemmhpfekoaaaPTaskCountsx2
import Derived.Test.YtgkemmhpfekoaaaPTaskCountsx3
namespace Go.Proofs.Ytgkemmhpfekoaaa.PTaskCounts
open Go.RowKit Go.Proofs.YtgkemmhpfekoaaaW.PrintWords Go.Proofs.YtgkemmhpfekoaaaW.PrintLast Go.Proofs.YtgkemmhpfekoaaaW.PrintMore
attribute [local go_sem] max2_int min2_int max_two min_two max_three min_three max_four min_four   -- for this text's walks alone
set_option linter.unusedVariables false
set_option linter.unusedSimpArgs false

/-! ### detentlaw10_TaskCounts: function 10 -/
mutual
def detentlaw10_TaskCounts.j0 : Nat → Int → Int → Int → Bool → Option (Bool)
  | 0, _, _, _, _ => none
  | k + 1, x0, x1, x2, x51 => if x51 = true then (some true) else ((tcb_New.f).bind fun bt244 => ((tcb_Task_Act.f k bt244.1 bt244.2.1 bt244.2.2.1 bt244.2.2.2.1 bt244.2.2.2.2).bind fun bt250 => (detentlaw10_TaskCounts.l0 k x0 x1 x2 0 bt250.2.2.1 bt250.2.2.2.1 bt250.2.2.2.2.1 bt250.2.2.2.2.2.1 bt250.2.2.2.2.2.2)))
def detentlaw10_TaskCounts.l0 : Nat → Int → Int → Int → Int → Int → Int → Int → Int → Bool → Option (Bool)
  | 0, _, _, _, _, _, _, _, _, _ => none
  | k + 1, x0, x1, x2, x8, x250000, x250001, x250002, x250003, x250004 => if x8 < x0 then ((tcb_Task_Act.f k x250000 x250001 x250002 x250003 x250004).bind fun bt257 => (if ((bt257.2.1 == 0) != (decide (x8 < 7))) = true then (some false) else (detentlaw10_TaskCounts.l0 k x0 x1 x2 (wrap64 (x8 + 1)) bt257.2.2.1 bt257.2.2.2.1 bt257.2.2.2.2.1 bt257.2.2.2.2.2.1 bt257.2.2.2.2.2.2))) else (detentlaw10_TaskCounts.l1 k x0 x1 x2 0 x250000 x250001 x250002 x250003 x250004)
def detentlaw10_TaskCounts.l1 : Nat → Int → Int → Int → Int → Int → Int → Int → Int → Bool → Option (Bool)
  | 0, _, _, _, _, _, _, _, _, _ => none
  | k + 1, x0, x1, x2, x11, x250000, x250001, x250002, x250003, x250004 => if x11 < x1 then ((tcb_Task_Wake.f k x250000 x250001 x250002 x250003 x250004).bind fun bt264 => (if ((bt264.2.1 == 0) != (decide (x11 < 7))) = true then (some false) else (detentlaw10_TaskCounts.l1 k x0 x1 x2 (wrap64 (x11 + 1)) bt264.2.2.1 bt264.2.2.2.1 bt264.2.2.2.2.1 bt264.2.2.2.2.2.1 bt264.2.2.2.2.2.2))) else (detentlaw10_TaskCounts.l2 k x0 x1 x2 0 x250000 x250001 x250002 x250003 x250004)
def detentlaw10_TaskCounts.l2 : Nat → Int → Int → Int → Int → Int → Int → Int → Int → Bool → Option (Bool)
  | 0, _, _, _, _, _, _, _, _, _ => none
  | k + 1, x0, x1, x2, x14, x250000, x250001, x250002, x250003, x250004 => if x14 < x1 then (detentlaw10_TaskCounts.j4 k x0 x1 x2 x14 (decide (x14 < 7)) x250000 x250001 x250002 x250003 x250004) else (detentlaw10_TaskCounts.j4 k x0 x1 x2 x14 false x250000 x250001 x250002 x250003 x250004)
def detentlaw10_TaskCounts.j4 : Nat → Int → Int → Int → Int → Bool → Int → Int → Int → Int → Bool → Option (Bool)
  | 0, _, _, _, _, _, _, _, _, _, _ => none
  | k + 1, x0, x1, x2, x14, x91, x250000, x250001, x250002, x250003, x250004 => if x91 = true then ((tcb_Task_Sleep.f k x250000 x250001 x250002 x250003 x250004).bind fun bt271 => (if bt271.1 = true then (some false) else (if bt271.2.1 = 0 then (detentlaw10_TaskCounts.l2 k x0 x1 x2 (wrap64 (x14 + 1)) bt271.2.2.1 bt271.2.2.2.1 bt271.2.2.2.2.1 bt271.2.2.2.2.2.1 bt271.2.2.2.2.2.2) else (some false)))) else (detentlaw10_TaskCounts.l3 k x0 x2 0 x250000 x250001 x250002 x250003 x250004)
def detentlaw10_TaskCounts.l3 : Nat → Int → Int → Int → Int → Int → Int → Int → Bool → Option (Bool)
  | 0, _, _, _, _, _, _, _, _ => none
  | k + 1, x0, x2, x17, x250000, x250001, x250002, x250003, x250004 => if x17 < x2 then ((tcb_Task_Suspend.f k x250000 x250001 x250002 x250003 x250004).bind fun bt278 => (if ((bt278.1 == 0) != (decide (x17 < 7))) = true then (some false) else (detentlaw10_TaskCounts.l3 k x0 x2 (wrap64 (x17 + 1)) bt278.2.1 bt278.2.2.1 bt278.2.2.2.1 bt278.2.2.2.2.1 bt278.2.2.2.2.2))) else (if x2 > 7 then (detentlaw10_TaskCounts.j6 k x0 7 x250000 x250001 x250002 x250003 x250004) else (detentlaw10_TaskCounts.j6 k x0 x2 x250000 x250001 x250002 x250003 x250004))
def detentlaw10_TaskCounts.j6 : Nat → Int → Int → Int → Int → Int → Int → Bool → Option (Bool)
  | 0, _, _, _, _, _, _, _ => none
  | k + 1, x0, x19, x250000, x250001, x250002, x250003, x250004 => detentlaw10_TaskCounts.l4 k x0 x19 0 x250000 x250001 x250002 x250003 x250004
def detentlaw10_TaskCounts.l4 : Nat → Int → Int → Int → Int → Int → Int → Int → Bool → Option (Bool)
  | 0, _, _, _, _, _, _, _, _ => none
  | k + 1, x0, x19, x20, x250000, x250001, x250002, x250003, x250004 => if x20 < x19 then ((tcb_Task_Resume.f k x250000 x250001 x250002 x250003 x250004 false).bind fun bt284 => (if bt284.2.1 = 0 then (if (bt284.1 != (x20 == (wrap64 (x19 - 1)))) = true then (some false) else (detentlaw10_TaskCounts.l4 k x0 x19 (wrap64 (x20 + 1)) bt284.2.2.1 bt284.2.2.2.1 bt284.2.2.2.2.1 bt284.2.2.2.2.2.1 bt284.2.2.2.2.2.2)) else (some false))) else ((tcb_Task_Sleep.f k x250000 x250001 x250002 x250003 x250004).bind fun bt291 => (if bt291.1 = true then (detentlaw10_TaskCounts.j8 k x0 (bt291.2.1 != 0) bt291.2.2.1 bt291.2.2.2.1 bt291.2.2.2.2.1 bt291.2.2.2.2.2.1 bt291.2.2.2.2.2.2) else (detentlaw10_TaskCounts.j8 k x0 true bt291.2.2.1 bt291.2.2.2.1 bt291.2.2.2.2.1 bt291.2.2.2.2.2.1 bt291.2.2.2.2.2.2)))
def detentlaw10_TaskCounts.j8 : Nat → Int → Bool → Int → Int → Int → Int → Bool → Option (Bool)
  | 0, _, _, _, _, _, _, _ => none
  | k + 1, x0, x149, x250000, x250001, x250002, x250003, x250004 => if x149 = true then (some false) else (if x0 > 7 then ((tcb_Task_Kill.f k x250000 x250001 x250002 x250003 x250004).bind fun bt298 => (if bt298.2.1 = 0 then (if (bt298.1 == true) = true then ((tcb_Task_CanAct.f bt298.2.2.1 bt298.2.2.2.1 bt298.2.2.2.2.1 bt298.2.2.2.2.2.1 bt298.2.2.2.2.2.2).bind fun bt305 => ((detentlaw10_flag.f true).bind fun t311 => (some (bt305.1 == (wrap64 (7 - t311)))))) else (some false)) else (some false))) else ((tcb_Task_Kill.f k x250000 x250001 x250002 x250003 x250004).bind fun bt312 => (if bt312.2.1 = 0 then (if (bt312.1 == (decide (x0 > 0))) = true then ((tcb_Task_CanAct.f bt312.2.2.1 bt312.2.2.2.1 bt312.2.2.2.2.1 bt312.2.2.2.2.2.1 bt312.2.2.2.2.2.2).bind fun bt319 => ((detentlaw10_flag.f (decide (x0 > 0))).bind fun t325 => (some (bt319.1 == (wrap64 (x0 - t325)))))) else (some false)) else (some false))))
end
def detentlaw10_TaskCounts.f (k : Nat) (a0 : Int) (a1 : Int) (a2 : Int) : Option (Bool) := (detentlaw10_known.f k).bind fun t243 => (if t243 = true then (if a0 < 0 then (detentlaw10_TaskCounts.j0 k a0 a1 a2 true) else (if a1 < 0 then (detentlaw10_TaskCounts.j0 k a0 a1 a2 true) else (if a2 < 0 then (detentlaw10_TaskCounts.j0 k a0 a1 a2 true) else (if a0 > 20 then (detentlaw10_TaskCounts.j0 k a0 a1 a2 true) else (if a1 > 20 then (detentlaw10_TaskCounts.j0 k a0 a1 a2 true) else (detentlaw10_TaskCounts.j0 k a0 a1 a2 (decide (a2 > 20)))))))) else (some false))
theorem detentlaw10_TaskCounts.mono_l : ∀ k, (∀ y0 y1 y2 y3, LeO (detentlaw10_TaskCounts.j0 k y0 y1 y2 y3) (detentlaw10_TaskCounts.j0 (k + 1) y0 y1 y2 y3)) ∧ (∀ y0 y1 y2 y3 y4 y5 y6 y7 y8, LeO (detentlaw10_TaskCounts.l0 k y0 y1 y2 y3 y4 y5 y6 y7 y8) (detentlaw10_TaskCounts.l0 (k + 1) y0 y1 y2 y3 y4 y5 y6 y7 y8)) ∧ (∀ y0 y1 y2 y3 y4 y5 y6 y7 y8, LeO (detentlaw10_TaskCounts.l1 k y0 y1 y2 y3 y4 y5 y6 y7 y8) (detentlaw10_TaskCounts.l1 (k + 1) y0 y1 y2 y3 y4 y5 y6 y7 y8)) ∧ (∀ y0 y1 y2 y3 y4 y5 y6 y7 y8, LeO (detentlaw10_TaskCounts.l2 k y0 y1 y2 y3 y4 y5 y6 y7 y8) (detentlaw10_TaskCounts.l2 (k + 1) y0 y1 y2 y3 y4 y5 y6 y7 y8)) ∧ (∀ y0 y1 y2 y3 y4 y5 y6 y7 y8 y9, LeO (detentlaw10_TaskCounts.j4 k y0 y1 y2 y3 y4 y5 y6 y7 y8 y9) (detentlaw10_TaskCounts.j4 (k + 1) y0 y1 y2 y3 y4 y5 y6 y7 y8 y9)) ∧ (∀ y0 y1 y2 y3 y4 y5 y6 y7, LeO (detentlaw10_TaskCounts.l3 k y0 y1 y2 y3 y4 y5 y6 y7) (detentlaw10_TaskCounts.l3 (k + 1) y0 y1 y2 y3 y4 y5 y6 y7)) ∧ (∀ y0 y1 y2 y3 y4 y5 y6, LeO (detentlaw10_TaskCounts.j6 k y0 y1 y2 y3 y4 y5 y6) (detentlaw10_TaskCounts.j6 (k + 1) y0 y1 y2 y3 y4 y5 y6)) ∧ (∀ y0 y1 y2 y3 y4 y5 y6 y7, LeO (detentlaw10_TaskCounts.l4 k y0 y1 y2 y3 y4 y5 y6 y7) (detentlaw10_TaskCounts.l4 (k + 1) y0 y1 y2 y3 y4 y5 y6 y7)) ∧ (∀ y0 y1 y2 y3 y4 y5 y6, LeO (detentlaw10_TaskCounts.j8 k y0 y1 y2 y3 y4 y5 y6) (detentlaw10_TaskCounts.j8 (k + 1) y0 y1 y2 y3 y4 y5 y6))
  | 0 => ⟨fun _ _ _ _ r h => by simp [detentlaw10_TaskCounts.j0] at h, fun _ _ _ _ _ _ _ _ _ r h => by simp [detentlaw10_TaskCounts.l0] at h, fun _ _ _ _ _ _ _ _ _ r h => by simp [detentlaw10_TaskCounts.l1] at h, fun _ _ _ _ _ _ _ _ _ r h => by simp [detentlaw10_TaskCounts.l2] at h, fun _ _ _ _ _ _ _ _ _ _ r h => by simp [detentlaw10_TaskCounts.j4] at h, fun _ _ _ _ _ _ _ _ r h => by simp [detentlaw10_TaskCounts.l3] at h, fun _ _ _ _ _ _ _ r h => by simp [detentlaw10_TaskCounts.j6] at h, fun _ _ _ _ _ _ _ _ r h => by simp [detentlaw10_TaskCounts.l4] at h, fun _ _ _ _ _ _ _ r h => by simp [detentlaw10_TaskCounts.j8] at h⟩
  | k + 1 => by
    obtain ⟨ih0, ih1, ih2, ih3, ih4, ih5, ih6, ih7, ih8⟩ := detentlaw10_TaskCounts.mono_l k
    refine ⟨?_, ?_, ?_, ?_, ?_, ?_, ?_, ?_, ?_⟩
    · intro y0 y1 y2 y3
      unfold detentlaw10_TaskCounts.j0
      repeat' first
      | (with_reducible exact ih0 _ _ _ _)
      | (with_reducible exact ih1 _ _ _ _ _ _ _ _ _)
      | (with_reducible exact ih2 _ _ _ _ _ _ _ _ _)
      | (with_reducible exact ih3 _ _ _ _ _ _ _ _ _)
      | (with_reducible exact ih4 _ _ _ _ _ _ _ _ _ _)
      | (with_reducible exact ih5 _ _ _ _ _ _ _ _)
      | (with_reducible exact ih6 _ _ _ _ _ _ _)
      | (with_reducible exact ih7 _ _ _ _ _ _ _ _)
      | (with_reducible exact ih8 _ _ _ _ _ _ _)
      | (with_reducible exact detentlaw10_known.mono _)
      | (with_reducible exact tcb_Task_Act.mono _ _ _ _ _ _)
      | (with_reducible exact tcb_Task_Kill.mono _ _ _ _ _ _)
      | (with_reducible exact tcb_Task_Resume.mono _ _ _ _ _ _ _)
      | (with_reducible exact tcb_Task_Sleep.mono _ _ _ _ _ _)
      | (with_reducible exact tcb_Task_Suspend.mono _ _ _ _ _ _)
      | (with_reducible exact tcb_Task_Wake.mono _ _ _ _ _ _)
      | (with_reducible exact LeO.refl _)
      | (with_reducible exact LeO.none _)
      | (with_reducible refine LeO.ite ?_ ?_)
      | (with_reducible refine LeO.bind ?_ (fun _ => ?_))
      | exact ih0 _ _ _ _
      | exact ih1 _ _ _ _ _ _ _ _ _
      | exact ih2 _ _ _ _ _ _ _ _ _
      | exact ih3 _ _ _ _ _ _ _ _ _
      | exact ih4 _ _ _ _ _ _ _ _ _ _
      | exact ih5 _ _ _ _ _ _ _ _
      | exact ih6 _ _ _ _ _ _ _
      | exact ih7 _ _ _ _ _ _ _ _
      | exact ih8 _ _ _ _ _ _ _
      | exact detentlaw10_known.mono _
      | exact tcb_Task_Act.mono _ _ _ _ _ _
      | exact tcb_Task_Kill.mono _ _ _ _ _ _
      | exact tcb_Task_Resume.mono _ _ _ _ _ _ _
      | exact tcb_Task_Sleep.mono _ _ _ _ _ _
      | exact tcb_Task_Suspend.mono _ _ _ _ _ _
      | exact tcb_Task_Wake.mono _ _ _ _ _ _
      | exact LeO.none _
      | refine LeO.ite ?_ ?_
      | refine LeO.bind ?_ (fun _ => ?_)
    · intro y0 y1 y2 y3 y4 y5 y6 y7 y8
      unfold detentlaw10_TaskCounts.l0
      repeat' first
      | (with_reducible exact ih0 _ _ _ _)
      | (with_reducible exact ih1 _ _ _ _ _ _ _ _ _)
      | (with_reducible exact ih2 _ _ _ _ _ _ _ _ _)
      | (with_reducible exact ih3 _ _ _ _ _ _ _ _ _)
      | (with_reducible exact ih4 _ _ _ _ _ _ _ _ _ _)
      | (with_reducible exact ih5 _ _ _ _ _ _ _ _)
      | (with_reducible exact ih6 _ _ _ _ _ _ _)
      | (with_reducible exact ih7 _ _ _ _ _ _ _ _)
      | (with_reducible exact ih8 _ _ _ _ _ _ _)
      | (with_reducible exact detentlaw10_known.mono _)
      | (with_reducible exact tcb_Task_Act.mono _ _ _ _ _ _)
      | (with_reducible exact tcb_Task_Kill.mono _ _ _ _ _ _)
      | (with_reducible exact tcb_Task_Resume.mono _ _ _ _ _ _ _)
      | (with_reducible exact tcb_Task_Sleep.mono _ _ _ _ _ _)
      | (with_reducible exact tcb_Task_Suspend.mono _ _ _ _ _ _)
      | (with_reducible exact tcb_Task_Wake.mono _ _ _ _ _ _)
      | (with_reducible exact LeO.refl _)
      | (with_reducible exact LeO.none _)
      | (with_reducible refine LeO.ite ?_ ?_)
      | (with_reducible refine LeO.bind ?_ (fun _ => ?_))
      | exact ih0 _ _ _ _
      | exact ih1 _ _ _ _ _ _ _ _ _
      | exact ih2 _ _ _ _ _ _ _ _ _
      | exact ih3 _ _ _ _ _ _ _ _ _
      | exact ih4 _ _ _ _ _ _ _ _ _ _
      | exact ih5 _ _ _ _ _ _ _ _
      | exact ih6 _ _ _ _ _ _ _
      | exact ih7 _ _ _ _ _ _ _ _
      | exact ih8 _ _ _ _ _ _ _
      | exact detentlaw10_known.mono _
      | exact tcb_Task_Act.mono _ _ _ _ _ _
      | exact tcb_Task_Kill.mono _ _ _ _ _ _
      | exact tcb_Task_Resume.mono _ _ _ _ _ _ _
      | exact tcb_Task_Sleep.mono _ _ _ _ _ _
      | exact tcb_Task_Suspend.mono _ _ _ _ _ _
      | exact tcb_Task_Wake.mono _ _ _ _ _ _
      | exact LeO.none _
      | refine LeO.ite ?_ ?_
      | refine LeO.bind ?_ (fun _ => ?_)
    · intro y0 y1 y2 y3 y4 y5 y6 y7 y8
      unfold detentlaw10_TaskCounts.l1
      repeat' first
      | (with_reducible exact ih0 _ _ _ _)
      | (with_reducible exact ih1 _ _ _ _ _ _ _ _ _)
      | (with_reducible exact ih2 _ _ _ _ _ _ _ _ _)
      | (with_reducible exact ih3 _ _ _ _ _ _ _ _ _)
      | (with_reducible exact ih4 _ _ _ _ _ _ _ _ _ _)
      | (with_reducible exact ih5 _ _ _ _ _ _ _ _)
      | (with_reducible exact ih6 _ _ _ _ _ _ _)
      | (with_reducible exact ih7 _ _ _ _ _ _ _ _)
      | (with_reducible exact ih8 _ _ _ _ _ _ _)
      | (with_reducible exact detentlaw10_known.mono _)
      | (with_reducible exact tcb_Task_Act.mono _ _ _ _ _ _)
      | (with_reducible exact tcb_Task_Kill.mono _ _ _ _ _ _)
      | (with_reducible exact tcb_Task_Resume.mono _ _ _ _ _ _ _)
      | (with_reducible exact tcb_Task_Sleep.mono _ _ _ _ _ _)
      | (with_reducible exact tcb_Task_Suspend.mono _ _ _ _ _ _)
      | (with_reducible exact tcb_Task_Wake.mono _ _ _ _ _ _)
      | (with_reducible exact LeO.refl _)
      | (with_reducible exact LeO.none _)
      | (with_reducible refine LeO.ite ?_ ?_)
      | (with_reducible refine LeO.bind ?_ (fun _ => ?_))
      | exact ih0 _ _ _ _
      | exact ih1 _ _ _ _ _ _ _ _ _
      | exact ih2 _ _ _ _ _ _ _ _ _
      | exact ih3 _ _ _ _ _ _ _ _ _
      | exact ih4 _ _ _ _ _ _ _ _ _ _
      | exact ih5 _ _ _ _ _ _ _ _
      | exact ih6 _ _ _ _ _ _ _
      | exact ih7 _ _ _ _ _ _ _ _
      | exact ih8 _ _ _ _ _ _ _
      | exact detentlaw10_known.mono _
      | exact tcb_Task_Act.mono _ _ _ _ _ _
      | exact tcb_Task_Kill.mono _ _ _ _ _ _
      | exact tcb_Task_Resume.mono _ _ _ _ _ _ _
      | exact tcb_Task_Sleep.mono _ _ _ _ _ _
      | exact tcb_Task_Suspend.mono _ _ _ _ _ _
      | exact tcb_Task_Wake.mono _ _ _ _ _ _
      | exact LeO.none _
      | refine LeO.ite ?_ ?_
      | refine LeO.bind ?_ (fun _ => ?_)
    · intro y0 y1 y2 y3 y4 y5 y6 y7 y8
      unfold detentlaw10_TaskCounts.l2
      repeat' first
      | (with_reducible exact ih0 _ _ _ _)
      | (with_reducible exact ih1 _ _ _ _ _ _ _ _ _)
      | (with_reducible exact ih2 _ _ _ _ _ _ _ _ _)
      | (with_reducible exact ih3 _ _ _ _ _ _ _ _ _)
      | (with_reducible exact ih4 _ _ _ _ _ _ _ _ _ _)
      | (with_reducible exact ih5 _ _ _ _ _ _ _ _)
      | (with_reducible exact ih6 _ _ _ _ _ _ _)
      | (with_reducible exact ih7 _ _ _ _ _ _ _ _)
      | (with_reducible exact ih8 _ _ _ _ _ _ _)
      | (with_reducible exact detentlaw10_known.mono _)
      | (with_reducible exact tcb_Task_Act.mono _ _ _ _ _ _)
      | (with_reducible exact tcb_Task_Kill.mono _ _ _ _ _ _)
      | (with_reducible exact tcb_Task_Resume.mono _ _ _ _ _ _ _)
      | (with_reducible exact tcb_Task_Sleep.mono _ _ _ _ _ _)
      | (with_reducible exact tcb_Task_Suspend.mono _ _ _ _ _ _)
      | (with_reducible exact tcb_Task_Wake.mono _ _ _ _ _ _)
      | (with_reducible exact LeO.refl _)
      | (with_reducible exact LeO.none _)
      | (with_reducible refine LeO.ite ?_ ?_)
      | (with_reducible refine LeO.bind ?_ (fun _ => ?_))
      | exact ih0 _ _ _ _
      | exact ih1 _ _ _ _ _ _ _ _ _
      | exact ih2 _ _ _ _ _ _ _ _ _
      | exact ih3 _ _ _ _ _ _ _ _ _
      | exact ih4 _ _ _ _ _ _ _ _ _ _
      | exact ih5 _ _ _ _ _ _ _ _
      | exact ih6 _ _ _ _ _ _ _
      | exact ih7 _ _ _ _ _ _ _ _
      | exact ih8 _ _ _ _ _ _ _
      | exact detentlaw10_known.mono _
      | exact tcb_Task_Act.mono _ _ _ _ _ _
      | exact tcb_Task_Kill.mono _ _ _ _ _ _
      | exact tcb_Task_Resume.mono _ _ _ _ _ _ _
      | exact tcb_Task_Sleep.mono _ _ _ _ _ _
      | exact tcb_Task_Suspend.mono _ _ _ _ _ _
      | exact tcb_Task_Wake.mono _ _ _ _ _ _
      | exact LeO.none _
      | refine LeO.ite ?_ ?_
      | refine LeO.bind ?_ (fun _ => ?_)
    · intro y0 y1 y2 y3 y4 y5 y6 y7 y8 y9
      unfold detentlaw10_TaskCounts.j4
      repeat' first
      | (with_reducible exact ih0 _ _ _ _)
      | (with_reducible exact ih1 _ _ _ _ _ _ _ _ _)
      | (with_reducible exact ih2 _ _ _ _ _ _ _ _ _)
      | (with_reducible exact ih3 _ _ _ _ _ _ _ _ _)
      | (with_reducible exact ih4 _ _ _ _ _ _ _ _ _ _)
      | (with_reducible exact ih5 _ _ _ _ _ _ _ _)
      | (with_reducible exact ih6 _ _ _ _ _ _ _)
      | (with_reducible exact ih7 _ _ _ _ _ _ _ _)
      | (with_reducible exact ih8 _ _ _ _ _ _ _)
      | (with_reducible exact detentlaw10_known.mono _)
      | (with_reducible exact tcb_Task_Act.mono _ _ _ _ _ _)
      | (with_reducible exact tcb_Task_Kill.mono _ _ _ _ _ _)
      | (with_reducible exact tcb_Task_Resume.mono _ _ _ _ _ _ _)
      | (with_reducible exact tcb_Task_Sleep.mono _ _ _ _ _ _)
      | (with_reducible exact tcb_Task_Suspend.mono _ _ _ _ _ _)
      | (with_reducible exact tcb_Task_Wake.mono _ _ _ _ _ _)
      | (with_reducible exact LeO.refl _)
      | (with_reducible exact LeO.none _)
      | (with_reducible refine LeO.ite ?_ ?_)
      | (with_reducible refine LeO.bind ?_ (fun _ => ?_))
      | exact ih0 _ _ _ _
      | exact ih1 _ _ _ _ _ _ _ _ _
      | exact ih2 _ _ _ _ _ _ _ _ _
      | exact ih3 _ _ _ _ _ _ _ _ _
      | exact ih4 _ _ _ _ _ _ _ _ _ _
      | exact ih5 _ _ _ _ _ _ _ _
      | exact ih6 _ _ _ _ _ _ _
      | exact ih7 _ _ _ _ _ _ _ _
      | exact ih8 _ _ _ _ _ _ _
      | exact detentlaw10_known.mono _
      | exact tcb_Task_Act.mono _ _ _ _ _ _
      | exact tcb_Task_Kill.mono _ _ _ _ _ _
      | exact tcb_Task_Resume.mono _ _ _ _ _ _ _
      | exact tcb_Task_Sleep.mono _ _ _ _ _ _
      | exact tcb_Task_Suspend.mono _ _ _ _ _ _
      | exact tcb_Task_Wake.mono _ _ _ _ _ _
      | exact LeO.none _
      | refine LeO.ite ?_ ?_
      | refine LeO.bind ?_ (fun _ => ?_)
    · intro y0 y1 y2 y3 y4 y5 y6 y7
      unfold detentlaw10_TaskCounts.l3
      repeat' first
      | (with_reducible exact ih0 _ _ _ _)
      | (with_reducible exact ih1 _ _ _ _ _ _ _ _ _)
      | (with_reducible exact ih2 _ _ _ _ _ _ _ _ _)
      | (with_reducible exact ih3 _ _ _ _ _ _ _ _ _)
      | (with_reducible exact ih4 _ _ _ _ _ _ _ _ _ _)
      | (with_reducible exact ih5 _ _ _ _ _ _ _ _)
      | (with_reducible exact ih6 _ _ _ _ _ _ _)
      | (with_reducible exact ih7 _ _ _ _ _ _ _ _)
      | (with_reducible exact ih8 _ _ _ _ _ _ _)
      | (with_reducible exact detentlaw10_known.mono _)
      | (with_reducible exact tcb_Task_Act.mono _ _ _ _ _ _)
      | (with_reducible exact tcb_Task_Kill.mono _ _ _ _ _ _)
      | (with_reducible exact tcb_Task_Resume.mono _ _ _ _ _ _ _)
      | (with_reducible exact tcb_Task_Sleep.mono _ _ _ _ _ _)
      | (with_reducible exact tcb_Task_Suspend.mono _ _ _ _ _ _)
      | (with_reducible exact tcb_Task_Wake.mono _ _ _ _ _ _)
      | (with_reducible exact LeO.refl _)
      | (with_reducible exact LeO.none _)
      | (with_reducible refine LeO.ite ?_ ?_)
      | (with_reducible refine LeO.bind ?_ (fun _ => ?_))
      | exact ih0 _ _ _ _
      | exact ih1 _ _ _ _ _ _ _ _ _
      | exact ih2 _ _ _ _ _ _ _ _ _
      | exact ih3 _ _ _ _ _ _ _ _ _
      | exact ih4 _ _ _ _ _ _ _ _ _ _
      | exact ih5 _ _ _ _ _ _ _ _
      | exact ih6 _ _ _ _ _ _ _
      | exact ih7 _ _ _ _ _ _ _ _
      | exact ih8 _ _ _ _ _ _ _
      | exact detentlaw10_known.mono _
      | exact tcb_Task_Act.mono _ _ _ _ _ _
      | exact tcb_Task_Kill.mono _ _ _ _ _ _
      | exact tcb_Task_Resume.mono _ _ _ _ _ _ _
      | exact tcb_Task_Sleep.mono _ _ _ _ _ _
      | exact tcb_Task_Suspend.mono _ _ _ _ _ _
      | exact tcb_Task_Wake.mono _ _ _ _ _ _
      | exact LeO.none _
      | refine LeO.ite ?_ ?_
      | refine LeO.bind ?_ (fun _ => ?_)
    · intro y0 y1 y2 y3 y4 y5 y6
      unfold detentlaw10_TaskCounts.j6
      repeat' first
      | (with_reducible exact ih0 _ _ _ _)
      | (with_reducible exact ih1 _ _ _ _ _ _ _ _ _)
      | (with_reducible exact ih2 _ _ _ _ _ _ _ _ _)
      | (with_reducible exact ih3 _ _ _ _ _ _ _ _ _)
      | (with_reducible exact ih4 _ _ _ _ _ _ _ _ _ _)
      | (with_reducible exact ih5 _ _ _ _ _ _ _ _)
      | (with_reducible exact ih6 _ _ _ _ _ _ _)
      | (with_reducible exact ih7 _ _ _ _ _ _ _ _)
      | (with_reducible exact ih8 _ _ _ _ _ _ _)
      | (with_reducible exact detentlaw10_known.mono _)
      | (with_reducible exact tcb_Task_Act.mono _ _ _ _ _ _)
      | (with_reducible exact tcb_Task_Kill.mono _ _ _ _ _ _)
      | (with_reducible exact tcb_Task_Resume.mono _ _ _ _ _ _ _)
      | (with_reducible exact tcb_Task_Sleep.mono _ _ _ _ _ _)
      | (with_reducible exact tcb_Task_Suspend.mono _ _ _ _ _ _)
      | (with_reducible exact tcb_Task_Wake.mono _ _ _ _ _ _)
      | (with_reducible exact LeO.refl _)
      | (with_reducible exact LeO.none _)
      | (with_reducible refine LeO.ite ?_ ?_)
      | (with_reducible refine LeO.bind ?_ (fun _ => ?_))
      | exact ih0 _ _ _ _
      | exact ih1 _ _ _ _ _ _ _ _ _
      | exact ih2 _ _ _ _ _ _ _ _ _
      | exact ih3 _ _ _ _ _ _ _ _ _
      | exact ih4 _ _ _ _ _ _ _ _ _ _
      | exact ih5 _ _ _ _ _ _ _ _
      | exact ih6 _ _ _ _ _ _ _
      | exact ih7 _ _ _ _ _ _ _ _
      | exact ih8 _ _ _ _ _ _ _
      | exact detentlaw10_known.mono _
      | exact tcb_Task_Act.mono _ _ _ _ _ _
      | exact tcb_Task_Kill.mono _ _ _ _ _ _
      | exact tcb_Task_Resume.mono _ _ _ _ _ _ _
      | exact tcb_Task_Sleep.mono _ _ _ _ _ _
      | exact tcb_Task_Suspend.mono _ _ _ _ _ _
      | exact tcb_Task_Wake.mono _ _ _ _ _ _
      | exact LeO.none _
      | refine LeO.ite ?_ ?_
      | refine LeO.bind ?_ (fun _ => ?_)
    · intro y0 y1 y2 y3 y4 y5 y6 y7
      unfold detentlaw10_TaskCounts.l4
      repeat' first
      | (with_reducible exact ih0 _ _ _ _)
      | (with_reducible exact ih1 _ _ _ _ _ _ _ _ _)
      | (with_reducible exact ih2 _ _ _ _ _ _ _ _ _)
      | (with_reducible exact ih3 _ _ _ _ _ _ _ _ _)
      | (with_reducible exact ih4 _ _ _ _ _ _ _ _ _ _)
      | (with_reducible exact ih5 _ _ _ _ _ _ _ _)
      | (with_reducible exact ih6 _ _ _ _ _ _ _)
      | (with_reducible exact ih7 _ _ _ _ _ _ _ _)
      | (with_reducible exact ih8 _ _ _ _ _ _ _)
      | (with_reducible exact detentlaw10_known.mono _)
      | (with_reducible exact tcb_Task_Act.mono _ _ _ _ _ _)
      | (with_reducible exact tcb_Task_Kill.mono _ _ _ _ _ _)
      | (with_reducible exact tcb_Task_Resume.mono _ _ _ _ _ _ _)
      | (with_reducible exact tcb_Task_Sleep.mono _ _ _ _ _ _)
      | (with_reducible exact tcb_Task_Suspend.mono _ _ _ _ _ _)
      | (with_reducible exact tcb_Task_Wake.mono _ _ _ _ _ _)
      | (with_reducible exact LeO.refl _)
      | (with_reducible exact LeO.none _)
      | (with_reducible refine LeO.ite ?_ ?_)
      | (with_reducible refine LeO.bind ?_ (fun _ => ?_))
      | exact ih0 _ _ _ _
      | exact ih1 _ _ _ _ _ _ _ _ _
      | exact ih2 _ _ _ _ _ _ _ _ _
      | exact ih3 _ _ _ _ _ _ _ _ _
      | exact ih4 _ _ _ _ _ _ _ _ _ _
      | exact ih5 _ _ _ _ _ _ _ _
      | exact ih6 _ _ _ _ _ _ _
      | exact ih7 _ _ _ _ _ _ _ _
      | exact ih8 _ _ _ _ _ _ _
      | exact detentlaw10_known.mono _
      | exact tcb_Task_Act.mono _ _ _ _ _ _
      | exact tcb_Task_Kill.mono _ _ _ _ _ _
      | exact tcb_Task_Resume.mono _ _ _ _ _ _ _
      | exact tcb_Task_Sleep.mono _ _ _ _ _ _
      | exact tcb_Task_Suspend.mono _ _ _ _ _ _
      | exact tcb_Task_Wake.mono _ _ _ _ _ _
      | exact LeO.none _
      | refine LeO.ite ?_ ?_
      | refine LeO.bind ?_ (fun _ => ?_)
    · intro y0 y1 y2 y3 y4 y5 y6
      unfold detentlaw10_TaskCounts.j8
      repeat' first
      | (with_reducible exact ih0 _ _ _ _)
      | (with_reducible exact ih1 _ _ _ _ _ _ _ _ _)
      | (with_reducible exact ih2 _ _ _ _ _ _ _ _ _)
      | (with_reducible exact ih3 _ _ _ _ _ _ _ _ _)
      | (with_reducible exact ih4 _ _ _ _ _ _ _ _ _ _)
      | (with_reducible exact ih5 _ _ _ _ _ _ _ _)
      | (with_reducible exact ih6 _ _ _ _ _ _ _)
      | (with_reducible exact ih7 _ _ _ _ _ _ _ _)
      | (with_reducible exact ih8 _ _ _ _ _ _ _)
      | (with_reducible exact detentlaw10_known.mono _)
      | (with_reducible exact tcb_Task_Act.mono _ _ _ _ _ _)
      | (with_reducible exact tcb_Task_Kill.mono _ _ _ _ _ _)
      | (with_reducible exact tcb_Task_Resume.mono _ _ _ _ _ _ _)
      | (with_reducible exact tcb_Task_Sleep.mono _ _ _ _ _ _)
      | (with_reducible exact tcb_Task_Suspend.mono _ _ _ _ _ _)
      | (with_reducible exact tcb_Task_Wake.mono _ _ _ _ _ _)
      | (with_reducible exact LeO.refl _)
      | (with_reducible exact LeO.none _)
      | (with_reducible refine LeO.ite ?_ ?_)
      | (with_reducible refine LeO.bind ?_ (fun _ => ?_))
      | exact ih0 _ _ _ _
      | exact ih1 _ _ _ _ _ _ _ _ _
      | exact ih2 _ _ _ _ _ _ _ _ _
      | exact ih3 _ _ _ _ _ _ _ _ _
      | exact ih4 _ _ _ _ _ _ _ _ _ _
      | exact ih5 _ _ _ _ _ _ _ _
      | exact ih6 _ _ _ _ _ _ _
      | exact ih7 _ _ _ _ _ _ _ _
      | exact ih8 _ _ _ _ _ _ _
      | exact detentlaw10_known.mono _
      | exact tcb_Task_Act.mono _ _ _ _ _ _
      | exact tcb_Task_Kill.mono _ _ _ _ _ _
      | exact tcb_Task_Resume.mono _ _ _ _ _ _ _
      | exact tcb_Task_Sleep.mono _ _ _ _ _ _
      | exact tcb_Task_Suspend.mono _ _ _ _ _ _
      | exact tcb_Task_Wake.mono _ _ _ _ _ _
      | exact LeO.none _
      | refine LeO.ite ?_ ?_
      | refine LeO.bind ?_ (fun _ => ?_)
theorem detentlaw10_TaskCounts.mono : ∀ a0 a1 a2 k, LeO (detentlaw10_TaskCounts.f k a0 a1 a2) (detentlaw10_TaskCounts.f (k + 1) a0 a1 a2) := by
  intro a0 a1 a2 k
  obtain ⟨ih0, ih1, ih2, ih3, ih4, ih5, ih6, ih7, ih8⟩ := detentlaw10_TaskCounts.mono_l k
  unfold detentlaw10_TaskCounts.f
  repeat' first
      | (with_reducible exact ih0 _ _ _ _)
      | (with_reducible exact ih1 _ _ _ _ _ _ _ _ _)
      | (with_reducible exact ih2 _ _ _ _ _ _ _ _ _)
      | (with_reducible exact ih3 _ _ _ _ _ _ _ _ _)
      | (with_reducible exact ih4 _ _ _ _ _ _ _ _ _ _)
      | (with_reducible exact ih5 _ _ _ _ _ _ _ _)
      | (with_reducible exact ih6 _ _ _ _ _ _ _)
      | (with_reducible exact ih7 _ _ _ _ _ _ _ _)
      | (with_reducible exact ih8 _ _ _ _ _ _ _)
      | (with_reducible exact detentlaw10_known.mono _)
      | (with_reducible exact tcb_Task_Act.mono _ _ _ _ _ _)
      | (with_reducible exact tcb_Task_Kill.mono _ _ _ _ _ _)
      | (with_reducible exact tcb_Task_Resume.mono _ _ _ _ _ _ _)
      | (with_reducible exact tcb_Task_Sleep.mono _ _ _ _ _ _)
      | (with_reducible exact tcb_Task_Suspend.mono _ _ _ _ _ _)
      | (with_reducible exact tcb_Task_Wake.mono _ _ _ _ _ _)
      | (with_reducible exact LeO.refl _)
      | (with_reducible exact LeO.none _)
      | (with_reducible refine LeO.ite ?_ ?_)
      | (with_reducible refine LeO.bind ?_ (fun _ => ?_))
      | exact ih0 _ _ _ _
      | exact ih1 _ _ _ _ _ _ _ _ _
      | exact ih2 _ _ _ _ _ _ _ _ _
      | exact ih3 _ _ _ _ _ _ _ _ _
      | exact ih4 _ _ _ _ _ _ _ _ _ _
      | exact ih5 _ _ _ _ _ _ _ _
      | exact ih6 _ _ _ _ _ _ _
      | exact ih7 _ _ _ _ _ _ _ _
      | exact ih8 _ _ _ _ _ _ _
      | exact detentlaw10_known.mono _
      | exact tcb_Task_Act.mono _ _ _ _ _ _
      | exact tcb_Task_Kill.mono _ _ _ _ _ _
      | exact tcb_Task_Resume.mono _ _ _ _ _ _ _
      | exact tcb_Task_Sleep.mono _ _ _ _ _ _
      | exact tcb_Task_Suspend.mono _ _ _ _ _ _
      | exact tcb_Task_Wake.mono _ _ _ _ _ _
      | exact LeO.none _
      | refine LeO.ite ?_ ?_
      | refine LeO.bind ?_ (fun _ => ?_)
set_option maxHeartbeats 8000000 in
set_option maxRecDepth 100000 in
theorem detentlaw10_TaskCounts.calls (k : Nat) (a0 : Int) (a1 : Int) (a2 : Int) (r : Bool) (w : World) (h : detentlaw10_TaskCounts.f k a0 a1 a2 = some r) :
    Calls Try.prog 10 #[.int .i64 a0, .int .i64 a1, .int .i64 a2] w fun e w' => e = .returned (.bool r) ∧ Below w.heap.size w w' := by
  have HB := Aside0.mk (Below.refl w.heap.size w)
  have H : ((detentlaw10_known.f k).bind fun t243 => (if t243 = true then (if a0 < 0 then (detentlaw10_TaskCounts.j0 k a0 a1 a2 true) else (if a1 < 0 then (detentlaw10_TaskCounts.j0 k a0 a1 a2 true) else (if a2 < 0 then (detentlaw10_TaskCounts.j0 k a0 a1 a2 true) else (if a0 > 20 then (detentlaw10_TaskCounts.j0 k a0 a1 a2 true) else (if a1 > 20 then (detentlaw10_TaskCounts.j0 k a0 a1 a2 true) else (detentlaw10_TaskCounts.j0 k a0 a1 a2 (decide (a2 > 20)))))))) else (some false))) = some r := h
  clear h
  replace H := Option.bind_eq_some_iff.mp H
  obtain ⟨t243, A40, H⟩ := H
  replace H : (if t243 = true then (if a0 < 0 then (detentlaw10_TaskCounts.j0 k a0 a1 a2 true) else (if a1 < 0 then (detentlaw10_TaskCounts.j0 k a0 a1 a2 true) else (if a2 < 0 then (detentlaw10_TaskCounts.j0 k a0 a1 a2 true) else (if a0 > 20 then (detentlaw10_TaskCounts.j0 k a0 a1 a2 true) else (if a1 > 20 then (detentlaw10_TaskCounts.j0 k a0 a1 a2 true) else (detentlaw10_TaskCounts.j0 k a0 a1 a2 (decide (a2 > 20)))))))) else (some false)) = some r := H
  have A4 := Aside0.mk A40
  clear A40
  by_cases c5 : t243 = true
  · subst c5
    have H1 : (if a0 < 0 then (detentlaw10_TaskCounts.j0 k a0 a1 a2 true) else (if a1 < 0 then (detentlaw10_TaskCounts.j0 k a0 a1 a2 true) else (if a2 < 0 then (detentlaw10_TaskCounts.j0 k a0 a1 a2 true) else (if a0 > 20 then (detentlaw10_TaskCounts.j0 k a0 a1 a2 true) else (if a1 > 20 then (detentlaw10_TaskCounts.j0 k a0 a1 a2 true) else (detentlaw10_TaskCounts.j0 k a0 a1 a2 (decide (a2 > 20)))))))) = some r := by rw [if_pos rfl] at H; exact H
    clear H
    have H := H1
    clear H1
    have HC6 := Aside0.mk H
    clear H
    go_enter Try.func10, Try.ntmps10
    go_upto_region 3 with (first | ((with_reducible refine gate_callee (f := 21) rfl ?_); refine goesL_ (some 28) rfl rfl Try.func21 (by kernel_rfl) rfl #[] rfl (by (try simp only [List.map_toArray, List.map_cons, List.map_nil]); first | done | rfl | (simp only [List.length_drop, List.length_take]; rfl)) ?_; (with_reducible refine (detentlaw10_known.calls k  true _ A4.out).mono ?_); rintro e w7 ⟨rfl, hb⟩; refine ⟨_, rfl, ?_⟩; have n0_ := Aside0.mk (below_step (by repeat (first | (with_reducible first | exact HB.out | apply below_alloc | apply pw_below_drewN | apply below_drew1) | exact HB.out)) hb); clear HB; have HB := n0_; clear n0_; (try clear hb); (try clear hb2); (try clear hk); (try clear hi)))
    (try simp only [Act.put, List.setIfInBounds_toArray, List.set_cons_zero, List.set_cons_succ])
    go_cut [51] (fun v51 wc => ∃ (kq : Nat) (x51_5 : Bool), v51 = .bool x51_5 ∧ Aside0 (detentlaw10_TaskCounts.j0 kq a0 a1 a2 x51_5 = some r) ∧ Aside0 (kq ≤ k) ∧ Aside0 (Below w.heap.size w wc))
    case first =>
      have H := HC6.out
      clear HC6
      by_cases c8 : a0 < 0
      · rw [if_pos c8] at H
        have c8b0 : decide (a0 < 0) = true := decide_eq_true c8
        clear c8
        (first | rw [c8b0] | (simp only [i64_w, i32_w]; rw [c8b0]) | skip)
        have H' := Aside0.mk H
        clear H
        go_wp2
        go_meet
        case rel => exact ⟨_, (true), (by first | rfl | (simp; done) | (simp [*]; done)), H', ⟨by first | omega | exact Nat.le_refl _⟩, ⟨by repeat (first | (with_reducible first | exact HB.out | apply below_alloc | apply pw_below_drewN | apply below_drew1) | exact HB.out)⟩⟩
      · rw [if_neg c8] at H
        have c8b0 : decide (a0 < 0) = false := decide_eq_false c8
        clear c8
        (first | rw [c8b0] | (simp only [i64_w, i32_w]; rw [c8b0]) | skip)
        by_cases c9 : a1 < 0
        · rw [if_pos c9] at H
          have c9b0 : decide (a1 < 0) = true := decide_eq_true c9
          clear c9
          have H' := Aside0.mk H
          clear H
          go_wp2
          go_meet
          case rel => exact ⟨_, (true), (by first | rfl | (simp; done) | (simp [*]; done)), H', ⟨by first | omega | exact Nat.le_refl _⟩, ⟨by repeat (first | (with_reducible first | exact HB.out | apply below_alloc | apply pw_below_drewN | apply below_drew1) | exact HB.out)⟩⟩
        · rw [if_neg c9] at H
          have c9b0 : decide (a1 < 0) = false := decide_eq_false c9
          clear c9
          by_cases c10 : a2 < 0
          · rw [if_pos c10] at H
            have c10b0 : decide (a2 < 0) = true := decide_eq_true c10
            clear c10
            have H' := Aside0.mk H
            clear H
            go_wp2
            go_meet
            case rel => exact ⟨_, (true), (by first | rfl | (simp; done) | (simp [*]; done)), H', ⟨by first | omega | exact Nat.le_refl _⟩, ⟨by repeat (first | (with_reducible first | exact HB.out | apply below_alloc | apply pw_below_drewN | apply below_drew1) | exact HB.out)⟩⟩
          · rw [if_neg c10] at H
            have c10b0 : decide (a2 < 0) = false := decide_eq_false c10
            clear c10
            by_cases c11 : a0 > 20
            · rw [if_pos c11] at H
              have c11b0 : decide (20 < a0) = true := decide_eq_true c11
              clear c11
              have H' := Aside0.mk H
              clear H
              go_wp2
              go_meet
              case rel => exact ⟨_, (true), (by first | rfl | (simp; done) | (simp [*]; done)), H', ⟨by first | omega | exact Nat.le_refl _⟩, ⟨by repeat (first | (with_reducible first | exact HB.out | apply below_alloc | apply pw_below_drewN | apply below_drew1) | exact HB.out)⟩⟩
            · rw [if_neg c11] at H
              have c11b0 : decide (20 < a0) = false := decide_eq_false c11
              clear c11
              by_cases c12 : a1 > 20
              · rw [if_pos c12] at H
                have c12b0 : decide (20 < a1) = true := decide_eq_true c12
                clear c12
                have H' := Aside0.mk H
                clear H
                go_wp2
                go_meet
                case rel => exact ⟨_, (true), (by first | rfl | (simp; done) | (simp [*]; done)), H', ⟨by first | omega | exact Nat.le_refl _⟩, ⟨by repeat (first | (with_reducible first | exact HB.out | apply below_alloc | apply pw_below_drewN | apply below_drew1) | exact HB.out)⟩⟩
              · rw [if_neg c12] at H
                have c12b0 : decide (20 < a1) = false := decide_eq_false c12
                clear c12
                have H' := Aside0.mk H
                clear H
                go_wp2
                go_meet
                case rel => exact ⟨_, (decide (a2 > 20)), (by first | rfl | (simp; done) | (simp [*]; done)), H', ⟨by first | omega | exact Nat.le_refl _⟩, ⟨by repeat (first | (with_reducible first | exact HB.out | apply below_alloc | apply pw_below_drewN | apply below_drew1) | exact HB.out)⟩⟩
    case rest =>
      clear HC6
      try clear c1
      try clear c2
      try clear p2
      try clear c5
      try clear c8
      try clear c8b0
      try clear c9
      try clear c9b0
      try clear c10
      try clear c10b0
      try clear c11
      try clear c11b0
      try clear c12
      try clear c12b0
      obtain ⟨kq, x51_5, rfl, HA, HJ5, HB⟩ := hcut
      cases kq with
      | zero => exact absurd HA.out (by simp [detentlaw10_TaskCounts.j0])
      | succ kj5 =>
        have H := HA.out
        clear HA
        simp only [detentlaw10_TaskCounts.j0] at H
        by_cases c13 : x51_5 = true
        · subst c13
          have H1 : (some true) = some r := by rw [if_pos rfl] at H; exact H
          clear H
          have H := H1
          clear H1
          obtain rfl := Option.some.inj H
          go_wp2
          go_ret
          exact ⟨by first | rfl | (simp [errW_none, errW_some] <;> rfl) | (simp [*, errW_none, errW_some] <;> rfl), by repeat (first | (with_reducible first | exact HB.out | apply below_alloc | apply pw_below_drewN | apply below_drew1) | exact HB.out)⟩
        · replace c13 := Bool.eq_false_iff.mpr c13
          subst c13
          have H1 : ((tcb_New.f).bind fun bt244 => ((tcb_Task_Act.f kj5 bt244.1 bt244.2.1 bt244.2.2.1 bt244.2.2.2.1 bt244.2.2.2.2).bind fun bt250 => (detentlaw10_TaskCounts.l0 kj5 a0 a1 a2 0 bt250.2.2.1 bt250.2.2.2.1 bt250.2.2.2.2.1 bt250.2.2.2.2.2.1 bt250.2.2.2.2.2.2))) = some r := by rw [if_neg (show ¬ (false = true) by decide)] at H; exact H
          clear H
          have H := H1
          clear H1
          replace H := Option.bind_eq_some_iff.mp H
          obtain ⟨⟨t244, t245, t246, t247, t248⟩, A140, H⟩ := H
          replace H : ((tcb_Task_Act.f kj5 t244 t245 t246 t247 t248).bind fun bt250 => (detentlaw10_TaskCounts.l0 kj5 a0 a1 a2 0 bt250.2.2.1 bt250.2.2.2.1 bt250.2.2.2.2.1 bt250.2.2.2.2.2.1 bt250.2.2.2.2.2.2)) = some r := H
          have A14 := Aside0.mk A140
          clear A140
          replace H := Option.bind_eq_some_iff.mp H
          obtain ⟨⟨t250, t251, t252, t253, t254, t255, t256⟩, A150, H⟩ := H
          replace H : (detentlaw10_TaskCounts.l0 kj5 a0 a1 a2 0 t252 t253 t254 t255 t256) = some r := H
          have A15 := Aside0.mk A150
          clear A150
          have H' := Aside0.mk H
          clear H
          go_wp2_with (first | ((with_reducible refine gate_callee (f := 22) rfl ?_); refine goesL_ (some 52) rfl rfl Try.func22 (by kernel_rfl) rfl #[] rfl (by (try simp only [List.map_toArray, List.map_cons, List.map_nil]); first | done | rfl | (simp only [List.length_drop, List.length_take]; rfl)) ?_; (with_reducible refine (tcb_New.calls  t244 t245 t246 t247 t248 w _ ?side1 A14.out).mono ?_); (case side1 => repeat (first | (with_reducible first | exact HB.out | apply below_alloc | apply pw_below_drewN | apply below_drew1) | exact HB.out)); rintro e w16 ⟨g249, rfl, hi, hb, hb2⟩; refine ⟨_, rfl, ?_⟩; have n0_ := Aside0.mk (hb); have n1_ := Aside0.mk (hi); clear HB; have HB := n0_; have HI249 := n1_; clear n0_ n1_; (try clear hb); (try clear hb2); (try clear hk); (try clear hi)) | ((with_reducible refine gate_callee (f := 23) rfl ?_); refine goesL_ (some 54) rfl rfl Try.func23 (by kernel_rfl) rfl #[.pointer (some ⟨g249, 0, none⟩)] rfl (by (try simp only [List.map_toArray, List.map_cons, List.map_nil]); first | done | rfl | (simp only [List.length_drop, List.length_take]; rfl)) ?_; (with_reducible refine (tcb_Task_Act.calls kj5 g249 t244 t245 t246 t247 t248 t250 t251 t252 t253 t254 t255 t256 w _ ?side1 ?side2 A15.out).mono ?_); (case side1 => repeat (first | (with_reducible first | exact HI249.out | apply IsS55.alloc | apply IsS55.drewN | apply IsS55.drew | apply IsS55.set_0 | apply IsS55.set_1 | apply IsS55.set_2 | apply IsS55.set_3 | apply IsS55.set_4) | exact HI249.out)); (case side2 => repeat (first | (with_reducible first | exact HB.out | apply below_alloc | apply pw_below_drewN | apply below_drew1 | refine below_set ?_ (IsS55.ge HI249.out)) | exact HB.out)); rintro e w17 ⟨rfl, hi, hb, hk⟩; refine ⟨_, rfl, ?_⟩; have n0_ := Aside0.mk (hb); have n1_ := Aside0.mk (hi); clear HB; clear HI249; have HB := n0_; have HI249 := n1_; clear n0_ n1_; (try clear hb); (try clear hb2); (try clear hk); (try clear hi)))
          go_loopg [8] kj5 (fun kq v8 w' => ∃ (x8_2 : Int) (x250000_2 : Int) (x250001_2 : Int) (x250002_2 : Int) (x250003_2 : Int) (x250004_2 : Bool), v8 = .int .i64 x8_2 ∧ Aside0 (detentlaw10_TaskCounts.l0 kq a0 a1 a2 x8_2 x250000_2 x250001_2 x250002_2 x250003_2 x250004_2 = some r) ∧ Aside0 (kq ≤ kj5) ∧ Aside0 (IsS55 w w' g249 x250000_2 x250001_2 x250002_2 x250003_2 x250004_2) ∧ Aside0 (Below w.heap.size w w'))
          case atStart => exact ⟨(0), (t252), (t253), (t254), (t255), (t256), (by first | rfl | (simp; done) | (simp [*]; done)), H', ⟨Nat.le_refl _⟩, ⟨by repeat (first | (with_reducible first | exact HI249.out | apply IsS55.alloc | apply IsS55.drewN | apply IsS55.drew | apply IsS55.set_0 | apply IsS55.set_1 | apply IsS55.set_2 | apply IsS55.set_3 | apply IsS55.set_4) | exact HI249.out)⟩, ⟨by repeat (first | (with_reducible first | exact HB.out | apply below_alloc | apply pw_below_drewN | apply below_drew1 | refine below_set ?_ (IsS55.ge HI249.out)) | exact HB.out)⟩⟩
          case round =>
            clear H'
            try clear c1
            try clear c2
            try clear p2
            try clear c5
            try clear c8
            try clear c8b0
            try clear c9
            try clear c9b0
            try clear c10
            try clear c10b0
            try clear c11
            try clear c11b0
            try clear c12
            try clear c12b0
            try clear c13
            try clear p2
            obtain ⟨x8_2, x250000_2, x250001_2, x250002_2, x250003_2, x250004_2, rfl, HA, HK2, HI249, HB⟩ := hrel
            cases gk with
            | zero => exact absurd HA.out (by simp [detentlaw10_TaskCounts.l0])
            | succ k2 =>
              have H := HA.out
              clear HA
              simp only [detentlaw10_TaskCounts.l0] at H
              by_cases c18 : x8_2 < a0
              · rw [if_pos c18] at H
                have c18b0 : decide (x8_2 < a0) = true := decide_eq_true c18
                clear c18
                replace H := Option.bind_eq_some_iff.mp H
                obtain ⟨⟨t257, t258, t259, t260, t261, t262, t263⟩, A190, H⟩ := H
                replace H : (if ((t258 == 0) != (decide (x8_2 < 7))) = true then (some false) else (detentlaw10_TaskCounts.l0 k2 a0 a1 a2 (wrap64 (x8_2 + 1)) t259 t260 t261 t262 t263)) = some r := H
                have A19 := Aside0.mk A190
                clear A190
                by_cases c20 : ((t258 == 0) != (decide (x8_2 < 7))) = true
                · rw [if_pos c20] at H
                  have c20b0 : ((t258 == 0) != (decide (x8_2 < 7))) = true := c20
                  (try (have c20b1 : decide ((t258 == 0) = (decide (x8_2 < 7))) = false := by simpa using c20))
                  (try (have c20b2 : ((t258 == 0) == (decide (x8_2 < 7))) = false := by simpa using c20))
                  (try (have c20b3 : ¬ ((t258 == 0) = (decide (x8_2 < 7))) := by simpa using c20))
                  clear c20
                  obtain rfl := Option.some.inj H
                  go_wp2_with (first | ((with_reducible refine gate_callee (f := 23) rfl ?_); refine goesL_ (some 62) rfl rfl Try.func23 (by kernel_rfl) rfl #[.pointer (some ⟨g249, 0, none⟩)] rfl (by (try simp only [List.map_toArray, List.map_cons, List.map_nil]); first | done | rfl | (simp only [List.length_drop, List.length_take]; rfl)) ?_; (with_reducible refine (tcb_Task_Act.calls k2 g249 x250000_2 x250001_2 x250002_2 x250003_2 x250004_2 t257 t258 t259 t260 t261 t262 t263 w _ ?side1 ?side2 A19.out).mono ?_); (case side1 => repeat (first | (with_reducible first | exact HI249.out | apply IsS55.alloc | apply IsS55.drewN | apply IsS55.drew | apply IsS55.set_0 | apply IsS55.set_1 | apply IsS55.set_2 | apply IsS55.set_3 | apply IsS55.set_4) | exact HI249.out)); (case side2 => repeat (first | (with_reducible first | exact HB.out | apply below_alloc | apply pw_below_drewN | apply below_drew1 | refine below_set ?_ (IsS55.ge HI249.out)) | exact HB.out)); rintro e w21 ⟨rfl, hi, hb, hk⟩; refine ⟨_, rfl, ?_⟩; have n0_ := Aside0.mk (hb); have n1_ := Aside0.mk (hi); clear HB; clear HI249; have HB := n0_; have HI249 := n1_; clear n0_ n1_; (try clear hb); (try clear hb2); (try clear hk); (try clear hi)))
                  go_ret
                  exact ⟨by first | rfl | (simp [errW_none, errW_some] <;> rfl) | (simp [*, errW_none, errW_some] <;> rfl), by repeat (first | (with_reducible first | exact HB.out | apply below_alloc | apply pw_below_drewN | apply below_drew1 | refine below_set ?_ (IsS55.ge HI249.out)) | exact HB.out)⟩
                · rw [if_neg c20] at H
                  have c20b0 : ((t258 == 0) != (decide (x8_2 < 7))) = false := by simpa using c20
                  (try (have c20b1 : decide ((t258 == 0) = (decide (x8_2 < 7))) = true := by simpa using c20))
                  (try (have c20b2 : ((t258 == 0) == (decide (x8_2 < 7))) = true := by simpa using c20))
                  clear c20
                  have H' := Aside0.mk H
                  clear H
                  go_wp2_with (first | ((with_reducible refine gate_callee (f := 23) rfl ?_); refine goesL_ (some 62) rfl rfl Try.func23 (by kernel_rfl) rfl #[.pointer (some ⟨g249, 0, none⟩)] rfl (by (try simp only [List.map_toArray, List.map_cons, List.map_nil]); first | done | rfl | (simp only [List.length_drop, List.length_take]; rfl)) ?_; (with_reducible refine (tcb_Task_Act.calls k2 g249 x250000_2 x250001_2 x250002_2 x250003_2 x250004_2 t257 t258 t259 t260 t261 t262 t263 w _ ?side1 ?side2 A19.out).mono ?_); (case side1 => repeat (first | (with_reducible first | exact HI249.out | apply IsS55.alloc | apply IsS55.drewN | apply IsS55.drew | apply IsS55.set_0 | apply IsS55.set_1 | apply IsS55.set_2 | apply IsS55.set_3 | apply IsS55.set_4) | exact HI249.out)); (case side2 => repeat (first | (with_reducible first | exact HB.out | apply below_alloc | apply pw_below_drewN | apply below_drew1 | refine below_set ?_ (IsS55.ge HI249.out)) | exact HB.out)); rintro e w22 ⟨rfl, hi, hb, hk⟩; refine ⟨_, rfl, ?_⟩; have n0_ := Aside0.mk (hb); have n1_ := Aside0.mk (hi); clear HB; clear HI249; have HB := n0_; have HI249 := n1_; clear n0_ n1_; (try clear hb); (try clear hb2); (try clear hk); (try clear hi)))
                  go_roundg k2
                  case measure => have := HJ5.out; have := HK2.out; omega
                  case rel => exact ⟨(wrap64 (x8_2 + 1)), (t259), (t260), (t261), (t262), (t263), (by first | rfl | (simp; done) | (simp [*]; done)), H', ⟨by have := HJ5.out; have := HK2.out; omega⟩, ⟨by repeat (first | (with_reducible first | exact HI249.out | apply IsS55.alloc | apply IsS55.drewN | apply IsS55.drew | apply IsS55.set_0 | apply IsS55.set_1 | apply IsS55.set_2 | apply IsS55.set_3 | apply IsS55.set_4) | exact HI249.out)⟩, ⟨by repeat (first | (with_reducible first | exact HB.out | apply below_alloc | apply pw_below_drewN | apply below_drew1 | refine below_set ?_ (IsS55.ge HI249.out)) | exact HB.out)⟩⟩
              · rw [if_neg c18] at H
                have c18b0 : decide (x8_2 < a0) = false := decide_eq_false c18
                clear c18
                have H' := Aside0.mk H
                clear H
                go_wp2
                go_loopg [11] k2 (fun kq v11 w' => ∃ (x11_3 : Int) (x250000_3 : Int) (x250001_3 : Int) (x250002_3 : Int) (x250003_3 : Int) (x250004_3 : Bool), v11 = .int .i64 x11_3 ∧ Aside0 (detentlaw10_TaskCounts.l1 kq a0 a1 a2 x11_3 x250000_3 x250001_3 x250002_3 x250003_3 x250004_3 = some r) ∧ Aside0 (kq ≤ k2) ∧ Aside0 (IsS55 w w' g249 x250000_3 x250001_3 x250002_3 x250003_3 x250004_3) ∧ Aside0 (Below w.heap.size w w'))
                case atStart => exact ⟨(0), (x250000_2), (x250001_2), (x250002_2), (x250003_2), (x250004_2), (by first | rfl | (simp; done) | (simp [*]; done)), H', ⟨Nat.le_refl _⟩, ⟨by repeat (first | (with_reducible first | exact HI249.out | apply IsS55.alloc | apply IsS55.drewN | apply IsS55.drew | apply IsS55.set_0 | apply IsS55.set_1 | apply IsS55.set_2 | apply IsS55.set_3 | apply IsS55.set_4) | exact HI249.out)⟩, ⟨by repeat (first | (with_reducible first | exact HB.out | apply below_alloc | apply pw_below_drewN | apply below_drew1 | refine below_set ?_ (IsS55.ge HI249.out)) | exact HB.out)⟩⟩
                case round =>
                  clear H'
                  try clear c1
                  try clear c2
                  try clear p2
                  try clear c5
                  try clear p6
                  try clear c8
                  try clear c8b0
                  try clear c9
                  try clear c9b0
                  try clear c10
                  try clear c10b0
                  try clear c11
                  try clear c11b0
                  try clear c12
                  try clear c12b0
                  try clear c13
                  try clear c18
                  try clear c18b0
                  try clear c20
                  try clear c20b0
                  try clear c20b1
                  try clear c20b2
                  try clear c21
                  try clear c22
                  try clear p2
                  obtain ⟨x11_3, x250000_3, x250001_3, x250002_3, x250003_3, x250004_3, rfl, HA, HK3, HI249, HB⟩ := hrel
                  cases gk with
                  | zero => exact absurd HA.out (by simp [detentlaw10_TaskCounts.l1])
                  | succ k3 =>
                    have H := HA.out
                    clear HA
                    simp only [detentlaw10_TaskCounts.l1] at H
                    by_cases c23 : x11_3 < a1
                    · rw [if_pos c23] at H
                      have c23b0 : decide (x11_3 < a1) = true := decide_eq_true c23
                      clear c23
                      replace H := Option.bind_eq_some_iff.mp H
                      obtain ⟨⟨t264, t265, t266, t267, t268, t269, t270⟩, A240, H⟩ := H
                      replace H : (if ((t265 == 0) != (decide (x11_3 < 7))) = true then (some false) else (detentlaw10_TaskCounts.l1 k3 a0 a1 a2 (wrap64 (x11_3 + 1)) t266 t267 t268 t269 t270)) = some r := H
                      have A24 := Aside0.mk A240
                      clear A240
                      by_cases c25 : ((t265 == 0) != (decide (x11_3 < 7))) = true
                      · rw [if_pos c25] at H
                        have c25b0 : ((t265 == 0) != (decide (x11_3 < 7))) = true := c25
                        (try (have c25b1 : decide ((t265 == 0) = (decide (x11_3 < 7))) = false := by simpa using c25))
                        (try (have c25b2 : ((t265 == 0) == (decide (x11_3 < 7))) = false := by simpa using c25))
                        (try (have c25b3 : ¬ ((t265 == 0) = (decide (x11_3 < 7))) := by simpa using c25))
                        clear c25
                        obtain rfl := Option.some.inj H
                        go_wp2_with (first | ((with_reducible refine gate_callee (f := 28) rfl ?_); refine goesL_ (some 77) rfl rfl Try.func28 (by kernel_rfl) rfl #[.pointer (some ⟨g249, 0, none⟩)] rfl (by (try simp only [List.map_toArray, List.map_cons, List.map_nil]); first | done | rfl | (simp only [List.length_drop, List.length_take]; rfl)) ?_; (with_reducible refine (tcb_Task_Wake.calls k3 g249 x250000_3 x250001_3 x250002_3 x250003_3 x250004_3 t264 t265 t266 t267 t268 t269 t270 w _ ?side1 ?side2 A24.out).mono ?_); (case side1 => repeat (first | (with_reducible first | exact HI249.out | apply IsS55.alloc | apply IsS55.drewN | apply IsS55.drew | apply IsS55.set_0 | apply IsS55.set_1 | apply IsS55.set_2 | apply IsS55.set_3 | apply IsS55.set_4) | exact HI249.out)); (case side2 => repeat (first | (with_reducible first | exact HB.out | apply below_alloc | apply pw_below_drewN | apply below_drew1 | refine below_set ?_ (IsS55.ge HI249.out)) | exact HB.out)); rintro e w26 ⟨rfl, hi, hb, hk⟩; refine ⟨_, rfl, ?_⟩; have n0_ := Aside0.mk (hb); have n1_ := Aside0.mk (hi); clear HB; clear HI249; have HB := n0_; have HI249 := n1_; clear n0_ n1_; (try clear hb); (try clear hb2); (try clear hk); (try clear hi)))
                        go_ret
                        exact ⟨by first | rfl | (simp [errW_none, errW_some] <;> rfl) | (simp [*, errW_none, errW_some] <;> rfl), by repeat (first | (with_reducible first | exact HB.out | apply below_alloc | apply pw_below_drewN | apply below_drew1 | refine below_set ?_ (IsS55.ge HI249.out)) | exact HB.out)⟩
                      · rw [if_neg c25] at H
                        have c25b0 : ((t265 == 0) != (decide (x11_3 < 7))) = false := by simpa using c25
                        (try (have c25b1 : decide ((t265 == 0) = (decide (x11_3 < 7))) = true := by simpa using c25))
                        (try (have c25b2 : ((t265 == 0) == (decide (x11_3 < 7))) = true := by simpa using c25))
                        clear c25
                        have H' := Aside0.mk H
                        clear H
                        go_wp2_with (first | ((with_reducible refine gate_callee (f := 28) rfl ?_); refine goesL_ (some 77) rfl rfl Try.func28 (by kernel_rfl) rfl #[.pointer (some ⟨g249, 0, none⟩)] rfl (by (try simp only [List.map_toArray, List.map_cons, List.map_nil]); first | done | rfl | (simp only [List.length_drop, List.length_take]; rfl)) ?_; (with_reducible refine (tcb_Task_Wake.calls k3 g249 x250000_3 x250001_3 x250002_3 x250003_3 x250004_3 t264 t265 t266 t267 t268 t269 t270 w _ ?side1 ?side2 A24.out).mono ?_); (case side1 => repeat (first | (with_reducible first | exact HI249.out | apply IsS55.alloc | apply IsS55.drewN | apply IsS55.drew | apply IsS55.set_0 | apply IsS55.set_1 | apply IsS55.set_2 | apply IsS55.set_3 | apply IsS55.set_4) | exact HI249.out)); (case side2 => repeat (first | (with_reducible first | exact HB.out | apply below_alloc | apply pw_below_drewN | apply below_drew1 | refine below_set ?_ (IsS55.ge HI249.out)) | exact HB.out)); rintro e w27 ⟨rfl, hi, hb, hk⟩; refine ⟨_, rfl, ?_⟩; have n0_ := Aside0.mk (hb); have n1_ := Aside0.mk (hi); clear HB; clear HI249; have HB := n0_; have HI249 := n1_; clear n0_ n1_; (try clear hb); (try clear hb2); (try clear hk); (try clear hi)))
                        go_roundg k3
                        case measure => have := HJ5.out; have := HK2.out; have := HK3.out; omega
                        case rel => exact ⟨(wrap64 (x11_3 + 1)), (t266), (t267), (t268), (t269), (t270), (by first | rfl | (simp; done) | (simp [*]; done)), H', ⟨by have := HJ5.out; have := HK2.out; have := HK3.out; omega⟩, ⟨by repeat (first | (with_reducible first | exact HI249.out | apply IsS55.alloc | apply IsS55.drewN | apply IsS55.drew | apply IsS55.set_0 | apply IsS55.set_1 | apply IsS55.set_2 | apply IsS55.set_3 | apply IsS55.set_4) | exact HI249.out)⟩, ⟨by repeat (first | (with_reducible first | exact HB.out | apply below_alloc | apply pw_below_drewN | apply below_drew1 | refine below_set ?_ (IsS55.ge HI249.out)) | exact HB.out)⟩⟩
                    · rw [if_neg c23] at H
                      have c23b0 : decide (x11_3 < a1) = false := decide_eq_false c23
                      clear c23
                      have H' := Aside0.mk H
                      clear H
                      go_wp2
                      go_loopg [14] k3 (fun kq v14 w' => ∃ (x14_4 : Int) (x250000_4 : Int) (x250001_4 : Int) (x250002_4 : Int) (x250003_4 : Int) (x250004_4 : Bool), v14 = .int .i64 x14_4 ∧ Aside0 (detentlaw10_TaskCounts.l2 kq a0 a1 a2 x14_4 x250000_4 x250001_4 x250002_4 x250003_4 x250004_4 = some r) ∧ Aside0 (kq ≤ k3) ∧ Aside0 (IsS55 w w' g249 x250000_4 x250001_4 x250002_4 x250003_4 x250004_4) ∧ Aside0 (Below w.heap.size w w'))
                      case atStart => exact ⟨(0), (x250000_3), (x250001_3), (x250002_3), (x250003_3), (x250004_3), (by first | rfl | (simp; done) | (simp [*]; done)), H', ⟨Nat.le_refl _⟩, ⟨by repeat (first | (with_reducible first | exact HI249.out | apply IsS55.alloc | apply IsS55.drewN | apply IsS55.drew | apply IsS55.set_0 | apply IsS55.set_1 | apply IsS55.set_2 | apply IsS55.set_3 | apply IsS55.set_4) | exact HI249.out)⟩, ⟨by repeat (first | (with_reducible first | exact HB.out | apply below_alloc | apply pw_below_drewN | apply below_drew1 | refine below_set ?_ (IsS55.ge HI249.out)) | exact HB.out)⟩⟩
                      case round =>
                        clear H'
                        try clear c1
                        try clear c2
                        try clear p2
                        try clear c5
                        try clear p6
                        try clear c8
                        try clear c8b0
                        try clear c9
                        try clear c9b0
                        try clear c10
                        try clear c10b0
                        try clear c11
                        try clear c11b0
                        try clear c12
                        try clear c12b0
                        try clear c13
                        try clear c18
                        try clear c18b0
                        try clear c20
                        try clear c20b0
                        try clear c20b1
                        try clear c20b2
                        try clear c21
                        try clear c22
                        try clear c23
                        try clear c23b0
                        try clear c25
                        try clear c25b0
                        try clear c25b1
                        try clear c25b2
                        try clear p2
                        try clear p6
                        obtain ⟨x14_4, x250000_4, x250001_4, x250002_4, x250003_4, x250004_4, rfl, HA, HK4, HI249, HB⟩ := hrel
                        cases gk with
                        | zero => exact absurd HA.out (by simp [detentlaw10_TaskCounts.l2])
                        | succ k4 =>
                          have H := HA.out
                          clear HA
                          simp only [detentlaw10_TaskCounts.l2] at H
                          have HC28 := Aside0.mk H
                          clear H
                          go_upto_region 20 with (fail)
                          go_cut [91] (fun v91 wc => ∃ (kq : Nat) (x91_27 : Bool), v91 = .bool x91_27 ∧ Aside0 (detentlaw10_TaskCounts.j4 kq a0 a1 a2 x14_4 x91_27 x250000_4 x250001_4 x250002_4 x250003_4 x250004_4 = some r) ∧ Aside0 (kq ≤ k4) ∧ Aside0 (IsS55 w wc g249 x250000_4 x250001_4 x250002_4 x250003_4 x250004_4) ∧ Aside0 (Below w.heap.size w wc))
                          case first =>
                            have H := HC28.out
                            clear HC28
                            by_cases c29 : x14_4 < a1
                            · rw [if_pos c29] at H
                              have c29b0 : decide (x14_4 < a1) = true := decide_eq_true c29
                              clear c29
                              (first | rw [c29b0] | (simp only [i64_w, i32_w]; rw [c29b0]) | skip)
                              have H' := Aside0.mk H
                              clear H
                              go_wp2
                              go_meet
                              case rel => exact ⟨_, (decide (x14_4 < 7)), (by first | rfl | (simp; done) | (simp [*]; done)), H', ⟨by have := HJ5.out; have := HK2.out; have := HK3.out; have := HK4.out; first | omega | exact Nat.le_refl _⟩, ⟨by repeat (first | (with_reducible first | exact HI249.out | apply IsS55.alloc | apply IsS55.drewN | apply IsS55.drew | apply IsS55.set_0 | apply IsS55.set_1 | apply IsS55.set_2 | apply IsS55.set_3 | apply IsS55.set_4) | exact HI249.out)⟩, ⟨by repeat (first | (with_reducible first | exact HB.out | apply below_alloc | apply pw_below_drewN | apply below_drew1 | refine below_set ?_ (IsS55.ge HI249.out)) | exact HB.out)⟩⟩
                            · rw [if_neg c29] at H
                              have c29b0 : decide (x14_4 < a1) = false := decide_eq_false c29
                              clear c29
                              (first | rw [c29b0] | (simp only [i64_w, i32_w]; rw [c29b0]) | skip)
                              have H' := Aside0.mk H
                              clear H
                              go_wp2
                              go_meet
                              case rel => exact ⟨_, (false), (by first | rfl | (simp; done) | (simp [*]; done)), H', ⟨by have := HJ5.out; have := HK2.out; have := HK3.out; have := HK4.out; first | omega | exact Nat.le_refl _⟩, ⟨by repeat (first | (with_reducible first | exact HI249.out | apply IsS55.alloc | apply IsS55.drewN | apply IsS55.drew | apply IsS55.set_0 | apply IsS55.set_1 | apply IsS55.set_2 | apply IsS55.set_3 | apply IsS55.set_4) | exact HI249.out)⟩, ⟨by repeat (first | (with_reducible first | exact HB.out | apply below_alloc | apply pw_below_drewN | apply below_drew1 | refine below_set ?_ (IsS55.ge HI249.out)) | exact HB.out)⟩⟩
                          case rest =>
                            clear HC28
                            try clear c1
                            try clear c2
                            try clear p2
                            try clear c5
                            try clear p6
                            try clear c8
                            try clear c8b0
                            try clear c9
                            try clear c9b0
                            try clear c10
                            try clear c10b0
                            try clear c11
                            try clear c11b0
                            try clear c12
                            try clear c12b0
                            try clear c13
                            try clear c18
                            try clear c18b0
                            try clear c20
                            try clear c20b0
                            try clear c20b1
                            try clear c20b2
                            try clear c21
                            try clear c22
                            try clear c23
                            try clear c23b0
                            try clear c25
                            try clear c25b0
                            try clear c25b1
                            try clear c25b2
                            try clear c28
                            try clear c29
                            try clear c29b0
                            try clear p2
                            try clear p6
                            obtain ⟨kq, x91_27, rfl, HA, HJ27, HI249, HB⟩ := hcut
                            cases kq with
                            | zero => exact absurd HA.out (by simp [detentlaw10_TaskCounts.j4])
                            | succ kj27 =>
                              have H := HA.out
                              clear HA
                              simp only [detentlaw10_TaskCounts.j4] at H
                              by_cases c30 : x91_27 = true
                              · subst c30
                                have H1 : ((tcb_Task_Sleep.f kj27 x250000_4 x250001_4 x250002_4 x250003_4 x250004_4).bind fun bt271 => (if bt271.1 = true then (some false) else (if bt271.2.1 = 0 then (detentlaw10_TaskCounts.l2 kj27 a0 a1 a2 (wrap64 (x14_4 + 1)) bt271.2.2.1 bt271.2.2.2.1 bt271.2.2.2.2.1 bt271.2.2.2.2.2.1 bt271.2.2.2.2.2.2) else (some false)))) = some r := by rw [if_pos rfl] at H; exact H
                                clear H
                                have H := H1
                                clear H1
                                replace H := Option.bind_eq_some_iff.mp H
                                obtain ⟨⟨t271, t272, t273, t274, t275, t276, t277⟩, A310, H⟩ := H
                                replace H : (if t271 = true then (some false) else (if t272 = 0 then (detentlaw10_TaskCounts.l2 kj27 a0 a1 a2 (wrap64 (x14_4 + 1)) t273 t274 t275 t276 t277) else (some false))) = some r := H
                                have A31 := Aside0.mk A310
                                clear A310
                                by_cases c32 : t271 = true
                                · subst c32
                                  have H1 : (some false) = some r := by rw [if_pos rfl] at H; exact H
                                  clear H
                                  have H := H1
                                  clear H1
                                  obtain rfl := Option.some.inj H
                                  go_wp2_with (first | ((with_reducible refine gate_callee (f := 27) rfl ?_); refine goesL_ (some 96) rfl rfl Try.func27 (by kernel_rfl) rfl #[.pointer (some ⟨g249, 0, none⟩)] rfl (by (try simp only [List.map_toArray, List.map_cons, List.map_nil]); first | done | rfl | (simp only [List.length_drop, List.length_take]; rfl)) ?_; (with_reducible refine (tcb_Task_Sleep.calls kj27 g249 x250000_4 x250001_4 x250002_4 x250003_4 x250004_4 true t272 t273 t274 t275 t276 t277 w _ ?side1 ?side2 A31.out).mono ?_); (case side1 => repeat (first | (with_reducible first | exact HI249.out | apply IsS55.alloc | apply IsS55.drewN | apply IsS55.drew | apply IsS55.set_0 | apply IsS55.set_1 | apply IsS55.set_2 | apply IsS55.set_3 | apply IsS55.set_4) | exact HI249.out)); (case side2 => repeat (first | (with_reducible first | exact HB.out | apply below_alloc | apply pw_below_drewN | apply below_drew1 | refine below_set ?_ (IsS55.ge HI249.out)) | exact HB.out)); rintro e w33 ⟨rfl, hi, hb, hk⟩; refine ⟨_, rfl, ?_⟩; have n0_ := Aside0.mk (hb); have n1_ := Aside0.mk (hi); clear HB; clear HI249; have HB := n0_; have HI249 := n1_; clear n0_ n1_; (try clear hb); (try clear hb2); (try clear hk); (try clear hi)))
                                  go_ret
                                  exact ⟨by first | rfl | (simp [errW_none, errW_some] <;> rfl) | (simp [*, errW_none, errW_some] <;> rfl), by repeat (first | (with_reducible first | exact HB.out | apply below_alloc | apply pw_below_drewN | apply below_drew1 | refine below_set ?_ (IsS55.ge HI249.out)) | exact HB.out)⟩
                                · replace c32 := Bool.eq_false_iff.mpr c32
                                  subst c32
                                  have H1 : (if t272 = 0 then (detentlaw10_TaskCounts.l2 kj27 a0 a1 a2 (wrap64 (x14_4 + 1)) t273 t274 t275 t276 t277) else (some false)) = some r := by rw [if_neg (show ¬ (false = true) by decide)] at H; exact H
                                  clear H
                                  have H := H1
                                  clear H1
                                  by_cases c34 : t272 = 0
                                  · rw [if_pos c34] at H
                                    have c34b0 : (t272 == 0) = true := beq_iff_eq.mpr c34
                                    have c34b1 : (t272 != 0) = false := bne_eq_false_iff_eq.mpr c34
                                    clear c34
                                    have H' := Aside0.mk H
                                    clear H
                                    go_wp2_with (first | ((with_reducible refine gate_callee (f := 27) rfl ?_); refine goesL_ (some 96) rfl rfl Try.func27 (by kernel_rfl) rfl #[.pointer (some ⟨g249, 0, none⟩)] rfl (by (try simp only [List.map_toArray, List.map_cons, List.map_nil]); first | done | rfl | (simp only [List.length_drop, List.length_take]; rfl)) ?_; (with_reducible refine (tcb_Task_Sleep.calls kj27 g249 x250000_4 x250001_4 x250002_4 x250003_4 x250004_4 false t272 t273 t274 t275 t276 t277 w _ ?side1 ?side2 A31.out).mono ?_); (case side1 => repeat (first | (with_reducible first | exact HI249.out | apply IsS55.alloc | apply IsS55.drewN | apply IsS55.drew | apply IsS55.set_0 | apply IsS55.set_1 | apply IsS55.set_2 | apply IsS55.set_3 | apply IsS55.set_4) | exact HI249.out)); (case side2 => repeat (first | (with_reducible first | exact HB.out | apply below_alloc | apply pw_below_drewN | apply below_drew1 | refine below_set ?_ (IsS55.ge HI249.out)) | exact HB.out)); rintro e w35 ⟨rfl, hi, hb, hk⟩; refine ⟨_, rfl, ?_⟩; have n0_ := Aside0.mk (hb); have n1_ := Aside0.mk (hi); clear HB; clear HI249; have HB := n0_; have HI249 := n1_; clear n0_ n1_; (try clear hb); (try clear hb2); (try clear hk); (try clear hi)))
                                    go_roundg kj27
                                    case measure => have := HJ5.out; have := HK2.out; have := HK3.out; have := HK4.out; have := HJ27.out; omega
                                    case rel => exact ⟨(wrap64 (x14_4 + 1)), (t273), (t274), (t275), (t276), (t277), (by first | rfl | (simp; done) | (simp [*]; done)), H', ⟨by have := HJ5.out; have := HK2.out; have := HK3.out; have := HK4.out; have := HJ27.out; omega⟩, ⟨by repeat (first | (with_reducible first | exact HI249.out | apply IsS55.alloc | apply IsS55.drewN | apply IsS55.drew | apply IsS55.set_0 | apply IsS55.set_1 | apply IsS55.set_2 | apply IsS55.set_3 | apply IsS55.set_4) | exact HI249.out)⟩, ⟨by repeat (first | (with_reducible first | exact HB.out | apply below_alloc | apply pw_below_drewN | apply below_drew1 | refine below_set ?_ (IsS55.ge HI249.out)) | exact HB.out)⟩⟩
                                  · rw [if_neg c34] at H
                                    have c34b0 : (t272 == 0) = false := beq_eq_false_iff_ne.mpr c34
                                    have c34b1 : (t272 != 0) = true := bne_iff_ne.mpr c34
                                    obtain rfl := Option.some.inj H
                                    go_wp2_with (first | ((with_reducible refine gate_callee (f := 27) rfl ?_); refine goesL_ (some 96) rfl rfl Try.func27 (by kernel_rfl) rfl #[.pointer (some ⟨g249, 0, none⟩)] rfl (by (try simp only [List.map_toArray, List.map_cons, List.map_nil]); first | done | rfl | (simp only [List.length_drop, List.length_take]; rfl)) ?_; (with_reducible refine (tcb_Task_Sleep.calls kj27 g249 x250000_4 x250001_4 x250002_4 x250003_4 x250004_4 false t272 t273 t274 t275 t276 t277 w _ ?side1 ?side2 A31.out).mono ?_); (case side1 => repeat (first | (with_reducible first | exact HI249.out | apply IsS55.alloc | apply IsS55.drewN | apply IsS55.drew | apply IsS55.set_0 | apply IsS55.set_1 | apply IsS55.set_2 | apply IsS55.set_3 | apply IsS55.set_4) | exact HI249.out)); (case side2 => repeat (first | (with_reducible first | exact HB.out | apply below_alloc | apply pw_below_drewN | apply below_drew1 | refine below_set ?_ (IsS55.ge HI249.out)) | exact HB.out)); rintro e w36 ⟨rfl, hi, hb, hk⟩; refine ⟨_, rfl, ?_⟩; have n0_ := Aside0.mk (hb); have n1_ := Aside0.mk (hi); clear HB; clear HI249; have HB := n0_; have HI249 := n1_; clear n0_ n1_; (try clear hb); (try clear hb2); (try clear hk); (try clear hi)))
                                    go_ret
                                    exact ⟨by first | rfl | (simp [errW_none, errW_some] <;> rfl) | (simp [*, errW_none, errW_some] <;> rfl), by repeat (first | (with_reducible first | exact HB.out | apply below_alloc | apply pw_below_drewN | apply below_drew1 | refine below_set ?_ (IsS55.ge HI249.out)) | exact HB.out)⟩
                              · replace c30 := Bool.eq_false_iff.mpr c30
                                subst c30
                                have H1 : (detentlaw10_TaskCounts.l3 kj27 a0 a2 0 x250000_4 x250001_4 x250002_4 x250003_4 x250004_4) = some r := by rw [if_neg (show ¬ (false = true) by decide)] at H; exact H
                                clear H
                                have H := H1
                                clear H1
                                have H' := Aside0.mk H
                                clear H
                                go_wp2
                                go_loopg [17] kj27 (fun kq v17 w' => ∃ (x17_6 : Int) (x250000_6 : Int) (x250001_6 : Int) (x250002_6 : Int) (x250003_6 : Int) (x250004_6 : Bool), v17 = .int .i64 x17_6 ∧ Aside0 (detentlaw10_TaskCounts.l3 kq a0 a2 x17_6 x250000_6 x250001_6 x250002_6 x250003_6 x250004_6 = some r) ∧ Aside0 (kq ≤ kj27) ∧ Aside0 (IsS55 w w' g249 x250000_6 x250001_6 x250002_6 x250003_6 x250004_6) ∧ Aside0 (Below w.heap.size w w'))
                                case atStart => exact ⟨(0), (x250000_4), (x250001_4), (x250002_4), (x250003_4), (x250004_4), (by first | rfl | (simp; done) | (simp [*]; done)), H', ⟨Nat.le_refl _⟩, ⟨by repeat (first | (with_reducible first | exact HI249.out | apply IsS55.alloc | apply IsS55.drewN | apply IsS55.drew | apply IsS55.set_0 | apply IsS55.set_1 | apply IsS55.set_2 | apply IsS55.set_3 | apply IsS55.set_4) | exact HI249.out)⟩, ⟨by repeat (first | (with_reducible first | exact HB.out | apply below_alloc | apply pw_below_drewN | apply below_drew1 | refine below_set ?_ (IsS55.ge HI249.out)) | exact HB.out)⟩⟩
                                case round =>
                                  clear H'
                                  try clear c1
                                  try clear c2
                                  try clear p2
                                  try clear c3
                                  try clear c5
                                  try clear p6
                                  try clear c8
                                  try clear c8b0
                                  try clear c9
                                  try clear c9b0
                                  try clear c10
                                  try clear c10b0
                                  try clear c11
                                  try clear c11b0
                                  try clear c12
                                  try clear c12b0
                                  try clear c13
                                  try clear c18
                                  try clear c18b0
                                  try clear c20
                                  try clear c20b0
                                  try clear c20b1
                                  try clear c20b2
                                  try clear c21
                                  try clear c22
                                  try clear c23
                                  try clear c23b0
                                  try clear c25
                                  try clear c25b0
                                  try clear c25b1
                                  try clear c25b2
                                  try clear c27
                                  try clear c28
                                  try clear c29
                                  try clear c29b0
                                  try clear c30
                                  try clear c32
                                  try clear c34
                                  try clear c34b0
                                  try clear c34b1
                                  try clear p2
                                  try clear p6
                                  obtain ⟨x17_6, x250000_6, x250001_6, x250002_6, x250003_6, x250004_6, rfl, HA, HK6, HI249, HB⟩ := hrel
                                  cases gk with
                                  | zero => exact absurd HA.out (by simp [detentlaw10_TaskCounts.l3])
                                  | succ k6 =>
                                    have H := HA.out
                                    clear HA
                                    simp only [detentlaw10_TaskCounts.l3] at H
                                    by_cases c37 : x17_6 < a2
                                    · rw [if_pos c37] at H
                                      have c37b0 : decide (x17_6 < a2) = true := decide_eq_true c37
                                      clear c37
                                      replace H := Option.bind_eq_some_iff.mp H
                                      obtain ⟨⟨t278, t279, t280, t281, t282, t283⟩, A380, H⟩ := H
                                      replace H : (if ((t278 == 0) != (decide (x17_6 < 7))) = true then (some false) else (detentlaw10_TaskCounts.l3 k6 a0 a2 (wrap64 (x17_6 + 1)) t279 t280 t281 t282 t283)) = some r := H
                                      have A38 := Aside0.mk A380
                                      clear A380
                                      by_cases c39 : ((t278 == 0) != (decide (x17_6 < 7))) = true
                                      · rw [if_pos c39] at H
                                        have c39b0 : ((t278 == 0) != (decide (x17_6 < 7))) = true := c39
                                        (try (have c39b1 : decide ((t278 == 0) = (decide (x17_6 < 7))) = false := by simpa using c39))
                                        (try (have c39b2 : ((t278 == 0) == (decide (x17_6 < 7))) = false := by simpa using c39))
                                        (try (have c39b3 : ¬ ((t278 == 0) = (decide (x17_6 < 7))) := by simpa using c39))
                                        clear c39
                                        obtain rfl := Option.some.inj H
                                        go_wp2_with (first | ((with_reducible refine gate_callee (f := 29) rfl ?_); refine goesL_ (some 110) rfl rfl Try.func29 (by kernel_rfl) rfl #[.pointer (some ⟨g249, 0, none⟩)] rfl (by (try simp only [List.map_toArray, List.map_cons, List.map_nil]); first | done | rfl | (simp only [List.length_drop, List.length_take]; rfl)) ?_; (with_reducible refine (tcb_Task_Suspend.calls k6 g249 x250000_6 x250001_6 x250002_6 x250003_6 x250004_6 t278 t279 t280 t281 t282 t283 w _ ?side1 ?side2 A38.out).mono ?_); (case side1 => repeat (first | (with_reducible first | exact HI249.out | apply IsS55.alloc | apply IsS55.drewN | apply IsS55.drew | apply IsS55.set_0 | apply IsS55.set_1 | apply IsS55.set_2 | apply IsS55.set_3 | apply IsS55.set_4) | exact HI249.out)); (case side2 => repeat (first | (with_reducible first | exact HB.out | apply below_alloc | apply pw_below_drewN | apply below_drew1 | refine below_set ?_ (IsS55.ge HI249.out)) | exact HB.out)); rintro e w40 ⟨rfl, hi, hb, hk⟩; refine ⟨_, rfl, ?_⟩; have n0_ := Aside0.mk (hb); have n1_ := Aside0.mk (hi); clear HB; clear HI249; have HB := n0_; have HI249 := n1_; clear n0_ n1_; (try clear hb); (try clear hb2); (try clear hk); (try clear hi)))
                                        go_ret
                                        exact ⟨by first | rfl | (simp [errW_none, errW_some] <;> rfl) | (simp [*, errW_none, errW_some] <;> rfl), by repeat (first | (with_reducible first | exact HB.out | apply below_alloc | apply pw_below_drewN | apply below_drew1 | refine below_set ?_ (IsS55.ge HI249.out)) | exact HB.out)⟩
                                      · rw [if_neg c39] at H
                                        have c39b0 : ((t278 == 0) != (decide (x17_6 < 7))) = false := by simpa using c39
                                        (try (have c39b1 : decide ((t278 == 0) = (decide (x17_6 < 7))) = true := by simpa using c39))
                                        (try (have c39b2 : ((t278 == 0) == (decide (x17_6 < 7))) = true := by simpa using c39))
                                        clear c39
                                        have H' := Aside0.mk H
                                        clear H
                                        go_wp2_with (first | ((with_reducible refine gate_callee (f := 29) rfl ?_); refine goesL_ (some 110) rfl rfl Try.func29 (by kernel_rfl) rfl #[.pointer (some ⟨g249, 0, none⟩)] rfl (by (try simp only [List.map_toArray, List.map_cons, List.map_nil]); first | done | rfl | (simp only [List.length_drop, List.length_take]; rfl)) ?_; (with_reducible refine (tcb_Task_Suspend.calls k6 g249 x250000_6 x250001_6 x250002_6 x250003_6 x250004_6 t278 t279 t280 t281 t282 t283 w _ ?side1 ?side2 A38.out).mono ?_); (case side1 => repeat (first | (with_reducible first | exact HI249.out | apply IsS55.alloc | apply IsS55.drewN | apply IsS55.drew | apply IsS55.set_0 | apply IsS55.set_1 | apply IsS55.set_2 | apply IsS55.set_3 | apply IsS55.set_4) | exact HI249.out)); (case side2 => repeat (first | (with_reducible first | exact HB.out | apply below_alloc | apply pw_below_drewN | apply below_drew1 | refine below_set ?_ (IsS55.ge HI249.out)) | exact HB.out)); rintro e w41 ⟨rfl, hi, hb, hk⟩; refine ⟨_, rfl, ?_⟩; have n0_ := Aside0.mk (hb); have n1_ := Aside0.mk (hi); clear HB; clear HI249; have HB := n0_; have HI249 := n1_; clear n0_ n1_; (try clear hb); (try clear hb2); (try clear hk); (try clear hi)))
                                        go_roundg k6
                                        case measure => have := HJ5.out; have := HK2.out; have := HK3.out; have := HK4.out; have := HJ27.out; have := HK6.out; omega
                                        case rel => exact ⟨(wrap64 (x17_6 + 1)), (t279), (t280), (t281), (t282), (t283), (by first | rfl | (simp; done) | (simp [*]; done)), H', ⟨by have := HJ5.out; have := HK2.out; have := HK3.out; have := HK4.out; have := HJ27.out; have := HK6.out; omega⟩, ⟨by repeat (first | (with_reducible first | exact HI249.out | apply IsS55.alloc | apply IsS55.drewN | apply IsS55.drew | apply IsS55.set_0 | apply IsS55.set_1 | apply IsS55.set_2 | apply IsS55.set_3 | apply IsS55.set_4) | exact HI249.out)⟩, ⟨by repeat (first | (with_reducible first | exact HB.out | apply below_alloc | apply pw_below_drewN | apply below_drew1 | refine below_set ?_ (IsS55.ge HI249.out)) | exact HB.out)⟩⟩
                                    · rw [if_neg c37] at H
                                      have c37b0 : decide (x17_6 < a2) = false := decide_eq_false c37
                                      clear c37
                                      have HC42 := Aside0.mk H
                                      clear H
                                      go_upto_if 118 with (fail)
                                      go_cut [19] (fun v19 wc => ∃ (kq : Nat) (x19_41 : Int), v19 = .int .i64 x19_41 ∧ Aside0 (detentlaw10_TaskCounts.j6 kq a0 x19_41 x250000_6 x250001_6 x250002_6 x250003_6 x250004_6 = some r) ∧ Aside0 (kq ≤ k6) ∧ Aside0 (IsS55 w wc g249 x250000_6 x250001_6 x250002_6 x250003_6 x250004_6) ∧ Aside0 (Below w.heap.size w wc))
                                      case first =>
                                        have H := HC42.out
                                        clear HC42
                                        by_cases c43 : a2 > 7
                                        · rw [if_pos c43] at H
                                          have c43b0 : decide (7 < a2) = true := decide_eq_true c43
                                          clear c43
                                          (first | rw [c43b0] | (simp only [i64_w, i32_w]; rw [c43b0]) | skip)
                                          have H' := Aside0.mk H
                                          clear H
                                          go_wp2
                                          go_meet
                                          case rel => exact ⟨_, (7), (by first | rfl | (simp; done) | (simp [*]; done)), H', ⟨by have := HJ5.out; have := HK2.out; have := HK3.out; have := HK4.out; have := HJ27.out; have := HK6.out; first | omega | exact Nat.le_refl _⟩, ⟨by repeat (first | (with_reducible first | exact HI249.out | apply IsS55.alloc | apply IsS55.drewN | apply IsS55.drew | apply IsS55.set_0 | apply IsS55.set_1 | apply IsS55.set_2 | apply IsS55.set_3 | apply IsS55.set_4) | exact HI249.out)⟩, ⟨by repeat (first | (with_reducible first | exact HB.out | apply below_alloc | apply pw_below_drewN | apply below_drew1 | refine below_set ?_ (IsS55.ge HI249.out)) | exact HB.out)⟩⟩
                                        · rw [if_neg c43] at H
                                          have c43b0 : decide (7 < a2) = false := decide_eq_false c43
                                          clear c43
                                          (first | rw [c43b0] | (simp only [i64_w, i32_w]; rw [c43b0]) | skip)
                                          have H' := Aside0.mk H
                                          clear H
                                          go_wp2
                                          go_meet
                                          case rel => exact ⟨_, (a2), (by first | rfl | (simp; done) | (simp [*]; done)), H', ⟨by have := HJ5.out; have := HK2.out; have := HK3.out; have := HK4.out; have := HJ27.out; have := HK6.out; first | omega | exact Nat.le_refl _⟩, ⟨by repeat (first | (with_reducible first | exact HI249.out | apply IsS55.alloc | apply IsS55.drewN | apply IsS55.drew | apply IsS55.set_0 | apply IsS55.set_1 | apply IsS55.set_2 | apply IsS55.set_3 | apply IsS55.set_4) | exact HI249.out)⟩, ⟨by repeat (first | (with_reducible first | exact HB.out | apply below_alloc | apply pw_below_drewN | apply below_drew1 | refine below_set ?_ (IsS55.ge HI249.out)) | exact HB.out)⟩⟩
                                      case rest =>
                                        clear HC42
                                        try clear c1
                                        try clear c2
                                        try clear p2
                                        try clear c3
                                        try clear c4
                                        try clear c5
                                        try clear p6
                                        try clear c8
                                        try clear c8b0
                                        try clear c9
                                        try clear c9b0
                                        try clear c10
                                        try clear c10b0
                                        try clear c11
                                        try clear c11b0
                                        try clear c12
                                        try clear c12b0
                                        try clear c13
                                        try clear c18
                                        try clear c18b0
                                        try clear c20
                                        try clear c20b0
                                        try clear c20b1
                                        try clear c20b2
                                        try clear c21
                                        try clear c22
                                        try clear c23
                                        try clear c23b0
                                        try clear c25
                                        try clear c25b0
                                        try clear c25b1
                                        try clear c25b2
                                        try clear c27
                                        try clear c28
                                        try clear c29
                                        try clear c29b0
                                        try clear c30
                                        try clear c32
                                        try clear c34
                                        try clear c34b0
                                        try clear c34b1
                                        try clear c37
                                        try clear c37b0
                                        try clear c39
                                        try clear c39b0
                                        try clear c39b1
                                        try clear c39b2
                                        try clear c43
                                        try clear c43b0
                                        try clear p2
                                        try clear p6
                                        obtain ⟨kq, x19_41, rfl, HA, HJ41, HI249, HB⟩ := hcut
                                        cases kq with
                                        | zero => exact absurd HA.out (by simp [detentlaw10_TaskCounts.j6])
                                        | succ kj41 =>
                                          have H := HA.out
                                          clear HA
                                          simp only [detentlaw10_TaskCounts.j6] at H
                                          have H' := Aside0.mk H
                                          clear H
                                          go_wp2
                                          go_loopg [20] kj41 (fun kq v20 w' => ∃ (x20_8 : Int) (x250000_8 : Int) (x250001_8 : Int) (x250002_8 : Int) (x250003_8 : Int) (x250004_8 : Bool), v20 = .int .i64 x20_8 ∧ Aside0 (detentlaw10_TaskCounts.l4 kq a0 x19_41 x20_8 x250000_8 x250001_8 x250002_8 x250003_8 x250004_8 = some r) ∧ Aside0 (kq ≤ kj41) ∧ Aside0 (IsS55 w w' g249 x250000_8 x250001_8 x250002_8 x250003_8 x250004_8) ∧ Aside0 (Below w.heap.size w w'))
                                          case atStart => exact ⟨(0), (x250000_6), (x250001_6), (x250002_6), (x250003_6), (x250004_6), (by first | rfl | (simp; done) | (simp [*]; done)), H', ⟨Nat.le_refl _⟩, ⟨by repeat (first | (with_reducible first | exact HI249.out | apply IsS55.alloc | apply IsS55.drewN | apply IsS55.drew | apply IsS55.set_0 | apply IsS55.set_1 | apply IsS55.set_2 | apply IsS55.set_3 | apply IsS55.set_4) | exact HI249.out)⟩, ⟨by repeat (first | (with_reducible first | exact HB.out | apply below_alloc | apply pw_below_drewN | apply below_drew1 | refine below_set ?_ (IsS55.ge HI249.out)) | exact HB.out)⟩⟩
                                          case round =>
                                            clear H'
                                            try clear c1
                                            try clear c2
                                            try clear p2
                                            try clear c3
                                            try clear c4
                                            try clear c5
                                            try clear p6
                                            try clear c8
                                            try clear c8b0
                                            try clear c9
                                            try clear c9b0
                                            try clear c10
                                            try clear c10b0
                                            try clear c11
                                            try clear c11b0
                                            try clear c12
                                            try clear c12b0
                                            try clear c13
                                            try clear c18
                                            try clear c18b0
                                            try clear c20
                                            try clear c20b0
                                            try clear c20b1
                                            try clear c20b2
                                            try clear c21
                                            try clear c22
                                            try clear c23
                                            try clear c23b0
                                            try clear c25
                                            try clear c25b0
                                            try clear c25b1
                                            try clear c25b2
                                            try clear c27
                                            try clear c28
                                            try clear c29
                                            try clear c29b0
                                            try clear c30
                                            try clear c32
                                            try clear c34
                                            try clear c34b0
                                            try clear c34b1
                                            try clear c37
                                            try clear c37b0
                                            try clear c39
                                            try clear c39b0
                                            try clear c39b1
                                            try clear c39b2
                                            try clear c43
                                            try clear c43b0
                                            try clear p2
                                            try clear p6
                                            obtain ⟨x20_8, x250000_8, x250001_8, x250002_8, x250003_8, x250004_8, rfl, HA, HK8, HI249, HB⟩ := hrel
                                            cases gk with
                                            | zero => exact absurd HA.out (by simp [detentlaw10_TaskCounts.l4])
                                            | succ k8 =>
                                              have H := HA.out
                                              clear HA
                                              simp only [detentlaw10_TaskCounts.l4] at H
                                              by_cases c44 : x20_8 < x19_41
                                              · rw [if_pos c44] at H
                                                have c44b0 : decide (x20_8 < x19_41) = true := decide_eq_true c44
                                                clear c44
                                                replace H := Option.bind_eq_some_iff.mp H
                                                obtain ⟨⟨t284, t285, t286, t287, t288, t289, t290⟩, A450, H⟩ := H
                                                replace H : (if t285 = 0 then (if (t284 != (x20_8 == (wrap64 (x19_41 - 1)))) = true then (some false) else (detentlaw10_TaskCounts.l4 k8 a0 x19_41 (wrap64 (x20_8 + 1)) t286 t287 t288 t289 t290)) else (some false)) = some r := H
                                                have A45 := Aside0.mk A450
                                                clear A450
                                                by_cases c46 : t285 = 0
                                                · rw [if_pos c46] at H
                                                  have c46b0 : (t285 == 0) = true := beq_iff_eq.mpr c46
                                                  have c46b1 : (t285 != 0) = false := bne_eq_false_iff_eq.mpr c46
                                                  clear c46
                                                  by_cases c47 : (t284 != (x20_8 == (wrap64 (x19_41 - 1)))) = true
                                                  · rw [if_pos c47] at H
                                                    have c47b0 : (t284 != (x20_8 == (wrap64 (x19_41 - 1)))) = true := c47
                                                    (try (have c47b1 : decide (t284 = (x20_8 == (wrap64 (x19_41 - 1)))) = false := by simpa using c47))
                                                    (try (have c47b2 : (t284 == (x20_8 == (wrap64 (x19_41 - 1)))) = false := by simpa using c47))
                                                    (try (have c47b3 : ¬ (t284 = (x20_8 == (wrap64 (x19_41 - 1)))) := by simpa using c47))
                                                    clear c47
                                                    obtain rfl := Option.some.inj H
                                                    go_wp2_with (first | ((with_reducible refine gate_callee (f := 31) rfl ?_); refine goesL_ (some 126) rfl rfl Try.func31 (by kernel_rfl) rfl #[.pointer (some ⟨g249, 0, none⟩), .bool false] rfl (by (try simp only [List.map_toArray, List.map_cons, List.map_nil]); first | done | rfl | (simp only [List.length_drop, List.length_take]; rfl)) ?_; (with_reducible refine (tcb_Task_Resume.calls k8 g249 x250000_8 x250001_8 x250002_8 x250003_8 x250004_8 false t284 t285 t286 t287 t288 t289 t290 w _ ?side1 ?side2 A45.out).mono ?_); (case side1 => repeat (first | (with_reducible first | exact HI249.out | apply IsS55.alloc | apply IsS55.drewN | apply IsS55.drew | apply IsS55.set_0 | apply IsS55.set_1 | apply IsS55.set_2 | apply IsS55.set_3 | apply IsS55.set_4) | exact HI249.out)); (case side2 => repeat (first | (with_reducible first | exact HB.out | apply below_alloc | apply pw_below_drewN | apply below_drew1 | refine below_set ?_ (IsS55.ge HI249.out)) | exact HB.out)); rintro e w48 ⟨rfl, hi, hb, hk⟩; refine ⟨_, rfl, ?_⟩; have n0_ := Aside0.mk (hb); have n1_ := Aside0.mk (hi); clear HB; clear HI249; have HB := n0_; have HI249 := n1_; clear n0_ n1_; (try clear hb); (try clear hb2); (try clear hk); (try clear hi)))
                                                    go_ret
                                                    exact ⟨by first | rfl | (simp [errW_none, errW_some] <;> rfl) | (simp [*, errW_none, errW_some] <;> rfl), by repeat (first | (with_reducible first | exact HB.out | apply below_alloc | apply pw_below_drewN | apply below_drew1 | refine below_set ?_ (IsS55.ge HI249.out)) | exact HB.out)⟩
                                                  · rw [if_neg c47] at H
                                                    have c47b0 : (t284 != (x20_8 == (wrap64 (x19_41 - 1)))) = false := by simpa using c47
                                                    (try (have c47b1 : decide (t284 = (x20_8 == (wrap64 (x19_41 - 1)))) = true := by simpa using c47))
                                                    (try (have c47b2 : (t284 == (x20_8 == (wrap64 (x19_41 - 1)))) = true := by simpa using c47))
                                                    clear c47
                                                    have H' := Aside0.mk H
                                                    clear H
                                                    go_wp2_with (first | ((with_reducible refine gate_callee (f := 31) rfl ?_); refine goesL_ (some 126) rfl rfl Try.func31 (by kernel_rfl) rfl #[.pointer (some ⟨g249, 0, none⟩), .bool false] rfl (by (try simp only [List.map_toArray, List.map_cons, List.map_nil]); first | done | rfl | (simp only [List.length_drop, List.length_take]; rfl)) ?_; (with_reducible refine (tcb_Task_Resume.calls k8 g249 x250000_8 x250001_8 x250002_8 x250003_8 x250004_8 false t284 t285 t286 t287 t288 t289 t290 w _ ?side1 ?side2 A45.out).mono ?_); (case side1 => repeat (first | (with_reducible first | exact HI249.out | apply IsS55.alloc | apply IsS55.drewN | apply IsS55.drew | apply IsS55.set_0 | apply IsS55.set_1 | apply IsS55.set_2 | apply IsS55.set_3 | apply IsS55.set_4) | exact HI249.out)); (case side2 => repeat (first | (with_reducible first | exact HB.out | apply below_alloc | apply pw_below_drewN | apply below_drew1 | refine below_set ?_ (IsS55.ge HI249.out)) | exact HB.out)); rintro e w49 ⟨rfl, hi, hb, hk⟩; refine ⟨_, rfl, ?_⟩; have n0_ := Aside0.mk (hb); have n1_ := Aside0.mk (hi); clear HB; clear HI249; have HB := n0_; have HI249 := n1_; clear n0_ n1_; (try clear hb); (try clear hb2); (try clear hk); (try clear hi)))
                                                    go_roundg k8
                                                    case measure => have := HJ5.out; have := HK2.out; have := HK3.out; have := HK4.out; have := HJ27.out; have := HK6.out; have := HJ41.out; have := HK8.out; omega
                                                    case rel => exact ⟨(wrap64 (x20_8 + 1)), (t286), (t287), (t288), (t289), (t290), (by first | rfl | (simp; done) | (simp [*]; done)), H', ⟨by have := HJ5.out; have := HK2.out; have := HK3.out; have := HK4.out; have := HJ27.out; have := HK6.out; have := HJ41.out; have := HK8.out; omega⟩, ⟨by repeat (first | (with_reducible first | exact HI249.out | apply IsS55.alloc | apply IsS55.drewN | apply IsS55.drew | apply IsS55.set_0 | apply IsS55.set_1 | apply IsS55.set_2 | apply IsS55.set_3 | apply IsS55.set_4) | exact HI249.out)⟩, ⟨by repeat (first | (with_reducible first | exact HB.out | apply below_alloc | apply pw_below_drewN | apply below_drew1 | refine below_set ?_ (IsS55.ge HI249.out)) | exact HB.out)⟩⟩
                                                · rw [if_neg c46] at H
                                                  have c46b0 : (t285 == 0) = false := beq_eq_false_iff_ne.mpr c46
                                                  have c46b1 : (t285 != 0) = true := bne_iff_ne.mpr c46
                                                  obtain rfl := Option.some.inj H
                                                  go_wp2_with (first | ((with_reducible refine gate_callee (f := 31) rfl ?_); refine goesL_ (some 126) rfl rfl Try.func31 (by kernel_rfl) rfl #[.pointer (some ⟨g249, 0, none⟩), .bool false] rfl (by (try simp only [List.map_toArray, List.map_cons, List.map_nil]); first | done | rfl | (simp only [List.length_drop, List.length_take]; rfl)) ?_; (with_reducible refine (tcb_Task_Resume.calls k8 g249 x250000_8 x250001_8 x250002_8 x250003_8 x250004_8 false t284 t285 t286 t287 t288 t289 t290 w _ ?side1 ?side2 A45.out).mono ?_); (case side1 => repeat (first | (with_reducible first | exact HI249.out | apply IsS55.alloc | apply IsS55.drewN | apply IsS55.drew | apply IsS55.set_0 | apply IsS55.set_1 | apply IsS55.set_2 | apply IsS55.set_3 | apply IsS55.set_4) | exact HI249.out)); (case side2 => repeat (first | (with_reducible first | exact HB.out | apply below_alloc | apply pw_below_drewN | apply below_drew1 | refine below_set ?_ (IsS55.ge HI249.out)) | exact HB.out)); rintro e w50 ⟨rfl, hi, hb, hk⟩; refine ⟨_, rfl, ?_⟩; have n0_ := Aside0.mk (hb); have n1_ := Aside0.mk (hi); clear HB; clear HI249; have HB := n0_; have HI249 := n1_; clear n0_ n1_; (try clear hb); (try clear hb2); (try clear hk); (try clear hi)))
                                                  go_ret
                                                  exact ⟨by first | rfl | (simp [errW_none, errW_some] <;> rfl) | (simp [*, errW_none, errW_some] <;> rfl), by repeat (first | (with_reducible first | exact HB.out | apply below_alloc | apply pw_below_drewN | apply below_drew1 | refine below_set ?_ (IsS55.ge HI249.out)) | exact HB.out)⟩
                                              · rw [if_neg c44] at H
                                                have c44b0 : decide (x20_8 < x19_41) = false := decide_eq_false c44
                                                clear c44
                                                replace H := Option.bind_eq_some_iff.mp H
                                                obtain ⟨⟨t291, t292, t293, t294, t295, t296, t297⟩, A510, H⟩ := H
                                                replace H : (if t291 = true then (detentlaw10_TaskCounts.j8 k8 a0 (t292 != 0) t293 t294 t295 t296 t297) else (detentlaw10_TaskCounts.j8 k8 a0 true t293 t294 t295 t296 t297)) = some r := H
                                                have A51 := Aside0.mk A510
                                                clear A510
                                                have HC52 := Aside0.mk H
                                                clear H
                                                go_upto_region 41 with (first | ((with_reducible refine gate_callee (f := 27) rfl ?_); refine goesL_ (some 141) rfl rfl Try.func27 (by kernel_rfl) rfl #[.pointer (some ⟨g249, 0, none⟩)] rfl (by (try simp only [List.map_toArray, List.map_cons, List.map_nil]); first | done | rfl | (simp only [List.length_drop, List.length_take]; rfl)) ?_; (with_reducible refine (tcb_Task_Sleep.calls k8 g249 x250000_8 x250001_8 x250002_8 x250003_8 x250004_8 t291 t292 t293 t294 t295 t296 t297 w _ ?side1 ?side2 A51.out).mono ?_); (case side1 => repeat (first | (with_reducible first | exact HI249.out | apply IsS55.alloc | apply IsS55.drewN | apply IsS55.drew | apply IsS55.set_0 | apply IsS55.set_1 | apply IsS55.set_2 | apply IsS55.set_3 | apply IsS55.set_4) | exact HI249.out)); (case side2 => repeat (first | (with_reducible first | exact HB.out | apply below_alloc | apply pw_below_drewN | apply below_drew1 | refine below_set ?_ (IsS55.ge HI249.out)) | exact HB.out)); rintro e w53 ⟨rfl, hi, hb, hk⟩; refine ⟨_, rfl, ?_⟩; have n0_ := Aside0.mk (hb); have n1_ := Aside0.mk (hi); clear HB; clear HI249; have HB := n0_; have HI249 := n1_; clear n0_ n1_; (try clear hb); (try clear hb2); (try clear hk); (try clear hi)))
                                                (try simp only [Act.put, List.setIfInBounds_toArray, List.set_cons_zero, List.set_cons_succ])
                                                go_cut [149] (fun v149 wc => ∃ (kq : Nat) (x149_51 : Bool), v149 = .bool x149_51 ∧ Aside0 (detentlaw10_TaskCounts.j8 kq a0 x149_51 t293 t294 t295 t296 t297 = some r) ∧ Aside0 (kq ≤ k8) ∧ Aside0 (IsS55 w wc g249 t293 t294 t295 t296 t297) ∧ Aside0 (Below w.heap.size w wc))
                                                case first =>
                                                  have H := HC52.out
                                                  clear HC52
                                                  by_cases c54 : t291 = true
                                                  · subst c54
                                                    have H1 : (detentlaw10_TaskCounts.j8 k8 a0 (t292 != 0) t293 t294 t295 t296 t297) = some r := by rw [if_pos rfl] at H; exact H
                                                    clear H
                                                    have H := H1
                                                    clear H1
                                                    have H' := Aside0.mk H
                                                    clear H
                                                    go_wp2
                                                    go_meet
                                                    case rel => exact ⟨_, ((t292 != 0)), (by first | rfl | (simp; done) | (simp [*]; done)), H', ⟨by have := HJ5.out; have := HK2.out; have := HK3.out; have := HK4.out; have := HJ27.out; have := HK6.out; have := HJ41.out; have := HK8.out; first | omega | exact Nat.le_refl _⟩, ⟨by repeat (first | (with_reducible first | exact HI249.out | apply IsS55.alloc | apply IsS55.drewN | apply IsS55.drew | apply IsS55.set_0 | apply IsS55.set_1 | apply IsS55.set_2 | apply IsS55.set_3 | apply IsS55.set_4) | exact HI249.out)⟩, ⟨by repeat (first | (with_reducible first | exact HB.out | apply below_alloc | apply pw_below_drewN | apply below_drew1 | refine below_set ?_ (IsS55.ge HI249.out)) | exact HB.out)⟩⟩
                                                  · replace c54 := Bool.eq_false_iff.mpr c54
                                                    subst c54
                                                    have H1 : (detentlaw10_TaskCounts.j8 k8 a0 true t293 t294 t295 t296 t297) = some r := by rw [if_neg (show ¬ (false = true) by decide)] at H; exact H
                                                    clear H
                                                    have H := H1
                                                    clear H1
                                                    have H' := Aside0.mk H
                                                    clear H
                                                    go_wp2
                                                    go_meet
                                                    case rel => exact ⟨_, (true), (by first | rfl | (simp; done) | (simp [*]; done)), H', ⟨by have := HJ5.out; have := HK2.out; have := HK3.out; have := HK4.out; have := HJ27.out; have := HK6.out; have := HJ41.out; have := HK8.out; first | omega | exact Nat.le_refl _⟩, ⟨by repeat (first | (with_reducible first | exact HI249.out | apply IsS55.alloc | apply IsS55.drewN | apply IsS55.drew | apply IsS55.set_0 | apply IsS55.set_1 | apply IsS55.set_2 | apply IsS55.set_3 | apply IsS55.set_4) | exact HI249.out)⟩, ⟨by repeat (first | (with_reducible first | exact HB.out | apply below_alloc | apply pw_below_drewN | apply below_drew1 | refine below_set ?_ (IsS55.ge HI249.out)) | exact HB.out)⟩⟩
                                                case rest =>
                                                  clear HC52
                                                  try clear c1
                                                  try clear c2
                                                  try clear p2
                                                  try clear c3
                                                  try clear c4
                                                  try clear c5
                                                  try clear p6
                                                  try clear c8
                                                  try clear c8b0
                                                  try clear c9
                                                  try clear c9b0
                                                  try clear c10
                                                  try clear c10b0
                                                  try clear c11
                                                  try clear c11b0
                                                  try clear c12
                                                  try clear c12b0
                                                  try clear c13
                                                  try clear c18
                                                  try clear c18b0
                                                  try clear c20
                                                  try clear c20b0
                                                  try clear c20b1
                                                  try clear c20b2
                                                  try clear c21
                                                  try clear c22
                                                  try clear c23
                                                  try clear c23b0
                                                  try clear c25
                                                  try clear c25b0
                                                  try clear c25b1
                                                  try clear c25b2
                                                  try clear c27
                                                  try clear c28
                                                  try clear c29
                                                  try clear c29b0
                                                  try clear c30
                                                  try clear c31
                                                  try clear c32
                                                  try clear c34
                                                  try clear c34b0
                                                  try clear c34b1
                                                  try clear c37
                                                  try clear c37b0
                                                  try clear c39
                                                  try clear c39b0
                                                  try clear c39b1
                                                  try clear c39b2
                                                  try clear c43
                                                  try clear c43b0
                                                  try clear c44
                                                  try clear c44b0
                                                  try clear c46
                                                  try clear c46b0
                                                  try clear c46b1
                                                  try clear c47
                                                  try clear c47b0
                                                  try clear c47b1
                                                  try clear c47b2
                                                  try clear c54
                                                  try clear p2
                                                  try clear p6
                                                  obtain ⟨kq, x149_51, rfl, HA, HJ51, HI249, HB⟩ := hcut
                                                  cases kq with
                                                  | zero => exact absurd HA.out (by simp [detentlaw10_TaskCounts.j8])
                                                  | succ kj51 =>
                                                    have H := HA.out
                                                    clear HA
                                                    simp only [detentlaw10_TaskCounts.j8] at H
                                                    by_cases c55 : x149_51 = true
                                                    · subst c55
                                                      have H1 : (some false) = some r := by rw [if_pos rfl] at H; exact H
                                                      clear H
                                                      have H := H1
                                                      clear H1
                                                      obtain rfl := Option.some.inj H
                                                      go_wp2
                                                      go_ret
                                                      exact ⟨by first | rfl | (simp [errW_none, errW_some] <;> rfl) | (simp [*, errW_none, errW_some] <;> rfl), by repeat (first | (with_reducible first | exact HB.out | apply below_alloc | apply pw_below_drewN | apply below_drew1 | refine below_set ?_ (IsS55.ge HI249.out)) | exact HB.out)⟩
                                                    · replace c55 := Bool.eq_false_iff.mpr c55
                                                      subst c55
                                                      have H1 : (if a0 > 7 then ((tcb_Task_Kill.f kj51 t293 t294 t295 t296 t297).bind fun bt298 => (if bt298.2.1 = 0 then (if (bt298.1 == true) = true then ((tcb_Task_CanAct.f bt298.2.2.1 bt298.2.2.2.1 bt298.2.2.2.2.1 bt298.2.2.2.2.2.1 bt298.2.2.2.2.2.2).bind fun bt305 => ((detentlaw10_flag.f true).bind fun t311 => (some (bt305.1 == (wrap64 (7 - t311)))))) else (some false)) else (some false))) else ((tcb_Task_Kill.f kj51 t293 t294 t295 t296 t297).bind fun bt312 => (if bt312.2.1 = 0 then (if (bt312.1 == (decide (a0 > 0))) = true then ((tcb_Task_CanAct.f bt312.2.2.1 bt312.2.2.2.1 bt312.2.2.2.2.1 bt312.2.2.2.2.2.1 bt312.2.2.2.2.2.2).bind fun bt319 => ((detentlaw10_flag.f (decide (a0 > 0))).bind fun t325 => (some (bt319.1 == (wrap64 (a0 - t325)))))) else (some false)) else (some false)))) = some r := by rw [if_neg (show ¬ (false = true) by decide)] at H; exact H
                                                      clear H
                                                      have H := H1
                                                      clear H1
                                                      by_cases c56 : a0 > 7
                                                      · rw [if_pos c56] at H
                                                        have c56b0 : decide (7 < a0) = true := decide_eq_true c56
                                                        clear c56
                                                        replace H := Option.bind_eq_some_iff.mp H
                                                        obtain ⟨⟨t298, t299, t300, t301, t302, t303, t304⟩, A570, H⟩ := H
                                                        replace H : (if t299 = 0 then (if (t298 == true) = true then ((tcb_Task_CanAct.f t300 t301 t302 t303 t304).bind fun bt305 => ((detentlaw10_flag.f true).bind fun t311 => (some (bt305.1 == (wrap64 (7 - t311)))))) else (some false)) else (some false)) = some r := H
                                                        have A57 := Aside0.mk A570
                                                        clear A570
                                                        by_cases c58 : t299 = 0
                                                        · rw [if_pos c58] at H
                                                          have c58b0 : (t299 == 0) = true := beq_iff_eq.mpr c58
                                                          have c58b1 : (t299 != 0) = false := bne_eq_false_iff_eq.mpr c58
                                                          clear c58
                                                          by_cases c59 : (t298 == true) = true
                                                          · rw [if_pos c59] at H
                                                            have c59b0 : (t298 == true) = true := c59
                                                            (try (have c59b1 : decide (t298 = true) = true := by simpa using c59))
                                                            (try (have c59b2 : (t298 == true) = true := by simpa using c59))
                                                            clear c59
                                                            replace H := Option.bind_eq_some_iff.mp H
                                                            obtain ⟨⟨t305, t306, t307, t308, t309, t310⟩, A600, H⟩ := H
                                                            replace H : ((detentlaw10_flag.f true).bind fun t311 => (some (t305 == (wrap64 (7 - t311))))) = some r := H
                                                            have A60 := Aside0.mk A600
                                                            clear A600
                                                            replace H := Option.bind_eq_some_iff.mp H
                                                            obtain ⟨t311, A610, H⟩ := H
                                                            replace H : (some (t305 == (wrap64 (7 - t311)))) = some r := H
                                                            have A61 := Aside0.mk A610
                                                            clear A610
                                                            obtain rfl := Option.some.inj H
                                                            go_wp2_with (first | ((with_reducible refine gate_callee (f := 30) rfl ?_); refine goesL_ (some 155) rfl rfl Try.func30 (by kernel_rfl) rfl #[.pointer (some ⟨g249, 0, none⟩)] rfl (by (try simp only [List.map_toArray, List.map_cons, List.map_nil]); first | done | rfl | (simp only [List.length_drop, List.length_take]; rfl)) ?_; (with_reducible refine (tcb_Task_Kill.calls kj51 g249 t293 t294 t295 t296 t297 t298 t299 t300 t301 t302 t303 t304 w _ ?side1 ?side2 A57.out).mono ?_); (case side1 => repeat (first | (with_reducible first | exact HI249.out | apply IsS55.alloc | apply IsS55.drewN | apply IsS55.drew | apply IsS55.set_0 | apply IsS55.set_1 | apply IsS55.set_2 | apply IsS55.set_3 | apply IsS55.set_4) | exact HI249.out)); (case side2 => repeat (first | (with_reducible first | exact HB.out | apply below_alloc | apply pw_below_drewN | apply below_drew1 | refine below_set ?_ (IsS55.ge HI249.out)) | exact HB.out)); rintro e w62 ⟨rfl, hi, hb, hk⟩; refine ⟨_, rfl, ?_⟩; have n0_ := Aside0.mk (hb); have n1_ := Aside0.mk (hi); clear HB; clear HI249; have HB := n0_; have HI249 := n1_; clear n0_ n1_; (try clear hb); (try clear hb2); (try clear hk); (try clear hi)) | (go_at_call 32; (with_reducible refine (tcb_Task_CanAct.calls g249 t300 t301 t302 t303 t304 t305 t306 t307 t308 t309 t310 w _ ?side1 ?side2 A60.out).mono ?_); (case side1 => repeat (first | (with_reducible first | exact HI249.out | apply IsS55.alloc | apply IsS55.drewN | apply IsS55.drew | apply IsS55.set_0 | apply IsS55.set_1 | apply IsS55.set_2 | apply IsS55.set_3 | apply IsS55.set_4) | exact HI249.out)); (case side2 => repeat (first | (with_reducible first | exact HB.out | apply below_alloc | apply pw_below_drewN | apply below_drew1 | refine below_set ?_ (IsS55.ge HI249.out)) | exact HB.out)); rintro e w63 ⟨rfl, hi, hb, hk⟩; have n0_ := Aside0.mk (hb); have n1_ := Aside0.mk (hi); clear HB; clear HI249; have HB := n0_; have HI249 := n1_; clear n0_ n1_; (try clear hb); (try clear hb2); (try clear hk); (try clear hi)) | (go_at_call 33; (with_reducible refine (detentlaw10_flag.calls true t311 _ A61.out).mono ?_); rintro e w' ⟨rfl, ⟨nd, rfl⟩⟩))
                                                            go_ret
                                                            exact ⟨by first | rfl | (simp [errW_none, errW_some] <;> rfl) | (simp [*, errW_none, errW_some] <;> rfl), by repeat (first | (with_reducible first | exact HB.out | apply below_alloc | apply pw_below_drewN | apply below_drew1 | refine below_set ?_ (IsS55.ge HI249.out)) | exact HB.out)⟩
                                                          · rw [if_neg c59] at H
                                                            have c59b0 : (t298 == true) = false := by simpa using c59
                                                            (try (have c59b1 : decide (t298 = true) = false := by simpa using c59))
                                                            (try (have c59b2 : (t298 == true) = false := by simpa using c59))
                                                            (try (have c59b3 : ¬ (t298 = true) := by simpa using c59))
                                                            clear c59
                                                            obtain rfl := Option.some.inj H
                                                            go_wp2_with (first | ((with_reducible refine gate_callee (f := 30) rfl ?_); refine goesL_ (some 155) rfl rfl Try.func30 (by kernel_rfl) rfl #[.pointer (some ⟨g249, 0, none⟩)] rfl (by (try simp only [List.map_toArray, List.map_cons, List.map_nil]); first | done | rfl | (simp only [List.length_drop, List.length_take]; rfl)) ?_; (with_reducible refine (tcb_Task_Kill.calls kj51 g249 t293 t294 t295 t296 t297 t298 t299 t300 t301 t302 t303 t304 w _ ?side1 ?side2 A57.out).mono ?_); (case side1 => repeat (first | (with_reducible first | exact HI249.out | apply IsS55.alloc | apply IsS55.drewN | apply IsS55.drew | apply IsS55.set_0 | apply IsS55.set_1 | apply IsS55.set_2 | apply IsS55.set_3 | apply IsS55.set_4) | exact HI249.out)); (case side2 => repeat (first | (with_reducible first | exact HB.out | apply below_alloc | apply pw_below_drewN | apply below_drew1 | refine below_set ?_ (IsS55.ge HI249.out)) | exact HB.out)); rintro e w64 ⟨rfl, hi, hb, hk⟩; refine ⟨_, rfl, ?_⟩; have n0_ := Aside0.mk (hb); have n1_ := Aside0.mk (hi); clear HB; clear HI249; have HB := n0_; have HI249 := n1_; clear n0_ n1_; (try clear hb); (try clear hb2); (try clear hk); (try clear hi)))
                                                            go_ret
                                                            exact ⟨by first | rfl | (simp [errW_none, errW_some] <;> rfl) | (simp [*, errW_none, errW_some] <;> rfl), by repeat (first | (with_reducible first | exact HB.out | apply below_alloc | apply pw_below_drewN | apply below_drew1 | refine below_set ?_ (IsS55.ge HI249.out)) | exact HB.out)⟩
                                                        · rw [if_neg c58] at H
                                                          have c58b0 : (t299 == 0) = false := beq_eq_false_iff_ne.mpr c58
                                                          have c58b1 : (t299 != 0) = true := bne_iff_ne.mpr c58
                                                          obtain rfl := Option.some.inj H
                                                          go_wp2_with (first | ((with_reducible refine gate_callee (f := 30) rfl ?_); refine goesL_ (some 155) rfl rfl Try.func30 (by kernel_rfl) rfl #[.pointer (some ⟨g249, 0, none⟩)] rfl (by (try simp only [List.map_toArray, List.map_cons, List.map_nil]); first | done | rfl | (simp only [List.length_drop, List.length_take]; rfl)) ?_; (with_reducible refine (tcb_Task_Kill.calls kj51 g249 t293 t294 t295 t296 t297 t298 t299 t300 t301 t302 t303 t304 w _ ?side1 ?side2 A57.out).mono ?_); (case side1 => repeat (first | (with_reducible first | exact HI249.out | apply IsS55.alloc | apply IsS55.drewN | apply IsS55.drew | apply IsS55.set_0 | apply IsS55.set_1 | apply IsS55.set_2 | apply IsS55.set_3 | apply IsS55.set_4) | exact HI249.out)); (case side2 => repeat (first | (with_reducible first | exact HB.out | apply below_alloc | apply pw_below_drewN | apply below_drew1 | refine below_set ?_ (IsS55.ge HI249.out)) | exact HB.out)); rintro e w65 ⟨rfl, hi, hb, hk⟩; refine ⟨_, rfl, ?_⟩; have n0_ := Aside0.mk (hb); have n1_ := Aside0.mk (hi); clear HB; clear HI249; have HB := n0_; have HI249 := n1_; clear n0_ n1_; (try clear hb); (try clear hb2); (try clear hk); (try clear hi)))
                                                          go_ret
                                                          exact ⟨by first | rfl | (simp [errW_none, errW_some] <;> rfl) | (simp [*, errW_none, errW_some] <;> rfl), by repeat (first | (with_reducible first | exact HB.out | apply below_alloc | apply pw_below_drewN | apply below_drew1 | refine below_set ?_ (IsS55.ge HI249.out)) | exact HB.out)⟩
                                                      · rw [if_neg c56] at H
                                                        have c56b0 : decide (7 < a0) = false := decide_eq_false c56
                                                        clear c56
                                                        replace H := Option.bind_eq_some_iff.mp H
                                                        obtain ⟨⟨t312, t313, t314, t315, t316, t317, t318⟩, A660, H⟩ := H
                                                        replace H : (if t313 = 0 then (if (t312 == (decide (a0 > 0))) = true then ((tcb_Task_CanAct.f t314 t315 t316 t317 t318).bind fun bt319 => ((detentlaw10_flag.f (decide (a0 > 0))).bind fun t325 => (some (bt319.1 == (wrap64 (a0 - t325)))))) else (some false)) else (some false)) = some r := H
                                                        have A66 := Aside0.mk A660
                                                        clear A660
                                                        by_cases c67 : t313 = 0
                                                        · rw [if_pos c67] at H
                                                          have c67b0 : (t313 == 0) = true := beq_iff_eq.mpr c67
                                                          have c67b1 : (t313 != 0) = false := bne_eq_false_iff_eq.mpr c67
                                                          clear c67
                                                          by_cases c68 : (t312 == (decide (a0 > 0))) = true
                                                          · rw [if_pos c68] at H
                                                            have c68b0 : (t312 == (decide (a0 > 0))) = true := c68
                                                            (try (have c68b1 : decide (t312 = (decide (a0 > 0))) = true := by simpa using c68))
                                                            (try (have c68b2 : (t312 == (decide (a0 > 0))) = true := by simpa using c68))
                                                            clear c68
                                                            replace H := Option.bind_eq_some_iff.mp H
                                                            obtain ⟨⟨t319, t320, t321, t322, t323, t324⟩, A690, H⟩ := H
                                                            replace H : ((detentlaw10_flag.f (decide (a0 > 0))).bind fun t325 => (some (t319 == (wrap64 (a0 - t325))))) = some r := H
                                                            have A69 := Aside0.mk A690
                                                            clear A690
                                                            replace H := Option.bind_eq_some_iff.mp H
                                                            obtain ⟨t325, A700, H⟩ := H
                                                            replace H : (some (t319 == (wrap64 (a0 - t325)))) = some r := H
                                                            have A70 := Aside0.mk A700
                                                            clear A700
                                                            obtain rfl := Option.some.inj H
                                                            go_wp2_with (first | ((with_reducible refine gate_callee (f := 30) rfl ?_); refine goesL_ (some 155) rfl rfl Try.func30 (by kernel_rfl) rfl #[.pointer (some ⟨g249, 0, none⟩)] rfl (by (try simp only [List.map_toArray, List.map_cons, List.map_nil]); first | done | rfl | (simp only [List.length_drop, List.length_take]; rfl)) ?_; (with_reducible refine (tcb_Task_Kill.calls kj51 g249 t293 t294 t295 t296 t297 t312 t313 t314 t315 t316 t317 t318 w _ ?side1 ?side2 A66.out).mono ?_); (case side1 => repeat (first | (with_reducible first | exact HI249.out | apply IsS55.alloc | apply IsS55.drewN | apply IsS55.drew | apply IsS55.set_0 | apply IsS55.set_1 | apply IsS55.set_2 | apply IsS55.set_3 | apply IsS55.set_4) | exact HI249.out)); (case side2 => repeat (first | (with_reducible first | exact HB.out | apply below_alloc | apply pw_below_drewN | apply below_drew1 | refine below_set ?_ (IsS55.ge HI249.out)) | exact HB.out)); rintro e w71 ⟨rfl, hi, hb, hk⟩; refine ⟨_, rfl, ?_⟩; have n0_ := Aside0.mk (hb); have n1_ := Aside0.mk (hi); clear HB; clear HI249; have HB := n0_; have HI249 := n1_; clear n0_ n1_; (try clear hb); (try clear hb2); (try clear hk); (try clear hi)) | (go_at_call 32; (with_reducible refine (tcb_Task_CanAct.calls g249 t314 t315 t316 t317 t318 t319 t320 t321 t322 t323 t324 w _ ?side1 ?side2 A69.out).mono ?_); (case side1 => repeat (first | (with_reducible first | exact HI249.out | apply IsS55.alloc | apply IsS55.drewN | apply IsS55.drew | apply IsS55.set_0 | apply IsS55.set_1 | apply IsS55.set_2 | apply IsS55.set_3 | apply IsS55.set_4) | exact HI249.out)); (case side2 => repeat (first | (with_reducible first | exact HB.out | apply below_alloc | apply pw_below_drewN | apply below_drew1 | refine below_set ?_ (IsS55.ge HI249.out)) | exact HB.out)); rintro e w72 ⟨rfl, hi, hb, hk⟩; have n0_ := Aside0.mk (hb); have n1_ := Aside0.mk (hi); clear HB; clear HI249; have HB := n0_; have HI249 := n1_; clear n0_ n1_; (try clear hb); (try clear hb2); (try clear hk); (try clear hi)) | (go_at_call 33; (with_reducible refine (detentlaw10_flag.calls (decide (a0 > 0)) t325 _ A70.out).mono ?_); rintro e w' ⟨rfl, ⟨nd, rfl⟩⟩))
                                                            go_ret
                                                            exact ⟨by first | rfl | (simp [errW_none, errW_some] <;> rfl) | (simp [*, errW_none, errW_some] <;> rfl), by repeat (first | (with_reducible first | exact HB.out | apply below_alloc | apply pw_below_drewN | apply below_drew1 | refine below_set ?_ (IsS55.ge HI249.out)) | exact HB.out)⟩
                                                          · rw [if_neg c68] at H
                                                            have c68b0 : (t312 == (decide (a0 > 0))) = false := by simpa using c68
                                                            (try (have c68b1 : decide (t312 = (decide (a0 > 0))) = false := by simpa using c68))
                                                            (try (have c68b2 : (t312 == (decide (a0 > 0))) = false := by simpa using c68))
                                                            (try (have c68b3 : ¬ (t312 = (decide (a0 > 0))) := by simpa using c68))
                                                            clear c68
                                                            obtain rfl := Option.some.inj H
                                                            go_wp2_with (first | ((with_reducible refine gate_callee (f := 30) rfl ?_); refine goesL_ (some 155) rfl rfl Try.func30 (by kernel_rfl) rfl #[.pointer (some ⟨g249, 0, none⟩)] rfl (by (try simp only [List.map_toArray, List.map_cons, List.map_nil]); first | done | rfl | (simp only [List.length_drop, List.length_take]; rfl)) ?_; (with_reducible refine (tcb_Task_Kill.calls kj51 g249 t293 t294 t295 t296 t297 t312 t313 t314 t315 t316 t317 t318 w _ ?side1 ?side2 A66.out).mono ?_); (case side1 => repeat (first | (with_reducible first | exact HI249.out | apply IsS55.alloc | apply IsS55.drewN | apply IsS55.drew | apply IsS55.set_0 | apply IsS55.set_1 | apply IsS55.set_2 | apply IsS55.set_3 | apply IsS55.set_4) | exact HI249.out)); (case side2 => repeat (first | (with_reducible first | exact HB.out | apply below_alloc | apply pw_below_drewN | apply below_drew1 | refine below_set ?_ (IsS55.ge HI249.out)) | exact HB.out)); rintro e w73 ⟨rfl, hi, hb, hk⟩; refine ⟨_, rfl, ?_⟩; have n0_ := Aside0.mk (hb); have n1_ := Aside0.mk (hi); clear HB; clear HI249; have HB := n0_; have HI249 := n1_; clear n0_ n1_; (try clear hb); (try clear hb2); (try clear hk); (try clear hi)))
                                                            go_ret
                                                            exact ⟨by first | rfl | (simp [errW_none, errW_some] <;> rfl) | (simp [*, errW_none, errW_some] <;> rfl), by repeat (first | (with_reducible first | exact HB.out | apply below_alloc | apply pw_below_drewN | apply below_drew1 | refine below_set ?_ (IsS55.ge HI249.out)) | exact HB.out)⟩
                                                        · rw [if_neg c67] at H
                                                          have c67b0 : (t313 == 0) = false := beq_eq_false_iff_ne.mpr c67
                                                          have c67b1 : (t313 != 0) = true := bne_iff_ne.mpr c67
                                                          obtain rfl := Option.some.inj H
                                                          go_wp2_with (first | ((with_reducible refine gate_callee (f := 30) rfl ?_); refine goesL_ (some 155) rfl rfl Try.func30 (by kernel_rfl) rfl #[.pointer (some ⟨g249, 0, none⟩)] rfl (by (try simp only [List.map_toArray, List.map_cons, List.map_nil]); first | done | rfl | (simp only [List.length_drop, List.length_take]; rfl)) ?_; (with_reducible refine (tcb_Task_Kill.calls kj51 g249 t293 t294 t295 t296 t297 t312 t313 t314 t315 t316 t317 t318 w _ ?side1 ?side2 A66.out).mono ?_); (case side1 => repeat (first | (with_reducible first | exact HI249.out | apply IsS55.alloc | apply IsS55.drewN | apply IsS55.drew | apply IsS55.set_0 | apply IsS55.set_1 | apply IsS55.set_2 | apply IsS55.set_3 | apply IsS55.set_4) | exact HI249.out)); (case side2 => repeat (first | (with_reducible first | exact HB.out | apply below_alloc | apply pw_below_drewN | apply below_drew1 | refine below_set ?_ (IsS55.ge HI249.out)) | exact HB.out)); rintro e w74 ⟨rfl, hi, hb, hk⟩; refine ⟨_, rfl, ?_⟩; have n0_ := Aside0.mk (hb); have n1_ := Aside0.mk (hi); clear HB; clear HI249; have HB := n0_; have HI249 := n1_; clear n0_ n1_; (try clear hb); (try clear hb2); (try clear hk); (try clear hi)))
                                                          go_ret
                                                          exact ⟨by first | rfl | (simp [errW_none, errW_some] <;> rfl) | (simp [*, errW_none, errW_some] <;> rfl), by repeat (first | (with_reducible first | exact HB.out | apply below_alloc | apply pw_below_drewN | apply below_drew1 | refine below_set ?_ (IsS55.ge HI249.out)) | exact HB.out)⟩
  · replace c5 := Bool.eq_false_iff.mpr c5
    subst c5
    have H1 : (some false) = some r := by rw [if_neg (show ¬ (false = true) by decide)] at H; exact H
    clear H
    have H := H1
    clear H1
    obtain rfl := Option.some.inj H
    go_enter Try.func10, Try.ntmps10
    go_wp2_with (first | ((with_reducible refine gate_callee (f := 21) rfl ?_); refine goesL_ (some 28) rfl rfl Try.func21 (by kernel_rfl) rfl #[] rfl (by (try simp only [List.map_toArray, List.map_cons, List.map_nil]); first | done | rfl | (simp only [List.length_drop, List.length_take]; rfl)) ?_; (with_reducible refine (detentlaw10_known.calls k  false _ A4.out).mono ?_); rintro e w75 ⟨rfl, hb⟩; refine ⟨_, rfl, ?_⟩; have n0_ := Aside0.mk (below_step (by repeat (first | (with_reducible first | exact HB.out | apply below_alloc | apply pw_below_drewN | apply below_drew1) | exact HB.out)) hb); clear HB; have HB := n0_; clear n0_; (try clear hb); (try clear hb2); (try clear hk); (try clear hi)))
    go_ret
    exact ⟨by first | rfl | (simp [errW_none, errW_some] <;> rfl) | (simp [*, errW_none, errW_some] <;> rfl), by repeat (first | (with_reducible first | exact HB.out | apply below_alloc | apply pw_below_drewN | apply below_drew1) | exact HB.out)⟩

/-- THE ONE PURE STATEMENT of detentlaw10_TaskCounts: yours. -/
def detentlaw10_TaskCounts.Pure : Prop := ∀ (a0 : Int) (a1 : Int) (a2 : Int), (Lit.int .i64 a0).wf = true → (Lit.int .i64 a1).wf = true → (Lit.int .i64 a2).wf = true → ∃ k, detentlaw10_TaskCounts.f k a0 a1 a2 = some true
theorem detentlaw10_TaskCounts.walk (P : detentlaw10_TaskCounts.Pure) (a0 : Int) (a1 : Int) (a2 : Int) (w : World) (w0 : (Lit.int .i64 a0).wf = true) (w1 : (Lit.int .i64 a1).wf = true) (w2 : (Lit.int .i64 a2).wf = true) :
    Calls Try.prog 10 #[.int .i64 a0, .int .i64 a1, .int .i64 a2] w fun e w' => e = .returned (.bool true) ∧ Below w.heap.size w w' := by
  obtain ⟨k, h⟩ := P a0 a1 a2 w0 w1 w2
  refine (detentlaw10_TaskCounts.calls k a0 a1 a2 true w h).mono ?_
  rintro e w' ⟨rfl, hd⟩
  exact ⟨rfl, hd⟩

end Go.Proofs.Ytgkemmhpfekoaaa.PTaskCounts
