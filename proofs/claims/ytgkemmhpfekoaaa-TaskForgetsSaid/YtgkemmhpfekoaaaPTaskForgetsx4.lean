-- Laid by a program out of Lean's own print of the program; not by print.sh as it stands (NOTES.md tells what differs)
import Derived.Test.YtgkemmhpfekoaaaPTaskForgetsx0
import Derived.Test.YtgkemmhpfekoaaaPTaskForgetsx2
import Derived.Test.YtgkemmhpfekoaaaPTaskForgetsx3
namespace Go.Proofs.Ytgkemmhpfekoaaa.PTaskForgets
open Go.RowKit Go.Proofs.YtgkemmhpfekoaaaW.PrintWords Go.Proofs.YtgkemmhpfekoaaaW.PrintLast Go.Proofs.YtgkemmhpfekoaaaW.PrintMore
attribute [local go_sem] max2_int min2_int max_two min_two max_three min_three max_four min_four   -- for this text's walks alone
set_option linter.unusedVariables false
set_option linter.unusedSimpArgs false

/-! ### detentlaw10_TaskForgets: function 8 -/
mutual
def detentlaw10_TaskForgets.j1 : Nat → Int → Int → Int → Int → Int → Int → Bool → Option (Bool)
  | 0, _, _, _, _, _, _, _ => none
  | k + 1, x1, x2, x232000, x232001, x232002, x232003, x232004 => detentlaw10_TaskForgets.l1 k x1 x2 0 x232000 x232001 x232002 x232003 x232004
def detentlaw10_TaskForgets.l1 : Nat → Int → Int → Int → Int → Int → Int → Int → Bool → Option (Bool)
  | 0, _, _, _, _, _, _, _, _ => none
  | k + 1, x1, x2, x11, x232000, x232001, x232002, x232003, x232004 => if x11 < (wrap64 (Int.tmod x1 8)) then ((tcb_Task_Suspend.f k x232000 x232001 x232002 x232003 x232004).bind fun bt253 => (detentlaw10_TaskForgets.l1 k x1 x2 (wrap64 (x11 + 1)) bt253.2.1 bt253.2.2.1 bt253.2.2.2.1 bt253.2.2.2.2.1 bt253.2.2.2.2.2)) else (detentlaw10_TaskForgets.l2 k (wrap64 (Int.tmod x2 8)) 0 x232000 x232001 x232002 x232003 x232004)
def detentlaw10_TaskForgets.l2 : Nat → Int → Int → Int → Int → Int → Int → Bool → Option (Bool)
  | 0, _, _, _, _, _, _, _ => none
  | k + 1, x12, x13, x232000, x232001, x232002, x232003, x232004 => if x13 < x12 then ((tcb_Task_Act.f k x232000 x232001 x232002 x232003 x232004).bind fun bt259 => (detentlaw10_TaskForgets.l2 k x12 (wrap64 (x13 + 1)) bt259.2.2.1 bt259.2.2.2.1 bt259.2.2.2.2.1 bt259.2.2.2.2.2.1 bt259.2.2.2.2.2.2)) else ((tcb_Task_Kill.f k x232000 x232001 x232002 x232003 x232004).bind fun bt266 => (if bt266.2.1 = 0 then (if (bt266.1 != (decide (x12 > 0))) = true then (detentlaw10_TaskForgets.j4 k x12 true bt266.2.2.1 bt266.2.2.2.1 bt266.2.2.2.2.1 bt266.2.2.2.2.2.1 bt266.2.2.2.2.2.2) else (if bt266.2.2.2.1 = 0 then (if bt266.2.2.2.2.1 = 0 then (detentlaw10_TaskForgets.j4 k x12 bt266.2.2.2.2.2.2 bt266.2.2.1 bt266.2.2.2.1 bt266.2.2.2.2.1 bt266.2.2.2.2.2.1 bt266.2.2.2.2.2.2) else (detentlaw10_TaskForgets.j4 k x12 true bt266.2.2.1 bt266.2.2.2.1 bt266.2.2.2.2.1 bt266.2.2.2.2.2.1 bt266.2.2.2.2.2.2)) else (detentlaw10_TaskForgets.j4 k x12 true bt266.2.2.1 bt266.2.2.2.1 bt266.2.2.2.2.1 bt266.2.2.2.2.2.1 bt266.2.2.2.2.2.2))) else (detentlaw10_TaskForgets.j4 k x12 true bt266.2.2.1 bt266.2.2.2.1 bt266.2.2.2.2.1 bt266.2.2.2.2.2.1 bt266.2.2.2.2.2.2)))
def detentlaw10_TaskForgets.j4 : Nat → Int → Bool → Int → Int → Int → Int → Bool → Option (Bool)
  | 0, _, _, _, _, _, _, _ => none
  | k + 1, x12, x86, x232000, x232001, x232002, x232003, x232004 => if x86 = true then (some false) else (if x12 > 0 then ((tcb_Task_Is.f k x232000 x232001 x232002 x232003 x232004 (([2] : List Int))).bind fun bt276 => (if bt276.1 = true then (some (bt276.2.1 == (wrap64 (x12 - 1)))) else (some false))) else ((tcb_Task_Is.f k x232000 x232001 x232002 x232003 x232004 (([16] : List Int))).bind fun bt285 => (if bt285.1 = true then (some (bt285.2.1 == 0)) else (some false))))
def detentlaw10_TaskForgets.l0 : Nat → Int → Int → Int → Int → Int → Int → Int → Int → Bool → Option (Bool)
  | 0, _, _, _, _, _, _, _, _, _ => none
  | k + 1, x0, x1, x2, x10, x232000, x232001, x232002, x232003, x232004 => if x10 < (wrap64 (Int.tmod x0 8)) then ((tcb_Task_Wake.f k x232000 x232001 x232002 x232003 x232004).bind fun bt246 => (detentlaw10_TaskForgets.l0 k x0 x1 x2 (wrap64 (x10 + 1)) bt246.2.2.1 bt246.2.2.2.1 bt246.2.2.2.2.1 bt246.2.2.2.2.2.1 bt246.2.2.2.2.2.2)) else (detentlaw10_TaskForgets.j1 k x1 x2 x232000 x232001 x232002 x232003 x232004)
end
def detentlaw10_TaskForgets.f (k : Nat) (a0 : Int) (a1 : Int) (a2 : Int) (a3 : Bool) : Option (Bool) := (detentlaw10_known.f k).bind fun t225 => (if t225 = true then ((tcb_New.f).bind fun bt226 => ((tcb_Task_Act.f k bt226.1 bt226.2.1 bt226.2.2.1 bt226.2.2.2.1 bt226.2.2.2.2).bind fun bt232 => (if a3 = true then ((tcb_Task_Sleep.f k bt232.2.2.1 bt232.2.2.2.1 bt232.2.2.2.2.1 bt232.2.2.2.2.2.1 bt232.2.2.2.2.2.2).bind fun bt239 => (detentlaw10_TaskForgets.j1 k a1 a2 bt239.2.2.1 bt239.2.2.2.1 bt239.2.2.2.2.1 bt239.2.2.2.2.2.1 bt239.2.2.2.2.2.2)) else (detentlaw10_TaskForgets.l0 k a0 a1 a2 0 bt232.2.2.1 bt232.2.2.2.1 bt232.2.2.2.2.1 bt232.2.2.2.2.2.1 bt232.2.2.2.2.2.2)))) else (some false))
theorem detentlaw10_TaskForgets.mono_l : ∀ k, (∀ y0 y1 y2 y3 y4 y5 y6, LeO (detentlaw10_TaskForgets.j1 k y0 y1 y2 y3 y4 y5 y6) (detentlaw10_TaskForgets.j1 (k + 1) y0 y1 y2 y3 y4 y5 y6)) ∧ (∀ y0 y1 y2 y3 y4 y5 y6 y7, LeO (detentlaw10_TaskForgets.l1 k y0 y1 y2 y3 y4 y5 y6 y7) (detentlaw10_TaskForgets.l1 (k + 1) y0 y1 y2 y3 y4 y5 y6 y7)) ∧ (∀ y0 y1 y2 y3 y4 y5 y6, LeO (detentlaw10_TaskForgets.l2 k y0 y1 y2 y3 y4 y5 y6) (detentlaw10_TaskForgets.l2 (k + 1) y0 y1 y2 y3 y4 y5 y6)) ∧ (∀ y0 y1 y2 y3 y4 y5 y6, LeO (detentlaw10_TaskForgets.j4 k y0 y1 y2 y3 y4 y5 y6) (detentlaw10_TaskForgets.j4 (k + 1) y0 y1 y2 y3 y4 y5 y6)) ∧ (∀ y0 y1 y2 y3 y4 y5 y6 y7 y8, LeO (detentlaw10_TaskForgets.l0 k y0 y1 y2 y3 y4 y5 y6 y7 y8) (detentlaw10_TaskForgets.l0 (k + 1) y0 y1 y2 y3 y4 y5 y6 y7 y8))
  | 0 => ⟨fun _ _ _ _ _ _ _ r h => by simp [detentlaw10_TaskForgets.j1] at h, fun _ _ _ _ _ _ _ _ r h => by simp [detentlaw10_TaskForgets.l1] at h, fun _ _ _ _ _ _ _ r h => by simp [detentlaw10_TaskForgets.l2] at h, fun _ _ _ _ _ _ _ r h => by simp [detentlaw10_TaskForgets.j4] at h, fun _ _ _ _ _ _ _ _ _ r h => by simp [detentlaw10_TaskForgets.l0] at h⟩
  | k + 1 => by
    obtain ⟨ih0, ih1, ih2, ih3, ih4⟩ := detentlaw10_TaskForgets.mono_l k
    refine ⟨?_, ?_, ?_, ?_, ?_⟩
    · intro y0 y1 y2 y3 y4 y5 y6
      unfold detentlaw10_TaskForgets.j1
      repeat' first
      | (with_reducible exact ih0 _ _ _ _ _ _ _)
      | (with_reducible exact ih1 _ _ _ _ _ _ _ _)
      | (with_reducible exact ih2 _ _ _ _ _ _ _)
      | (with_reducible exact ih3 _ _ _ _ _ _ _)
      | (with_reducible exact ih4 _ _ _ _ _ _ _ _ _)
      | (with_reducible exact detentlaw10_known.mono _)
      | (with_reducible exact tcb_Task_Act.mono _ _ _ _ _ _)
      | (with_reducible exact tcb_Task_Is.mono _ _ _ _ _ _ _)
      | (with_reducible exact tcb_Task_Kill.mono _ _ _ _ _ _)
      | (with_reducible exact tcb_Task_Sleep.mono _ _ _ _ _ _)
      | (with_reducible exact tcb_Task_Suspend.mono _ _ _ _ _ _)
      | (with_reducible exact tcb_Task_Wake.mono _ _ _ _ _ _)
      | (with_reducible exact LeO.refl _)
      | (with_reducible exact LeO.none _)
      | (with_reducible refine LeO.ite ?_ ?_)
      | (with_reducible refine LeO.bind ?_ (fun _ => ?_))
      | exact ih0 _ _ _ _ _ _ _
      | exact ih1 _ _ _ _ _ _ _ _
      | exact ih2 _ _ _ _ _ _ _
      | exact ih3 _ _ _ _ _ _ _
      | exact ih4 _ _ _ _ _ _ _ _ _
      | exact detentlaw10_known.mono _
      | exact tcb_Task_Act.mono _ _ _ _ _ _
      | exact tcb_Task_Is.mono _ _ _ _ _ _ _
      | exact tcb_Task_Kill.mono _ _ _ _ _ _
      | exact tcb_Task_Sleep.mono _ _ _ _ _ _
      | exact tcb_Task_Suspend.mono _ _ _ _ _ _
      | exact tcb_Task_Wake.mono _ _ _ _ _ _
      | exact LeO.none _
      | refine LeO.ite ?_ ?_
      | refine LeO.bind ?_ (fun _ => ?_)
    · intro y0 y1 y2 y3 y4 y5 y6 y7
      unfold detentlaw10_TaskForgets.l1
      repeat' first
      | (with_reducible exact ih0 _ _ _ _ _ _ _)
      | (with_reducible exact ih1 _ _ _ _ _ _ _ _)
      | (with_reducible exact ih2 _ _ _ _ _ _ _)
      | (with_reducible exact ih3 _ _ _ _ _ _ _)
      | (with_reducible exact ih4 _ _ _ _ _ _ _ _ _)
      | (with_reducible exact detentlaw10_known.mono _)
      | (with_reducible exact tcb_Task_Act.mono _ _ _ _ _ _)
      | (with_reducible exact tcb_Task_Is.mono _ _ _ _ _ _ _)
      | (with_reducible exact tcb_Task_Kill.mono _ _ _ _ _ _)
      | (with_reducible exact tcb_Task_Sleep.mono _ _ _ _ _ _)
      | (with_reducible exact tcb_Task_Suspend.mono _ _ _ _ _ _)
      | (with_reducible exact tcb_Task_Wake.mono _ _ _ _ _ _)
      | (with_reducible exact LeO.refl _)
      | (with_reducible exact LeO.none _)
      | (with_reducible refine LeO.ite ?_ ?_)
      | (with_reducible refine LeO.bind ?_ (fun _ => ?_))
      | exact ih0 _ _ _ _ _ _ _
      | exact ih1 _ _ _ _ _ _ _ _
      | exact ih2 _ _ _ _ _ _ _
      | exact ih3 _ _ _ _ _ _ _
      | exact ih4 _ _ _ _ _ _ _ _ _
      | exact detentlaw10_known.mono _
      | exact tcb_Task_Act.mono _ _ _ _ _ _
      | exact tcb_Task_Is.mono _ _ _ _ _ _ _
      | exact tcb_Task_Kill.mono _ _ _ _ _ _
      | exact tcb_Task_Sleep.mono _ _ _ _ _ _
      | exact tcb_Task_Suspend.mono _ _ _ _ _ _
      | exact tcb_Task_Wake.mono _ _ _ _ _ _
      | exact LeO.none _
      | refine LeO.ite ?_ ?_
      | refine LeO.bind ?_ (fun _ => ?_)
    · intro y0 y1 y2 y3 y4 y5 y6
      unfold detentlaw10_TaskForgets.l2
      repeat' first
      | (with_reducible exact ih0 _ _ _ _ _ _ _)
      | (with_reducible exact ih1 _ _ _ _ _ _ _ _)
      | (with_reducible exact ih2 _ _ _ _ _ _ _)
      | (with_reducible exact ih3 _ _ _ _ _ _ _)
      | (with_reducible exact ih4 _ _ _ _ _ _ _ _ _)
      | (with_reducible exact detentlaw10_known.mono _)
      | (with_reducible exact tcb_Task_Act.mono _ _ _ _ _ _)
      | (with_reducible exact tcb_Task_Is.mono _ _ _ _ _ _ _)
      | (with_reducible exact tcb_Task_Kill.mono _ _ _ _ _ _)
      | (with_reducible exact tcb_Task_Sleep.mono _ _ _ _ _ _)
      | (with_reducible exact tcb_Task_Suspend.mono _ _ _ _ _ _)
      | (with_reducible exact tcb_Task_Wake.mono _ _ _ _ _ _)
      | (with_reducible exact LeO.refl _)
      | (with_reducible exact LeO.none _)
      | (with_reducible refine LeO.ite ?_ ?_)
      | (with_reducible refine LeO.bind ?_ (fun _ => ?_))
      | exact ih0 _ _ _ _ _ _ _
      | exact ih1 _ _ _ _ _ _ _ _
      | exact ih2 _ _ _ _ _ _ _
      | exact ih3 _ _ _ _ _ _ _
      | exact ih4 _ _ _ _ _ _ _ _ _
      | exact detentlaw10_known.mono _
      | exact tcb_Task_Act.mono _ _ _ _ _ _
      | exact tcb_Task_Is.mono _ _ _ _ _ _ _
      | exact tcb_Task_Kill.mono _ _ _ _ _ _
      | exact tcb_Task_Sleep.mono _ _ _ _ _ _
      | exact tcb_Task_Suspend.mono _ _ _ _ _ _
      | exact tcb_Task_Wake.mono _ _ _ _ _ _
      | exact LeO.none _
      | refine LeO.ite ?_ ?_
      | refine LeO.bind ?_ (fun _ => ?_)
    · intro y0 y1 y2 y3 y4 y5 y6
      unfold detentlaw10_TaskForgets.j4
      repeat' first
      | (with_reducible exact ih0 _ _ _ _ _ _ _)
      | (with_reducible exact ih1 _ _ _ _ _ _ _ _)
      | (with_reducible exact ih2 _ _ _ _ _ _ _)
      | (with_reducible exact ih3 _ _ _ _ _ _ _)
      | (with_reducible exact ih4 _ _ _ _ _ _ _ _ _)
      | (with_reducible exact detentlaw10_known.mono _)
      | (with_reducible exact tcb_Task_Act.mono _ _ _ _ _ _)
      | (with_reducible exact tcb_Task_Is.mono _ _ _ _ _ _ _)
      | (with_reducible exact tcb_Task_Kill.mono _ _ _ _ _ _)
      | (with_reducible exact tcb_Task_Sleep.mono _ _ _ _ _ _)
      | (with_reducible exact tcb_Task_Suspend.mono _ _ _ _ _ _)
      | (with_reducible exact tcb_Task_Wake.mono _ _ _ _ _ _)
      | (with_reducible exact LeO.refl _)
      | (with_reducible exact LeO.none _)
      | (with_reducible refine LeO.ite ?_ ?_)
      | (with_reducible refine LeO.bind ?_ (fun _ => ?_))
      | exact ih0 _ _ _ _ _ _ _
      | exact ih1 _ _ _ _ _ _ _ _
      | exact ih2 _ _ _ _ _ _ _
      | exact ih3 _ _ _ _ _ _ _
      | exact ih4 _ _ _ _ _ _ _ _ _
      | exact detentlaw10_known.mono _
      | exact tcb_Task_Act.mono _ _ _ _ _ _
      | exact tcb_Task_Is.mono _ _ _ _ _ _ _
      | exact tcb_Task_Kill.mono _ _ _ _ _ _
      | exact tcb_Task_Sleep.mono _ _ _ _ _ _
      | exact tcb_Task_Suspend.mono _ _ _ _ _ _
      | exact tcb_Task_Wake.mono _ _ _ _ _ _
      | exact LeO.none _
      | refine LeO.ite ?_ ?_
      | refine LeO.bind ?_ (fun _ => ?_)
    · intro y0 y1 y2 y3 y4 y5 y6 y7 y8
      unfold detentlaw10_TaskForgets.l0
      repeat' first
      | (with_reducible exact ih0 _ _ _ _ _ _ _)
      | (with_reducible exact ih1 _ _ _ _ _ _ _ _)
      | (with_reducible exact ih2 _ _ _ _ _ _ _)
      | (with_reducible exact ih3 _ _ _ _ _ _ _)
      | (with_reducible exact ih4 _ _ _ _ _ _ _ _ _)
      | (with_reducible exact detentlaw10_known.mono _)
      | (with_reducible exact tcb_Task_Act.mono _ _ _ _ _ _)
      | (with_reducible exact tcb_Task_Is.mono _ _ _ _ _ _ _)
      | (with_reducible exact tcb_Task_Kill.mono _ _ _ _ _ _)
      | (with_reducible exact tcb_Task_Sleep.mono _ _ _ _ _ _)
      | (with_reducible exact tcb_Task_Suspend.mono _ _ _ _ _ _)
      | (with_reducible exact tcb_Task_Wake.mono _ _ _ _ _ _)
      | (with_reducible exact LeO.refl _)
      | (with_reducible exact LeO.none _)
      | (with_reducible refine LeO.ite ?_ ?_)
      | (with_reducible refine LeO.bind ?_ (fun _ => ?_))
      | exact ih0 _ _ _ _ _ _ _
      | exact ih1 _ _ _ _ _ _ _ _
      | exact ih2 _ _ _ _ _ _ _
      | exact ih3 _ _ _ _ _ _ _
      | exact ih4 _ _ _ _ _ _ _ _ _
      | exact detentlaw10_known.mono _
      | exact tcb_Task_Act.mono _ _ _ _ _ _
      | exact tcb_Task_Is.mono _ _ _ _ _ _ _
      | exact tcb_Task_Kill.mono _ _ _ _ _ _
      | exact tcb_Task_Sleep.mono _ _ _ _ _ _
      | exact tcb_Task_Suspend.mono _ _ _ _ _ _
      | exact tcb_Task_Wake.mono _ _ _ _ _ _
      | exact LeO.none _
      | refine LeO.ite ?_ ?_
      | refine LeO.bind ?_ (fun _ => ?_)
theorem detentlaw10_TaskForgets.mono : ∀ a0 a1 a2 a3 k, LeO (detentlaw10_TaskForgets.f k a0 a1 a2 a3) (detentlaw10_TaskForgets.f (k + 1) a0 a1 a2 a3) := by
  intro a0 a1 a2 a3 k
  obtain ⟨ih0, ih1, ih2, ih3, ih4⟩ := detentlaw10_TaskForgets.mono_l k
  unfold detentlaw10_TaskForgets.f
  repeat' first
      | (with_reducible exact ih0 _ _ _ _ _ _ _)
      | (with_reducible exact ih1 _ _ _ _ _ _ _ _)
      | (with_reducible exact ih2 _ _ _ _ _ _ _)
      | (with_reducible exact ih3 _ _ _ _ _ _ _)
      | (with_reducible exact ih4 _ _ _ _ _ _ _ _ _)
      | (with_reducible exact detentlaw10_known.mono _)
      | (with_reducible exact tcb_Task_Act.mono _ _ _ _ _ _)
      | (with_reducible exact tcb_Task_Is.mono _ _ _ _ _ _ _)
      | (with_reducible exact tcb_Task_Kill.mono _ _ _ _ _ _)
      | (with_reducible exact tcb_Task_Sleep.mono _ _ _ _ _ _)
      | (with_reducible exact tcb_Task_Suspend.mono _ _ _ _ _ _)
      | (with_reducible exact tcb_Task_Wake.mono _ _ _ _ _ _)
      | (with_reducible exact LeO.refl _)
      | (with_reducible exact LeO.none _)
      | (with_reducible refine LeO.ite ?_ ?_)
      | (with_reducible refine LeO.bind ?_ (fun _ => ?_))
      | exact ih0 _ _ _ _ _ _ _
      | exact ih1 _ _ _ _ _ _ _ _
      | exact ih2 _ _ _ _ _ _ _
      | exact ih3 _ _ _ _ _ _ _
      | exact ih4 _ _ _ _ _ _ _ _ _
      | exact detentlaw10_known.mono _
      | exact tcb_Task_Act.mono _ _ _ _ _ _
      | exact tcb_Task_Is.mono _ _ _ _ _ _ _
      | exact tcb_Task_Kill.mono _ _ _ _ _ _
      | exact tcb_Task_Sleep.mono _ _ _ _ _ _
      | exact tcb_Task_Suspend.mono _ _ _ _ _ _
      | exact tcb_Task_Wake.mono _ _ _ _ _ _
      | exact LeO.none _
      | refine LeO.ite ?_ ?_
      | refine LeO.bind ?_ (fun _ => ?_)
set_option maxHeartbeats 8000000 in
set_option maxRecDepth 100000 in
theorem detentlaw10_TaskForgets.calls (k : Nat) (a0 : Int) (a1 : Int) (a2 : Int) (a3 : Bool) (r : Bool) (w : World) (h : detentlaw10_TaskForgets.f k a0 a1 a2 a3 = some r) :
    Calls Try.prog 8 #[.int .u8 a0, .int .u8 a1, .int .u8 a2, .bool a3] w fun e w' => e = .returned (.bool r) ∧ Below w.heap.size w w' := by
  have HB := Aside0.mk (Below.refl w.heap.size w)
  have H : ((detentlaw10_known.f k).bind fun t225 => (if t225 = true then ((tcb_New.f).bind fun bt226 => ((tcb_Task_Act.f k bt226.1 bt226.2.1 bt226.2.2.1 bt226.2.2.2.1 bt226.2.2.2.2).bind fun bt232 => (if a3 = true then ((tcb_Task_Sleep.f k bt232.2.2.1 bt232.2.2.2.1 bt232.2.2.2.2.1 bt232.2.2.2.2.2.1 bt232.2.2.2.2.2.2).bind fun bt239 => (detentlaw10_TaskForgets.j1 k a1 a2 bt239.2.2.1 bt239.2.2.2.1 bt239.2.2.2.2.1 bt239.2.2.2.2.2.1 bt239.2.2.2.2.2.2)) else (detentlaw10_TaskForgets.l0 k a0 a1 a2 0 bt232.2.2.1 bt232.2.2.2.1 bt232.2.2.2.2.1 bt232.2.2.2.2.2.1 bt232.2.2.2.2.2.2)))) else (some false))) = some r := h
  clear h
  replace H := Option.bind_eq_some_iff.mp H
  obtain ⟨t225, A50, H⟩ := H
  replace H : (if t225 = true then ((tcb_New.f).bind fun bt226 => ((tcb_Task_Act.f k bt226.1 bt226.2.1 bt226.2.2.1 bt226.2.2.2.1 bt226.2.2.2.2).bind fun bt232 => (if a3 = true then ((tcb_Task_Sleep.f k bt232.2.2.1 bt232.2.2.2.1 bt232.2.2.2.2.1 bt232.2.2.2.2.2.1 bt232.2.2.2.2.2.2).bind fun bt239 => (detentlaw10_TaskForgets.j1 k a1 a2 bt239.2.2.1 bt239.2.2.2.1 bt239.2.2.2.2.1 bt239.2.2.2.2.2.1 bt239.2.2.2.2.2.2)) else (detentlaw10_TaskForgets.l0 k a0 a1 a2 0 bt232.2.2.1 bt232.2.2.2.1 bt232.2.2.2.2.1 bt232.2.2.2.2.2.1 bt232.2.2.2.2.2.2)))) else (some false)) = some r := H
  have A5 := Aside0.mk A50
  clear A50
  by_cases c6 : t225 = true
  · subst c6
    have H1 : ((tcb_New.f).bind fun bt226 => ((tcb_Task_Act.f k bt226.1 bt226.2.1 bt226.2.2.1 bt226.2.2.2.1 bt226.2.2.2.2).bind fun bt232 => (if a3 = true then ((tcb_Task_Sleep.f k bt232.2.2.1 bt232.2.2.2.1 bt232.2.2.2.2.1 bt232.2.2.2.2.2.1 bt232.2.2.2.2.2.2).bind fun bt239 => (detentlaw10_TaskForgets.j1 k a1 a2 bt239.2.2.1 bt239.2.2.2.1 bt239.2.2.2.2.1 bt239.2.2.2.2.2.1 bt239.2.2.2.2.2.2)) else (detentlaw10_TaskForgets.l0 k a0 a1 a2 0 bt232.2.2.1 bt232.2.2.2.1 bt232.2.2.2.2.1 bt232.2.2.2.2.2.1 bt232.2.2.2.2.2.2)))) = some r := by rw [if_pos rfl] at H; exact H
    clear H
    have H := H1
    clear H1
    replace H := Option.bind_eq_some_iff.mp H
    obtain ⟨⟨t226, t227, t228, t229, t230⟩, A70, H⟩ := H
    replace H : ((tcb_Task_Act.f k t226 t227 t228 t229 t230).bind fun bt232 => (if a3 = true then ((tcb_Task_Sleep.f k bt232.2.2.1 bt232.2.2.2.1 bt232.2.2.2.2.1 bt232.2.2.2.2.2.1 bt232.2.2.2.2.2.2).bind fun bt239 => (detentlaw10_TaskForgets.j1 k a1 a2 bt239.2.2.1 bt239.2.2.2.1 bt239.2.2.2.2.1 bt239.2.2.2.2.2.1 bt239.2.2.2.2.2.2)) else (detentlaw10_TaskForgets.l0 k a0 a1 a2 0 bt232.2.2.1 bt232.2.2.2.1 bt232.2.2.2.2.1 bt232.2.2.2.2.2.1 bt232.2.2.2.2.2.2))) = some r := H
    have A7 := Aside0.mk A70
    clear A70
    replace H := Option.bind_eq_some_iff.mp H
    obtain ⟨⟨t232, t233, t234, t235, t236, t237, t238⟩, A80, H⟩ := H
    replace H : (if a3 = true then ((tcb_Task_Sleep.f k t234 t235 t236 t237 t238).bind fun bt239 => (detentlaw10_TaskForgets.j1 k a1 a2 bt239.2.2.1 bt239.2.2.2.1 bt239.2.2.2.2.1 bt239.2.2.2.2.2.1 bt239.2.2.2.2.2.2)) else (detentlaw10_TaskForgets.l0 k a0 a1 a2 0 t234 t235 t236 t237 t238)) = some r := H
    have A8 := Aside0.mk A80
    clear A80
    have HC9 := Aside0.mk H
    clear H
    go_enter Try.func8, Try.ntmps8
    go_upto_if 21 with (first | ((with_reducible refine gate_callee (f := 21) rfl ?_); refine goesL_ (some 16) rfl rfl Try.func21 (by kernel_rfl) rfl #[] rfl (by (try simp only [List.map_toArray, List.map_cons, List.map_nil]); first | done | rfl | (simp only [List.length_drop, List.length_take]; rfl)) ?_; (with_reducible refine (detentlaw10_known.calls k  true _ A5.out).mono ?_); rintro e w10 ⟨rfl, hb⟩; refine ⟨_, rfl, ?_⟩; have n0_ := Aside0.mk (below_step (by repeat (first | (with_reducible first | exact HB.out | apply below_alloc | apply pw_below_drewN | apply below_drew1) | exact HB.out)) hb); clear HB; have HB := n0_; clear n0_; (try clear hb); (try clear hb2); (try clear hk); (try clear hi)) | ((with_reducible refine gate_callee (f := 22) rfl ?_); refine goesL_ (some 18) rfl rfl Try.func22 (by kernel_rfl) rfl #[] rfl (by (try simp only [List.map_toArray, List.map_cons, List.map_nil]); first | done | rfl | (simp only [List.length_drop, List.length_take]; rfl)) ?_; (with_reducible refine (tcb_New.calls  t226 t227 t228 t229 t230 w _ ?side1 A7.out).mono ?_); (case side1 => repeat (first | (with_reducible first | exact HB.out | apply below_alloc | apply pw_below_drewN | apply below_drew1) | exact HB.out)); rintro e w11 ⟨g231, rfl, hi, hb, hb2⟩; refine ⟨_, rfl, ?_⟩; have n0_ := Aside0.mk (hb); have n1_ := Aside0.mk (hi); clear HB; have HB := n0_; have HI231 := n1_; clear n0_ n1_; (try clear hb); (try clear hb2); (try clear hk); (try clear hi)) | ((with_reducible refine gate_callee (f := 23) rfl ?_); refine goesL_ (some 20) rfl rfl Try.func23 (by kernel_rfl) rfl #[.pointer (some ⟨g231, 0, none⟩)] rfl (by (try simp only [List.map_toArray, List.map_cons, List.map_nil]); first | done | rfl | (simp only [List.length_drop, List.length_take]; rfl)) ?_; (with_reducible refine (tcb_Task_Act.calls k g231 t226 t227 t228 t229 t230 t232 t233 t234 t235 t236 t237 t238 w _ ?side1 ?side2 A8.out).mono ?_); (case side1 => repeat (first | (with_reducible first | exact HI231.out | apply IsS55.alloc | apply IsS55.drewN | apply IsS55.drew | apply IsS55.set_0 | apply IsS55.set_1 | apply IsS55.set_2 | apply IsS55.set_3 | apply IsS55.set_4) | exact HI231.out)); (case side2 => repeat (first | (with_reducible first | exact HB.out | apply below_alloc | apply pw_below_drewN | apply below_drew1 | refine below_set ?_ (IsS55.ge HI231.out)) | exact HB.out)); rintro e w12 ⟨rfl, hi, hb, hk⟩; refine ⟨_, rfl, ?_⟩; have n0_ := Aside0.mk (hb); have n1_ := Aside0.mk (hi); clear HB; clear HI231; have HB := n0_; have HI231 := n1_; clear n0_ n1_; (try clear hb); (try clear hb2); (try clear hk); (try clear hi)))
    (try simp only [Act.put, List.setIfInBounds_toArray, List.set_cons_zero, List.set_cons_succ])
    go_cut [] (fun wc => ∃ (kq : Nat) (x232000_8 : Int) (x232001_8 : Int) (x232002_8 : Int) (x232003_8 : Int) (x232004_8 : Bool), Aside0 (detentlaw10_TaskForgets.j1 kq a1 a2 x232000_8 x232001_8 x232002_8 x232003_8 x232004_8 = some r) ∧ Aside0 (kq ≤ k) ∧ Aside0 (IsS55 w wc g231 x232000_8 x232001_8 x232002_8 x232003_8 x232004_8) ∧ Aside0 (Below w.heap.size w wc))
    case first =>
      have H := HC9.out
      clear HC9
      by_cases c13 : a3 = true
      · subst c13
        have H1 : ((tcb_Task_Sleep.f k t234 t235 t236 t237 t238).bind fun bt239 => (detentlaw10_TaskForgets.j1 k a1 a2 bt239.2.2.1 bt239.2.2.2.1 bt239.2.2.2.2.1 bt239.2.2.2.2.2.1 bt239.2.2.2.2.2.2)) = some r := by rw [if_pos rfl] at H; exact H
        clear H
        have H := H1
        clear H1
        replace H := Option.bind_eq_some_iff.mp H
        obtain ⟨⟨t239, t240, t241, t242, t243, t244, t245⟩, A140, H⟩ := H
        replace H : (detentlaw10_TaskForgets.j1 k a1 a2 t241 t242 t243 t244 t245) = some r := H
        have A14 := Aside0.mk A140
        clear A140
        have H' := Aside0.mk H
        clear H
        go_wp2_with (first | ((with_reducible refine gate_callee (f := 27) rfl ?_); refine goesL_ (some 23) rfl rfl Try.func27 (by kernel_rfl) rfl #[.pointer (some ⟨g231, 0, none⟩)] rfl (by (try simp only [List.map_toArray, List.map_cons, List.map_nil]); first | done | rfl | (simp only [List.length_drop, List.length_take]; rfl)) ?_; (with_reducible refine (tcb_Task_Sleep.calls k g231 t234 t235 t236 t237 t238 t239 t240 t241 t242 t243 t244 t245 w _ ?side1 ?side2 A14.out).mono ?_); (case side1 => repeat (first | (with_reducible first | exact HI231.out | apply IsS55.alloc | apply IsS55.drewN | apply IsS55.drew | apply IsS55.set_0 | apply IsS55.set_1 | apply IsS55.set_2 | apply IsS55.set_3 | apply IsS55.set_4) | exact HI231.out)); (case side2 => repeat (first | (with_reducible first | exact HB.out | apply below_alloc | apply pw_below_drewN | apply below_drew1 | refine below_set ?_ (IsS55.ge HI231.out)) | exact HB.out)); rintro e w15 ⟨rfl, hi, hb, hk⟩; refine ⟨_, rfl, ?_⟩; have n0_ := Aside0.mk (hb); have n1_ := Aside0.mk (hi); clear HB; clear HI231; have HB := n0_; have HI231 := n1_; clear n0_ n1_; (try clear hb); (try clear hb2); (try clear hk); (try clear hi)))
        go_meet
        case rel => exact ⟨_, (t241), (t242), (t243), (t244), (t245), H', ⟨by first | omega | exact Nat.le_refl _⟩, ⟨by repeat (first | (with_reducible first | exact HI231.out | apply IsS55.alloc | apply IsS55.drewN | apply IsS55.drew | apply IsS55.set_0 | apply IsS55.set_1 | apply IsS55.set_2 | apply IsS55.set_3 | apply IsS55.set_4) | exact HI231.out)⟩, ⟨by repeat (first | (with_reducible first | exact HB.out | apply below_alloc | apply pw_below_drewN | apply below_drew1 | refine below_set ?_ (IsS55.ge HI231.out)) | exact HB.out)⟩⟩
      · replace c13 := Bool.eq_false_iff.mpr c13
        subst c13
        have H1 : (detentlaw10_TaskForgets.l0 k a0 a1 a2 0 t234 t235 t236 t237 t238) = some r := by rw [if_neg (show ¬ (false = true) by decide)] at H; exact H
        clear H
        have H := H1
        clear H1
        have H' := Aside0.mk H
        clear H
        go_wp2
        go_loopg [10] k (fun kq v10 w' => ∃ (x10_1 : Int) (x232000_1 : Int) (x232001_1 : Int) (x232002_1 : Int) (x232003_1 : Int) (x232004_1 : Bool), v10 = .int .i64 x10_1 ∧ Aside0 (detentlaw10_TaskForgets.l0 kq a0 a1 a2 x10_1 x232000_1 x232001_1 x232002_1 x232003_1 x232004_1 = some r) ∧ Aside0 (kq ≤ k) ∧ Aside0 (IsS55 w w' g231 x232000_1 x232001_1 x232002_1 x232003_1 x232004_1) ∧ Aside0 (Below w.heap.size w w'))
        case atStart => exact ⟨(0), (t234), (t235), (t236), (t237), (t238), (by first | rfl | (simp; done) | (simp [*]; done)), H', ⟨Nat.le_refl _⟩, ⟨by repeat (first | (with_reducible first | exact HI231.out | apply IsS55.alloc | apply IsS55.drewN | apply IsS55.drew | apply IsS55.set_0 | apply IsS55.set_1 | apply IsS55.set_2 | apply IsS55.set_3 | apply IsS55.set_4) | exact HI231.out)⟩, ⟨by repeat (first | (with_reducible first | exact HB.out | apply below_alloc | apply pw_below_drewN | apply below_drew1 | refine below_set ?_ (IsS55.ge HI231.out)) | exact HB.out)⟩⟩
        case round =>
          clear H'
          try clear c1
          try clear c2
          try clear p2
          try clear c6
          try clear c8
          try clear c13
          obtain ⟨x10_1, x232000_1, x232001_1, x232002_1, x232003_1, x232004_1, rfl, HA, HK1, HI231, HB⟩ := hrel
          cases gk with
          | zero => exact absurd HA.out (by simp [detentlaw10_TaskForgets.l0])
          | succ k1 =>
            have H := HA.out
            clear HA
            simp only [detentlaw10_TaskForgets.l0] at H
            by_cases c16 : x10_1 < (wrap64 (Int.tmod a0 8))
            · rw [if_pos c16] at H
              have c16b0 : decide (x10_1 < (wrap64 (Int.tmod a0 8))) = true := decide_eq_true c16
              clear c16
              (first | rw [c16b0] | (simp only [i64_w, i32_w]; rw [c16b0]) | skip)
              replace H := Option.bind_eq_some_iff.mp H
              obtain ⟨⟨t246, t247, t248, t249, t250, t251, t252⟩, A170, H⟩ := H
              replace H : (detentlaw10_TaskForgets.l0 k1 a0 a1 a2 (wrap64 (x10_1 + 1)) t248 t249 t250 t251 t252) = some r := H
              have A17 := Aside0.mk A170
              clear A170
              have H' := Aside0.mk H
              clear H
              go_wp2_with (first | ((with_reducible refine gate_callee (f := 28) rfl ?_); refine goesL_ (some 32) rfl rfl Try.func28 (by kernel_rfl) rfl #[.pointer (some ⟨g231, 0, none⟩)] rfl (by (try simp only [List.map_toArray, List.map_cons, List.map_nil]); first | done | rfl | (simp only [List.length_drop, List.length_take]; rfl)) ?_; (with_reducible refine (tcb_Task_Wake.calls k1 g231 x232000_1 x232001_1 x232002_1 x232003_1 x232004_1 t246 t247 t248 t249 t250 t251 t252 w _ ?side1 ?side2 A17.out).mono ?_); (case side1 => repeat (first | (with_reducible first | exact HI231.out | apply IsS55.alloc | apply IsS55.drewN | apply IsS55.drew | apply IsS55.set_0 | apply IsS55.set_1 | apply IsS55.set_2 | apply IsS55.set_3 | apply IsS55.set_4) | exact HI231.out)); (case side2 => repeat (first | (with_reducible first | exact HB.out | apply below_alloc | apply pw_below_drewN | apply below_drew1 | refine below_set ?_ (IsS55.ge HI231.out)) | exact HB.out)); rintro e w18 ⟨rfl, hi, hb, hk⟩; refine ⟨_, rfl, ?_⟩; have n0_ := Aside0.mk (hb); have n1_ := Aside0.mk (hi); clear HB; clear HI231; have HB := n0_; have HI231 := n1_; clear n0_ n1_; (try clear hb); (try clear hb2); (try clear hk); (try clear hi)))
              go_roundg k1
              case measure => have := HK1.out; omega
              case rel => exact ⟨(wrap64 (x10_1 + 1)), (t248), (t249), (t250), (t251), (t252), (by first | rfl | (simp; done) | (simp [*]; done)), H', ⟨by have := HK1.out; omega⟩, ⟨by repeat (first | (with_reducible first | exact HI231.out | apply IsS55.alloc | apply IsS55.drewN | apply IsS55.drew | apply IsS55.set_0 | apply IsS55.set_1 | apply IsS55.set_2 | apply IsS55.set_3 | apply IsS55.set_4) | exact HI231.out)⟩, ⟨by repeat (first | (with_reducible first | exact HB.out | apply below_alloc | apply pw_below_drewN | apply below_drew1 | refine below_set ?_ (IsS55.ge HI231.out)) | exact HB.out)⟩⟩
            · rw [if_neg c16] at H
              have c16b0 : decide (x10_1 < (wrap64 (Int.tmod a0 8))) = false := decide_eq_false c16
              clear c16
              (first | rw [c16b0] | (simp only [i64_w, i32_w]; rw [c16b0]) | skip)
              have H' := Aside0.mk H
              clear H
              go_wp2
              go_meet
              case rel => exact ⟨_, (x232000_1), (x232001_1), (x232002_1), (x232003_1), (x232004_1), H', ⟨by have := HK1.out; first | omega | exact Nat.le_refl _⟩, ⟨by repeat (first | (with_reducible first | exact HI231.out | apply IsS55.alloc | apply IsS55.drewN | apply IsS55.drew | apply IsS55.set_0 | apply IsS55.set_1 | apply IsS55.set_2 | apply IsS55.set_3 | apply IsS55.set_4) | exact HI231.out)⟩, ⟨by repeat (first | (with_reducible first | exact HB.out | apply below_alloc | apply pw_below_drewN | apply below_drew1 | refine below_set ?_ (IsS55.ge HI231.out)) | exact HB.out)⟩⟩
    case rest =>
      clear HC9
      try clear c1
      try clear c2
      try clear p2
      try clear c6
      try clear p6
      try clear c8
      try clear c13
      try clear c16
      try clear c16b0
      try clear p2
      obtain ⟨kq, x232000_8, x232001_8, x232002_8, x232003_8, x232004_8, HA, HJ8, HI231, HB⟩ := hcut
      cases kq with
      | zero => exact absurd HA.out (by simp [detentlaw10_TaskForgets.j1])
      | succ kj8 =>
        have H := HA.out
        clear HA
        simp only [detentlaw10_TaskForgets.j1] at H
        have H' := Aside0.mk H
        clear H
        go_wp2
        go_loopg [11] kj8 (fun kq v11 w' => ∃ (x11_2 : Int) (x232000_2 : Int) (x232001_2 : Int) (x232002_2 : Int) (x232003_2 : Int) (x232004_2 : Bool), v11 = .int .i64 x11_2 ∧ Aside0 (detentlaw10_TaskForgets.l1 kq a1 a2 x11_2 x232000_2 x232001_2 x232002_2 x232003_2 x232004_2 = some r) ∧ Aside0 (kq ≤ kj8) ∧ Aside0 (IsS55 w w' g231 x232000_2 x232001_2 x232002_2 x232003_2 x232004_2) ∧ Aside0 (Below w.heap.size w w'))
        case atStart => exact ⟨(0), (x232000_8), (x232001_8), (x232002_8), (x232003_8), (x232004_8), (by first | rfl | (simp; done) | (simp [*]; done)), H', ⟨Nat.le_refl _⟩, ⟨by repeat (first | (with_reducible first | exact HI231.out | apply IsS55.alloc | apply IsS55.drewN | apply IsS55.drew | apply IsS55.set_0 | apply IsS55.set_1 | apply IsS55.set_2 | apply IsS55.set_3 | apply IsS55.set_4) | exact HI231.out)⟩, ⟨by repeat (first | (with_reducible first | exact HB.out | apply below_alloc | apply pw_below_drewN | apply below_drew1 | refine below_set ?_ (IsS55.ge HI231.out)) | exact HB.out)⟩⟩
        case round =>
          clear H'
          try clear c1
          try clear c2
          try clear p2
          try clear c6
          try clear p6
          try clear c8
          try clear c13
          try clear c16
          try clear c16b0
          try clear p2
          try clear p6
          obtain ⟨x11_2, x232000_2, x232001_2, x232002_2, x232003_2, x232004_2, rfl, HA, HK2, HI231, HB⟩ := hrel
          cases gk with
          | zero => exact absurd HA.out (by simp [detentlaw10_TaskForgets.l1])
          | succ k2 =>
            have H := HA.out
            clear HA
            simp only [detentlaw10_TaskForgets.l1] at H
            by_cases c19 : x11_2 < (wrap64 (Int.tmod a1 8))
            · rw [if_pos c19] at H
              have c19b0 : decide (x11_2 < (wrap64 (Int.tmod a1 8))) = true := decide_eq_true c19
              clear c19
              replace H := Option.bind_eq_some_iff.mp H
              obtain ⟨⟨t253, t254, t255, t256, t257, t258⟩, A200, H⟩ := H
              replace H : (detentlaw10_TaskForgets.l1 k2 a1 a2 (wrap64 (x11_2 + 1)) t254 t255 t256 t257 t258) = some r := H
              have A20 := Aside0.mk A200
              clear A200
              have H' := Aside0.mk H
              clear H
              go_wp2_with (first | ((with_reducible refine gate_callee (f := 29) rfl ?_); refine goesL_ (some 41) rfl rfl Try.func29 (by kernel_rfl) rfl #[.pointer (some ⟨g231, 0, none⟩)] rfl (by (try simp only [List.map_toArray, List.map_cons, List.map_nil]); first | done | rfl | (simp only [List.length_drop, List.length_take]; rfl)) ?_; (with_reducible refine (tcb_Task_Suspend.calls k2 g231 x232000_2 x232001_2 x232002_2 x232003_2 x232004_2 t253 t254 t255 t256 t257 t258 w _ ?side1 ?side2 A20.out).mono ?_); (case side1 => repeat (first | (with_reducible first | exact HI231.out | apply IsS55.alloc | apply IsS55.drewN | apply IsS55.drew | apply IsS55.set_0 | apply IsS55.set_1 | apply IsS55.set_2 | apply IsS55.set_3 | apply IsS55.set_4) | exact HI231.out)); (case side2 => repeat (first | (with_reducible first | exact HB.out | apply below_alloc | apply pw_below_drewN | apply below_drew1 | refine below_set ?_ (IsS55.ge HI231.out)) | exact HB.out)); rintro e w21 ⟨rfl, hi, hb, hk⟩; refine ⟨_, rfl, ?_⟩; have n0_ := Aside0.mk (hb); have n1_ := Aside0.mk (hi); clear HB; clear HI231; have HB := n0_; have HI231 := n1_; clear n0_ n1_; (try clear hb); (try clear hb2); (try clear hk); (try clear hi)))
              go_roundg k2
              case measure => have := HJ8.out; have := HK2.out; omega
              case rel => exact ⟨(wrap64 (x11_2 + 1)), (t254), (t255), (t256), (t257), (t258), (by first | rfl | (simp; done) | (simp [*]; done)), H', ⟨by have := HJ8.out; have := HK2.out; omega⟩, ⟨by repeat (first | (with_reducible first | exact HI231.out | apply IsS55.alloc | apply IsS55.drewN | apply IsS55.drew | apply IsS55.set_0 | apply IsS55.set_1 | apply IsS55.set_2 | apply IsS55.set_3 | apply IsS55.set_4) | exact HI231.out)⟩, ⟨by repeat (first | (with_reducible first | exact HB.out | apply below_alloc | apply pw_below_drewN | apply below_drew1 | refine below_set ?_ (IsS55.ge HI231.out)) | exact HB.out)⟩⟩
            · rw [if_neg c19] at H
              have c19b0 : decide (x11_2 < (wrap64 (Int.tmod a1 8))) = false := decide_eq_false c19
              clear c19
              have H' := Aside0.mk H
              clear H
              go_wp2
              go_loopg [13] k2 (fun kq v13 w' => ∃ (x13_3 : Int) (x232000_3 : Int) (x232001_3 : Int) (x232002_3 : Int) (x232003_3 : Int) (x232004_3 : Bool), v13 = .int .i64 x13_3 ∧ Aside0 (detentlaw10_TaskForgets.l2 kq (wrap64 (Int.tmod a2 8)) x13_3 x232000_3 x232001_3 x232002_3 x232003_3 x232004_3 = some r) ∧ Aside0 (kq ≤ k2) ∧ Aside0 (IsS55 w w' g231 x232000_3 x232001_3 x232002_3 x232003_3 x232004_3) ∧ Aside0 (Below w.heap.size w w'))
              case atStart => exact ⟨(0), (x232000_2), (x232001_2), (x232002_2), (x232003_2), (x232004_2), (by first | rfl | (simp; done) | (simp [*]; done)), H', ⟨Nat.le_refl _⟩, ⟨by repeat (first | (with_reducible first | exact HI231.out | apply IsS55.alloc | apply IsS55.drewN | apply IsS55.drew | apply IsS55.set_0 | apply IsS55.set_1 | apply IsS55.set_2 | apply IsS55.set_3 | apply IsS55.set_4) | exact HI231.out)⟩, ⟨by repeat (first | (with_reducible first | exact HB.out | apply below_alloc | apply pw_below_drewN | apply below_drew1 | refine below_set ?_ (IsS55.ge HI231.out)) | exact HB.out)⟩⟩
              case round =>
                clear H'
                try clear c1
                try clear c2
                try clear p2
                try clear c6
                try clear p6
                try clear c8
                try clear c13
                try clear c16
                try clear c16b0
                try clear c19
                try clear c19b0
                try clear c21
                try clear p2
                try clear p6
                obtain ⟨x13_3, x232000_3, x232001_3, x232002_3, x232003_3, x232004_3, rfl, HA, HK3, HI231, HB⟩ := hrel
                cases gk with
                | zero => exact absurd HA.out (by simp [detentlaw10_TaskForgets.l2])
                | succ k3 =>
                  have H := HA.out
                  clear HA
                  simp only [detentlaw10_TaskForgets.l2] at H
                  by_cases c22 : x13_3 < (wrap64 (Int.tmod a2 8))
                  · rw [if_pos c22] at H
                    have c22b0 : decide (x13_3 < (wrap64 (Int.tmod a2 8))) = true := decide_eq_true c22
                    clear c22
                    replace H := Option.bind_eq_some_iff.mp H
                    obtain ⟨⟨t259, t260, t261, t262, t263, t264, t265⟩, A230, H⟩ := H
                    replace H : (detentlaw10_TaskForgets.l2 k3 (wrap64 (Int.tmod a2 8)) (wrap64 (x13_3 + 1)) t261 t262 t263 t264 t265) = some r := H
                    have A23 := Aside0.mk A230
                    clear A230
                    have H' := Aside0.mk H
                    clear H
                    go_wp2_with (first | ((with_reducible refine gate_callee (f := 23) rfl ?_); refine goesL_ (some 51) rfl rfl Try.func23 (by kernel_rfl) rfl #[.pointer (some ⟨g231, 0, none⟩)] rfl (by (try simp only [List.map_toArray, List.map_cons, List.map_nil]); first | done | rfl | (simp only [List.length_drop, List.length_take]; rfl)) ?_; (with_reducible refine (tcb_Task_Act.calls k3 g231 x232000_3 x232001_3 x232002_3 x232003_3 x232004_3 t259 t260 t261 t262 t263 t264 t265 w _ ?side1 ?side2 A23.out).mono ?_); (case side1 => repeat (first | (with_reducible first | exact HI231.out | apply IsS55.alloc | apply IsS55.drewN | apply IsS55.drew | apply IsS55.set_0 | apply IsS55.set_1 | apply IsS55.set_2 | apply IsS55.set_3 | apply IsS55.set_4) | exact HI231.out)); (case side2 => repeat (first | (with_reducible first | exact HB.out | apply below_alloc | apply pw_below_drewN | apply below_drew1 | refine below_set ?_ (IsS55.ge HI231.out)) | exact HB.out)); rintro e w24 ⟨rfl, hi, hb, hk⟩; refine ⟨_, rfl, ?_⟩; have n0_ := Aside0.mk (hb); have n1_ := Aside0.mk (hi); clear HB; clear HI231; have HB := n0_; have HI231 := n1_; clear n0_ n1_; (try clear hb); (try clear hb2); (try clear hk); (try clear hi)))
                    go_roundg k3
                    case measure => have := HJ8.out; have := HK2.out; have := HK3.out; omega
                    case rel => exact ⟨(wrap64 (x13_3 + 1)), (t261), (t262), (t263), (t264), (t265), (by first | rfl | (simp; done) | (simp [*]; done)), H', ⟨by have := HJ8.out; have := HK2.out; have := HK3.out; omega⟩, ⟨by repeat (first | (with_reducible first | exact HI231.out | apply IsS55.alloc | apply IsS55.drewN | apply IsS55.drew | apply IsS55.set_0 | apply IsS55.set_1 | apply IsS55.set_2 | apply IsS55.set_3 | apply IsS55.set_4) | exact HI231.out)⟩, ⟨by repeat (first | (with_reducible first | exact HB.out | apply below_alloc | apply pw_below_drewN | apply below_drew1 | refine below_set ?_ (IsS55.ge HI231.out)) | exact HB.out)⟩⟩
                  · rw [if_neg c22] at H
                    have c22b0 : decide (x13_3 < (wrap64 (Int.tmod a2 8))) = false := decide_eq_false c22
                    clear c22
                    replace H := Option.bind_eq_some_iff.mp H
                    obtain ⟨⟨t266, t267, t268, t269, t270, t271, t272⟩, A250, H⟩ := H
                    replace H : (if t267 = 0 then (if (t266 != (decide ((wrap64 (Int.tmod a2 8)) > 0))) = true then (detentlaw10_TaskForgets.j4 k3 (wrap64 (Int.tmod a2 8)) true t268 t269 t270 t271 t272) else (if t269 = 0 then (if t270 = 0 then (detentlaw10_TaskForgets.j4 k3 (wrap64 (Int.tmod a2 8)) t272 t268 t269 t270 t271 t272) else (detentlaw10_TaskForgets.j4 k3 (wrap64 (Int.tmod a2 8)) true t268 t269 t270 t271 t272)) else (detentlaw10_TaskForgets.j4 k3 (wrap64 (Int.tmod a2 8)) true t268 t269 t270 t271 t272))) else (detentlaw10_TaskForgets.j4 k3 (wrap64 (Int.tmod a2 8)) true t268 t269 t270 t271 t272)) = some r := H
                    have A25 := Aside0.mk A250
                    clear A250
                    have HC26 := Aside0.mk H
                    clear H
                    go_upto_region 21 with (first | ((with_reducible refine gate_callee (f := 30) rfl ?_); refine goesL_ (some 54) rfl rfl Try.func30 (by kernel_rfl) rfl #[.pointer (some ⟨g231, 0, none⟩)] rfl (by (try simp only [List.map_toArray, List.map_cons, List.map_nil]); first | done | rfl | (simp only [List.length_drop, List.length_take]; rfl)) ?_; (with_reducible refine (tcb_Task_Kill.calls k3 g231 x232000_3 x232001_3 x232002_3 x232003_3 x232004_3 t266 t267 t268 t269 t270 t271 t272 w _ ?side1 ?side2 A25.out).mono ?_); (case side1 => repeat (first | (with_reducible first | exact HI231.out | apply IsS55.alloc | apply IsS55.drewN | apply IsS55.drew | apply IsS55.set_0 | apply IsS55.set_1 | apply IsS55.set_2 | apply IsS55.set_3 | apply IsS55.set_4) | exact HI231.out)); (case side2 => repeat (first | (with_reducible first | exact HB.out | apply below_alloc | apply pw_below_drewN | apply below_drew1 | refine below_set ?_ (IsS55.ge HI231.out)) | exact HB.out)); rintro e w27 ⟨rfl, hi, hb, hk⟩; refine ⟨_, rfl, ?_⟩; have n0_ := Aside0.mk (hb); have n1_ := Aside0.mk (hi); clear HB; clear HI231; have HB := n0_; have HI231 := n1_; clear n0_ n1_; (try clear hb); (try clear hb2); (try clear hk); (try clear hi)))
                    (try simp only [Act.put, List.setIfInBounds_toArray, List.set_cons_zero, List.set_cons_succ])
                    go_cut [86] (fun v86 wc => ∃ (kq : Nat) (x86_25 : Bool), v86 = .bool x86_25 ∧ Aside0 (detentlaw10_TaskForgets.j4 kq (wrap64 (Int.tmod a2 8)) x86_25 t268 t269 t270 t271 t272 = some r) ∧ Aside0 (kq ≤ k3) ∧ Aside0 (IsS55 w wc g231 t268 t269 t270 t271 t272) ∧ Aside0 (Below w.heap.size w wc))
                    case first =>
                      have H := HC26.out
                      clear HC26
                      by_cases c28 : t267 = 0
                      · rw [if_pos c28] at H
                        have c28b0 : (t267 == 0) = true := beq_iff_eq.mpr c28
                        have c28b1 : (t267 != 0) = false := bne_eq_false_iff_eq.mpr c28
                        clear c28
                        (first | rw [c28b0] | (simp only [i64_w, i32_w]; rw [c28b0]) | skip)
                        by_cases c29 : (t266 != (decide ((wrap64 (Int.tmod a2 8)) > 0))) = true
                        · rw [if_pos c29] at H
                          have c29b0 : (t266 != (decide ((wrap64 (Int.tmod a2 8)) > 0))) = true := c29
                          (try (have c29b1 : decide (t266 = (decide ((wrap64 (Int.tmod a2 8)) > 0))) = false := by simpa using c29))
                          (try (have c29b2 : (t266 == (decide ((wrap64 (Int.tmod a2 8)) > 0))) = false := by simpa using c29))
                          (try (have c29b3 : ¬ (t266 = (decide ((wrap64 (Int.tmod a2 8)) > 0))) := by simpa using c29))
                          clear c29
                          have H' := Aside0.mk H
                          clear H
                          go_wp2
                          go_meet
                          case rel => exact ⟨_, (true), (by first | rfl | (simp; done) | (simp [*]; done)), H', ⟨by have := HJ8.out; have := HK2.out; have := HK3.out; first | omega | exact Nat.le_refl _⟩, ⟨by repeat (first | (with_reducible first | exact HI231.out | apply IsS55.alloc | apply IsS55.drewN | apply IsS55.drew | apply IsS55.set_0 | apply IsS55.set_1 | apply IsS55.set_2 | apply IsS55.set_3 | apply IsS55.set_4) | exact HI231.out)⟩, ⟨by repeat (first | (with_reducible first | exact HB.out | apply below_alloc | apply pw_below_drewN | apply below_drew1 | refine below_set ?_ (IsS55.ge HI231.out)) | exact HB.out)⟩⟩
                        · rw [if_neg c29] at H
                          have c29b0 : (t266 != (decide ((wrap64 (Int.tmod a2 8)) > 0))) = false := by simpa using c29
                          (try (have c29b1 : decide (t266 = (decide ((wrap64 (Int.tmod a2 8)) > 0))) = true := by simpa using c29))
                          (try (have c29b2 : (t266 == (decide ((wrap64 (Int.tmod a2 8)) > 0))) = true := by simpa using c29))
                          clear c29
                          by_cases c30 : t269 = 0
                          · rw [if_pos c30] at H
                            have c30b0 : (t269 == 0) = true := beq_iff_eq.mpr c30
                            have c30b1 : (t269 != 0) = false := bne_eq_false_iff_eq.mpr c30
                            clear c30
                            by_cases c31 : t270 = 0
                            · rw [if_pos c31] at H
                              have c31b0 : (t270 == 0) = true := beq_iff_eq.mpr c31
                              have c31b1 : (t270 != 0) = false := bne_eq_false_iff_eq.mpr c31
                              clear c31
                              have H' := Aside0.mk H
                              clear H
                              obtain ⟨HGz32, hgz32⟩ := HI231.out
                              have hcz32_0 := cellS55_0 HGz32
                              have hcz32_1 := cellS55_1 HGz32
                              have hcz32_2 := cellS55_2 HGz32
                              have hcz32_3 := cellS55_3 HGz32
                              have hcz32_4 := cellS55_4 HGz32
                              have hfz32_0 := blk_frozen HGz32 0
                              have hfz32_1 := blk_frozen HGz32 1
                              have hfz32_2 := blk_frozen HGz32 2
                              have hfz32_3 := blk_frozen HGz32 3
                              have hfz32_4 := blk_frozen HGz32 4
                              clear HGz32 hgz32
                              go_wp2
                              go_meet
                              case rel => exact ⟨_, (t272), (by first | rfl | (simp; done) | (simp [*]; done)), H', ⟨by have := HJ8.out; have := HK2.out; have := HK3.out; first | omega | exact Nat.le_refl _⟩, ⟨by repeat (first | (with_reducible first | exact HI231.out | apply IsS55.alloc | apply IsS55.drewN | apply IsS55.drew | apply IsS55.set_0 | apply IsS55.set_1 | apply IsS55.set_2 | apply IsS55.set_3 | apply IsS55.set_4) | exact HI231.out)⟩, ⟨by repeat (first | (with_reducible first | exact HB.out | apply below_alloc | apply pw_below_drewN | apply below_drew1 | refine below_set ?_ (IsS55.ge HI231.out)) | exact HB.out)⟩⟩
                            · rw [if_neg c31] at H
                              have c31b0 : (t270 == 0) = false := beq_eq_false_iff_ne.mpr c31
                              have c31b1 : (t270 != 0) = true := bne_iff_ne.mpr c31
                              have H' := Aside0.mk H
                              clear H
                              obtain ⟨HGz33, hgz33⟩ := HI231.out
                              have hcz33_0 := cellS55_0 HGz33
                              have hcz33_1 := cellS55_1 HGz33
                              have hcz33_2 := cellS55_2 HGz33
                              have hcz33_3 := cellS55_3 HGz33
                              have hcz33_4 := cellS55_4 HGz33
                              have hfz33_0 := blk_frozen HGz33 0
                              have hfz33_1 := blk_frozen HGz33 1
                              have hfz33_2 := blk_frozen HGz33 2
                              have hfz33_3 := blk_frozen HGz33 3
                              have hfz33_4 := blk_frozen HGz33 4
                              clear HGz33 hgz33
                              go_wp2
                              go_meet
                              case rel => exact ⟨_, (true), (by first | rfl | (simp; done) | (simp [*]; done)), H', ⟨by have := HJ8.out; have := HK2.out; have := HK3.out; first | omega | exact Nat.le_refl _⟩, ⟨by repeat (first | (with_reducible first | exact HI231.out | apply IsS55.alloc | apply IsS55.drewN | apply IsS55.drew | apply IsS55.set_0 | apply IsS55.set_1 | apply IsS55.set_2 | apply IsS55.set_3 | apply IsS55.set_4) | exact HI231.out)⟩, ⟨by repeat (first | (with_reducible first | exact HB.out | apply below_alloc | apply pw_below_drewN | apply below_drew1 | refine below_set ?_ (IsS55.ge HI231.out)) | exact HB.out)⟩⟩
                          · rw [if_neg c30] at H
                            have c30b0 : (t269 == 0) = false := beq_eq_false_iff_ne.mpr c30
                            have c30b1 : (t269 != 0) = true := bne_iff_ne.mpr c30
                            have H' := Aside0.mk H
                            clear H
                            obtain ⟨HGz34, hgz34⟩ := HI231.out
                            have hcz34_0 := cellS55_0 HGz34
                            have hcz34_1 := cellS55_1 HGz34
                            have hcz34_2 := cellS55_2 HGz34
                            have hcz34_3 := cellS55_3 HGz34
                            have hcz34_4 := cellS55_4 HGz34
                            have hfz34_0 := blk_frozen HGz34 0
                            have hfz34_1 := blk_frozen HGz34 1
                            have hfz34_2 := blk_frozen HGz34 2
                            have hfz34_3 := blk_frozen HGz34 3
                            have hfz34_4 := blk_frozen HGz34 4
                            clear HGz34 hgz34
                            go_wp2
                            go_meet
                            case rel => exact ⟨_, (true), (by first | rfl | (simp; done) | (simp [*]; done)), H', ⟨by have := HJ8.out; have := HK2.out; have := HK3.out; first | omega | exact Nat.le_refl _⟩, ⟨by repeat (first | (with_reducible first | exact HI231.out | apply IsS55.alloc | apply IsS55.drewN | apply IsS55.drew | apply IsS55.set_0 | apply IsS55.set_1 | apply IsS55.set_2 | apply IsS55.set_3 | apply IsS55.set_4) | exact HI231.out)⟩, ⟨by repeat (first | (with_reducible first | exact HB.out | apply below_alloc | apply pw_below_drewN | apply below_drew1 | refine below_set ?_ (IsS55.ge HI231.out)) | exact HB.out)⟩⟩
                      · rw [if_neg c28] at H
                        have c28b0 : (t267 == 0) = false := beq_eq_false_iff_ne.mpr c28
                        have c28b1 : (t267 != 0) = true := bne_iff_ne.mpr c28
                        (first | rw [c28b0] | (simp only [i64_w, i32_w]; rw [c28b0]) | skip)
                        have H' := Aside0.mk H
                        clear H
                        go_wp2
                        go_meet
                        case rel => exact ⟨_, (true), (by first | rfl | (simp; done) | (simp [*]; done)), H', ⟨by have := HJ8.out; have := HK2.out; have := HK3.out; first | omega | exact Nat.le_refl _⟩, ⟨by repeat (first | (with_reducible first | exact HI231.out | apply IsS55.alloc | apply IsS55.drewN | apply IsS55.drew | apply IsS55.set_0 | apply IsS55.set_1 | apply IsS55.set_2 | apply IsS55.set_3 | apply IsS55.set_4) | exact HI231.out)⟩, ⟨by repeat (first | (with_reducible first | exact HB.out | apply below_alloc | apply pw_below_drewN | apply below_drew1 | refine below_set ?_ (IsS55.ge HI231.out)) | exact HB.out)⟩⟩
                    case rest =>
                      clear HC26
                      try clear c1
                      try clear c2
                      try clear p2
                      try clear c3
                      try clear c6
                      try clear p6
                      try clear c8
                      try clear c13
                      try clear c16
                      try clear c16b0
                      try clear c19
                      try clear c19b0
                      try clear c21
                      try clear c22
                      try clear c22b0
                      try clear c23
                      try clear c27
                      try clear c28
                      try clear c28b0
                      try clear c28b1
                      try clear c29
                      try clear c29b0
                      try clear c29b1
                      try clear c29b2
                      try clear c30
                      try clear c30b0
                      try clear c30b1
                      try clear c31
                      try clear c31b0
                      try clear c31b1
                      try clear hcz32_0
                      try clear hcz32_1
                      try clear hcz32_2
                      try clear hcz32_3
                      try clear hcz32_4
                      try clear hcz33_0
                      try clear hcz33_1
                      try clear hcz33_2
                      try clear hcz33_3
                      try clear hcz33_4
                      try clear hcz34_0
                      try clear hcz34_1
                      try clear hcz34_2
                      try clear hcz34_3
                      try clear hcz34_4
                      try clear hfz32_0
                      try clear hfz32_1
                      try clear hfz32_2
                      try clear hfz32_3
                      try clear hfz32_4
                      try clear hfz33_0
                      try clear hfz33_1
                      try clear hfz33_2
                      try clear hfz33_3
                      try clear hfz33_4
                      try clear hfz34_0
                      try clear hfz34_1
                      try clear hfz34_2
                      try clear hfz34_3
                      try clear hfz34_4
                      try clear p2
                      try clear p6
                      obtain ⟨kq, x86_25, rfl, HA, HJ25, HI231, HB⟩ := hcut
                      cases kq with
                      | zero => exact absurd HA.out (by simp [detentlaw10_TaskForgets.j4])
                      | succ kj25 =>
                        have H := HA.out
                        clear HA
                        simp only [detentlaw10_TaskForgets.j4] at H
                        by_cases c35 : x86_25 = true
                        · subst c35
                          have H1 : (some false) = some r := by rw [if_pos rfl] at H; exact H
                          clear H
                          have H := H1
                          clear H1
                          obtain rfl := Option.some.inj H
                          go_wp2
                          go_ret
                          exact ⟨by first | rfl | (simp [errW_none, errW_some] <;> rfl) | (simp [*, errW_none, errW_some] <;> rfl), by repeat (first | (with_reducible first | exact HB.out | apply below_alloc | apply pw_below_drewN | apply below_drew1 | refine below_set ?_ (IsS55.ge HI231.out)) | exact HB.out)⟩
                        · replace c35 := Bool.eq_false_iff.mpr c35
                          subst c35
                          have H1 : (if (wrap64 (Int.tmod a2 8)) > 0 then ((tcb_Task_Is.f kj25 t268 t269 t270 t271 t272 (([2] : List Int))).bind fun bt276 => (if bt276.1 = true then (some (bt276.2.1 == (wrap64 ((wrap64 (Int.tmod a2 8)) - 1)))) else (some false))) else ((tcb_Task_Is.f kj25 t268 t269 t270 t271 t272 (([16] : List Int))).bind fun bt285 => (if bt285.1 = true then (some (bt285.2.1 == 0)) else (some false)))) = some r := by rw [if_neg (show ¬ (false = true) by decide)] at H; exact H
                          clear H
                          have H := H1
                          clear H1
                          by_cases c36 : (wrap64 (Int.tmod a2 8)) > 0
                          · rw [if_pos c36] at H
                            have c36b0 : decide (0 < (wrap64 (Int.tmod a2 8))) = true := decide_eq_true c36
                            clear c36
                            obtain ⟨y273, hy273⟩ : ∃ y_ : List Int, y_ = (([2] : List Int)) := ⟨_, rfl⟩
                            replace H : ((tcb_Task_Is.f kj25 t268 t269 t270 t271 t272 y273).bind fun bt276 => (if bt276.1 = true then (some (bt276.2.1 == (wrap64 ((wrap64 (Int.tmod a2 8)) - 1)))) else (some false))) = some r := by first | (rw [hy273]; with_reducible exact H) | (have H2_ := (Option.bind_some _ _).symm.trans H; rw [hy273]; with_reducible exact H2_) | (have H2_ := (Option.bind_some _ _).symm.trans H; with_reducible exact H2_) | with_reducible exact H | (rw [hy273]; exact H) | exact H
                            have Ny273 := Aside0.mk hy273
                            clear hy273
                            replace H := Option.bind_eq_some_iff.mp H
                            obtain ⟨⟨t276, t277, t278, t279, t280, t281⟩, A370, H⟩ := H
                            replace H : (if t276 = true then (some (t277 == (wrap64 ((wrap64 (Int.tmod a2 8)) - 1)))) else (some false)) = some r := H
                            have A37 := Aside0.mk A370
                            clear A370
                            by_cases c38 : t276 = true
                            · subst c38
                              have H1 : (some (t277 == (wrap64 ((wrap64 (Int.tmod a2 8)) - 1)))) = some r := by rw [if_pos rfl] at H; exact H
                              clear H
                              have H := H1
                              clear H1
                              obtain rfl := Option.some.inj H
                              go_wp2_with (first | ((with_reducible refine gate_dst (N := 90) rfl ?_); refine Kd.R_lit (Kd.int .i64) _ 3 ?hg (N := 90) ?hd (xs := ([2] : List Int)) (inner := [.int .i64 2]) (ok := fun _ => True) (okp := fun _ => True) ?hr ?hp (fun _ hk => hk) trivial (Below.refl _ _) (Nat.le_refl _) (by simp) ?_; (case hd => rfl); (case hg => rfl); (case hr => first | (go_simp; done) | (go_simp; rfl)); (case hp => exact (Reps.one (show Kd.M (Kd.int .i64) _ _ _ 2 [.int .i64 2] from rfl) (Reps.none _ _))); intro v274 w39 ho40 hb hg_ hnew_; clear hg_ hnew_; (first | rw [← Ny273.out] at ho40 | (simp only [Int.reduceToNat] at ho40; rw [← Ny273.out] at ho40)); have n0_ := Aside0.mk (Kd.R_lower ho40 (below_size (by repeat (first | (with_reducible first | exact HB.out | apply below_alloc | apply pw_below_drewN | apply below_drew1 | refine below_set ?_ (IsS55.ge HI231.out)) | exact HB.out)))); have n1_ := Aside0.mk (IsS55.below (by repeat (first | (with_reducible first | exact HI231.out | apply IsS55.alloc | apply IsS55.drewN | apply IsS55.drew | apply IsS55.set_0 | apply IsS55.set_1 | apply IsS55.set_2 | apply IsS55.set_3 | apply IsS55.set_4) | exact HI231.out)) hb); have n2_ := Aside0.mk (below_step (by repeat (first | (with_reducible first | exact HB.out | apply below_alloc | apply pw_below_drewN | apply below_drew1 | refine below_set ?_ (IsS55.ge HI231.out)) | exact HB.out)) hb); clear HI231; clear HB; have HO275 := n0_; have HI231 := n1_; have HB := n2_; clear n0_ n1_ n2_; clear hb ho40; obtain ⟨Ao41, co41, eo41⟩ := Kd.R_slice HO275.out; subst eo41) | ((with_reducible refine gate_callee (f := 25) rfl ?_); refine goesL_ (some 91) rfl rfl Try.func25 (by kernel_rfl) rfl #[.pointer (some ⟨g231, 0, none⟩), .slice Ao41 y273.length co41] rfl (by (try simp only [List.map_toArray, List.map_cons, List.map_nil]); first | done | rfl | (simp only [List.length_drop, List.length_take]; rfl)) ?_; (with_reducible refine (tcb_Task_Is.calls kj25 g231 t268 t269 t270 t271 t272 _ _ y273 true t277 t278 t279 t280 t281 w _ ?side1 ?side2 ?side3 ?side4 ?side5 A37.out).mono ?_); (case side1 => repeat (first | (with_reducible first | exact HI231.out | apply IsS55.alloc | apply IsS55.drewN | apply IsS55.drew | apply IsS55.set_0 | apply IsS55.set_1 | apply IsS55.set_2 | apply IsS55.set_3 | apply IsS55.set_4) | exact HI231.out)); (case side2 => repeat (first | (with_reducible first | exact HB.out | apply below_alloc | apply pw_below_drewN | apply below_drew1 | refine below_set ?_ (IsS55.ge HI231.out)) | exact HB.out)); (case side3 => repeat (first | exact (Kd.R_reads' HO275.out).2.2 | (with_reducible refine Kd.C_alloc ?_ _) | (with_reducible refine Kd.C_drewN ?_ _) | (with_reducible refine Kd.C_drew ?_))); (case side4 => exact (Kd.R_reads' HO275.out).2.1); (case side5 => exact far_slice (IsS55.own_ne HI231.out HO275.out (by decide))); rintro e w42 ⟨rfl, hi, hb, hk⟩; refine ⟨_, rfl, ?_⟩; have n0_ := Aside0.mk (Kd.R_mono (Kd.R_keep (IsS55.apart (show IsS55 w _ g231 t268 t269 t270 t271 t272 from by repeat (first | (with_reducible first | exact HI231.out | apply IsS55.alloc | apply IsS55.drewN | apply IsS55.drew | apply IsS55.set_0 | apply IsS55.set_1 | apply IsS55.set_2 | apply IsS55.set_3 | apply IsS55.set_4) | exact HI231.out)) (by (with_reducible repeat (first | apply Kd.R_alloc | apply Kd.R_drewN | apply Kd.R_drew)); exact HO275.out) (by decide)) hk (fun _ h => h.2)) (fun _ h => h.1)); have n1_ := Aside0.mk (hb); have n2_ := Aside0.mk (hi); clear HO275; clear HB; clear HI231; have HO275 := n0_; have HB := n1_; have HI231 := n2_; clear n0_ n1_ n2_; (try clear hb); (try clear hb2); (try clear hk); (try clear hi); obtain ⟨HGz43, hgz43⟩ := HI231.out; have hcz43_0 := cellS55_0 HGz43; have hcz43_1 := cellS55_1 HGz43; have hcz43_2 := cellS55_2 HGz43; have hcz43_3 := cellS55_3 HGz43; have hcz43_4 := cellS55_4 HGz43; have hfz43_0 := blk_frozen HGz43 0; have hfz43_1 := blk_frozen HGz43 1; have hfz43_2 := blk_frozen HGz43 2; have hfz43_3 := blk_frozen HGz43 3; have hfz43_4 := blk_frozen HGz43 4; clear HGz43 hgz43))
                              go_ret
                              exact ⟨by first | rfl | (simp [errW_none, errW_some] <;> rfl) | (simp [*, errW_none, errW_some] <;> rfl), by repeat (first | (with_reducible first | exact HB.out | apply below_alloc | apply pw_below_drewN | apply below_drew1 | refine below_set ?_ (IsS55.ge HI231.out)) | exact HB.out)⟩
                            · replace c38 := Bool.eq_false_iff.mpr c38
                              subst c38
                              have H1 : (some false) = some r := by rw [if_neg (show ¬ (false = true) by decide)] at H; exact H
                              clear H
                              have H := H1
                              clear H1
                              obtain rfl := Option.some.inj H
                              go_wp2_with (first | ((with_reducible refine gate_dst (N := 90) rfl ?_); refine Kd.R_lit (Kd.int .i64) _ 3 ?hg (N := 90) ?hd (xs := ([2] : List Int)) (inner := [.int .i64 2]) (ok := fun _ => True) (okp := fun _ => True) ?hr ?hp (fun _ hk => hk) trivial (Below.refl _ _) (Nat.le_refl _) (by simp) ?_; (case hd => rfl); (case hg => rfl); (case hr => first | (go_simp; done) | (go_simp; rfl)); (case hp => exact (Reps.one (show Kd.M (Kd.int .i64) _ _ _ 2 [.int .i64 2] from rfl) (Reps.none _ _))); intro v274 w44 ho45 hb hg_ hnew_; clear hg_ hnew_; (first | rw [← Ny273.out] at ho45 | (simp only [Int.reduceToNat] at ho45; rw [← Ny273.out] at ho45)); have n0_ := Aside0.mk (Kd.R_lower ho45 (below_size (by repeat (first | (with_reducible first | exact HB.out | apply below_alloc | apply pw_below_drewN | apply below_drew1 | refine below_set ?_ (IsS55.ge HI231.out)) | exact HB.out)))); have n1_ := Aside0.mk (IsS55.below (by repeat (first | (with_reducible first | exact HI231.out | apply IsS55.alloc | apply IsS55.drewN | apply IsS55.drew | apply IsS55.set_0 | apply IsS55.set_1 | apply IsS55.set_2 | apply IsS55.set_3 | apply IsS55.set_4) | exact HI231.out)) hb); have n2_ := Aside0.mk (below_step (by repeat (first | (with_reducible first | exact HB.out | apply below_alloc | apply pw_below_drewN | apply below_drew1 | refine below_set ?_ (IsS55.ge HI231.out)) | exact HB.out)) hb); clear HI231; clear HB; have HO275 := n0_; have HI231 := n1_; have HB := n2_; clear n0_ n1_ n2_; clear hb ho45; obtain ⟨Ao46, co46, eo46⟩ := Kd.R_slice HO275.out; subst eo46) | ((with_reducible refine gate_callee (f := 25) rfl ?_); refine goesL_ (some 91) rfl rfl Try.func25 (by kernel_rfl) rfl #[.pointer (some ⟨g231, 0, none⟩), .slice Ao46 y273.length co46] rfl (by (try simp only [List.map_toArray, List.map_cons, List.map_nil]); first | done | rfl | (simp only [List.length_drop, List.length_take]; rfl)) ?_; (with_reducible refine (tcb_Task_Is.calls kj25 g231 t268 t269 t270 t271 t272 _ _ y273 false t277 t278 t279 t280 t281 w _ ?side1 ?side2 ?side3 ?side4 ?side5 A37.out).mono ?_); (case side1 => repeat (first | (with_reducible first | exact HI231.out | apply IsS55.alloc | apply IsS55.drewN | apply IsS55.drew | apply IsS55.set_0 | apply IsS55.set_1 | apply IsS55.set_2 | apply IsS55.set_3 | apply IsS55.set_4) | exact HI231.out)); (case side2 => repeat (first | (with_reducible first | exact HB.out | apply below_alloc | apply pw_below_drewN | apply below_drew1 | refine below_set ?_ (IsS55.ge HI231.out)) | exact HB.out)); (case side3 => repeat (first | exact (Kd.R_reads' HO275.out).2.2 | (with_reducible refine Kd.C_alloc ?_ _) | (with_reducible refine Kd.C_drewN ?_ _) | (with_reducible refine Kd.C_drew ?_))); (case side4 => exact (Kd.R_reads' HO275.out).2.1); (case side5 => exact far_slice (IsS55.own_ne HI231.out HO275.out (by decide))); rintro e w47 ⟨rfl, hi, hb, hk⟩; refine ⟨_, rfl, ?_⟩; have n0_ := Aside0.mk (Kd.R_mono (Kd.R_keep (IsS55.apart (show IsS55 w _ g231 t268 t269 t270 t271 t272 from by repeat (first | (with_reducible first | exact HI231.out | apply IsS55.alloc | apply IsS55.drewN | apply IsS55.drew | apply IsS55.set_0 | apply IsS55.set_1 | apply IsS55.set_2 | apply IsS55.set_3 | apply IsS55.set_4) | exact HI231.out)) (by (with_reducible repeat (first | apply Kd.R_alloc | apply Kd.R_drewN | apply Kd.R_drew)); exact HO275.out) (by decide)) hk (fun _ h => h.2)) (fun _ h => h.1)); have n1_ := Aside0.mk (hb); have n2_ := Aside0.mk (hi); clear HO275; clear HB; clear HI231; have HO275 := n0_; have HB := n1_; have HI231 := n2_; clear n0_ n1_ n2_; (try clear hb); (try clear hb2); (try clear hk); (try clear hi)))
                              go_ret
                              exact ⟨by first | rfl | (simp [errW_none, errW_some] <;> rfl) | (simp [*, errW_none, errW_some] <;> rfl), by repeat (first | (with_reducible first | exact HB.out | apply below_alloc | apply pw_below_drewN | apply below_drew1 | refine below_set ?_ (IsS55.ge HI231.out)) | exact HB.out)⟩
                          · rw [if_neg c36] at H
                            have c36b0 : decide (0 < (wrap64 (Int.tmod a2 8))) = false := decide_eq_false c36
                            clear c36
                            obtain ⟨y282, hy282⟩ : ∃ y_ : List Int, y_ = (([16] : List Int)) := ⟨_, rfl⟩
                            replace H : ((tcb_Task_Is.f kj25 t268 t269 t270 t271 t272 y282).bind fun bt285 => (if bt285.1 = true then (some (bt285.2.1 == 0)) else (some false))) = some r := by first | (rw [hy282]; with_reducible exact H) | (have H2_ := (Option.bind_some _ _).symm.trans H; rw [hy282]; with_reducible exact H2_) | (have H2_ := (Option.bind_some _ _).symm.trans H; with_reducible exact H2_) | with_reducible exact H | (rw [hy282]; exact H) | exact H
                            have Ny282 := Aside0.mk hy282
                            clear hy282
                            replace H := Option.bind_eq_some_iff.mp H
                            obtain ⟨⟨t285, t286, t287, t288, t289, t290⟩, A480, H⟩ := H
                            replace H : (if t285 = true then (some (t286 == 0)) else (some false)) = some r := H
                            have A48 := Aside0.mk A480
                            clear A480
                            by_cases c49 : t285 = true
                            · subst c49
                              have H1 : (some (t286 == 0)) = some r := by rw [if_pos rfl] at H; exact H
                              clear H
                              have H := H1
                              clear H1
                              obtain rfl := Option.some.inj H
                              go_wp2_with (first | ((with_reducible refine gate_dst (N := 103) rfl ?_); refine Kd.R_lit (Kd.int .i64) _ 3 ?hg (N := 103) ?hd (xs := ([16] : List Int)) (inner := [.int .i64 16]) (ok := fun _ => True) (okp := fun _ => True) ?hr ?hp (fun _ hk => hk) trivial (Below.refl _ _) (Nat.le_refl _) (by simp) ?_; (case hd => rfl); (case hg => rfl); (case hr => first | (go_simp; done) | (go_simp; rfl)); (case hp => exact (Reps.one (show Kd.M (Kd.int .i64) _ _ _ 16 [.int .i64 16] from rfl) (Reps.none _ _))); intro v283 w50 ho51 hb hg_ hnew_; clear hg_ hnew_; (first | rw [← Ny282.out] at ho51 | (simp only [Int.reduceToNat] at ho51; rw [← Ny282.out] at ho51)); have n0_ := Aside0.mk (Kd.R_lower ho51 (below_size (by repeat (first | (with_reducible first | exact HB.out | apply below_alloc | apply pw_below_drewN | apply below_drew1 | refine below_set ?_ (IsS55.ge HI231.out)) | exact HB.out)))); have n1_ := Aside0.mk (IsS55.below (by repeat (first | (with_reducible first | exact HI231.out | apply IsS55.alloc | apply IsS55.drewN | apply IsS55.drew | apply IsS55.set_0 | apply IsS55.set_1 | apply IsS55.set_2 | apply IsS55.set_3 | apply IsS55.set_4) | exact HI231.out)) hb); have n2_ := Aside0.mk (below_step (by repeat (first | (with_reducible first | exact HB.out | apply below_alloc | apply pw_below_drewN | apply below_drew1 | refine below_set ?_ (IsS55.ge HI231.out)) | exact HB.out)) hb); clear HI231; clear HB; have HO284 := n0_; have HI231 := n1_; have HB := n2_; clear n0_ n1_ n2_; clear hb ho51; obtain ⟨Ao52, co52, eo52⟩ := Kd.R_slice HO284.out; subst eo52) | ((with_reducible refine gate_callee (f := 25) rfl ?_); refine goesL_ (some 104) rfl rfl Try.func25 (by kernel_rfl) rfl #[.pointer (some ⟨g231, 0, none⟩), .slice Ao52 y282.length co52] rfl (by (try simp only [List.map_toArray, List.map_cons, List.map_nil]); first | done | rfl | (simp only [List.length_drop, List.length_take]; rfl)) ?_; (with_reducible refine (tcb_Task_Is.calls kj25 g231 t268 t269 t270 t271 t272 _ _ y282 true t286 t287 t288 t289 t290 w _ ?side1 ?side2 ?side3 ?side4 ?side5 A48.out).mono ?_); (case side1 => repeat (first | (with_reducible first | exact HI231.out | apply IsS55.alloc | apply IsS55.drewN | apply IsS55.drew | apply IsS55.set_0 | apply IsS55.set_1 | apply IsS55.set_2 | apply IsS55.set_3 | apply IsS55.set_4) | exact HI231.out)); (case side2 => repeat (first | (with_reducible first | exact HB.out | apply below_alloc | apply pw_below_drewN | apply below_drew1 | refine below_set ?_ (IsS55.ge HI231.out)) | exact HB.out)); (case side3 => repeat (first | exact (Kd.R_reads' HO284.out).2.2 | (with_reducible refine Kd.C_alloc ?_ _) | (with_reducible refine Kd.C_drewN ?_ _) | (with_reducible refine Kd.C_drew ?_))); (case side4 => exact (Kd.R_reads' HO284.out).2.1); (case side5 => exact far_slice (IsS55.own_ne HI231.out HO284.out (by decide))); rintro e w53 ⟨rfl, hi, hb, hk⟩; refine ⟨_, rfl, ?_⟩; have n0_ := Aside0.mk (Kd.R_mono (Kd.R_keep (IsS55.apart (show IsS55 w _ g231 t268 t269 t270 t271 t272 from by repeat (first | (with_reducible first | exact HI231.out | apply IsS55.alloc | apply IsS55.drewN | apply IsS55.drew | apply IsS55.set_0 | apply IsS55.set_1 | apply IsS55.set_2 | apply IsS55.set_3 | apply IsS55.set_4) | exact HI231.out)) (by (with_reducible repeat (first | apply Kd.R_alloc | apply Kd.R_drewN | apply Kd.R_drew)); exact HO284.out) (by decide)) hk (fun _ h => h.2)) (fun _ h => h.1)); have n1_ := Aside0.mk (hb); have n2_ := Aside0.mk (hi); clear HO284; clear HB; clear HI231; have HO284 := n0_; have HB := n1_; have HI231 := n2_; clear n0_ n1_ n2_; (try clear hb); (try clear hb2); (try clear hk); (try clear hi); obtain ⟨HGz54, hgz54⟩ := HI231.out; have hcz54_0 := cellS55_0 HGz54; have hcz54_1 := cellS55_1 HGz54; have hcz54_2 := cellS55_2 HGz54; have hcz54_3 := cellS55_3 HGz54; have hcz54_4 := cellS55_4 HGz54; have hfz54_0 := blk_frozen HGz54 0; have hfz54_1 := blk_frozen HGz54 1; have hfz54_2 := blk_frozen HGz54 2; have hfz54_3 := blk_frozen HGz54 3; have hfz54_4 := blk_frozen HGz54 4; clear HGz54 hgz54))
                              go_ret
                              exact ⟨by first | rfl | (simp [errW_none, errW_some] <;> rfl) | (simp [*, errW_none, errW_some] <;> rfl), by repeat (first | (with_reducible first | exact HB.out | apply below_alloc | apply pw_below_drewN | apply below_drew1 | refine below_set ?_ (IsS55.ge HI231.out)) | exact HB.out)⟩
                            · replace c49 := Bool.eq_false_iff.mpr c49
                              subst c49
                              have H1 : (some false) = some r := by rw [if_neg (show ¬ (false = true) by decide)] at H; exact H
                              clear H
                              have H := H1
                              clear H1
                              obtain rfl := Option.some.inj H
                              go_wp2_with (first | ((with_reducible refine gate_dst (N := 103) rfl ?_); refine Kd.R_lit (Kd.int .i64) _ 3 ?hg (N := 103) ?hd (xs := ([16] : List Int)) (inner := [.int .i64 16]) (ok := fun _ => True) (okp := fun _ => True) ?hr ?hp (fun _ hk => hk) trivial (Below.refl _ _) (Nat.le_refl _) (by simp) ?_; (case hd => rfl); (case hg => rfl); (case hr => first | (go_simp; done) | (go_simp; rfl)); (case hp => exact (Reps.one (show Kd.M (Kd.int .i64) _ _ _ 16 [.int .i64 16] from rfl) (Reps.none _ _))); intro v283 w55 ho56 hb hg_ hnew_; clear hg_ hnew_; (first | rw [← Ny282.out] at ho56 | (simp only [Int.reduceToNat] at ho56; rw [← Ny282.out] at ho56)); have n0_ := Aside0.mk (Kd.R_lower ho56 (below_size (by repeat (first | (with_reducible first | exact HB.out | apply below_alloc | apply pw_below_drewN | apply below_drew1 | refine below_set ?_ (IsS55.ge HI231.out)) | exact HB.out)))); have n1_ := Aside0.mk (IsS55.below (by repeat (first | (with_reducible first | exact HI231.out | apply IsS55.alloc | apply IsS55.drewN | apply IsS55.drew | apply IsS55.set_0 | apply IsS55.set_1 | apply IsS55.set_2 | apply IsS55.set_3 | apply IsS55.set_4) | exact HI231.out)) hb); have n2_ := Aside0.mk (below_step (by repeat (first | (with_reducible first | exact HB.out | apply below_alloc | apply pw_below_drewN | apply below_drew1 | refine below_set ?_ (IsS55.ge HI231.out)) | exact HB.out)) hb); clear HI231; clear HB; have HO284 := n0_; have HI231 := n1_; have HB := n2_; clear n0_ n1_ n2_; clear hb ho56; obtain ⟨Ao57, co57, eo57⟩ := Kd.R_slice HO284.out; subst eo57) | ((with_reducible refine gate_callee (f := 25) rfl ?_); refine goesL_ (some 104) rfl rfl Try.func25 (by kernel_rfl) rfl #[.pointer (some ⟨g231, 0, none⟩), .slice Ao57 y282.length co57] rfl (by (try simp only [List.map_toArray, List.map_cons, List.map_nil]); first | done | rfl | (simp only [List.length_drop, List.length_take]; rfl)) ?_; (with_reducible refine (tcb_Task_Is.calls kj25 g231 t268 t269 t270 t271 t272 _ _ y282 false t286 t287 t288 t289 t290 w _ ?side1 ?side2 ?side3 ?side4 ?side5 A48.out).mono ?_); (case side1 => repeat (first | (with_reducible first | exact HI231.out | apply IsS55.alloc | apply IsS55.drewN | apply IsS55.drew | apply IsS55.set_0 | apply IsS55.set_1 | apply IsS55.set_2 | apply IsS55.set_3 | apply IsS55.set_4) | exact HI231.out)); (case side2 => repeat (first | (with_reducible first | exact HB.out | apply below_alloc | apply pw_below_drewN | apply below_drew1 | refine below_set ?_ (IsS55.ge HI231.out)) | exact HB.out)); (case side3 => repeat (first | exact (Kd.R_reads' HO284.out).2.2 | (with_reducible refine Kd.C_alloc ?_ _) | (with_reducible refine Kd.C_drewN ?_ _) | (with_reducible refine Kd.C_drew ?_))); (case side4 => exact (Kd.R_reads' HO284.out).2.1); (case side5 => exact far_slice (IsS55.own_ne HI231.out HO284.out (by decide))); rintro e w58 ⟨rfl, hi, hb, hk⟩; refine ⟨_, rfl, ?_⟩; have n0_ := Aside0.mk (Kd.R_mono (Kd.R_keep (IsS55.apart (show IsS55 w _ g231 t268 t269 t270 t271 t272 from by repeat (first | (with_reducible first | exact HI231.out | apply IsS55.alloc | apply IsS55.drewN | apply IsS55.drew | apply IsS55.set_0 | apply IsS55.set_1 | apply IsS55.set_2 | apply IsS55.set_3 | apply IsS55.set_4) | exact HI231.out)) (by (with_reducible repeat (first | apply Kd.R_alloc | apply Kd.R_drewN | apply Kd.R_drew)); exact HO284.out) (by decide)) hk (fun _ h => h.2)) (fun _ h => h.1)); have n1_ := Aside0.mk (hb); have n2_ := Aside0.mk (hi); clear HO284; clear HB; clear HI231; have HO284 := n0_; have HB := n1_; have HI231 := n2_; clear n0_ n1_ n2_; (try clear hb); (try clear hb2); (try clear hk); (try clear hi)))
                              go_ret
                              exact ⟨by first | rfl | (simp [errW_none, errW_some] <;> rfl) | (simp [*, errW_none, errW_some] <;> rfl), by repeat (first | (with_reducible first | exact HB.out | apply below_alloc | apply pw_below_drewN | apply below_drew1 | refine below_set ?_ (IsS55.ge HI231.out)) | exact HB.out)⟩
  · replace c6 := Bool.eq_false_iff.mpr c6
    subst c6
    have H1 : (some false) = some r := by rw [if_neg (show ¬ (false = true) by decide)] at H; exact H
    clear H
    have H := H1
    clear H1
    obtain rfl := Option.some.inj H
    go_enter Try.func8, Try.ntmps8
    go_wp2_with (first | ((with_reducible refine gate_callee (f := 21) rfl ?_); refine goesL_ (some 16) rfl rfl Try.func21 (by kernel_rfl) rfl #[] rfl (by (try simp only [List.map_toArray, List.map_cons, List.map_nil]); first | done | rfl | (simp only [List.length_drop, List.length_take]; rfl)) ?_; (with_reducible refine (detentlaw10_known.calls k  false _ A5.out).mono ?_); rintro e w59 ⟨rfl, hb⟩; refine ⟨_, rfl, ?_⟩; have n0_ := Aside0.mk (below_step (by repeat (first | (with_reducible first | exact HB.out | apply below_alloc | apply pw_below_drewN | apply below_drew1) | exact HB.out)) hb); clear HB; have HB := n0_; clear n0_; (try clear hb); (try clear hb2); (try clear hk); (try clear hi)))
    go_ret
    exact ⟨by first | rfl | (simp [errW_none, errW_some] <;> rfl) | (simp [*, errW_none, errW_some] <;> rfl), by repeat (first | (with_reducible first | exact HB.out | apply below_alloc | apply pw_below_drewN | apply below_drew1) | exact HB.out)⟩

/-- THE ONE PURE STATEMENT of detentlaw10_TaskForgets: yours. -/
def detentlaw10_TaskForgets.Pure : Prop := ∀ (a0 : Int) (a1 : Int) (a2 : Int) (a3 : Bool), (Lit.int .u8 a0).wf = true → (Lit.int .u8 a1).wf = true → (Lit.int .u8 a2).wf = true → ∃ k, detentlaw10_TaskForgets.f k a0 a1 a2 a3 = some true
theorem detentlaw10_TaskForgets.walk (P : detentlaw10_TaskForgets.Pure) (a0 : Int) (a1 : Int) (a2 : Int) (a3 : Bool) (w : World) (w0 : (Lit.int .u8 a0).wf = true) (w1 : (Lit.int .u8 a1).wf = true) (w2 : (Lit.int .u8 a2).wf = true) :
    Calls Try.prog 8 #[.int .u8 a0, .int .u8 a1, .int .u8 a2, .bool a3] w fun e w' => e = .returned (.bool true) ∧ Below w.heap.size w w' := by
  obtain ⟨k, h⟩ := P a0 a1 a2 a3 w0 w1 w2
  refine (detentlaw10_TaskForgets.calls k a0 a1 a2 a3 true w h).mono ?_
  rintro e w' ⟨rfl, hd⟩
  exact ⟨rfl, hd⟩

end Go.Proofs.Ytgkemmhpfekoaaa.PTaskForgets
