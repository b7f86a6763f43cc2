-- Laid by a program out of Lean's own print of the program; not by print.sh as it stands (NOTES.md tells what differs)
import Derived.Test.YtgkemmhpfekoaaaPTaskBothx0
import Derived.Test.YtgkemmhpfekoaaaPTaskBothx2
import Derived.Test.YtgkemmhpfekoaaaPTaskBothx3
namespace Go.Proofs.Ytgkemmhpfekoaaa.PTaskBoth
open Go.RowKit Go.Proofs.YtgkemmhpfekoaaaW.PrintWords Go.Proofs.YtgkemmhpfekoaaaW.PrintLast Go.Proofs.YtgkemmhpfekoaaaW.PrintMore
attribute [local go_sem] max2_int min2_int max_two min_two max_three min_three max_four min_four   -- for this text's walks alone
set_option linter.unusedVariables false
set_option linter.unusedSimpArgs false

/-! ### detentlaw10_TaskBoth: function 9 -/
mutual
def detentlaw10_TaskBoth.j0 : Nat → Bool → Int → Int → Int → Int → Bool → Option (Bool)
  | 0, _, _, _, _, _, _ => none
  | k + 1, x0, x235000, x235001, x235002, x235003, x235004 => (tcb_Task_Is.f k x235000 x235001 x235002 x235003 x235004 (([12] : List Int))).bind fun bt264 => (if bt264.1 = true then (if x0 = true then ((tcb_Task_Wake.f k bt264.2.1 bt264.2.2.1 bt264.2.2.2.1 bt264.2.2.2.2.1 bt264.2.2.2.2.2).bind fun bt270 => (if bt270.1 = true then (if bt270.2.1 = 0 then ((tcb_Task_Is.f k bt270.2.2.1 bt270.2.2.2.1 bt270.2.2.2.2.1 bt270.2.2.2.2.2.1 bt270.2.2.2.2.2.2 (([8] : List Int))).bind fun bt280 => (detentlaw10_TaskBoth.j1 k (!bt280.1) bt280.2.1 bt280.2.2.1 bt280.2.2.2.1 bt280.2.2.2.2.1 bt280.2.2.2.2.2)) else (detentlaw10_TaskBoth.j1 k true bt270.2.2.1 bt270.2.2.2.1 bt270.2.2.2.2.1 bt270.2.2.2.2.2.1 bt270.2.2.2.2.2.2)) else (detentlaw10_TaskBoth.j1 k true bt270.2.2.1 bt270.2.2.2.1 bt270.2.2.2.2.1 bt270.2.2.2.2.2.1 bt270.2.2.2.2.2.2))) else ((tcb_Task_Resume.f k bt264.2.1 bt264.2.2.1 bt264.2.2.2.1 bt264.2.2.2.2.1 bt264.2.2.2.2.2 true).bind fun bt302 => (if bt302.1 = true then (detentlaw10_TaskBoth.j2 k true bt302.2.2.1 bt302.2.2.2.1 bt302.2.2.2.2.1 bt302.2.2.2.2.2.1 bt302.2.2.2.2.2.2) else (if bt302.2.1 = 0 then ((tcb_Task_Is.f k bt302.2.2.1 bt302.2.2.2.1 bt302.2.2.2.2.1 bt302.2.2.2.2.2.1 bt302.2.2.2.2.2.2 (([4] : List Int))).bind fun bt312 => (detentlaw10_TaskBoth.j2 k (!bt312.1) bt312.2.1 bt312.2.2.1 bt312.2.2.2.1 bt312.2.2.2.2.1 bt312.2.2.2.2.2)) else (detentlaw10_TaskBoth.j2 k true bt302.2.2.1 bt302.2.2.2.1 bt302.2.2.2.2.1 bt302.2.2.2.2.2.1 bt302.2.2.2.2.2.2))))) else (some false))
def detentlaw10_TaskBoth.j1 : Nat → Bool → Int → Int → Int → Int → Bool → Option (Bool)
  | 0, _, _, _, _, _, _ => none
  | k + 1, x47, x235000, x235001, x235002, x235003, x235004 => if x47 = true then (some false) else ((tcb_Task_Resume.f k x235000 x235001 x235002 x235003 x235004 true).bind fun bt286 => (if bt286.1 = true then (if bt286.2.1 = 0 then ((tcb_Task_Is.f k bt286.2.2.1 bt286.2.2.2.1 bt286.2.2.2.2.1 bt286.2.2.2.2.2.1 bt286.2.2.2.2.2.2 (([2] : List Int))).bind fun bt296 => (some bt296.1)) else (some false)) else (some false)))
def detentlaw10_TaskBoth.j2 : Nat → Bool → Int → Int → Int → Int → Bool → Option (Bool)
  | 0, _, _, _, _, _, _ => none
  | k + 1, x78, x235000, x235001, x235002, x235003, x235004 => if x78 = true then (some false) else ((tcb_Task_Wake.f k x235000 x235001 x235002 x235003 x235004).bind fun bt318 => (if bt318.1 = true then (if bt318.2.1 = 0 then ((tcb_Task_Is.f k bt318.2.2.1 bt318.2.2.2.1 bt318.2.2.2.2.1 bt318.2.2.2.2.2.1 bt318.2.2.2.2.2.2 (([2] : List Int))).bind fun bt328 => (some bt328.1)) else (some false)) else (some false)))
end
def detentlaw10_TaskBoth.f (k : Nat) (a0 : Bool) (a1 : Bool) : Option (Bool) := (detentlaw10_known.f k).bind fun t228 => (if t228 = true then ((tcb_New.f).bind fun bt229 => ((tcb_Task_Act.f k bt229.1 bt229.2.1 bt229.2.2.1 bt229.2.2.2.1 bt229.2.2.2.2).bind fun bt235 => ((tcb_Task_Sleep.f k bt235.2.2.1 bt235.2.2.2.1 bt235.2.2.2.2.1 bt235.2.2.2.2.2.1 bt235.2.2.2.2.2.2).bind fun bt242 => ((tcb_Task_Suspend.f k bt242.2.2.1 bt242.2.2.2.1 bt242.2.2.2.2.1 bt242.2.2.2.2.2.1 bt242.2.2.2.2.2.2).bind fun bt249 => (if a1 = true then ((tcb_Task_Suspend.f k bt249.2.1 bt249.2.2.1 bt249.2.2.2.1 bt249.2.2.2.2.1 bt249.2.2.2.2.2).bind fun bt255 => (detentlaw10_TaskBoth.j0 k a0 bt255.2.1 bt255.2.2.1 bt255.2.2.2.1 bt255.2.2.2.2.1 bt255.2.2.2.2.2)) else (detentlaw10_TaskBoth.j0 k a0 bt249.2.1 bt249.2.2.1 bt249.2.2.2.1 bt249.2.2.2.2.1 bt249.2.2.2.2.2)))))) else (some false))
theorem detentlaw10_TaskBoth.mono_l : ∀ k, (∀ y0 y1 y2 y3 y4 y5, LeO (detentlaw10_TaskBoth.j0 k y0 y1 y2 y3 y4 y5) (detentlaw10_TaskBoth.j0 (k + 1) y0 y1 y2 y3 y4 y5)) ∧ (∀ y0 y1 y2 y3 y4 y5, LeO (detentlaw10_TaskBoth.j1 k y0 y1 y2 y3 y4 y5) (detentlaw10_TaskBoth.j1 (k + 1) y0 y1 y2 y3 y4 y5)) ∧ (∀ y0 y1 y2 y3 y4 y5, LeO (detentlaw10_TaskBoth.j2 k y0 y1 y2 y3 y4 y5) (detentlaw10_TaskBoth.j2 (k + 1) y0 y1 y2 y3 y4 y5))
  | 0 => ⟨fun _ _ _ _ _ _ r h => by simp [detentlaw10_TaskBoth.j0] at h, fun _ _ _ _ _ _ r h => by simp [detentlaw10_TaskBoth.j1] at h, fun _ _ _ _ _ _ r h => by simp [detentlaw10_TaskBoth.j2] at h⟩
  | k + 1 => by
    obtain ⟨ih0, ih1, ih2⟩ := detentlaw10_TaskBoth.mono_l k
    refine ⟨?_, ?_, ?_⟩
    · intro y0 y1 y2 y3 y4 y5
      unfold detentlaw10_TaskBoth.j0
      repeat' first
      | (with_reducible exact ih0 _ _ _ _ _ _)
      | (with_reducible exact ih1 _ _ _ _ _ _)
      | (with_reducible exact ih2 _ _ _ _ _ _)
      | (with_reducible exact detentlaw10_known.mono _)
      | (with_reducible exact tcb_Task_Act.mono _ _ _ _ _ _)
      | (with_reducible exact tcb_Task_Is.mono _ _ _ _ _ _ _)
      | (with_reducible exact tcb_Task_Resume.mono _ _ _ _ _ _ _)
      | (with_reducible exact tcb_Task_Sleep.mono _ _ _ _ _ _)
      | (with_reducible exact tcb_Task_Suspend.mono _ _ _ _ _ _)
      | (with_reducible exact tcb_Task_Wake.mono _ _ _ _ _ _)
      | (with_reducible exact LeO.refl _)
      | (with_reducible exact LeO.none _)
      | (with_reducible refine LeO.ite ?_ ?_)
      | (with_reducible refine LeO.bind ?_ (fun _ => ?_))
      | exact ih0 _ _ _ _ _ _
      | exact ih1 _ _ _ _ _ _
      | exact ih2 _ _ _ _ _ _
      | exact detentlaw10_known.mono _
      | exact tcb_Task_Act.mono _ _ _ _ _ _
      | exact tcb_Task_Is.mono _ _ _ _ _ _ _
      | exact tcb_Task_Resume.mono _ _ _ _ _ _ _
      | exact tcb_Task_Sleep.mono _ _ _ _ _ _
      | exact tcb_Task_Suspend.mono _ _ _ _ _ _
      | exact tcb_Task_Wake.mono _ _ _ _ _ _
      | exact LeO.none _
      | refine LeO.ite ?_ ?_
      | refine LeO.bind ?_ (fun _ => ?_)
    · intro y0 y1 y2 y3 y4 y5
      unfold detentlaw10_TaskBoth.j1
      repeat' first
      | (with_reducible exact ih0 _ _ _ _ _ _)
      | (with_reducible exact ih1 _ _ _ _ _ _)
      | (with_reducible exact ih2 _ _ _ _ _ _)
      | (with_reducible exact detentlaw10_known.mono _)
      | (with_reducible exact tcb_Task_Act.mono _ _ _ _ _ _)
      | (with_reducible exact tcb_Task_Is.mono _ _ _ _ _ _ _)
      | (with_reducible exact tcb_Task_Resume.mono _ _ _ _ _ _ _)
      | (with_reducible exact tcb_Task_Sleep.mono _ _ _ _ _ _)
      | (with_reducible exact tcb_Task_Suspend.mono _ _ _ _ _ _)
      | (with_reducible exact tcb_Task_Wake.mono _ _ _ _ _ _)
      | (with_reducible exact LeO.refl _)
      | (with_reducible exact LeO.none _)
      | (with_reducible refine LeO.ite ?_ ?_)
      | (with_reducible refine LeO.bind ?_ (fun _ => ?_))
      | exact ih0 _ _ _ _ _ _
      | exact ih1 _ _ _ _ _ _
      | exact ih2 _ _ _ _ _ _
      | exact detentlaw10_known.mono _
      | exact tcb_Task_Act.mono _ _ _ _ _ _
      | exact tcb_Task_Is.mono _ _ _ _ _ _ _
      | exact tcb_Task_Resume.mono _ _ _ _ _ _ _
      | exact tcb_Task_Sleep.mono _ _ _ _ _ _
      | exact tcb_Task_Suspend.mono _ _ _ _ _ _
      | exact tcb_Task_Wake.mono _ _ _ _ _ _
      | exact LeO.none _
      | refine LeO.ite ?_ ?_
      | refine LeO.bind ?_ (fun _ => ?_)
    · intro y0 y1 y2 y3 y4 y5
      unfold detentlaw10_TaskBoth.j2
      repeat' first
      | (with_reducible exact ih0 _ _ _ _ _ _)
      | (with_reducible exact ih1 _ _ _ _ _ _)
      | (with_reducible exact ih2 _ _ _ _ _ _)
      | (with_reducible exact detentlaw10_known.mono _)
      | (with_reducible exact tcb_Task_Act.mono _ _ _ _ _ _)
      | (with_reducible exact tcb_Task_Is.mono _ _ _ _ _ _ _)
      | (with_reducible exact tcb_Task_Resume.mono _ _ _ _ _ _ _)
      | (with_reducible exact tcb_Task_Sleep.mono _ _ _ _ _ _)
      | (with_reducible exact tcb_Task_Suspend.mono _ _ _ _ _ _)
      | (with_reducible exact tcb_Task_Wake.mono _ _ _ _ _ _)
      | (with_reducible exact LeO.refl _)
      | (with_reducible exact LeO.none _)
      | (with_reducible refine LeO.ite ?_ ?_)
      | (with_reducible refine LeO.bind ?_ (fun _ => ?_))
      | exact ih0 _ _ _ _ _ _
      | exact ih1 _ _ _ _ _ _
      | exact ih2 _ _ _ _ _ _
      | exact detentlaw10_known.mono _
      | exact tcb_Task_Act.mono _ _ _ _ _ _
      | exact tcb_Task_Is.mono _ _ _ _ _ _ _
      | exact tcb_Task_Resume.mono _ _ _ _ _ _ _
      | exact tcb_Task_Sleep.mono _ _ _ _ _ _
      | exact tcb_Task_Suspend.mono _ _ _ _ _ _
      | exact tcb_Task_Wake.mono _ _ _ _ _ _
      | exact LeO.none _
      | refine LeO.ite ?_ ?_
      | refine LeO.bind ?_ (fun _ => ?_)
theorem detentlaw10_TaskBoth.mono : ∀ a0 a1 k, LeO (detentlaw10_TaskBoth.f k a0 a1) (detentlaw10_TaskBoth.f (k + 1) a0 a1) := by
  intro a0 a1 k
  obtain ⟨ih0, ih1, ih2⟩ := detentlaw10_TaskBoth.mono_l k
  unfold detentlaw10_TaskBoth.f
  repeat' first
      | (with_reducible exact ih0 _ _ _ _ _ _)
      | (with_reducible exact ih1 _ _ _ _ _ _)
      | (with_reducible exact ih2 _ _ _ _ _ _)
      | (with_reducible exact detentlaw10_known.mono _)
      | (with_reducible exact tcb_Task_Act.mono _ _ _ _ _ _)
      | (with_reducible exact tcb_Task_Is.mono _ _ _ _ _ _ _)
      | (with_reducible exact tcb_Task_Resume.mono _ _ _ _ _ _ _)
      | (with_reducible exact tcb_Task_Sleep.mono _ _ _ _ _ _)
      | (with_reducible exact tcb_Task_Suspend.mono _ _ _ _ _ _)
      | (with_reducible exact tcb_Task_Wake.mono _ _ _ _ _ _)
      | (with_reducible exact LeO.refl _)
      | (with_reducible exact LeO.none _)
      | (with_reducible refine LeO.ite ?_ ?_)
      | (with_reducible refine LeO.bind ?_ (fun _ => ?_))
      | exact ih0 _ _ _ _ _ _
      | exact ih1 _ _ _ _ _ _
      | exact ih2 _ _ _ _ _ _
      | exact detentlaw10_known.mono _
      | exact tcb_Task_Act.mono _ _ _ _ _ _
      | exact tcb_Task_Is.mono _ _ _ _ _ _ _
      | exact tcb_Task_Resume.mono _ _ _ _ _ _ _
      | exact tcb_Task_Sleep.mono _ _ _ _ _ _
      | exact tcb_Task_Suspend.mono _ _ _ _ _ _
      | exact tcb_Task_Wake.mono _ _ _ _ _ _
      | exact LeO.none _
      | refine LeO.ite ?_ ?_
      | refine LeO.bind ?_ (fun _ => ?_)
set_option maxHeartbeats 8000000 in
set_option maxRecDepth 100000 in
theorem detentlaw10_TaskBoth.calls (k : Nat) (a0 : Bool) (a1 : Bool) (r : Bool) (w : World) (h : detentlaw10_TaskBoth.f k a0 a1 = some r) :
    Calls Try.prog 9 #[.bool a0, .bool a1] w fun e w' => e = .returned (.bool r) ∧ Below w.heap.size w w' := by
  have HB := Aside0.mk (Below.refl w.heap.size w)
  have H : ((detentlaw10_known.f k).bind fun t228 => (if t228 = true then ((tcb_New.f).bind fun bt229 => ((tcb_Task_Act.f k bt229.1 bt229.2.1 bt229.2.2.1 bt229.2.2.2.1 bt229.2.2.2.2).bind fun bt235 => ((tcb_Task_Sleep.f k bt235.2.2.1 bt235.2.2.2.1 bt235.2.2.2.2.1 bt235.2.2.2.2.2.1 bt235.2.2.2.2.2.2).bind fun bt242 => ((tcb_Task_Suspend.f k bt242.2.2.1 bt242.2.2.2.1 bt242.2.2.2.2.1 bt242.2.2.2.2.2.1 bt242.2.2.2.2.2.2).bind fun bt249 => (if a1 = true then ((tcb_Task_Suspend.f k bt249.2.1 bt249.2.2.1 bt249.2.2.2.1 bt249.2.2.2.2.1 bt249.2.2.2.2.2).bind fun bt255 => (detentlaw10_TaskBoth.j0 k a0 bt255.2.1 bt255.2.2.1 bt255.2.2.2.1 bt255.2.2.2.2.1 bt255.2.2.2.2.2)) else (detentlaw10_TaskBoth.j0 k a0 bt249.2.1 bt249.2.2.1 bt249.2.2.2.1 bt249.2.2.2.2.1 bt249.2.2.2.2.2)))))) else (some false))) = some r := h
  clear h
  replace H := Option.bind_eq_some_iff.mp H
  obtain ⟨t228, A30, H⟩ := H
  replace H : (if t228 = true then ((tcb_New.f).bind fun bt229 => ((tcb_Task_Act.f k bt229.1 bt229.2.1 bt229.2.2.1 bt229.2.2.2.1 bt229.2.2.2.2).bind fun bt235 => ((tcb_Task_Sleep.f k bt235.2.2.1 bt235.2.2.2.1 bt235.2.2.2.2.1 bt235.2.2.2.2.2.1 bt235.2.2.2.2.2.2).bind fun bt242 => ((tcb_Task_Suspend.f k bt242.2.2.1 bt242.2.2.2.1 bt242.2.2.2.2.1 bt242.2.2.2.2.2.1 bt242.2.2.2.2.2.2).bind fun bt249 => (if a1 = true then ((tcb_Task_Suspend.f k bt249.2.1 bt249.2.2.1 bt249.2.2.2.1 bt249.2.2.2.2.1 bt249.2.2.2.2.2).bind fun bt255 => (detentlaw10_TaskBoth.j0 k a0 bt255.2.1 bt255.2.2.1 bt255.2.2.2.1 bt255.2.2.2.2.1 bt255.2.2.2.2.2)) else (detentlaw10_TaskBoth.j0 k a0 bt249.2.1 bt249.2.2.1 bt249.2.2.2.1 bt249.2.2.2.2.1 bt249.2.2.2.2.2)))))) else (some false)) = some r := H
  have A3 := Aside0.mk A30
  clear A30
  by_cases c4 : t228 = true
  · subst c4
    have H1 : ((tcb_New.f).bind fun bt229 => ((tcb_Task_Act.f k bt229.1 bt229.2.1 bt229.2.2.1 bt229.2.2.2.1 bt229.2.2.2.2).bind fun bt235 => ((tcb_Task_Sleep.f k bt235.2.2.1 bt235.2.2.2.1 bt235.2.2.2.2.1 bt235.2.2.2.2.2.1 bt235.2.2.2.2.2.2).bind fun bt242 => ((tcb_Task_Suspend.f k bt242.2.2.1 bt242.2.2.2.1 bt242.2.2.2.2.1 bt242.2.2.2.2.2.1 bt242.2.2.2.2.2.2).bind fun bt249 => (if a1 = true then ((tcb_Task_Suspend.f k bt249.2.1 bt249.2.2.1 bt249.2.2.2.1 bt249.2.2.2.2.1 bt249.2.2.2.2.2).bind fun bt255 => (detentlaw10_TaskBoth.j0 k a0 bt255.2.1 bt255.2.2.1 bt255.2.2.2.1 bt255.2.2.2.2.1 bt255.2.2.2.2.2)) else (detentlaw10_TaskBoth.j0 k a0 bt249.2.1 bt249.2.2.1 bt249.2.2.2.1 bt249.2.2.2.2.1 bt249.2.2.2.2.2)))))) = some r := by rw [if_pos rfl] at H; exact H
    clear H
    have H := H1
    clear H1
    replace H := Option.bind_eq_some_iff.mp H
    obtain ⟨⟨t229, t230, t231, t232, t233⟩, A50, H⟩ := H
    replace H : ((tcb_Task_Act.f k t229 t230 t231 t232 t233).bind fun bt235 => ((tcb_Task_Sleep.f k bt235.2.2.1 bt235.2.2.2.1 bt235.2.2.2.2.1 bt235.2.2.2.2.2.1 bt235.2.2.2.2.2.2).bind fun bt242 => ((tcb_Task_Suspend.f k bt242.2.2.1 bt242.2.2.2.1 bt242.2.2.2.2.1 bt242.2.2.2.2.2.1 bt242.2.2.2.2.2.2).bind fun bt249 => (if a1 = true then ((tcb_Task_Suspend.f k bt249.2.1 bt249.2.2.1 bt249.2.2.2.1 bt249.2.2.2.2.1 bt249.2.2.2.2.2).bind fun bt255 => (detentlaw10_TaskBoth.j0 k a0 bt255.2.1 bt255.2.2.1 bt255.2.2.2.1 bt255.2.2.2.2.1 bt255.2.2.2.2.2)) else (detentlaw10_TaskBoth.j0 k a0 bt249.2.1 bt249.2.2.1 bt249.2.2.2.1 bt249.2.2.2.2.1 bt249.2.2.2.2.2))))) = some r := H
    have A5 := Aside0.mk A50
    clear A50
    replace H := Option.bind_eq_some_iff.mp H
    obtain ⟨⟨t235, t236, t237, t238, t239, t240, t241⟩, A60, H⟩ := H
    replace H : ((tcb_Task_Sleep.f k t237 t238 t239 t240 t241).bind fun bt242 => ((tcb_Task_Suspend.f k bt242.2.2.1 bt242.2.2.2.1 bt242.2.2.2.2.1 bt242.2.2.2.2.2.1 bt242.2.2.2.2.2.2).bind fun bt249 => (if a1 = true then ((tcb_Task_Suspend.f k bt249.2.1 bt249.2.2.1 bt249.2.2.2.1 bt249.2.2.2.2.1 bt249.2.2.2.2.2).bind fun bt255 => (detentlaw10_TaskBoth.j0 k a0 bt255.2.1 bt255.2.2.1 bt255.2.2.2.1 bt255.2.2.2.2.1 bt255.2.2.2.2.2)) else (detentlaw10_TaskBoth.j0 k a0 bt249.2.1 bt249.2.2.1 bt249.2.2.2.1 bt249.2.2.2.2.1 bt249.2.2.2.2.2)))) = some r := H
    have A6 := Aside0.mk A60
    clear A60
    replace H := Option.bind_eq_some_iff.mp H
    obtain ⟨⟨t242, t243, t244, t245, t246, t247, t248⟩, A70, H⟩ := H
    replace H : ((tcb_Task_Suspend.f k t244 t245 t246 t247 t248).bind fun bt249 => (if a1 = true then ((tcb_Task_Suspend.f k bt249.2.1 bt249.2.2.1 bt249.2.2.2.1 bt249.2.2.2.2.1 bt249.2.2.2.2.2).bind fun bt255 => (detentlaw10_TaskBoth.j0 k a0 bt255.2.1 bt255.2.2.1 bt255.2.2.2.1 bt255.2.2.2.2.1 bt255.2.2.2.2.2)) else (detentlaw10_TaskBoth.j0 k a0 bt249.2.1 bt249.2.2.1 bt249.2.2.2.1 bt249.2.2.2.2.1 bt249.2.2.2.2.2))) = some r := H
    have A7 := Aside0.mk A70
    clear A70
    replace H := Option.bind_eq_some_iff.mp H
    obtain ⟨⟨t249, t250, t251, t252, t253, t254⟩, A80, H⟩ := H
    replace H : (if a1 = true then ((tcb_Task_Suspend.f k t250 t251 t252 t253 t254).bind fun bt255 => (detentlaw10_TaskBoth.j0 k a0 bt255.2.1 bt255.2.2.1 bt255.2.2.2.1 bt255.2.2.2.2.1 bt255.2.2.2.2.2)) else (detentlaw10_TaskBoth.j0 k a0 t250 t251 t252 t253 t254)) = some r := H
    have A8 := Aside0.mk A80
    clear A80
    have HC9 := Aside0.mk H
    clear H
    go_enter Try.func9, Try.ntmps9
    go_upto_if 23 with (first | ((with_reducible refine gate_callee (f := 21) rfl ?_); refine goesL_ (some 14) rfl rfl Try.func21 (by kernel_rfl) rfl #[] rfl (by (try simp only [List.map_toArray, List.map_cons, List.map_nil]); first | done | rfl | (simp only [List.length_drop, List.length_take]; rfl)) ?_; (with_reducible refine (detentlaw10_known.calls k  true _ A3.out).mono ?_); rintro e w10 ⟨rfl, hb⟩; refine ⟨_, rfl, ?_⟩; have n0_ := Aside0.mk (below_step (by repeat (first | (with_reducible first | exact HB.out | apply below_alloc | apply pw_below_drewN | apply below_drew1) | exact HB.out)) hb); clear HB; have HB := n0_; clear n0_; (try clear hb); (try clear hb2); (try clear hk); (try clear hi)) | ((with_reducible refine gate_callee (f := 22) rfl ?_); refine goesL_ (some 16) rfl rfl Try.func22 (by kernel_rfl) rfl #[] rfl (by (try simp only [List.map_toArray, List.map_cons, List.map_nil]); first | done | rfl | (simp only [List.length_drop, List.length_take]; rfl)) ?_; (with_reducible refine (tcb_New.calls  t229 t230 t231 t232 t233 w _ ?side1 A5.out).mono ?_); (case side1 => repeat (first | (with_reducible first | exact HB.out | apply below_alloc | apply pw_below_drewN | apply below_drew1) | exact HB.out)); rintro e w11 ⟨g234, rfl, hi, hb, hb2⟩; refine ⟨_, rfl, ?_⟩; have n0_ := Aside0.mk (hb); have n1_ := Aside0.mk (hi); clear HB; have HB := n0_; have HI234 := n1_; clear n0_ n1_; (try clear hb); (try clear hb2); (try clear hk); (try clear hi)) | ((with_reducible refine gate_callee (f := 23) rfl ?_); refine goesL_ (some 18) rfl rfl Try.func23 (by kernel_rfl) rfl #[.pointer (some ⟨g234, 0, none⟩)] rfl (by (try simp only [List.map_toArray, List.map_cons, List.map_nil]); first | done | rfl | (simp only [List.length_drop, List.length_take]; rfl)) ?_; (with_reducible refine (tcb_Task_Act.calls k g234 t229 t230 t231 t232 t233 t235 t236 t237 t238 t239 t240 t241 w _ ?side1 ?side2 A6.out).mono ?_); (case side1 => repeat (first | (with_reducible first | exact HI234.out | apply IsS55.alloc | apply IsS55.drewN | apply IsS55.drew | apply IsS55.set_0 | apply IsS55.set_1 | apply IsS55.set_2 | apply IsS55.set_3 | apply IsS55.set_4) | exact HI234.out)); (case side2 => repeat (first | (with_reducible first | exact HB.out | apply below_alloc | apply pw_below_drewN | apply below_drew1 | refine below_set ?_ (IsS55.ge HI234.out)) | exact HB.out)); rintro e w12 ⟨rfl, hi, hb, hk⟩; refine ⟨_, rfl, ?_⟩; have n0_ := Aside0.mk (hb); have n1_ := Aside0.mk (hi); clear HB; clear HI234; have HB := n0_; have HI234 := n1_; clear n0_ n1_; (try clear hb); (try clear hb2); (try clear hk); (try clear hi)) | ((with_reducible refine gate_callee (f := 27) rfl ?_); refine goesL_ (some 20) rfl rfl Try.func27 (by kernel_rfl) rfl #[.pointer (some ⟨g234, 0, none⟩)] rfl (by (try simp only [List.map_toArray, List.map_cons, List.map_nil]); first | done | rfl | (simp only [List.length_drop, List.length_take]; rfl)) ?_; (with_reducible refine (tcb_Task_Sleep.calls k g234 t237 t238 t239 t240 t241 t242 t243 t244 t245 t246 t247 t248 w _ ?side1 ?side2 A7.out).mono ?_); (case side1 => repeat (first | (with_reducible first | exact HI234.out | apply IsS55.alloc | apply IsS55.drewN | apply IsS55.drew | apply IsS55.set_0 | apply IsS55.set_1 | apply IsS55.set_2 | apply IsS55.set_3 | apply IsS55.set_4) | exact HI234.out)); (case side2 => repeat (first | (with_reducible first | exact HB.out | apply below_alloc | apply pw_below_drewN | apply below_drew1 | refine below_set ?_ (IsS55.ge HI234.out)) | exact HB.out)); rintro e w13 ⟨rfl, hi, hb, hk⟩; refine ⟨_, rfl, ?_⟩; have n0_ := Aside0.mk (hb); have n1_ := Aside0.mk (hi); clear HB; clear HI234; have HB := n0_; have HI234 := n1_; clear n0_ n1_; (try clear hb); (try clear hb2); (try clear hk); (try clear hi)) | ((with_reducible refine gate_callee (f := 29) rfl ?_); refine goesL_ (some 22) rfl rfl Try.func29 (by kernel_rfl) rfl #[.pointer (some ⟨g234, 0, none⟩)] rfl (by (try simp only [List.map_toArray, List.map_cons, List.map_nil]); first | done | rfl | (simp only [List.length_drop, List.length_take]; rfl)) ?_; (with_reducible refine (tcb_Task_Suspend.calls k g234 t244 t245 t246 t247 t248 t249 t250 t251 t252 t253 t254 w _ ?side1 ?side2 A8.out).mono ?_); (case side1 => repeat (first | (with_reducible first | exact HI234.out | apply IsS55.alloc | apply IsS55.drewN | apply IsS55.drew | apply IsS55.set_0 | apply IsS55.set_1 | apply IsS55.set_2 | apply IsS55.set_3 | apply IsS55.set_4) | exact HI234.out)); (case side2 => repeat (first | (with_reducible first | exact HB.out | apply below_alloc | apply pw_below_drewN | apply below_drew1 | refine below_set ?_ (IsS55.ge HI234.out)) | exact HB.out)); rintro e w14 ⟨rfl, hi, hb, hk⟩; refine ⟨_, rfl, ?_⟩; have n0_ := Aside0.mk (hb); have n1_ := Aside0.mk (hi); clear HB; clear HI234; have HB := n0_; have HI234 := n1_; clear n0_ n1_; (try clear hb); (try clear hb2); (try clear hk); (try clear hi)))
    (try simp only [Act.put, List.setIfInBounds_toArray, List.set_cons_zero, List.set_cons_succ])
    go_cut [] (fun wc => ∃ (kq : Nat) (x235000_8 : Int) (x235001_8 : Int) (x235002_8 : Int) (x235003_8 : Int) (x235004_8 : Bool), Aside0 (detentlaw10_TaskBoth.j0 kq a0 x235000_8 x235001_8 x235002_8 x235003_8 x235004_8 = some r) ∧ Aside0 (kq ≤ k) ∧ Aside0 (IsS55 w wc g234 x235000_8 x235001_8 x235002_8 x235003_8 x235004_8) ∧ Aside0 (Below w.heap.size w wc))
    case first =>
      have H := HC9.out
      clear HC9
      by_cases c15 : a1 = true
      · subst c15
        have H1 : ((tcb_Task_Suspend.f k t250 t251 t252 t253 t254).bind fun bt255 => (detentlaw10_TaskBoth.j0 k a0 bt255.2.1 bt255.2.2.1 bt255.2.2.2.1 bt255.2.2.2.2.1 bt255.2.2.2.2.2)) = some r := by rw [if_pos rfl] at H; exact H
        clear H
        have H := H1
        clear H1
        replace H := Option.bind_eq_some_iff.mp H
        obtain ⟨⟨t255, t256, t257, t258, t259, t260⟩, A160, H⟩ := H
        replace H : (detentlaw10_TaskBoth.j0 k a0 t256 t257 t258 t259 t260) = some r := H
        have A16 := Aside0.mk A160
        clear A160
        have H' := Aside0.mk H
        clear H
        go_wp2_with (first | ((with_reducible refine gate_callee (f := 29) rfl ?_); refine goesL_ (some 25) rfl rfl Try.func29 (by kernel_rfl) rfl #[.pointer (some ⟨g234, 0, none⟩)] rfl (by (try simp only [List.map_toArray, List.map_cons, List.map_nil]); first | done | rfl | (simp only [List.length_drop, List.length_take]; rfl)) ?_; (with_reducible refine (tcb_Task_Suspend.calls k g234 t250 t251 t252 t253 t254 t255 t256 t257 t258 t259 t260 w _ ?side1 ?side2 A16.out).mono ?_); (case side1 => repeat (first | (with_reducible first | exact HI234.out | apply IsS55.alloc | apply IsS55.drewN | apply IsS55.drew | apply IsS55.set_0 | apply IsS55.set_1 | apply IsS55.set_2 | apply IsS55.set_3 | apply IsS55.set_4) | exact HI234.out)); (case side2 => repeat (first | (with_reducible first | exact HB.out | apply below_alloc | apply pw_below_drewN | apply below_drew1 | refine below_set ?_ (IsS55.ge HI234.out)) | exact HB.out)); rintro e w17 ⟨rfl, hi, hb, hk⟩; refine ⟨_, rfl, ?_⟩; have n0_ := Aside0.mk (hb); have n1_ := Aside0.mk (hi); clear HB; clear HI234; have HB := n0_; have HI234 := n1_; clear n0_ n1_; (try clear hb); (try clear hb2); (try clear hk); (try clear hi)))
        go_meet
        case rel => exact ⟨_, (t256), (t257), (t258), (t259), (t260), H', ⟨by first | omega | exact Nat.le_refl _⟩, ⟨by repeat (first | (with_reducible first | exact HI234.out | apply IsS55.alloc | apply IsS55.drewN | apply IsS55.drew | apply IsS55.set_0 | apply IsS55.set_1 | apply IsS55.set_2 | apply IsS55.set_3 | apply IsS55.set_4) | exact HI234.out)⟩, ⟨by repeat (first | (with_reducible first | exact HB.out | apply below_alloc | apply pw_below_drewN | apply below_drew1 | refine below_set ?_ (IsS55.ge HI234.out)) | exact HB.out)⟩⟩
      · replace c15 := Bool.eq_false_iff.mpr c15
        subst c15
        have H1 : (detentlaw10_TaskBoth.j0 k a0 t250 t251 t252 t253 t254) = some r := by rw [if_neg (show ¬ (false = true) by decide)] at H; exact H
        clear H
        have H := H1
        clear H1
        have H' := Aside0.mk H
        clear H
        go_wp2
        go_meet
        case rel => exact ⟨_, (t250), (t251), (t252), (t253), (t254), H', ⟨by first | omega | exact Nat.le_refl _⟩, ⟨by repeat (first | (with_reducible first | exact HI234.out | apply IsS55.alloc | apply IsS55.drewN | apply IsS55.drew | apply IsS55.set_0 | apply IsS55.set_1 | apply IsS55.set_2 | apply IsS55.set_3 | apply IsS55.set_4) | exact HI234.out)⟩, ⟨by repeat (first | (with_reducible first | exact HB.out | apply below_alloc | apply pw_below_drewN | apply below_drew1 | refine below_set ?_ (IsS55.ge HI234.out)) | exact HB.out)⟩⟩
    case rest =>
      clear HC9
      try clear c1
      try clear c2
      try clear p2
      try clear c4
      try clear c9
      try clear c15
      obtain ⟨kq, x235000_8, x235001_8, x235002_8, x235003_8, x235004_8, HA, HJ8, HI234, HB⟩ := hcut
      cases kq with
      | zero => exact absurd HA.out (by simp [detentlaw10_TaskBoth.j0])
      | succ kj8 =>
        have H := HA.out
        clear HA
        simp only [detentlaw10_TaskBoth.j0] at H
        obtain ⟨y261, hy261⟩ : ∃ y_ : List Int, y_ = (([12] : List Int)) := ⟨_, rfl⟩
        replace H : ((tcb_Task_Is.f kj8 x235000_8 x235001_8 x235002_8 x235003_8 x235004_8 y261).bind fun bt264 => (if bt264.1 = true then (if a0 = true then ((tcb_Task_Wake.f kj8 bt264.2.1 bt264.2.2.1 bt264.2.2.2.1 bt264.2.2.2.2.1 bt264.2.2.2.2.2).bind fun bt270 => (if bt270.1 = true then (if bt270.2.1 = 0 then ((tcb_Task_Is.f kj8 bt270.2.2.1 bt270.2.2.2.1 bt270.2.2.2.2.1 bt270.2.2.2.2.2.1 bt270.2.2.2.2.2.2 (([8] : List Int))).bind fun bt280 => (detentlaw10_TaskBoth.j1 kj8 (!bt280.1) bt280.2.1 bt280.2.2.1 bt280.2.2.2.1 bt280.2.2.2.2.1 bt280.2.2.2.2.2)) else (detentlaw10_TaskBoth.j1 kj8 true bt270.2.2.1 bt270.2.2.2.1 bt270.2.2.2.2.1 bt270.2.2.2.2.2.1 bt270.2.2.2.2.2.2)) else (detentlaw10_TaskBoth.j1 kj8 true bt270.2.2.1 bt270.2.2.2.1 bt270.2.2.2.2.1 bt270.2.2.2.2.2.1 bt270.2.2.2.2.2.2))) else ((tcb_Task_Resume.f kj8 bt264.2.1 bt264.2.2.1 bt264.2.2.2.1 bt264.2.2.2.2.1 bt264.2.2.2.2.2 true).bind fun bt302 => (if bt302.1 = true then (detentlaw10_TaskBoth.j2 kj8 true bt302.2.2.1 bt302.2.2.2.1 bt302.2.2.2.2.1 bt302.2.2.2.2.2.1 bt302.2.2.2.2.2.2) else (if bt302.2.1 = 0 then ((tcb_Task_Is.f kj8 bt302.2.2.1 bt302.2.2.2.1 bt302.2.2.2.2.1 bt302.2.2.2.2.2.1 bt302.2.2.2.2.2.2 (([4] : List Int))).bind fun bt312 => (detentlaw10_TaskBoth.j2 kj8 (!bt312.1) bt312.2.1 bt312.2.2.1 bt312.2.2.2.1 bt312.2.2.2.2.1 bt312.2.2.2.2.2)) else (detentlaw10_TaskBoth.j2 kj8 true bt302.2.2.1 bt302.2.2.2.1 bt302.2.2.2.2.1 bt302.2.2.2.2.2.1 bt302.2.2.2.2.2.2))))) else (some false))) = some r := by first | (rw [hy261]; with_reducible exact H) | (have H2_ := (Option.bind_some _ _).symm.trans H; rw [hy261]; with_reducible exact H2_) | (have H2_ := (Option.bind_some _ _).symm.trans H; with_reducible exact H2_) | with_reducible exact H | (rw [hy261]; exact H) | exact H
        have Ny261 := Aside0.mk hy261
        clear hy261
        replace H := Option.bind_eq_some_iff.mp H
        obtain ⟨⟨t264, t265, t266, t267, t268, t269⟩, A180, H⟩ := H
        replace H : (if t264 = true then (if a0 = true then ((tcb_Task_Wake.f kj8 t265 t266 t267 t268 t269).bind fun bt270 => (if bt270.1 = true then (if bt270.2.1 = 0 then ((tcb_Task_Is.f kj8 bt270.2.2.1 bt270.2.2.2.1 bt270.2.2.2.2.1 bt270.2.2.2.2.2.1 bt270.2.2.2.2.2.2 (([8] : List Int))).bind fun bt280 => (detentlaw10_TaskBoth.j1 kj8 (!bt280.1) bt280.2.1 bt280.2.2.1 bt280.2.2.2.1 bt280.2.2.2.2.1 bt280.2.2.2.2.2)) else (detentlaw10_TaskBoth.j1 kj8 true bt270.2.2.1 bt270.2.2.2.1 bt270.2.2.2.2.1 bt270.2.2.2.2.2.1 bt270.2.2.2.2.2.2)) else (detentlaw10_TaskBoth.j1 kj8 true bt270.2.2.1 bt270.2.2.2.1 bt270.2.2.2.2.1 bt270.2.2.2.2.2.1 bt270.2.2.2.2.2.2))) else ((tcb_Task_Resume.f kj8 t265 t266 t267 t268 t269 true).bind fun bt302 => (if bt302.1 = true then (detentlaw10_TaskBoth.j2 kj8 true bt302.2.2.1 bt302.2.2.2.1 bt302.2.2.2.2.1 bt302.2.2.2.2.2.1 bt302.2.2.2.2.2.2) else (if bt302.2.1 = 0 then ((tcb_Task_Is.f kj8 bt302.2.2.1 bt302.2.2.2.1 bt302.2.2.2.2.1 bt302.2.2.2.2.2.1 bt302.2.2.2.2.2.2 (([4] : List Int))).bind fun bt312 => (detentlaw10_TaskBoth.j2 kj8 (!bt312.1) bt312.2.1 bt312.2.2.1 bt312.2.2.2.1 bt312.2.2.2.2.1 bt312.2.2.2.2.2)) else (detentlaw10_TaskBoth.j2 kj8 true bt302.2.2.1 bt302.2.2.2.1 bt302.2.2.2.2.1 bt302.2.2.2.2.2.1 bt302.2.2.2.2.2.2))))) else (some false)) = some r := H
        have A18 := Aside0.mk A180
        clear A180
        by_cases c19 : t264 = true
        · subst c19
          have H1 : (if a0 = true then ((tcb_Task_Wake.f kj8 t265 t266 t267 t268 t269).bind fun bt270 => (if bt270.1 = true then (if bt270.2.1 = 0 then ((tcb_Task_Is.f kj8 bt270.2.2.1 bt270.2.2.2.1 bt270.2.2.2.2.1 bt270.2.2.2.2.2.1 bt270.2.2.2.2.2.2 (([8] : List Int))).bind fun bt280 => (detentlaw10_TaskBoth.j1 kj8 (!bt280.1) bt280.2.1 bt280.2.2.1 bt280.2.2.2.1 bt280.2.2.2.2.1 bt280.2.2.2.2.2)) else (detentlaw10_TaskBoth.j1 kj8 true bt270.2.2.1 bt270.2.2.2.1 bt270.2.2.2.2.1 bt270.2.2.2.2.2.1 bt270.2.2.2.2.2.2)) else (detentlaw10_TaskBoth.j1 kj8 true bt270.2.2.1 bt270.2.2.2.1 bt270.2.2.2.2.1 bt270.2.2.2.2.2.1 bt270.2.2.2.2.2.2))) else ((tcb_Task_Resume.f kj8 t265 t266 t267 t268 t269 true).bind fun bt302 => (if bt302.1 = true then (detentlaw10_TaskBoth.j2 kj8 true bt302.2.2.1 bt302.2.2.2.1 bt302.2.2.2.2.1 bt302.2.2.2.2.2.1 bt302.2.2.2.2.2.2) else (if bt302.2.1 = 0 then ((tcb_Task_Is.f kj8 bt302.2.2.1 bt302.2.2.2.1 bt302.2.2.2.2.1 bt302.2.2.2.2.2.1 bt302.2.2.2.2.2.2 (([4] : List Int))).bind fun bt312 => (detentlaw10_TaskBoth.j2 kj8 (!bt312.1) bt312.2.1 bt312.2.2.1 bt312.2.2.2.1 bt312.2.2.2.2.1 bt312.2.2.2.2.2)) else (detentlaw10_TaskBoth.j2 kj8 true bt302.2.2.1 bt302.2.2.2.1 bt302.2.2.2.2.1 bt302.2.2.2.2.2.1 bt302.2.2.2.2.2.2))))) = some r := by rw [if_pos rfl] at H; exact H
          clear H
          have H := H1
          clear H1
          by_cases c20 : a0 = true
          · subst c20
            have H1 : ((tcb_Task_Wake.f kj8 t265 t266 t267 t268 t269).bind fun bt270 => (if bt270.1 = true then (if bt270.2.1 = 0 then ((tcb_Task_Is.f kj8 bt270.2.2.1 bt270.2.2.2.1 bt270.2.2.2.2.1 bt270.2.2.2.2.2.1 bt270.2.2.2.2.2.2 (([8] : List Int))).bind fun bt280 => (detentlaw10_TaskBoth.j1 kj8 (!bt280.1) bt280.2.1 bt280.2.2.1 bt280.2.2.2.1 bt280.2.2.2.2.1 bt280.2.2.2.2.2)) else (detentlaw10_TaskBoth.j1 kj8 true bt270.2.2.1 bt270.2.2.2.1 bt270.2.2.2.2.1 bt270.2.2.2.2.2.1 bt270.2.2.2.2.2.2)) else (detentlaw10_TaskBoth.j1 kj8 true bt270.2.2.1 bt270.2.2.2.1 bt270.2.2.2.2.1 bt270.2.2.2.2.2.1 bt270.2.2.2.2.2.2))) = some r := by rw [if_pos rfl] at H; exact H
            clear H
            have H := H1
            clear H1
            replace H := Option.bind_eq_some_iff.mp H
            obtain ⟨⟨t270, t271, t272, t273, t274, t275, t276⟩, A210, H⟩ := H
            replace H : (if t270 = true then (if t271 = 0 then ((tcb_Task_Is.f kj8 t272 t273 t274 t275 t276 (([8] : List Int))).bind fun bt280 => (detentlaw10_TaskBoth.j1 kj8 (!bt280.1) bt280.2.1 bt280.2.2.1 bt280.2.2.2.1 bt280.2.2.2.2.1 bt280.2.2.2.2.2)) else (detentlaw10_TaskBoth.j1 kj8 true t272 t273 t274 t275 t276)) else (detentlaw10_TaskBoth.j1 kj8 true t272 t273 t274 t275 t276)) = some r := H
            have A21 := Aside0.mk A210
            clear A210
            have HC22 := Aside0.mk H
            clear H
            go_upto_region 13 with (first | ((with_reducible refine gate_dst (N := 27) rfl ?_); (try (refine gate_guard (by rfl) ?_; dsimp only)); refine Kd.R_lit (Kd.int .i64) _ 3 ?hg (N := 27) ?hd (xs := ([12] : List Int)) (inner := [.int .i64 12]) (ok := fun _ => True) (okp := fun _ => True) ?hr ?hp (fun _ hk => hk) trivial (Below.refl _ _) (Nat.le_refl _) (by simp) ?_; (case hd => rfl); (case hg => rfl); (case hr => first | (go_simp; done) | (go_simp; rfl)); (case hp => exact (Reps.one (show Kd.M (Kd.int .i64) _ _ _ 12 [.int .i64 12] from rfl) (Reps.none _ _))); intro v262 w23 ho24 hb hg_ hnew_; clear hg_ hnew_; (first | rw [← Ny261.out] at ho24 | (simp only [Int.reduceToNat] at ho24; rw [← Ny261.out] at ho24)); have n0_ := Aside0.mk (Kd.R_lower ho24 (below_size (by repeat (first | (with_reducible first | exact HB.out | apply below_alloc | apply pw_below_drewN | apply below_drew1 | refine below_set ?_ (IsS55.ge HI234.out)) | exact HB.out)))); have n1_ := Aside0.mk (IsS55.below (by repeat (first | (with_reducible first | exact HI234.out | apply IsS55.alloc | apply IsS55.drewN | apply IsS55.drew | apply IsS55.set_0 | apply IsS55.set_1 | apply IsS55.set_2 | apply IsS55.set_3 | apply IsS55.set_4) | exact HI234.out)) hb); have n2_ := Aside0.mk (below_step (by repeat (first | (with_reducible first | exact HB.out | apply below_alloc | apply pw_below_drewN | apply below_drew1 | refine below_set ?_ (IsS55.ge HI234.out)) | exact HB.out)) hb); clear HI234; clear HB; have HO263 := n0_; have HI234 := n1_; have HB := n2_; clear n0_ n1_ n2_; clear hb ho24; obtain ⟨Ao25, co25, eo25⟩ := Kd.R_slice HO263.out; subst eo25) | ((with_reducible refine gate_callee (f := 25) rfl ?_); refine goesL_ (some 28) rfl rfl Try.func25 (by kernel_rfl) rfl #[.pointer (some ⟨g234, 0, none⟩), .slice Ao25 y261.length co25] rfl (by (try simp only [List.map_toArray, List.map_cons, List.map_nil]); first | done | rfl | (simp only [List.length_drop, List.length_take]; rfl)) ?_; (with_reducible refine (tcb_Task_Is.calls kj8 g234 x235000_8 x235001_8 x235002_8 x235003_8 x235004_8 _ _ y261 true t265 t266 t267 t268 t269 w _ ?side1 ?side2 ?side3 ?side4 ?side5 A18.out).mono ?_); (case side1 => repeat (first | (with_reducible first | exact HI234.out | apply IsS55.alloc | apply IsS55.drewN | apply IsS55.drew | apply IsS55.set_0 | apply IsS55.set_1 | apply IsS55.set_2 | apply IsS55.set_3 | apply IsS55.set_4) | exact HI234.out)); (case side2 => repeat (first | (with_reducible first | exact HB.out | apply below_alloc | apply pw_below_drewN | apply below_drew1 | refine below_set ?_ (IsS55.ge HI234.out)) | exact HB.out)); (case side3 => repeat (first | exact (Kd.R_reads' HO263.out).2.2 | (with_reducible refine Kd.C_alloc ?_ _) | (with_reducible refine Kd.C_drewN ?_ _) | (with_reducible refine Kd.C_drew ?_))); (case side4 => exact (Kd.R_reads' HO263.out).2.1); (case side5 => exact far_slice (IsS55.own_ne HI234.out HO263.out (by decide))); rintro e w26 ⟨rfl, hi, hb, hk⟩; refine ⟨_, rfl, ?_⟩; have n0_ := Aside0.mk (Kd.R_mono (Kd.R_keep (IsS55.apart (show IsS55 w _ g234 x235000_8 x235001_8 x235002_8 x235003_8 x235004_8 from by repeat (first | (with_reducible first | exact HI234.out | apply IsS55.alloc | apply IsS55.drewN | apply IsS55.drew | apply IsS55.set_0 | apply IsS55.set_1 | apply IsS55.set_2 | apply IsS55.set_3 | apply IsS55.set_4) | exact HI234.out)) (by (with_reducible repeat (first | apply Kd.R_alloc | apply Kd.R_drewN | apply Kd.R_drew)); exact HO263.out) (by decide)) hk (fun _ h => h.2)) (fun _ h => h.1)); have n1_ := Aside0.mk (hb); have n2_ := Aside0.mk (hi); clear HO263; clear HB; clear HI234; have HO263 := n0_; have HB := n1_; have HI234 := n2_; clear n0_ n1_ n2_; (try clear hb); (try clear hb2); (try clear hk); (try clear hi)) | ((with_reducible refine gate_callee (f := 28) rfl ?_); refine goesL_ (some 33) rfl rfl Try.func28 (by kernel_rfl) rfl #[.pointer (some ⟨g234, 0, none⟩)] rfl (by (try simp only [List.map_toArray, List.map_cons, List.map_nil]); first | done | rfl | (simp only [List.length_drop, List.length_take]; rfl)) ?_; (with_reducible refine (tcb_Task_Wake.calls kj8 g234 t265 t266 t267 t268 t269 t270 t271 t272 t273 t274 t275 t276 w _ ?side1 ?side2 A21.out).mono ?_); (case side1 => repeat (first | (with_reducible first | exact HI234.out | apply IsS55.alloc | apply IsS55.drewN | apply IsS55.drew | apply IsS55.set_0 | apply IsS55.set_1 | apply IsS55.set_2 | apply IsS55.set_3 | apply IsS55.set_4) | exact HI234.out)); (case side2 => repeat (first | (with_reducible first | exact HB.out | apply below_alloc | apply pw_below_drewN | apply below_drew1 | refine below_set ?_ (IsS55.ge HI234.out)) | exact HB.out)); rintro e w27 ⟨rfl, hi, hb, hk⟩; refine ⟨_, rfl, ?_⟩; have n0_ := Aside0.mk (Kd.R_mono (Kd.R_keep (IsS55.apart (show IsS55 w _ g234 t265 t266 t267 t268 t269 from by repeat (first | (with_reducible first | exact HI234.out | apply IsS55.alloc | apply IsS55.drewN | apply IsS55.drew | apply IsS55.set_0 | apply IsS55.set_1 | apply IsS55.set_2 | apply IsS55.set_3 | apply IsS55.set_4) | exact HI234.out)) (by (with_reducible repeat (first | apply Kd.R_alloc | apply Kd.R_drewN | apply Kd.R_drew)); exact HO263.out) (by decide)) hk (fun _ h => h.2)) (fun _ h => h.1)); have n1_ := Aside0.mk (hb); have n2_ := Aside0.mk (hi); clear HO263; clear HB; clear HI234; have HO263 := n0_; have HB := n1_; have HI234 := n2_; clear n0_ n1_ n2_; (try clear hb); (try clear hb2); (try clear hk); (try clear hi)))
            (try simp only [Act.put, List.setIfInBounds_toArray, List.set_cons_zero, List.set_cons_succ])
            go_cut [47] (fun v47 wc => ∃ (kq : Nat) (x47_21 : Bool) (x235000_21 : Int) (x235001_21 : Int) (x235002_21 : Int) (x235003_21 : Int) (x235004_21 : Bool), v47 = .bool x47_21 ∧ Aside0 (detentlaw10_TaskBoth.j1 kq x47_21 x235000_21 x235001_21 x235002_21 x235003_21 x235004_21 = some r) ∧ Aside0 (kq ≤ kj8) ∧ Aside0 (IsS55 w wc g234 x235000_21 x235001_21 x235002_21 x235003_21 x235004_21) ∧ Aside0 (Below w.heap.size w wc))
            case first =>
              have H := HC22.out
              clear HC22
              by_cases c28 : t270 = true
              · subst c28
                have H1 : (if t271 = 0 then ((tcb_Task_Is.f kj8 t272 t273 t274 t275 t276 (([8] : List Int))).bind fun bt280 => (detentlaw10_TaskBoth.j1 kj8 (!bt280.1) bt280.2.1 bt280.2.2.1 bt280.2.2.2.1 bt280.2.2.2.2.1 bt280.2.2.2.2.2)) else (detentlaw10_TaskBoth.j1 kj8 true t272 t273 t274 t275 t276)) = some r := by rw [if_pos rfl] at H; exact H
                clear H
                have H := H1
                clear H1
                by_cases c29 : t271 = 0
                · rw [if_pos c29] at H
                  have c29b0 : (t271 == 0) = true := beq_iff_eq.mpr c29
                  have c29b1 : (t271 != 0) = false := bne_eq_false_iff_eq.mpr c29
                  clear c29
                  (first | rw [c29b0] | (simp only [i64_w, i32_w]; rw [c29b0]) | skip)
                  obtain ⟨y277, hy277⟩ : ∃ y_ : List Int, y_ = (([8] : List Int)) := ⟨_, rfl⟩
                  replace H : ((tcb_Task_Is.f kj8 t272 t273 t274 t275 t276 y277).bind fun bt280 => (detentlaw10_TaskBoth.j1 kj8 (!bt280.1) bt280.2.1 bt280.2.2.1 bt280.2.2.2.1 bt280.2.2.2.2.1 bt280.2.2.2.2.2)) = some r := by first | (rw [hy277]; with_reducible exact H) | (have H2_ := (Option.bind_some _ _).symm.trans H; rw [hy277]; with_reducible exact H2_) | (have H2_ := (Option.bind_some _ _).symm.trans H; with_reducible exact H2_) | with_reducible exact H | (rw [hy277]; exact H) | exact H
                  have Ny277 := Aside0.mk hy277
                  clear hy277
                  replace H := Option.bind_eq_some_iff.mp H
                  obtain ⟨⟨t280, t281, t282, t283, t284, t285⟩, A300, H⟩ := H
                  replace H : (detentlaw10_TaskBoth.j1 kj8 (!t280) t281 t282 t283 t284 t285) = some r := H
                  have A30 := Aside0.mk A300
                  clear A300
                  have H' := Aside0.mk H
                  clear H
                  go_wp2_with (first | ((with_reducible refine gate_dst (N := 44) rfl ?_); (try (refine gate_guard (by rfl) ?_; dsimp only)); refine Kd.R_lit (Kd.int .i64) _ 3 ?hg (N := 44) ?hd (xs := ([8] : List Int)) (inner := [.int .i64 8]) (ok := fun _ => True) (okp := fun _ => True) ?hr ?hp (fun _ hk => hk) trivial (Below.refl _ _) (Nat.le_refl _) (by simp) ?_; (case hd => rfl); (case hg => rfl); (case hr => first | (go_simp; done) | (go_simp; rfl)); (case hp => exact (Reps.one (show Kd.M (Kd.int .i64) _ _ _ 8 [.int .i64 8] from rfl) (Reps.none _ _))); intro v278 w31 ho32 hb hg_ hnew_; clear hg_ hnew_; (first | rw [← Ny277.out] at ho32 | (simp only [Int.reduceToNat] at ho32; rw [← Ny277.out] at ho32)); have n0_ := Aside0.mk (Kd.R_elder' (by (with_reducible repeat (first | apply Kd.R_alloc | apply Kd.R_drewN | apply Kd.R_drew)); exact HO263.out) (Kd.R_base ho32) hb); have n1_ := Aside0.mk (Kd.R_lower (Kd.R_new' ho32 (Kd.R_lt (by (with_reducible repeat (first | apply Kd.R_alloc | apply Kd.R_drewN | apply Kd.R_drew)); exact HO263.out))) (below_size (by repeat (first | (with_reducible first | exact HB.out | apply below_alloc | apply pw_below_drewN | apply below_drew1 | refine below_set ?_ (IsS55.ge HI234.out)) | exact HB.out)))); have n2_ := Aside0.mk (IsS55.below (by repeat (first | (with_reducible first | exact HI234.out | apply IsS55.alloc | apply IsS55.drewN | apply IsS55.drew | apply IsS55.set_0 | apply IsS55.set_1 | apply IsS55.set_2 | apply IsS55.set_3 | apply IsS55.set_4) | exact HI234.out)) hb); have n3_ := Aside0.mk (below_step (by repeat (first | (with_reducible first | exact HB.out | apply below_alloc | apply pw_below_drewN | apply below_drew1 | refine below_set ?_ (IsS55.ge HI234.out)) | exact HB.out)) hb); clear HO263; clear HI234; clear HB; have HO263 := n0_; have HO279 := n1_; have HI234 := n2_; have HB := n3_; clear n0_ n1_ n2_ n3_; clear hb ho32; obtain ⟨Ao33, co33, eo33⟩ := Kd.R_slice HO279.out; subst eo33) | (go_at_call 25; (with_reducible refine (tcb_Task_Is.calls kj8 g234 t272 t273 t274 t275 t276 _ _ y277 t280 t281 t282 t283 t284 t285 w _ ?side1 ?side2 ?side3 ?side4 ?side5 A30.out).mono ?_); (case side1 => repeat (first | (with_reducible first | exact HI234.out | apply IsS55.alloc | apply IsS55.drewN | apply IsS55.drew | apply IsS55.set_0 | apply IsS55.set_1 | apply IsS55.set_2 | apply IsS55.set_3 | apply IsS55.set_4) | exact HI234.out)); (case side2 => repeat (first | (with_reducible first | exact HB.out | apply below_alloc | apply pw_below_drewN | apply below_drew1 | refine below_set ?_ (IsS55.ge HI234.out)) | exact HB.out)); (case side3 => repeat (first | exact (Kd.R_reads' HO279.out).2.2 | (with_reducible refine Kd.C_alloc ?_ _) | (with_reducible refine Kd.C_drewN ?_ _) | (with_reducible refine Kd.C_drew ?_))); (case side4 => exact (Kd.R_reads' HO279.out).2.1); (case side5 => exact far_slice (IsS55.own_ne HI234.out HO279.out (by decide))); rintro e w34 ⟨rfl, hi, hb, hk⟩; have n0_ := Aside0.mk (Kd.R_mono (Kd.R_keep (IsS55.apart (show IsS55 w _ g234 t272 t273 t274 t275 t276 from by repeat (first | (with_reducible first | exact HI234.out | apply IsS55.alloc | apply IsS55.drewN | apply IsS55.drew | apply IsS55.set_0 | apply IsS55.set_1 | apply IsS55.set_2 | apply IsS55.set_3 | apply IsS55.set_4) | exact HI234.out)) (by (with_reducible repeat (first | apply Kd.R_alloc | apply Kd.R_drewN | apply Kd.R_drew)); exact HO263.out) (by decide)) hk (fun _ h => h.2)) (fun _ h => h.1)); have n1_ := Aside0.mk (Kd.R_mono (Kd.R_keep (IsS55.apart (show IsS55 w _ g234 t272 t273 t274 t275 t276 from by repeat (first | (with_reducible first | exact HI234.out | apply IsS55.alloc | apply IsS55.drewN | apply IsS55.drew | apply IsS55.set_0 | apply IsS55.set_1 | apply IsS55.set_2 | apply IsS55.set_3 | apply IsS55.set_4) | exact HI234.out)) (by (with_reducible repeat (first | apply Kd.R_alloc | apply Kd.R_drewN | apply Kd.R_drew)); exact HO279.out) (by decide)) hk (fun _ h => h.2)) (fun _ h => h.1)); have n2_ := Aside0.mk (hb); have n3_ := Aside0.mk (hi); clear HO263; clear HO279; clear HB; clear HI234; have HO263 := n0_; have HO279 := n1_; have HB := n2_; have HI234 := n3_; clear n0_ n1_ n2_ n3_; (try clear hb); (try clear hb2); (try clear hk); (try clear hi)))
                  go_meet
                  case rel => exact ⟨_, (!t280), (t281), (t282), (t283), (t284), (t285), (by first | rfl | (simp; done) | (simp [*]; done)), H', ⟨by have := HJ8.out; first | omega | exact Nat.le_refl _⟩, ⟨by repeat (first | (with_reducible first | exact HI234.out | apply IsS55.alloc | apply IsS55.drewN | apply IsS55.drew | apply IsS55.set_0 | apply IsS55.set_1 | apply IsS55.set_2 | apply IsS55.set_3 | apply IsS55.set_4) | exact HI234.out)⟩, ⟨by repeat (first | (with_reducible first | exact HB.out | apply below_alloc | apply pw_below_drewN | apply below_drew1 | refine below_set ?_ (IsS55.ge HI234.out)) | exact HB.out)⟩⟩
                · rw [if_neg c29] at H
                  have c29b0 : (t271 == 0) = false := beq_eq_false_iff_ne.mpr c29
                  have c29b1 : (t271 != 0) = true := bne_iff_ne.mpr c29
                  (first | rw [c29b0] | (simp only [i64_w, i32_w]; rw [c29b0]) | skip)
                  have H' := Aside0.mk H
                  clear H
                  go_wp2
                  go_meet
                  case rel => exact ⟨_, (true), (t272), (t273), (t274), (t275), (t276), (by first | rfl | (simp; done) | (simp [*]; done)), H', ⟨by have := HJ8.out; first | omega | exact Nat.le_refl _⟩, ⟨by repeat (first | (with_reducible first | exact HI234.out | apply IsS55.alloc | apply IsS55.drewN | apply IsS55.drew | apply IsS55.set_0 | apply IsS55.set_1 | apply IsS55.set_2 | apply IsS55.set_3 | apply IsS55.set_4) | exact HI234.out)⟩, ⟨by repeat (first | (with_reducible first | exact HB.out | apply below_alloc | apply pw_below_drewN | apply below_drew1 | refine below_set ?_ (IsS55.ge HI234.out)) | exact HB.out)⟩⟩
              · replace c28 := Bool.eq_false_iff.mpr c28
                subst c28
                have H1 : (detentlaw10_TaskBoth.j1 kj8 true t272 t273 t274 t275 t276) = some r := by rw [if_neg (show ¬ (false = true) by decide)] at H; exact H
                clear H
                have H := H1
                clear H1
                have H' := Aside0.mk H
                clear H
                go_wp2
                go_meet
                case rel => exact ⟨_, (true), (t272), (t273), (t274), (t275), (t276), (by first | rfl | (simp; done) | (simp [*]; done)), H', ⟨by have := HJ8.out; first | omega | exact Nat.le_refl _⟩, ⟨by repeat (first | (with_reducible first | exact HI234.out | apply IsS55.alloc | apply IsS55.drewN | apply IsS55.drew | apply IsS55.set_0 | apply IsS55.set_1 | apply IsS55.set_2 | apply IsS55.set_3 | apply IsS55.set_4) | exact HI234.out)⟩, ⟨by repeat (first | (with_reducible first | exact HB.out | apply below_alloc | apply pw_below_drewN | apply below_drew1 | refine below_set ?_ (IsS55.ge HI234.out)) | exact HB.out)⟩⟩
            case rest =>
              clear HC22
              try clear c1
              try clear c2
              try clear p2
              try clear c4
              try clear c9
              try clear c15
              try clear c19
              try clear c20
              try clear c21
              try clear c22
              try clear c23
              try clear c25
              try clear c27
              try clear c28
              try clear c29
              try clear c29b0
              try clear c29b1
              try clear p2
              obtain ⟨kq, x47_21, x235000_21, x235001_21, x235002_21, x235003_21, x235004_21, rfl, HA, HJ21, HI234, HB⟩ := hcut
              cases kq with
              | zero => exact absurd HA.out (by simp [detentlaw10_TaskBoth.j1])
              | succ kj21 =>
                have H := HA.out
                clear HA
                simp only [detentlaw10_TaskBoth.j1] at H
                by_cases c35 : x47_21 = true
                · subst c35
                  have H1 : (some false) = some r := by rw [if_pos rfl] at H; exact H
                  clear H
                  have H := H1
                  clear H1
                  obtain rfl := Option.some.inj H
                  go_wp2
                  go_ret
                  exact ⟨by first | rfl | (simp [errW_none, errW_some] <;> rfl) | (simp [*, errW_none, errW_some] <;> rfl), by repeat (first | (with_reducible first | exact HB.out | apply below_alloc | apply pw_below_drewN | apply below_drew1 | refine below_set ?_ (IsS55.ge HI234.out)) | exact HB.out)⟩
                · replace c35 := Bool.eq_false_iff.mpr c35
                  subst c35
                  have H1 : ((tcb_Task_Resume.f kj21 x235000_21 x235001_21 x235002_21 x235003_21 x235004_21 true).bind fun bt286 => (if bt286.1 = true then (if bt286.2.1 = 0 then ((tcb_Task_Is.f kj21 bt286.2.2.1 bt286.2.2.2.1 bt286.2.2.2.2.1 bt286.2.2.2.2.2.1 bt286.2.2.2.2.2.2 (([2] : List Int))).bind fun bt296 => (some bt296.1)) else (some false)) else (some false))) = some r := by rw [if_neg (show ¬ (false = true) by decide)] at H; exact H
                  clear H
                  have H := H1
                  clear H1
                  replace H := Option.bind_eq_some_iff.mp H
                  obtain ⟨⟨t286, t287, t288, t289, t290, t291, t292⟩, A360, H⟩ := H
                  replace H : (if t286 = true then (if t287 = 0 then ((tcb_Task_Is.f kj21 t288 t289 t290 t291 t292 (([2] : List Int))).bind fun bt296 => (some bt296.1)) else (some false)) else (some false)) = some r := H
                  have A36 := Aside0.mk A360
                  clear A360
                  by_cases c37 : t286 = true
                  · subst c37
                    have H1 : (if t287 = 0 then ((tcb_Task_Is.f kj21 t288 t289 t290 t291 t292 (([2] : List Int))).bind fun bt296 => (some bt296.1)) else (some false)) = some r := by rw [if_pos rfl] at H; exact H
                    clear H
                    have H := H1
                    clear H1
                    by_cases c38 : t287 = 0
                    · rw [if_pos c38] at H
                      have c38b0 : (t287 == 0) = true := beq_iff_eq.mpr c38
                      have c38b1 : (t287 != 0) = false := bne_eq_false_iff_eq.mpr c38
                      clear c38
                      obtain ⟨y293, hy293⟩ : ∃ y_ : List Int, y_ = (([2] : List Int)) := ⟨_, rfl⟩
                      replace H : ((tcb_Task_Is.f kj21 t288 t289 t290 t291 t292 y293).bind fun bt296 => (some bt296.1)) = some r := by first | (rw [hy293]; with_reducible exact H) | (have H2_ := (Option.bind_some _ _).symm.trans H; rw [hy293]; with_reducible exact H2_) | (have H2_ := (Option.bind_some _ _).symm.trans H; with_reducible exact H2_) | with_reducible exact H | (rw [hy293]; exact H) | exact H
                      have Ny293 := Aside0.mk hy293
                      clear hy293
                      replace H := Option.bind_eq_some_iff.mp H
                      obtain ⟨⟨t296, t297, t298, t299, t300, t301⟩, A390, H⟩ := H
                      replace H : (some t296) = some r := H
                      have A39 := Aside0.mk A390
                      clear A390
                      obtain rfl := Option.some.inj H
                      go_wp2_with (first | ((with_reducible refine gate_callee (f := 31) rfl ?_); refine goesL_ (some 50) rfl rfl Try.func31 (by kernel_rfl) rfl #[.pointer (some ⟨g234, 0, none⟩), .bool true] rfl (by (try simp only [List.map_toArray, List.map_cons, List.map_nil]); first | done | rfl | (simp only [List.length_drop, List.length_take]; rfl)) ?_; (with_reducible refine (tcb_Task_Resume.calls kj21 g234 x235000_21 x235001_21 x235002_21 x235003_21 x235004_21 true true t287 t288 t289 t290 t291 t292 w _ ?side1 ?side2 A36.out).mono ?_); (case side1 => repeat (first | (with_reducible first | exact HI234.out | apply IsS55.alloc | apply IsS55.drewN | apply IsS55.drew | apply IsS55.set_0 | apply IsS55.set_1 | apply IsS55.set_2 | apply IsS55.set_3 | apply IsS55.set_4) | exact HI234.out)); (case side2 => repeat (first | (with_reducible first | exact HB.out | apply below_alloc | apply pw_below_drewN | apply below_drew1 | refine below_set ?_ (IsS55.ge HI234.out)) | exact HB.out)); rintro e w40 ⟨rfl, hi, hb, hk⟩; refine ⟨_, rfl, ?_⟩; have n0_ := Aside0.mk (hb); have n1_ := Aside0.mk (hi); clear HB; clear HI234; have HB := n0_; have HI234 := n1_; clear n0_ n1_; (try clear hb); (try clear hb2); (try clear hk); (try clear hi)) | ((with_reducible refine gate_dst (N := 60) rfl ?_); (try (refine gate_guard (by rfl) ?_; dsimp only)); refine Kd.R_lit (Kd.int .i64) _ 3 ?hg (N := 60) ?hd (xs := ([2] : List Int)) (inner := [.int .i64 2]) (ok := fun _ => True) (okp := fun _ => True) ?hr ?hp (fun _ hk => hk) trivial (Below.refl _ _) (Nat.le_refl _) (by simp) ?_; (case hd => rfl); (case hg => rfl); (case hr => first | (go_simp; done) | (go_simp; rfl)); (case hp => exact (Reps.one (show Kd.M (Kd.int .i64) _ _ _ 2 [.int .i64 2] from rfl) (Reps.none _ _))); intro v294 w41 ho42 hb hg_ hnew_; clear hg_ hnew_; (first | rw [← Ny293.out] at ho42 | (simp only [Int.reduceToNat] at ho42; rw [← Ny293.out] at ho42)); have n0_ := Aside0.mk (Kd.R_lower ho42 (below_size (by repeat (first | (with_reducible first | exact HB.out | apply below_alloc | apply pw_below_drewN | apply below_drew1 | refine below_set ?_ (IsS55.ge HI234.out)) | exact HB.out)))); have n1_ := Aside0.mk (IsS55.below (by repeat (first | (with_reducible first | exact HI234.out | apply IsS55.alloc | apply IsS55.drewN | apply IsS55.drew | apply IsS55.set_0 | apply IsS55.set_1 | apply IsS55.set_2 | apply IsS55.set_3 | apply IsS55.set_4) | exact HI234.out)) hb); have n2_ := Aside0.mk (below_step (by repeat (first | (with_reducible first | exact HB.out | apply below_alloc | apply pw_below_drewN | apply below_drew1 | refine below_set ?_ (IsS55.ge HI234.out)) | exact HB.out)) hb); clear HI234; clear HB; have HO295 := n0_; have HI234 := n1_; have HB := n2_; clear n0_ n1_ n2_; clear hb ho42; obtain ⟨Ao43, co43, eo43⟩ := Kd.R_slice HO295.out; subst eo43) | (go_at_call 25; (with_reducible refine (tcb_Task_Is.calls kj21 g234 t288 t289 t290 t291 t292 _ _ y293 t296 t297 t298 t299 t300 t301 w _ ?side1 ?side2 ?side3 ?side4 ?side5 A39.out).mono ?_); (case side1 => repeat (first | (with_reducible first | exact HI234.out | apply IsS55.alloc | apply IsS55.drewN | apply IsS55.drew | apply IsS55.set_0 | apply IsS55.set_1 | apply IsS55.set_2 | apply IsS55.set_3 | apply IsS55.set_4) | exact HI234.out)); (case side2 => repeat (first | (with_reducible first | exact HB.out | apply below_alloc | apply pw_below_drewN | apply below_drew1 | refine below_set ?_ (IsS55.ge HI234.out)) | exact HB.out)); (case side3 => repeat (first | exact (Kd.R_reads' HO295.out).2.2 | (with_reducible refine Kd.C_alloc ?_ _) | (with_reducible refine Kd.C_drewN ?_ _) | (with_reducible refine Kd.C_drew ?_))); (case side4 => exact (Kd.R_reads' HO295.out).2.1); (case side5 => exact far_slice (IsS55.own_ne HI234.out HO295.out (by decide))); rintro e w44 ⟨rfl, hi, hb, hk⟩; have n0_ := Aside0.mk (Kd.R_mono (Kd.R_keep (IsS55.apart (show IsS55 w _ g234 t288 t289 t290 t291 t292 from by repeat (first | (with_reducible first | exact HI234.out | apply IsS55.alloc | apply IsS55.drewN | apply IsS55.drew | apply IsS55.set_0 | apply IsS55.set_1 | apply IsS55.set_2 | apply IsS55.set_3 | apply IsS55.set_4) | exact HI234.out)) (by (with_reducible repeat (first | apply Kd.R_alloc | apply Kd.R_drewN | apply Kd.R_drew)); exact HO295.out) (by decide)) hk (fun _ h => h.2)) (fun _ h => h.1)); have n1_ := Aside0.mk (hb); have n2_ := Aside0.mk (hi); clear HO295; clear HB; clear HI234; have HO295 := n0_; have HB := n1_; have HI234 := n2_; clear n0_ n1_ n2_; (try clear hb); (try clear hb2); (try clear hk); (try clear hi)))
                      go_ret
                      exact ⟨by first | rfl | (simp [errW_none, errW_some] <;> rfl) | (simp [*, errW_none, errW_some] <;> rfl), by repeat (first | (with_reducible first | exact HB.out | apply below_alloc | apply pw_below_drewN | apply below_drew1 | refine below_set ?_ (IsS55.ge HI234.out)) | exact HB.out)⟩
                    · rw [if_neg c38] at H
                      have c38b0 : (t287 == 0) = false := beq_eq_false_iff_ne.mpr c38
                      have c38b1 : (t287 != 0) = true := bne_iff_ne.mpr c38
                      obtain rfl := Option.some.inj H
                      go_wp2_with (first | ((with_reducible refine gate_callee (f := 31) rfl ?_); refine goesL_ (some 50) rfl rfl Try.func31 (by kernel_rfl) rfl #[.pointer (some ⟨g234, 0, none⟩), .bool true] rfl (by (try simp only [List.map_toArray, List.map_cons, List.map_nil]); first | done | rfl | (simp only [List.length_drop, List.length_take]; rfl)) ?_; (with_reducible refine (tcb_Task_Resume.calls kj21 g234 x235000_21 x235001_21 x235002_21 x235003_21 x235004_21 true true t287 t288 t289 t290 t291 t292 w _ ?side1 ?side2 A36.out).mono ?_); (case side1 => repeat (first | (with_reducible first | exact HI234.out | apply IsS55.alloc | apply IsS55.drewN | apply IsS55.drew | apply IsS55.set_0 | apply IsS55.set_1 | apply IsS55.set_2 | apply IsS55.set_3 | apply IsS55.set_4) | exact HI234.out)); (case side2 => repeat (first | (with_reducible first | exact HB.out | apply below_alloc | apply pw_below_drewN | apply below_drew1 | refine below_set ?_ (IsS55.ge HI234.out)) | exact HB.out)); rintro e w45 ⟨rfl, hi, hb, hk⟩; refine ⟨_, rfl, ?_⟩; have n0_ := Aside0.mk (hb); have n1_ := Aside0.mk (hi); clear HB; clear HI234; have HB := n0_; have HI234 := n1_; clear n0_ n1_; (try clear hb); (try clear hb2); (try clear hk); (try clear hi)))
                      go_ret
                      exact ⟨by first | rfl | (simp [errW_none, errW_some] <;> rfl) | (simp [*, errW_none, errW_some] <;> rfl), by repeat (first | (with_reducible first | exact HB.out | apply below_alloc | apply pw_below_drewN | apply below_drew1 | refine below_set ?_ (IsS55.ge HI234.out)) | exact HB.out)⟩
                  · replace c37 := Bool.eq_false_iff.mpr c37
                    subst c37
                    have H1 : (some false) = some r := by rw [if_neg (show ¬ (false = true) by decide)] at H; exact H
                    clear H
                    have H := H1
                    clear H1
                    obtain rfl := Option.some.inj H
                    go_wp2_with (first | ((with_reducible refine gate_callee (f := 31) rfl ?_); refine goesL_ (some 50) rfl rfl Try.func31 (by kernel_rfl) rfl #[.pointer (some ⟨g234, 0, none⟩), .bool true] rfl (by (try simp only [List.map_toArray, List.map_cons, List.map_nil]); first | done | rfl | (simp only [List.length_drop, List.length_take]; rfl)) ?_; (with_reducible refine (tcb_Task_Resume.calls kj21 g234 x235000_21 x235001_21 x235002_21 x235003_21 x235004_21 true false t287 t288 t289 t290 t291 t292 w _ ?side1 ?side2 A36.out).mono ?_); (case side1 => repeat (first | (with_reducible first | exact HI234.out | apply IsS55.alloc | apply IsS55.drewN | apply IsS55.drew | apply IsS55.set_0 | apply IsS55.set_1 | apply IsS55.set_2 | apply IsS55.set_3 | apply IsS55.set_4) | exact HI234.out)); (case side2 => repeat (first | (with_reducible first | exact HB.out | apply below_alloc | apply pw_below_drewN | apply below_drew1 | refine below_set ?_ (IsS55.ge HI234.out)) | exact HB.out)); rintro e w46 ⟨rfl, hi, hb, hk⟩; refine ⟨_, rfl, ?_⟩; have n0_ := Aside0.mk (hb); have n1_ := Aside0.mk (hi); clear HB; clear HI234; have HB := n0_; have HI234 := n1_; clear n0_ n1_; (try clear hb); (try clear hb2); (try clear hk); (try clear hi)))
                    go_ret
                    exact ⟨by first | rfl | (simp [errW_none, errW_some] <;> rfl) | (simp [*, errW_none, errW_some] <;> rfl), by repeat (first | (with_reducible first | exact HB.out | apply below_alloc | apply pw_below_drewN | apply below_drew1 | refine below_set ?_ (IsS55.ge HI234.out)) | exact HB.out)⟩
          · replace c20 := Bool.eq_false_iff.mpr c20
            subst c20
            have H1 : ((tcb_Task_Resume.f kj8 t265 t266 t267 t268 t269 true).bind fun bt302 => (if bt302.1 = true then (detentlaw10_TaskBoth.j2 kj8 true bt302.2.2.1 bt302.2.2.2.1 bt302.2.2.2.2.1 bt302.2.2.2.2.2.1 bt302.2.2.2.2.2.2) else (if bt302.2.1 = 0 then ((tcb_Task_Is.f kj8 bt302.2.2.1 bt302.2.2.2.1 bt302.2.2.2.2.1 bt302.2.2.2.2.2.1 bt302.2.2.2.2.2.2 (([4] : List Int))).bind fun bt312 => (detentlaw10_TaskBoth.j2 kj8 (!bt312.1) bt312.2.1 bt312.2.2.1 bt312.2.2.2.1 bt312.2.2.2.2.1 bt312.2.2.2.2.2)) else (detentlaw10_TaskBoth.j2 kj8 true bt302.2.2.1 bt302.2.2.2.1 bt302.2.2.2.2.1 bt302.2.2.2.2.2.1 bt302.2.2.2.2.2.2)))) = some r := by rw [if_neg (show ¬ (false = true) by decide)] at H; exact H
            clear H
            have H := H1
            clear H1
            replace H := Option.bind_eq_some_iff.mp H
            obtain ⟨⟨t302, t303, t304, t305, t306, t307, t308⟩, A470, H⟩ := H
            replace H : (if t302 = true then (detentlaw10_TaskBoth.j2 kj8 true t304 t305 t306 t307 t308) else (if t303 = 0 then ((tcb_Task_Is.f kj8 t304 t305 t306 t307 t308 (([4] : List Int))).bind fun bt312 => (detentlaw10_TaskBoth.j2 kj8 (!bt312.1) bt312.2.1 bt312.2.2.1 bt312.2.2.2.1 bt312.2.2.2.2.1 bt312.2.2.2.2.2)) else (detentlaw10_TaskBoth.j2 kj8 true t304 t305 t306 t307 t308))) = some r := H
            have A47 := Aside0.mk A470
            clear A470
            have HC48 := Aside0.mk H
            clear H
            go_upto_region 18 with (first | ((with_reducible refine gate_dst (N := 27) rfl ?_); (try (refine gate_guard (by rfl) ?_; dsimp only)); refine Kd.R_lit (Kd.int .i64) _ 3 ?hg (N := 27) ?hd (xs := ([12] : List Int)) (inner := [.int .i64 12]) (ok := fun _ => True) (okp := fun _ => True) ?hr ?hp (fun _ hk => hk) trivial (Below.refl _ _) (Nat.le_refl _) (by simp) ?_; (case hd => rfl); (case hg => rfl); (case hr => first | (go_simp; done) | (go_simp; rfl)); (case hp => exact (Reps.one (show Kd.M (Kd.int .i64) _ _ _ 12 [.int .i64 12] from rfl) (Reps.none _ _))); intro v262 w49 ho50 hb hg_ hnew_; clear hg_ hnew_; (first | rw [← Ny261.out] at ho50 | (simp only [Int.reduceToNat] at ho50; rw [← Ny261.out] at ho50)); have n0_ := Aside0.mk (Kd.R_lower ho50 (below_size (by repeat (first | (with_reducible first | exact HB.out | apply below_alloc | apply pw_below_drewN | apply below_drew1 | refine below_set ?_ (IsS55.ge HI234.out)) | exact HB.out)))); have n1_ := Aside0.mk (IsS55.below (by repeat (first | (with_reducible first | exact HI234.out | apply IsS55.alloc | apply IsS55.drewN | apply IsS55.drew | apply IsS55.set_0 | apply IsS55.set_1 | apply IsS55.set_2 | apply IsS55.set_3 | apply IsS55.set_4) | exact HI234.out)) hb); have n2_ := Aside0.mk (below_step (by repeat (first | (with_reducible first | exact HB.out | apply below_alloc | apply pw_below_drewN | apply below_drew1 | refine below_set ?_ (IsS55.ge HI234.out)) | exact HB.out)) hb); clear HI234; clear HB; have HO263 := n0_; have HI234 := n1_; have HB := n2_; clear n0_ n1_ n2_; clear hb ho50; obtain ⟨Ao51, co51, eo51⟩ := Kd.R_slice HO263.out; subst eo51) | ((with_reducible refine gate_callee (f := 25) rfl ?_); refine goesL_ (some 28) rfl rfl Try.func25 (by kernel_rfl) rfl #[.pointer (some ⟨g234, 0, none⟩), .slice Ao51 y261.length co51] rfl (by (try simp only [List.map_toArray, List.map_cons, List.map_nil]); first | done | rfl | (simp only [List.length_drop, List.length_take]; rfl)) ?_; (with_reducible refine (tcb_Task_Is.calls kj8 g234 x235000_8 x235001_8 x235002_8 x235003_8 x235004_8 _ _ y261 true t265 t266 t267 t268 t269 w _ ?side1 ?side2 ?side3 ?side4 ?side5 A18.out).mono ?_); (case side1 => repeat (first | (with_reducible first | exact HI234.out | apply IsS55.alloc | apply IsS55.drewN | apply IsS55.drew | apply IsS55.set_0 | apply IsS55.set_1 | apply IsS55.set_2 | apply IsS55.set_3 | apply IsS55.set_4) | exact HI234.out)); (case side2 => repeat (first | (with_reducible first | exact HB.out | apply below_alloc | apply pw_below_drewN | apply below_drew1 | refine below_set ?_ (IsS55.ge HI234.out)) | exact HB.out)); (case side3 => repeat (first | exact (Kd.R_reads' HO263.out).2.2 | (with_reducible refine Kd.C_alloc ?_ _) | (with_reducible refine Kd.C_drewN ?_ _) | (with_reducible refine Kd.C_drew ?_))); (case side4 => exact (Kd.R_reads' HO263.out).2.1); (case side5 => exact far_slice (IsS55.own_ne HI234.out HO263.out (by decide))); rintro e w52 ⟨rfl, hi, hb, hk⟩; refine ⟨_, rfl, ?_⟩; have n0_ := Aside0.mk (Kd.R_mono (Kd.R_keep (IsS55.apart (show IsS55 w _ g234 x235000_8 x235001_8 x235002_8 x235003_8 x235004_8 from by repeat (first | (with_reducible first | exact HI234.out | apply IsS55.alloc | apply IsS55.drewN | apply IsS55.drew | apply IsS55.set_0 | apply IsS55.set_1 | apply IsS55.set_2 | apply IsS55.set_3 | apply IsS55.set_4) | exact HI234.out)) (by (with_reducible repeat (first | apply Kd.R_alloc | apply Kd.R_drewN | apply Kd.R_drew)); exact HO263.out) (by decide)) hk (fun _ h => h.2)) (fun _ h => h.1)); have n1_ := Aside0.mk (hb); have n2_ := Aside0.mk (hi); clear HO263; clear HB; clear HI234; have HO263 := n0_; have HB := n1_; have HI234 := n2_; clear n0_ n1_ n2_; (try clear hb); (try clear hb2); (try clear hk); (try clear hi)) | ((with_reducible refine gate_callee (f := 31) rfl ?_); refine goesL_ (some 65) rfl rfl Try.func31 (by kernel_rfl) rfl #[.pointer (some ⟨g234, 0, none⟩), .bool true] rfl (by (try simp only [List.map_toArray, List.map_cons, List.map_nil]); first | done | rfl | (simp only [List.length_drop, List.length_take]; rfl)) ?_; (with_reducible refine (tcb_Task_Resume.calls kj8 g234 t265 t266 t267 t268 t269 true t302 t303 t304 t305 t306 t307 t308 w _ ?side1 ?side2 A47.out).mono ?_); (case side1 => repeat (first | (with_reducible first | exact HI234.out | apply IsS55.alloc | apply IsS55.drewN | apply IsS55.drew | apply IsS55.set_0 | apply IsS55.set_1 | apply IsS55.set_2 | apply IsS55.set_3 | apply IsS55.set_4) | exact HI234.out)); (case side2 => repeat (first | (with_reducible first | exact HB.out | apply below_alloc | apply pw_below_drewN | apply below_drew1 | refine below_set ?_ (IsS55.ge HI234.out)) | exact HB.out)); rintro e w53 ⟨rfl, hi, hb, hk⟩; refine ⟨_, rfl, ?_⟩; have n0_ := Aside0.mk (Kd.R_mono (Kd.R_keep (IsS55.apart (show IsS55 w _ g234 t265 t266 t267 t268 t269 from by repeat (first | (with_reducible first | exact HI234.out | apply IsS55.alloc | apply IsS55.drewN | apply IsS55.drew | apply IsS55.set_0 | apply IsS55.set_1 | apply IsS55.set_2 | apply IsS55.set_3 | apply IsS55.set_4) | exact HI234.out)) (by (with_reducible repeat (first | apply Kd.R_alloc | apply Kd.R_drewN | apply Kd.R_drew)); exact HO263.out) (by decide)) hk (fun _ h => h.2)) (fun _ h => h.1)); have n1_ := Aside0.mk (hb); have n2_ := Aside0.mk (hi); clear HO263; clear HB; clear HI234; have HO263 := n0_; have HB := n1_; have HI234 := n2_; clear n0_ n1_ n2_; (try clear hb); (try clear hb2); (try clear hk); (try clear hi)))
            (try simp only [Act.put, List.setIfInBounds_toArray, List.set_cons_zero, List.set_cons_succ])
            go_cut [78] (fun v78 wc => ∃ (kq : Nat) (x78_47 : Bool) (x235000_47 : Int) (x235001_47 : Int) (x235002_47 : Int) (x235003_47 : Int) (x235004_47 : Bool), v78 = .bool x78_47 ∧ Aside0 (detentlaw10_TaskBoth.j2 kq x78_47 x235000_47 x235001_47 x235002_47 x235003_47 x235004_47 = some r) ∧ Aside0 (kq ≤ kj8) ∧ Aside0 (IsS55 w wc g234 x235000_47 x235001_47 x235002_47 x235003_47 x235004_47) ∧ Aside0 (Below w.heap.size w wc))
            case first =>
              have H := HC48.out
              clear HC48
              by_cases c54 : t302 = true
              · subst c54
                have H1 : (detentlaw10_TaskBoth.j2 kj8 true t304 t305 t306 t307 t308) = some r := by rw [if_pos rfl] at H; exact H
                clear H
                have H := H1
                clear H1
                have H' := Aside0.mk H
                clear H
                go_wp2
                go_meet
                case rel => exact ⟨_, (true), (t304), (t305), (t306), (t307), (t308), (by first | rfl | (simp; done) | (simp [*]; done)), H', ⟨by have := HJ8.out; first | omega | exact Nat.le_refl _⟩, ⟨by repeat (first | (with_reducible first | exact HI234.out | apply IsS55.alloc | apply IsS55.drewN | apply IsS55.drew | apply IsS55.set_0 | apply IsS55.set_1 | apply IsS55.set_2 | apply IsS55.set_3 | apply IsS55.set_4) | exact HI234.out)⟩, ⟨by repeat (first | (with_reducible first | exact HB.out | apply below_alloc | apply pw_below_drewN | apply below_drew1 | refine below_set ?_ (IsS55.ge HI234.out)) | exact HB.out)⟩⟩
              · replace c54 := Bool.eq_false_iff.mpr c54
                subst c54
                have H1 : (if t303 = 0 then ((tcb_Task_Is.f kj8 t304 t305 t306 t307 t308 (([4] : List Int))).bind fun bt312 => (detentlaw10_TaskBoth.j2 kj8 (!bt312.1) bt312.2.1 bt312.2.2.1 bt312.2.2.2.1 bt312.2.2.2.2.1 bt312.2.2.2.2.2)) else (detentlaw10_TaskBoth.j2 kj8 true t304 t305 t306 t307 t308)) = some r := by rw [if_neg (show ¬ (false = true) by decide)] at H; exact H
                clear H
                have H := H1
                clear H1
                by_cases c55 : t303 = 0
                · rw [if_pos c55] at H
                  have c55b0 : (t303 == 0) = true := beq_iff_eq.mpr c55
                  have c55b1 : (t303 != 0) = false := bne_eq_false_iff_eq.mpr c55
                  clear c55
                  (first | rw [c55b0] | (simp only [i64_w, i32_w]; rw [c55b0]) | skip)
                  obtain ⟨y309, hy309⟩ : ∃ y_ : List Int, y_ = (([4] : List Int)) := ⟨_, rfl⟩
                  replace H : ((tcb_Task_Is.f kj8 t304 t305 t306 t307 t308 y309).bind fun bt312 => (detentlaw10_TaskBoth.j2 kj8 (!bt312.1) bt312.2.1 bt312.2.2.1 bt312.2.2.2.1 bt312.2.2.2.2.1 bt312.2.2.2.2.2)) = some r := by first | (rw [hy309]; with_reducible exact H) | (have H2_ := (Option.bind_some _ _).symm.trans H; rw [hy309]; with_reducible exact H2_) | (have H2_ := (Option.bind_some _ _).symm.trans H; with_reducible exact H2_) | with_reducible exact H | (rw [hy309]; exact H) | exact H
                  have Ny309 := Aside0.mk hy309
                  clear hy309
                  replace H := Option.bind_eq_some_iff.mp H
                  obtain ⟨⟨t312, t313, t314, t315, t316, t317⟩, A560, H⟩ := H
                  replace H : (detentlaw10_TaskBoth.j2 kj8 (!t312) t313 t314 t315 t316 t317) = some r := H
                  have A56 := Aside0.mk A560
                  clear A560
                  have H' := Aside0.mk H
                  clear H
                  go_wp2_with (first | ((with_reducible refine gate_dst (N := 75) rfl ?_); (try (refine gate_guard (by rfl) ?_; dsimp only)); refine Kd.R_lit (Kd.int .i64) _ 3 ?hg (N := 75) ?hd (xs := ([4] : List Int)) (inner := [.int .i64 4]) (ok := fun _ => True) (okp := fun _ => True) ?hr ?hp (fun _ hk => hk) trivial (Below.refl _ _) (Nat.le_refl _) (by simp) ?_; (case hd => rfl); (case hg => rfl); (case hr => first | (go_simp; done) | (go_simp; rfl)); (case hp => exact (Reps.one (show Kd.M (Kd.int .i64) _ _ _ 4 [.int .i64 4] from rfl) (Reps.none _ _))); intro v310 w57 ho58 hb hg_ hnew_; clear hg_ hnew_; (first | rw [← Ny309.out] at ho58 | (simp only [Int.reduceToNat] at ho58; rw [← Ny309.out] at ho58)); have n0_ := Aside0.mk (Kd.R_elder' (by (with_reducible repeat (first | apply Kd.R_alloc | apply Kd.R_drewN | apply Kd.R_drew)); exact HO263.out) (Kd.R_base ho58) hb); have n1_ := Aside0.mk (Kd.R_lower (Kd.R_new' ho58 (Kd.R_lt (by (with_reducible repeat (first | apply Kd.R_alloc | apply Kd.R_drewN | apply Kd.R_drew)); exact HO263.out))) (below_size (by repeat (first | (with_reducible first | exact HB.out | apply below_alloc | apply pw_below_drewN | apply below_drew1 | refine below_set ?_ (IsS55.ge HI234.out)) | exact HB.out)))); have n2_ := Aside0.mk (IsS55.below (by repeat (first | (with_reducible first | exact HI234.out | apply IsS55.alloc | apply IsS55.drewN | apply IsS55.drew | apply IsS55.set_0 | apply IsS55.set_1 | apply IsS55.set_2 | apply IsS55.set_3 | apply IsS55.set_4) | exact HI234.out)) hb); have n3_ := Aside0.mk (below_step (by repeat (first | (with_reducible first | exact HB.out | apply below_alloc | apply pw_below_drewN | apply below_drew1 | refine below_set ?_ (IsS55.ge HI234.out)) | exact HB.out)) hb); clear HO263; clear HI234; clear HB; have HO263 := n0_; have HO311 := n1_; have HI234 := n2_; have HB := n3_; clear n0_ n1_ n2_ n3_; clear hb ho58; obtain ⟨Ao59, co59, eo59⟩ := Kd.R_slice HO311.out; subst eo59) | (go_at_call 25; (with_reducible refine (tcb_Task_Is.calls kj8 g234 t304 t305 t306 t307 t308 _ _ y309 t312 t313 t314 t315 t316 t317 w _ ?side1 ?side2 ?side3 ?side4 ?side5 A56.out).mono ?_); (case side1 => repeat (first | (with_reducible first | exact HI234.out | apply IsS55.alloc | apply IsS55.drewN | apply IsS55.drew | apply IsS55.set_0 | apply IsS55.set_1 | apply IsS55.set_2 | apply IsS55.set_3 | apply IsS55.set_4) | exact HI234.out)); (case side2 => repeat (first | (with_reducible first | exact HB.out | apply below_alloc | apply pw_below_drewN | apply below_drew1 | refine below_set ?_ (IsS55.ge HI234.out)) | exact HB.out)); (case side3 => repeat (first | exact (Kd.R_reads' HO311.out).2.2 | (with_reducible refine Kd.C_alloc ?_ _) | (with_reducible refine Kd.C_drewN ?_ _) | (with_reducible refine Kd.C_drew ?_))); (case side4 => exact (Kd.R_reads' HO311.out).2.1); (case side5 => exact far_slice (IsS55.own_ne HI234.out HO311.out (by decide))); rintro e w60 ⟨rfl, hi, hb, hk⟩; have n0_ := Aside0.mk (Kd.R_mono (Kd.R_keep (IsS55.apart (show IsS55 w _ g234 t304 t305 t306 t307 t308 from by repeat (first | (with_reducible first | exact HI234.out | apply IsS55.alloc | apply IsS55.drewN | apply IsS55.drew | apply IsS55.set_0 | apply IsS55.set_1 | apply IsS55.set_2 | apply IsS55.set_3 | apply IsS55.set_4) | exact HI234.out)) (by (with_reducible repeat (first | apply Kd.R_alloc | apply Kd.R_drewN | apply Kd.R_drew)); exact HO263.out) (by decide)) hk (fun _ h => h.2)) (fun _ h => h.1)); have n1_ := Aside0.mk (Kd.R_mono (Kd.R_keep (IsS55.apart (show IsS55 w _ g234 t304 t305 t306 t307 t308 from by repeat (first | (with_reducible first | exact HI234.out | apply IsS55.alloc | apply IsS55.drewN | apply IsS55.drew | apply IsS55.set_0 | apply IsS55.set_1 | apply IsS55.set_2 | apply IsS55.set_3 | apply IsS55.set_4) | exact HI234.out)) (by (with_reducible repeat (first | apply Kd.R_alloc | apply Kd.R_drewN | apply Kd.R_drew)); exact HO311.out) (by decide)) hk (fun _ h => h.2)) (fun _ h => h.1)); have n2_ := Aside0.mk (hb); have n3_ := Aside0.mk (hi); clear HO263; clear HO311; clear HB; clear HI234; have HO263 := n0_; have HO311 := n1_; have HB := n2_; have HI234 := n3_; clear n0_ n1_ n2_ n3_; (try clear hb); (try clear hb2); (try clear hk); (try clear hi)))
                  go_meet
                  case rel => exact ⟨_, (!t312), (t313), (t314), (t315), (t316), (t317), (by first | rfl | (simp; done) | (simp [*]; done)), H', ⟨by have := HJ8.out; first | omega | exact Nat.le_refl _⟩, ⟨by repeat (first | (with_reducible first | exact HI234.out | apply IsS55.alloc | apply IsS55.drewN | apply IsS55.drew | apply IsS55.set_0 | apply IsS55.set_1 | apply IsS55.set_2 | apply IsS55.set_3 | apply IsS55.set_4) | exact HI234.out)⟩, ⟨by repeat (first | (with_reducible first | exact HB.out | apply below_alloc | apply pw_below_drewN | apply below_drew1 | refine below_set ?_ (IsS55.ge HI234.out)) | exact HB.out)⟩⟩
                · rw [if_neg c55] at H
                  have c55b0 : (t303 == 0) = false := beq_eq_false_iff_ne.mpr c55
                  have c55b1 : (t303 != 0) = true := bne_iff_ne.mpr c55
                  (first | rw [c55b0] | (simp only [i64_w, i32_w]; rw [c55b0]) | skip)
                  have H' := Aside0.mk H
                  clear H
                  go_wp2
                  go_meet
                  case rel => exact ⟨_, (true), (t304), (t305), (t306), (t307), (t308), (by first | rfl | (simp; done) | (simp [*]; done)), H', ⟨by have := HJ8.out; first | omega | exact Nat.le_refl _⟩, ⟨by repeat (first | (with_reducible first | exact HI234.out | apply IsS55.alloc | apply IsS55.drewN | apply IsS55.drew | apply IsS55.set_0 | apply IsS55.set_1 | apply IsS55.set_2 | apply IsS55.set_3 | apply IsS55.set_4) | exact HI234.out)⟩, ⟨by repeat (first | (with_reducible first | exact HB.out | apply below_alloc | apply pw_below_drewN | apply below_drew1 | refine below_set ?_ (IsS55.ge HI234.out)) | exact HB.out)⟩⟩
            case rest =>
              clear HC48
              try clear c1
              try clear c2
              try clear p2
              try clear c3
              try clear c4
              try clear c5
              try clear c9
              try clear c15
              try clear c19
              try clear c20
              try clear c21
              try clear c22
              try clear c23
              try clear c25
              try clear c27
              try clear c28
              try clear c29
              try clear c29b0
              try clear c29b1
              try clear c31
              try clear c35
              try clear c37
              try clear c38
              try clear c38b0
              try clear c38b1
              try clear c54
              try clear c55
              try clear c55b0
              try clear c55b1
              try clear p2
              obtain ⟨kq, x78_47, x235000_47, x235001_47, x235002_47, x235003_47, x235004_47, rfl, HA, HJ47, HI234, HB⟩ := hcut
              cases kq with
              | zero => exact absurd HA.out (by simp [detentlaw10_TaskBoth.j2])
              | succ kj47 =>
                have H := HA.out
                clear HA
                simp only [detentlaw10_TaskBoth.j2] at H
                by_cases c61 : x78_47 = true
                · subst c61
                  have H1 : (some false) = some r := by rw [if_pos rfl] at H; exact H
                  clear H
                  have H := H1
                  clear H1
                  obtain rfl := Option.some.inj H
                  go_wp2
                  go_ret
                  exact ⟨by first | rfl | (simp [errW_none, errW_some] <;> rfl) | (simp [*, errW_none, errW_some] <;> rfl), by repeat (first | (with_reducible first | exact HB.out | apply below_alloc | apply pw_below_drewN | apply below_drew1 | refine below_set ?_ (IsS55.ge HI234.out)) | exact HB.out)⟩
                · replace c61 := Bool.eq_false_iff.mpr c61
                  subst c61
                  have H1 : ((tcb_Task_Wake.f kj47 x235000_47 x235001_47 x235002_47 x235003_47 x235004_47).bind fun bt318 => (if bt318.1 = true then (if bt318.2.1 = 0 then ((tcb_Task_Is.f kj47 bt318.2.2.1 bt318.2.2.2.1 bt318.2.2.2.2.1 bt318.2.2.2.2.2.1 bt318.2.2.2.2.2.2 (([2] : List Int))).bind fun bt328 => (some bt328.1)) else (some false)) else (some false))) = some r := by rw [if_neg (show ¬ (false = true) by decide)] at H; exact H
                  clear H
                  have H := H1
                  clear H1
                  replace H := Option.bind_eq_some_iff.mp H
                  obtain ⟨⟨t318, t319, t320, t321, t322, t323, t324⟩, A620, H⟩ := H
                  replace H : (if t318 = true then (if t319 = 0 then ((tcb_Task_Is.f kj47 t320 t321 t322 t323 t324 (([2] : List Int))).bind fun bt328 => (some bt328.1)) else (some false)) else (some false)) = some r := H
                  have A62 := Aside0.mk A620
                  clear A620
                  by_cases c63 : t318 = true
                  · subst c63
                    have H1 : (if t319 = 0 then ((tcb_Task_Is.f kj47 t320 t321 t322 t323 t324 (([2] : List Int))).bind fun bt328 => (some bt328.1)) else (some false)) = some r := by rw [if_pos rfl] at H; exact H
                    clear H
                    have H := H1
                    clear H1
                    by_cases c64 : t319 = 0
                    · rw [if_pos c64] at H
                      have c64b0 : (t319 == 0) = true := beq_iff_eq.mpr c64
                      have c64b1 : (t319 != 0) = false := bne_eq_false_iff_eq.mpr c64
                      clear c64
                      obtain ⟨y325, hy325⟩ : ∃ y_ : List Int, y_ = (([2] : List Int)) := ⟨_, rfl⟩
                      replace H : ((tcb_Task_Is.f kj47 t320 t321 t322 t323 t324 y325).bind fun bt328 => (some bt328.1)) = some r := by first | (rw [hy325]; with_reducible exact H) | (have H2_ := (Option.bind_some _ _).symm.trans H; rw [hy325]; with_reducible exact H2_) | (have H2_ := (Option.bind_some _ _).symm.trans H; with_reducible exact H2_) | with_reducible exact H | (rw [hy325]; exact H) | exact H
                      have Ny325 := Aside0.mk hy325
                      clear hy325
                      replace H := Option.bind_eq_some_iff.mp H
                      obtain ⟨⟨t328, t329, t330, t331, t332, t333⟩, A650, H⟩ := H
                      replace H : (some t328) = some r := H
                      have A65 := Aside0.mk A650
                      clear A650
                      obtain rfl := Option.some.inj H
                      go_wp2_with (first | ((with_reducible refine gate_callee (f := 28) rfl ?_); refine goesL_ (some 81) rfl rfl Try.func28 (by kernel_rfl) rfl #[.pointer (some ⟨g234, 0, none⟩)] rfl (by (try simp only [List.map_toArray, List.map_cons, List.map_nil]); first | done | rfl | (simp only [List.length_drop, List.length_take]; rfl)) ?_; (with_reducible refine (tcb_Task_Wake.calls kj47 g234 x235000_47 x235001_47 x235002_47 x235003_47 x235004_47 true t319 t320 t321 t322 t323 t324 w _ ?side1 ?side2 A62.out).mono ?_); (case side1 => repeat (first | (with_reducible first | exact HI234.out | apply IsS55.alloc | apply IsS55.drewN | apply IsS55.drew | apply IsS55.set_0 | apply IsS55.set_1 | apply IsS55.set_2 | apply IsS55.set_3 | apply IsS55.set_4) | exact HI234.out)); (case side2 => repeat (first | (with_reducible first | exact HB.out | apply below_alloc | apply pw_below_drewN | apply below_drew1 | refine below_set ?_ (IsS55.ge HI234.out)) | exact HB.out)); rintro e w66 ⟨rfl, hi, hb, hk⟩; refine ⟨_, rfl, ?_⟩; have n0_ := Aside0.mk (hb); have n1_ := Aside0.mk (hi); clear HB; clear HI234; have HB := n0_; have HI234 := n1_; clear n0_ n1_; (try clear hb); (try clear hb2); (try clear hk); (try clear hi)) | ((with_reducible refine gate_dst (N := 91) rfl ?_); (try (refine gate_guard (by rfl) ?_; dsimp only)); refine Kd.R_lit (Kd.int .i64) _ 3 ?hg (N := 91) ?hd (xs := ([2] : List Int)) (inner := [.int .i64 2]) (ok := fun _ => True) (okp := fun _ => True) ?hr ?hp (fun _ hk => hk) trivial (Below.refl _ _) (Nat.le_refl _) (by simp) ?_; (case hd => rfl); (case hg => rfl); (case hr => first | (go_simp; done) | (go_simp; rfl)); (case hp => exact (Reps.one (show Kd.M (Kd.int .i64) _ _ _ 2 [.int .i64 2] from rfl) (Reps.none _ _))); intro v326 w67 ho68 hb hg_ hnew_; clear hg_ hnew_; (first | rw [← Ny325.out] at ho68 | (simp only [Int.reduceToNat] at ho68; rw [← Ny325.out] at ho68)); have n0_ := Aside0.mk (Kd.R_lower ho68 (below_size (by repeat (first | (with_reducible first | exact HB.out | apply below_alloc | apply pw_below_drewN | apply below_drew1 | refine below_set ?_ (IsS55.ge HI234.out)) | exact HB.out)))); have n1_ := Aside0.mk (IsS55.below (by repeat (first | (with_reducible first | exact HI234.out | apply IsS55.alloc | apply IsS55.drewN | apply IsS55.drew | apply IsS55.set_0 | apply IsS55.set_1 | apply IsS55.set_2 | apply IsS55.set_3 | apply IsS55.set_4) | exact HI234.out)) hb); have n2_ := Aside0.mk (below_step (by repeat (first | (with_reducible first | exact HB.out | apply below_alloc | apply pw_below_drewN | apply below_drew1 | refine below_set ?_ (IsS55.ge HI234.out)) | exact HB.out)) hb); clear HI234; clear HB; have HO327 := n0_; have HI234 := n1_; have HB := n2_; clear n0_ n1_ n2_; clear hb ho68; obtain ⟨Ao69, co69, eo69⟩ := Kd.R_slice HO327.out; subst eo69) | (go_at_call 25; (with_reducible refine (tcb_Task_Is.calls kj47 g234 t320 t321 t322 t323 t324 _ _ y325 t328 t329 t330 t331 t332 t333 w _ ?side1 ?side2 ?side3 ?side4 ?side5 A65.out).mono ?_); (case side1 => repeat (first | (with_reducible first | exact HI234.out | apply IsS55.alloc | apply IsS55.drewN | apply IsS55.drew | apply IsS55.set_0 | apply IsS55.set_1 | apply IsS55.set_2 | apply IsS55.set_3 | apply IsS55.set_4) | exact HI234.out)); (case side2 => repeat (first | (with_reducible first | exact HB.out | apply below_alloc | apply pw_below_drewN | apply below_drew1 | refine below_set ?_ (IsS55.ge HI234.out)) | exact HB.out)); (case side3 => repeat (first | exact (Kd.R_reads' HO327.out).2.2 | (with_reducible refine Kd.C_alloc ?_ _) | (with_reducible refine Kd.C_drewN ?_ _) | (with_reducible refine Kd.C_drew ?_))); (case side4 => exact (Kd.R_reads' HO327.out).2.1); (case side5 => exact far_slice (IsS55.own_ne HI234.out HO327.out (by decide))); rintro e w70 ⟨rfl, hi, hb, hk⟩; have n0_ := Aside0.mk (Kd.R_mono (Kd.R_keep (IsS55.apart (show IsS55 w _ g234 t320 t321 t322 t323 t324 from by repeat (first | (with_reducible first | exact HI234.out | apply IsS55.alloc | apply IsS55.drewN | apply IsS55.drew | apply IsS55.set_0 | apply IsS55.set_1 | apply IsS55.set_2 | apply IsS55.set_3 | apply IsS55.set_4) | exact HI234.out)) (by (with_reducible repeat (first | apply Kd.R_alloc | apply Kd.R_drewN | apply Kd.R_drew)); exact HO327.out) (by decide)) hk (fun _ h => h.2)) (fun _ h => h.1)); have n1_ := Aside0.mk (hb); have n2_ := Aside0.mk (hi); clear HO327; clear HB; clear HI234; have HO327 := n0_; have HB := n1_; have HI234 := n2_; clear n0_ n1_ n2_; (try clear hb); (try clear hb2); (try clear hk); (try clear hi)))
                      go_ret
                      exact ⟨by first | rfl | (simp [errW_none, errW_some] <;> rfl) | (simp [*, errW_none, errW_some] <;> rfl), by repeat (first | (with_reducible first | exact HB.out | apply below_alloc | apply pw_below_drewN | apply below_drew1 | refine below_set ?_ (IsS55.ge HI234.out)) | exact HB.out)⟩
                    · rw [if_neg c64] at H
                      have c64b0 : (t319 == 0) = false := beq_eq_false_iff_ne.mpr c64
                      have c64b1 : (t319 != 0) = true := bne_iff_ne.mpr c64
                      obtain rfl := Option.some.inj H
                      go_wp2_with (first | ((with_reducible refine gate_callee (f := 28) rfl ?_); refine goesL_ (some 81) rfl rfl Try.func28 (by kernel_rfl) rfl #[.pointer (some ⟨g234, 0, none⟩)] rfl (by (try simp only [List.map_toArray, List.map_cons, List.map_nil]); first | done | rfl | (simp only [List.length_drop, List.length_take]; rfl)) ?_; (with_reducible refine (tcb_Task_Wake.calls kj47 g234 x235000_47 x235001_47 x235002_47 x235003_47 x235004_47 true t319 t320 t321 t322 t323 t324 w _ ?side1 ?side2 A62.out).mono ?_); (case side1 => repeat (first | (with_reducible first | exact HI234.out | apply IsS55.alloc | apply IsS55.drewN | apply IsS55.drew | apply IsS55.set_0 | apply IsS55.set_1 | apply IsS55.set_2 | apply IsS55.set_3 | apply IsS55.set_4) | exact HI234.out)); (case side2 => repeat (first | (with_reducible first | exact HB.out | apply below_alloc | apply pw_below_drewN | apply below_drew1 | refine below_set ?_ (IsS55.ge HI234.out)) | exact HB.out)); rintro e w71 ⟨rfl, hi, hb, hk⟩; refine ⟨_, rfl, ?_⟩; have n0_ := Aside0.mk (hb); have n1_ := Aside0.mk (hi); clear HB; clear HI234; have HB := n0_; have HI234 := n1_; clear n0_ n1_; (try clear hb); (try clear hb2); (try clear hk); (try clear hi)))
                      go_ret
                      exact ⟨by first | rfl | (simp [errW_none, errW_some] <;> rfl) | (simp [*, errW_none, errW_some] <;> rfl), by repeat (first | (with_reducible first | exact HB.out | apply below_alloc | apply pw_below_drewN | apply below_drew1 | refine below_set ?_ (IsS55.ge HI234.out)) | exact HB.out)⟩
                  · replace c63 := Bool.eq_false_iff.mpr c63
                    subst c63
                    have H1 : (some false) = some r := by rw [if_neg (show ¬ (false = true) by decide)] at H; exact H
                    clear H
                    have H := H1
                    clear H1
                    obtain rfl := Option.some.inj H
                    go_wp2_with (first | ((with_reducible refine gate_callee (f := 28) rfl ?_); refine goesL_ (some 81) rfl rfl Try.func28 (by kernel_rfl) rfl #[.pointer (some ⟨g234, 0, none⟩)] rfl (by (try simp only [List.map_toArray, List.map_cons, List.map_nil]); first | done | rfl | (simp only [List.length_drop, List.length_take]; rfl)) ?_; (with_reducible refine (tcb_Task_Wake.calls kj47 g234 x235000_47 x235001_47 x235002_47 x235003_47 x235004_47 false t319 t320 t321 t322 t323 t324 w _ ?side1 ?side2 A62.out).mono ?_); (case side1 => repeat (first | (with_reducible first | exact HI234.out | apply IsS55.alloc | apply IsS55.drewN | apply IsS55.drew | apply IsS55.set_0 | apply IsS55.set_1 | apply IsS55.set_2 | apply IsS55.set_3 | apply IsS55.set_4) | exact HI234.out)); (case side2 => repeat (first | (with_reducible first | exact HB.out | apply below_alloc | apply pw_below_drewN | apply below_drew1 | refine below_set ?_ (IsS55.ge HI234.out)) | exact HB.out)); rintro e w72 ⟨rfl, hi, hb, hk⟩; refine ⟨_, rfl, ?_⟩; have n0_ := Aside0.mk (hb); have n1_ := Aside0.mk (hi); clear HB; clear HI234; have HB := n0_; have HI234 := n1_; clear n0_ n1_; (try clear hb); (try clear hb2); (try clear hk); (try clear hi)))
                    go_ret
                    exact ⟨by first | rfl | (simp [errW_none, errW_some] <;> rfl) | (simp [*, errW_none, errW_some] <;> rfl), by repeat (first | (with_reducible first | exact HB.out | apply below_alloc | apply pw_below_drewN | apply below_drew1 | refine below_set ?_ (IsS55.ge HI234.out)) | exact HB.out)⟩
        · replace c19 := Bool.eq_false_iff.mpr c19
          subst c19
          have H1 : (some false) = some r := by rw [if_neg (show ¬ (false = true) by decide)] at H; exact H
          clear H
          have H := H1
          clear H1
          obtain rfl := Option.some.inj H
          go_wp2_with (first | ((with_reducible refine gate_dst (N := 27) rfl ?_); (try (refine gate_guard (by rfl) ?_; dsimp only)); refine Kd.R_lit (Kd.int .i64) _ 3 ?hg (N := 27) ?hd (xs := ([12] : List Int)) (inner := [.int .i64 12]) (ok := fun _ => True) (okp := fun _ => True) ?hr ?hp (fun _ hk => hk) trivial (Below.refl _ _) (Nat.le_refl _) (by simp) ?_; (case hd => rfl); (case hg => rfl); (case hr => first | (go_simp; done) | (go_simp; rfl)); (case hp => exact (Reps.one (show Kd.M (Kd.int .i64) _ _ _ 12 [.int .i64 12] from rfl) (Reps.none _ _))); intro v262 w73 ho74 hb hg_ hnew_; clear hg_ hnew_; (first | rw [← Ny261.out] at ho74 | (simp only [Int.reduceToNat] at ho74; rw [← Ny261.out] at ho74)); have n0_ := Aside0.mk (Kd.R_lower ho74 (below_size (by repeat (first | (with_reducible first | exact HB.out | apply below_alloc | apply pw_below_drewN | apply below_drew1 | refine below_set ?_ (IsS55.ge HI234.out)) | exact HB.out)))); have n1_ := Aside0.mk (IsS55.below (by repeat (first | (with_reducible first | exact HI234.out | apply IsS55.alloc | apply IsS55.drewN | apply IsS55.drew | apply IsS55.set_0 | apply IsS55.set_1 | apply IsS55.set_2 | apply IsS55.set_3 | apply IsS55.set_4) | exact HI234.out)) hb); have n2_ := Aside0.mk (below_step (by repeat (first | (with_reducible first | exact HB.out | apply below_alloc | apply pw_below_drewN | apply below_drew1 | refine below_set ?_ (IsS55.ge HI234.out)) | exact HB.out)) hb); clear HI234; clear HB; have HO263 := n0_; have HI234 := n1_; have HB := n2_; clear n0_ n1_ n2_; clear hb ho74; obtain ⟨Ao75, co75, eo75⟩ := Kd.R_slice HO263.out; subst eo75) | ((with_reducible refine gate_callee (f := 25) rfl ?_); refine goesL_ (some 28) rfl rfl Try.func25 (by kernel_rfl) rfl #[.pointer (some ⟨g234, 0, none⟩), .slice Ao75 y261.length co75] rfl (by (try simp only [List.map_toArray, List.map_cons, List.map_nil]); first | done | rfl | (simp only [List.length_drop, List.length_take]; rfl)) ?_; (with_reducible refine (tcb_Task_Is.calls kj8 g234 x235000_8 x235001_8 x235002_8 x235003_8 x235004_8 _ _ y261 false t265 t266 t267 t268 t269 w _ ?side1 ?side2 ?side3 ?side4 ?side5 A18.out).mono ?_); (case side1 => repeat (first | (with_reducible first | exact HI234.out | apply IsS55.alloc | apply IsS55.drewN | apply IsS55.drew | apply IsS55.set_0 | apply IsS55.set_1 | apply IsS55.set_2 | apply IsS55.set_3 | apply IsS55.set_4) | exact HI234.out)); (case side2 => repeat (first | (with_reducible first | exact HB.out | apply below_alloc | apply pw_below_drewN | apply below_drew1 | refine below_set ?_ (IsS55.ge HI234.out)) | exact HB.out)); (case side3 => repeat (first | exact (Kd.R_reads' HO263.out).2.2 | (with_reducible refine Kd.C_alloc ?_ _) | (with_reducible refine Kd.C_drewN ?_ _) | (with_reducible refine Kd.C_drew ?_))); (case side4 => exact (Kd.R_reads' HO263.out).2.1); (case side5 => exact far_slice (IsS55.own_ne HI234.out HO263.out (by decide))); rintro e w76 ⟨rfl, hi, hb, hk⟩; refine ⟨_, rfl, ?_⟩; have n0_ := Aside0.mk (Kd.R_mono (Kd.R_keep (IsS55.apart (show IsS55 w _ g234 x235000_8 x235001_8 x235002_8 x235003_8 x235004_8 from by repeat (first | (with_reducible first | exact HI234.out | apply IsS55.alloc | apply IsS55.drewN | apply IsS55.drew | apply IsS55.set_0 | apply IsS55.set_1 | apply IsS55.set_2 | apply IsS55.set_3 | apply IsS55.set_4) | exact HI234.out)) (by (with_reducible repeat (first | apply Kd.R_alloc | apply Kd.R_drewN | apply Kd.R_drew)); exact HO263.out) (by decide)) hk (fun _ h => h.2)) (fun _ h => h.1)); have n1_ := Aside0.mk (hb); have n2_ := Aside0.mk (hi); clear HO263; clear HB; clear HI234; have HO263 := n0_; have HB := n1_; have HI234 := n2_; clear n0_ n1_ n2_; (try clear hb); (try clear hb2); (try clear hk); (try clear hi)))
          go_ret
          exact ⟨by first | rfl | (simp [errW_none, errW_some] <;> rfl) | (simp [*, errW_none, errW_some] <;> rfl), by repeat (first | (with_reducible first | exact HB.out | apply below_alloc | apply pw_below_drewN | apply below_drew1 | refine below_set ?_ (IsS55.ge HI234.out)) | exact HB.out)⟩
  · replace c4 := Bool.eq_false_iff.mpr c4
    subst c4
    have H1 : (some false) = some r := by rw [if_neg (show ¬ (false = true) by decide)] at H; exact H
    clear H
    have H := H1
    clear H1
    obtain rfl := Option.some.inj H
    go_enter Try.func9, Try.ntmps9
    go_wp2_with (first | ((with_reducible refine gate_callee (f := 21) rfl ?_); refine goesL_ (some 14) rfl rfl Try.func21 (by kernel_rfl) rfl #[] rfl (by (try simp only [List.map_toArray, List.map_cons, List.map_nil]); first | done | rfl | (simp only [List.length_drop, List.length_take]; rfl)) ?_; (with_reducible refine (detentlaw10_known.calls k  false _ A3.out).mono ?_); rintro e w77 ⟨rfl, hb⟩; refine ⟨_, rfl, ?_⟩; have n0_ := Aside0.mk (below_step (by repeat (first | (with_reducible first | exact HB.out | apply below_alloc | apply pw_below_drewN | apply below_drew1) | exact HB.out)) hb); clear HB; have HB := n0_; clear n0_; (try clear hb); (try clear hb2); (try clear hk); (try clear hi)))
    go_ret
    exact ⟨by first | rfl | (simp [errW_none, errW_some] <;> rfl) | (simp [*, errW_none, errW_some] <;> rfl), by repeat (first | (with_reducible first | exact HB.out | apply below_alloc | apply pw_below_drewN | apply below_drew1) | exact HB.out)⟩

/-- THE ONE PURE STATEMENT of detentlaw10_TaskBoth: yours. -/
def detentlaw10_TaskBoth.Pure : Prop := ∀ (a0 : Bool) (a1 : Bool), ∃ k, detentlaw10_TaskBoth.f k a0 a1 = some true
theorem detentlaw10_TaskBoth.walk (P : detentlaw10_TaskBoth.Pure) (a0 : Bool) (a1 : Bool) (w : World)  :
    Calls Try.prog 9 #[.bool a0, .bool a1] w fun e w' => e = .returned (.bool true) ∧ Below w.heap.size w w' := by
  obtain ⟨k, h⟩ := P a0 a1 
  refine (detentlaw10_TaskBoth.calls k a0 a1 true w h).mono ?_
  rintro e w' ⟨rfl, hd⟩
  exact ⟨rfl, hd⟩

end Go.Proofs.Ytgkemmhpfekoaaa.PTaskBoth
