-- Laid by a program out of Lean's own print of the program; not by print.sh as it stands (NOTES.md tells what differs)
import Derived.Test.YtgkemmhpfekoaaaPTaskIsx0
import Derived.Test.YtgkemmhpfekoaaaPTaskIsx2
import Derived.Test.YtgkemmhpfekoaaaPTaskIsx3
namespace Go.Proofs.Ytgkemmhpfekoaaa.PTaskIs
open Go.RowKit Go.Proofs.YtgkemmhpfekoaaaW.PrintWords Go.Proofs.YtgkemmhpfekoaaaW.PrintLast Go.Proofs.YtgkemmhpfekoaaaW.PrintMore
attribute [local go_sem] max2_int min2_int max_two min_two max_three min_three max_four min_four   -- for this text's walks alone
set_option linter.unusedVariables false
set_option linter.unusedSimpArgs false

/-! ### detentlaw10_do: function 35 -/
def detentlaw10_do.j0 : Nat → Int → Bool → Int → Int → Int → Int → Bool → Option (Int × Int × Int × Int × Int × Int × Bool)
  | 0, _, _, _, _, _, _, _ => none
  | k + 1, x1, x90, x1000, x1001, x1002, x1003, x1004 => if x90 = true then ((tcb_Task_Resume.f k x1000 x1001 x1002 x1003 x1004 (x1 == 11)).bind fun bt338 => ((detentlaw10_flag.f bt338.1).bind fun t345 => (some (t345, bt338.2.1, bt338.2.2.1, bt338.2.2.2.1, bt338.2.2.2.2.1, bt338.2.2.2.2.2.1, bt338.2.2.2.2.2.2)))) else (some (0, 0, x1000, x1001, x1002, x1003, x1004))
def detentlaw10_do.f (k : Nat) (s0_0 : Int) (s0_1 : Int) (s0_2 : Int) (s0_3 : Int) (s0_4 : Bool) (a1 : Int) : Option (Int × Int × Int × Int × Int × Int × Bool) := if a1 = 0 then ((tcb_Task_Act.f k s0_0 s0_1 s0_2 s0_3 s0_4).bind fun bt267 => ((detentlaw10_flag.f bt267.1).bind fun t274 => (some (t274, bt267.2.1, bt267.2.2.1, bt267.2.2.2.1, bt267.2.2.2.2.1, bt267.2.2.2.2.2.1, bt267.2.2.2.2.2.2)))) else (if a1 = 1 then ((tcb_Task_CanAct.f s0_0 s0_1 s0_2 s0_3 s0_4).bind fun bt275 => (some (bt275.1, 0, bt275.2.1, bt275.2.2.1, bt275.2.2.2.1, bt275.2.2.2.2.1, bt275.2.2.2.2.2))) else (if a1 = 2 then ((tcb_Task_End.f k s0_0 s0_1 s0_2 s0_3 s0_4).bind fun bt281 => ((detentlaw10_flag.f bt281.1).bind fun t287 => (some (t287, 0, bt281.2.1, bt281.2.2.1, bt281.2.2.2.1, bt281.2.2.2.2.1, bt281.2.2.2.2.2)))) else (if a1 = 3 then ((tcb_Task_Kill.f k s0_0 s0_1 s0_2 s0_3 s0_4).bind fun bt288 => ((detentlaw10_flag.f bt288.1).bind fun t295 => (some (t295, bt288.2.1, bt288.2.2.1, bt288.2.2.2.1, bt288.2.2.2.2.1, bt288.2.2.2.2.2.1, bt288.2.2.2.2.2.2)))) else (if a1 = 4 then ((tcb_Task_Sleep.f k s0_0 s0_1 s0_2 s0_3 s0_4).bind fun bt296 => ((detentlaw10_flag.f bt296.1).bind fun t303 => (some (t303, bt296.2.1, bt296.2.2.1, bt296.2.2.2.1, bt296.2.2.2.2.1, bt296.2.2.2.2.2.1, bt296.2.2.2.2.2.2)))) else (if a1 = 5 then ((tcb_Task_Stay.f k s0_0 s0_1 s0_2 s0_3 s0_4).bind fun bt304 => (some (0, bt304.1, bt304.2.1, bt304.2.2.1, bt304.2.2.2.1, bt304.2.2.2.2.1, bt304.2.2.2.2.2))) else (if a1 = 6 then ((tcb_Task_Wake.f k s0_0 s0_1 s0_2 s0_3 s0_4).bind fun bt310 => ((detentlaw10_flag.f bt310.1).bind fun t317 => (some (t317, bt310.2.1, bt310.2.2.1, bt310.2.2.2.1, bt310.2.2.2.2.1, bt310.2.2.2.2.2.1, bt310.2.2.2.2.2.2)))) else (if a1 = 7 then ((tcb_Task_CanWake.f k s0_0 s0_1 s0_2 s0_3 s0_4).bind fun bt318 => (some (bt318.1, bt318.2.1, bt318.2.2.1, bt318.2.2.2.1, bt318.2.2.2.2.1, bt318.2.2.2.2.2.1, bt318.2.2.2.2.2.2))) else (if a1 = 8 then ((tcb_Task_Release.f s0_0 s0_1 s0_2 s0_3 s0_4).bind fun bt325 => ((detentlaw10_flag.f bt325.1).bind fun t331 => (some (t331, 0, bt325.2.1, bt325.2.2.1, bt325.2.2.2.1, bt325.2.2.2.2.1, bt325.2.2.2.2.2)))) else (if a1 = 9 then ((tcb_Task_Suspend.f k s0_0 s0_1 s0_2 s0_3 s0_4).bind fun bt332 => (some (0, bt332.1, bt332.2.1, bt332.2.2.1, bt332.2.2.2.1, bt332.2.2.2.2.1, bt332.2.2.2.2.2))) else (if a1 = 10 then (detentlaw10_do.j0 k a1 (a1 == 10) s0_0 s0_1 s0_2 s0_3 s0_4) else (detentlaw10_do.j0 k a1 (a1 == 11) s0_0 s0_1 s0_2 s0_3 s0_4)))))))))))
theorem detentlaw10_do.mono_l : ∀ k, (∀ y0 y1 y2 y3 y4 y5 y6, LeO (detentlaw10_do.j0 k y0 y1 y2 y3 y4 y5 y6) (detentlaw10_do.j0 (k + 1) y0 y1 y2 y3 y4 y5 y6))
  | 0 => fun _ _ _ _ _ _ _ r h => by simp [detentlaw10_do.j0] at h
  | k + 1 => by
    have ih0 := detentlaw10_do.mono_l k
    · intro y0 y1 y2 y3 y4 y5 y6
      unfold detentlaw10_do.j0
      repeat' first
      | (with_reducible exact ih0 _ _ _ _ _ _ _)
      | (with_reducible exact tcb_Task_Act.mono _ _ _ _ _ _)
      | (with_reducible exact tcb_Task_CanWake.mono _ _ _ _ _ _)
      | (with_reducible exact tcb_Task_End.mono _ _ _ _ _ _)
      | (with_reducible exact tcb_Task_Kill.mono _ _ _ _ _ _)
      | (with_reducible exact tcb_Task_Resume.mono _ _ _ _ _ _ _)
      | (with_reducible exact tcb_Task_Sleep.mono _ _ _ _ _ _)
      | (with_reducible exact tcb_Task_Stay.mono _ _ _ _ _ _)
      | (with_reducible exact tcb_Task_Suspend.mono _ _ _ _ _ _)
      | (with_reducible exact tcb_Task_Wake.mono _ _ _ _ _ _)
      | (with_reducible exact LeO.refl _)
      | (with_reducible exact LeO.none _)
      | (with_reducible refine LeO.ite ?_ ?_)
      | (with_reducible refine LeO.bind ?_ (fun _ => ?_))
      | exact ih0 _ _ _ _ _ _ _
      | exact tcb_Task_Act.mono _ _ _ _ _ _
      | exact tcb_Task_CanWake.mono _ _ _ _ _ _
      | exact tcb_Task_End.mono _ _ _ _ _ _
      | exact tcb_Task_Kill.mono _ _ _ _ _ _
      | exact tcb_Task_Resume.mono _ _ _ _ _ _ _
      | exact tcb_Task_Sleep.mono _ _ _ _ _ _
      | exact tcb_Task_Stay.mono _ _ _ _ _ _
      | exact tcb_Task_Suspend.mono _ _ _ _ _ _
      | exact tcb_Task_Wake.mono _ _ _ _ _ _
      | exact LeO.none _
      | refine LeO.ite ?_ ?_
      | refine LeO.bind ?_ (fun _ => ?_)
theorem detentlaw10_do.mono : ∀ a0 a1 a2 a3 a4 a5 k, LeO (detentlaw10_do.f k a0 a1 a2 a3 a4 a5) (detentlaw10_do.f (k + 1) a0 a1 a2 a3 a4 a5) := by
  intro a0 a1 a2 a3 a4 a5 k
  have ih0 := detentlaw10_do.mono_l k
  unfold detentlaw10_do.f
  repeat' first
      | (with_reducible exact ih0 _ _ _ _ _ _ _)
      | (with_reducible exact tcb_Task_Act.mono _ _ _ _ _ _)
      | (with_reducible exact tcb_Task_CanWake.mono _ _ _ _ _ _)
      | (with_reducible exact tcb_Task_End.mono _ _ _ _ _ _)
      | (with_reducible exact tcb_Task_Kill.mono _ _ _ _ _ _)
      | (with_reducible exact tcb_Task_Resume.mono _ _ _ _ _ _ _)
      | (with_reducible exact tcb_Task_Sleep.mono _ _ _ _ _ _)
      | (with_reducible exact tcb_Task_Stay.mono _ _ _ _ _ _)
      | (with_reducible exact tcb_Task_Suspend.mono _ _ _ _ _ _)
      | (with_reducible exact tcb_Task_Wake.mono _ _ _ _ _ _)
      | (with_reducible exact LeO.refl _)
      | (with_reducible exact LeO.none _)
      | (with_reducible refine LeO.ite ?_ ?_)
      | (with_reducible refine LeO.bind ?_ (fun _ => ?_))
      | exact ih0 _ _ _ _ _ _ _
      | exact tcb_Task_Act.mono _ _ _ _ _ _
      | exact tcb_Task_CanWake.mono _ _ _ _ _ _
      | exact tcb_Task_End.mono _ _ _ _ _ _
      | exact tcb_Task_Kill.mono _ _ _ _ _ _
      | exact tcb_Task_Resume.mono _ _ _ _ _ _ _
      | exact tcb_Task_Sleep.mono _ _ _ _ _ _
      | exact tcb_Task_Stay.mono _ _ _ _ _ _
      | exact tcb_Task_Suspend.mono _ _ _ _ _ _
      | exact tcb_Task_Wake.mono _ _ _ _ _ _
      | exact LeO.none _
      | refine LeO.ite ?_ ?_
      | refine LeO.bind ?_ (fun _ => ?_)
set_option maxHeartbeats 8000000 in
set_option maxRecDepth 100000 in
theorem detentlaw10_do.calls (k : Nat) (g : Nat) (s0_0 : Int) (s0_1 : Int) (s0_2 : Int) (s0_3 : Int) (s0_4 : Bool) (a1 : Int) (r1 : Int) (r2 : Int) (r3 : Int) (r4 : Int) (r5 : Int) (r6 : Int) (r7 : Bool) (w0 w : World) (hI : IsS55 w0 w g s0_0 s0_1 s0_2 s0_3 s0_4) (hB : Below w0.heap.size w0 w) (h : detentlaw10_do.f k s0_0 s0_1 s0_2 s0_3 s0_4 a1 = some (r1, r2, r3, r4, r5, r6, r7)) :
    Calls Try.prog 35 #[.pointer (some ⟨g, 0, none⟩), .int .i64 a1] w fun e w' => e = .returned (.tuple #[.int .i64 r1, .int .i64 r2]) ∧ IsS55 w0 w' g r3 r4 r5 r6 r7 ∧ Below w0.heap.size w0 w' ∧ KeepBut w w' g none := by
  have HI0 := Aside0.mk hI
  have HK := Aside0.mk (KeepBut.refl w g none)
  have HL := Aside0.mk hB.size
  clear hI
  have HW0 := Aside0.mk hB.size
  have HB := Aside0.mk hB
  clear hB
  have H : (if a1 = 0 then ((tcb_Task_Act.f k s0_0 s0_1 s0_2 s0_3 s0_4).bind fun bt267 => ((detentlaw10_flag.f bt267.1).bind fun t274 => (some (t274, bt267.2.1, bt267.2.2.1, bt267.2.2.2.1, bt267.2.2.2.2.1, bt267.2.2.2.2.2.1, bt267.2.2.2.2.2.2)))) else (if a1 = 1 then ((tcb_Task_CanAct.f s0_0 s0_1 s0_2 s0_3 s0_4).bind fun bt275 => (some (bt275.1, 0, bt275.2.1, bt275.2.2.1, bt275.2.2.2.1, bt275.2.2.2.2.1, bt275.2.2.2.2.2))) else (if a1 = 2 then ((tcb_Task_End.f k s0_0 s0_1 s0_2 s0_3 s0_4).bind fun bt281 => ((detentlaw10_flag.f bt281.1).bind fun t287 => (some (t287, 0, bt281.2.1, bt281.2.2.1, bt281.2.2.2.1, bt281.2.2.2.2.1, bt281.2.2.2.2.2)))) else (if a1 = 3 then ((tcb_Task_Kill.f k s0_0 s0_1 s0_2 s0_3 s0_4).bind fun bt288 => ((detentlaw10_flag.f bt288.1).bind fun t295 => (some (t295, bt288.2.1, bt288.2.2.1, bt288.2.2.2.1, bt288.2.2.2.2.1, bt288.2.2.2.2.2.1, bt288.2.2.2.2.2.2)))) else (if a1 = 4 then ((tcb_Task_Sleep.f k s0_0 s0_1 s0_2 s0_3 s0_4).bind fun bt296 => ((detentlaw10_flag.f bt296.1).bind fun t303 => (some (t303, bt296.2.1, bt296.2.2.1, bt296.2.2.2.1, bt296.2.2.2.2.1, bt296.2.2.2.2.2.1, bt296.2.2.2.2.2.2)))) else (if a1 = 5 then ((tcb_Task_Stay.f k s0_0 s0_1 s0_2 s0_3 s0_4).bind fun bt304 => (some (0, bt304.1, bt304.2.1, bt304.2.2.1, bt304.2.2.2.1, bt304.2.2.2.2.1, bt304.2.2.2.2.2))) else (if a1 = 6 then ((tcb_Task_Wake.f k s0_0 s0_1 s0_2 s0_3 s0_4).bind fun bt310 => ((detentlaw10_flag.f bt310.1).bind fun t317 => (some (t317, bt310.2.1, bt310.2.2.1, bt310.2.2.2.1, bt310.2.2.2.2.1, bt310.2.2.2.2.2.1, bt310.2.2.2.2.2.2)))) else (if a1 = 7 then ((tcb_Task_CanWake.f k s0_0 s0_1 s0_2 s0_3 s0_4).bind fun bt318 => (some (bt318.1, bt318.2.1, bt318.2.2.1, bt318.2.2.2.1, bt318.2.2.2.2.1, bt318.2.2.2.2.2.1, bt318.2.2.2.2.2.2))) else (if a1 = 8 then ((tcb_Task_Release.f s0_0 s0_1 s0_2 s0_3 s0_4).bind fun bt325 => ((detentlaw10_flag.f bt325.1).bind fun t331 => (some (t331, 0, bt325.2.1, bt325.2.2.1, bt325.2.2.2.1, bt325.2.2.2.2.1, bt325.2.2.2.2.2)))) else (if a1 = 9 then ((tcb_Task_Suspend.f k s0_0 s0_1 s0_2 s0_3 s0_4).bind fun bt332 => (some (0, bt332.1, bt332.2.1, bt332.2.2.1, bt332.2.2.2.1, bt332.2.2.2.2.1, bt332.2.2.2.2.2))) else (if a1 = 10 then (detentlaw10_do.j0 k a1 (a1 == 10) s0_0 s0_1 s0_2 s0_3 s0_4) else (detentlaw10_do.j0 k a1 (a1 == 11) s0_0 s0_1 s0_2 s0_3 s0_4)))))))))))) = some (r1, r2, r3, r4, r5, r6, r7) := h
  clear h
  by_cases c3 : a1 = 0
  · rw [if_pos c3] at H
    have c3b0 : (a1 == 0) = true := beq_iff_eq.mpr c3
    have c3b1 : (a1 != 0) = false := bne_eq_false_iff_eq.mpr c3
    clear c3
    replace H := Option.bind_eq_some_iff.mp H
    obtain ⟨⟨t267, t268, t269, t270, t271, t272, t273⟩, A40, H⟩ := H
    replace H : ((detentlaw10_flag.f t267).bind fun t274 => (some (t274, t268, t269, t270, t271, t272, t273))) = some (r1, r2, r3, r4, r5, r6, r7) := H
    have A4 := Aside0.mk A40
    clear A40
    replace H := Option.bind_eq_some_iff.mp H
    obtain ⟨t274, A50, H⟩ := H
    replace H : (some (t274, t268, t269, t270, t271, t272, t273)) = some (r1, r2, r3, r4, r5, r6, r7) := H
    have A5 := Aside0.mk A50
    clear A50
    simp only [Option.some.injEq, Prod.mk.injEq] at H
    obtain ⟨rfl, rfl, rfl, rfl, rfl, rfl, rfl⟩ := H
    go_enter Try.func35, Try.ntmps35
    go_wp2_with (first | ((with_reducible refine gate_callee (f := 23) rfl ?_); refine goesL_ (some 23) rfl rfl Try.func23 (by kernel_rfl) rfl #[.pointer (some ⟨g, 0, none⟩)] rfl (by (try simp only [List.map_toArray, List.map_cons, List.map_nil]); first | done | rfl | (simp only [List.length_drop, List.length_take]; rfl)) ?_; (with_reducible refine (tcb_Task_Act.calls k g s0_0 s0_1 s0_2 s0_3 s0_4 t267 t268 t269 t270 t271 t272 t273 w0 _ ?side1 ?side2 A4.out).mono ?_); (case side1 => repeat (first | (with_reducible first | exact HI0.out | apply IsS55.alloc | apply IsS55.drewN | apply IsS55.drew | apply IsS55.set_0 | apply IsS55.set_1 | apply IsS55.set_2 | apply IsS55.set_3 | apply IsS55.set_4) | exact HI0.out)); (case side2 => repeat (first | (with_reducible first | exact HB.out | apply below_alloc | apply pw_below_drewN | apply below_drew1 | refine below_set ?_ (IsS55.ge HI0.out)) | exact HB.out)); rintro e w6 ⟨rfl, hi, hb, hk⟩; refine ⟨_, rfl, ?_⟩; have n0_ := Aside0.mk (KeepBut.trans (by repeat (first | (with_reducible first | exact HK.out | apply KeepBut.set_ | apply keep_drewN | apply keep_drew | apply keep_alloc) | exact HK.out)) hk (.inl rfl)); have n1_ := Aside0.mk (hb); have n2_ := Aside0.mk (hi); clear HK; clear HB; clear HI0; have HK := n0_; have HB := n1_; have HI0 := n2_; clear n0_ n1_ n2_; (try clear hb); (try clear hb2); (try clear hk); (try clear hi)) | ((with_reducible refine gate_callee (f := 33) rfl ?_); refine goesL_ (some 27) rfl rfl Try.func33 (by kernel_rfl) rfl #[.bool t267] rfl (by (try simp only [List.map_toArray, List.map_cons, List.map_nil]); first | done | rfl | (simp only [List.length_drop, List.length_take]; rfl)) ?_; (with_reducible refine (detentlaw10_flag.calls t267 t274 _ A5.out).mono ?_); rintro e w' ⟨rfl, ⟨nd, rfl⟩⟩; refine ⟨_, rfl, ?_⟩))
    go_ret2
    exact ⟨by first | rfl | (simp [errW_none, errW_some] <;> rfl) | (simp [*, errW_none, errW_some] <;> rfl), by repeat (first | (with_reducible first | exact HI0.out | apply IsS55.alloc | apply IsS55.drewN | apply IsS55.drew | apply IsS55.set_0 | apply IsS55.set_1 | apply IsS55.set_2 | apply IsS55.set_3 | apply IsS55.set_4) | exact HI0.out), by repeat (first | (with_reducible first | exact HB.out | apply below_alloc | apply pw_below_drewN | apply below_drew1 | refine below_set ?_ (IsS55.ge HI0.out)) | exact HB.out), by repeat (first | (with_reducible first | exact HK.out | apply KeepBut.set_ | apply keep_drewN | apply keep_drew | apply keep_alloc) | exact HK.out)⟩
  · rw [if_neg c3] at H
    have c3b0 : (a1 == 0) = false := beq_eq_false_iff_ne.mpr c3
    have c3b1 : (a1 != 0) = true := bne_iff_ne.mpr c3
    by_cases c7 : a1 = 1
    · rw [if_pos c7] at H
      have c7b0 : (a1 == 1) = true := beq_iff_eq.mpr c7
      have c7b1 : (a1 != 1) = false := bne_eq_false_iff_eq.mpr c7
      clear c7
      replace H := Option.bind_eq_some_iff.mp H
      obtain ⟨⟨t275, t276, t277, t278, t279, t280⟩, A80, H⟩ := H
      replace H : (some (t275, 0, t276, t277, t278, t279, t280)) = some (r1, r2, r3, r4, r5, r6, r7) := H
      have A8 := Aside0.mk A80
      clear A80
      simp only [Option.some.injEq, Prod.mk.injEq] at H
      obtain ⟨rfl, rfl, rfl, rfl, rfl, rfl, rfl⟩ := H
      go_enter Try.func35, Try.ntmps35
      go_wp2_with (first | ((with_reducible refine gate_callee (f := 32) rfl ?_); refine goesL_ (some 32) rfl rfl Try.func32 (by kernel_rfl) rfl #[.pointer (some ⟨g, 0, none⟩)] rfl (by (try simp only [List.map_toArray, List.map_cons, List.map_nil]); first | done | rfl | (simp only [List.length_drop, List.length_take]; rfl)) ?_; (with_reducible refine (tcb_Task_CanAct.calls g s0_0 s0_1 s0_2 s0_3 s0_4 t275 t276 t277 t278 t279 t280 w0 _ ?side1 ?side2 A8.out).mono ?_); (case side1 => repeat (first | (with_reducible first | exact HI0.out | apply IsS55.alloc | apply IsS55.drewN | apply IsS55.drew | apply IsS55.set_0 | apply IsS55.set_1 | apply IsS55.set_2 | apply IsS55.set_3 | apply IsS55.set_4) | exact HI0.out)); (case side2 => repeat (first | (with_reducible first | exact HB.out | apply below_alloc | apply pw_below_drewN | apply below_drew1 | refine below_set ?_ (IsS55.ge HI0.out)) | exact HB.out)); rintro e w9 ⟨rfl, hi, hb, hk⟩; refine ⟨_, rfl, ?_⟩; have n0_ := Aside0.mk (KeepBut.trans (by repeat (first | (with_reducible first | exact HK.out | apply KeepBut.set_ | apply keep_drewN | apply keep_drew | apply keep_alloc) | exact HK.out)) hk (.inl rfl)); have n1_ := Aside0.mk (hb); have n2_ := Aside0.mk (hi); clear HK; clear HB; clear HI0; have HK := n0_; have HB := n1_; have HI0 := n2_; clear n0_ n1_ n2_; (try clear hb); (try clear hb2); (try clear hk); (try clear hi)))
      go_ret2
      exact ⟨by first | rfl | (simp [errW_none, errW_some] <;> rfl) | (simp [*, errW_none, errW_some] <;> rfl), by repeat (first | (with_reducible first | exact HI0.out | apply IsS55.alloc | apply IsS55.drewN | apply IsS55.drew | apply IsS55.set_0 | apply IsS55.set_1 | apply IsS55.set_2 | apply IsS55.set_3 | apply IsS55.set_4) | exact HI0.out), by repeat (first | (with_reducible first | exact HB.out | apply below_alloc | apply pw_below_drewN | apply below_drew1 | refine below_set ?_ (IsS55.ge HI0.out)) | exact HB.out), by repeat (first | (with_reducible first | exact HK.out | apply KeepBut.set_ | apply keep_drewN | apply keep_drew | apply keep_alloc) | exact HK.out)⟩
    · rw [if_neg c7] at H
      have c7b0 : (a1 == 1) = false := beq_eq_false_iff_ne.mpr c7
      have c7b1 : (a1 != 1) = true := bne_iff_ne.mpr c7
      by_cases c10 : a1 = 2
      · rw [if_pos c10] at H
        have c10b0 : (a1 == 2) = true := beq_iff_eq.mpr c10
        have c10b1 : (a1 != 2) = false := bne_eq_false_iff_eq.mpr c10
        clear c10
        replace H := Option.bind_eq_some_iff.mp H
        obtain ⟨⟨t281, t282, t283, t284, t285, t286⟩, A110, H⟩ := H
        replace H : ((detentlaw10_flag.f t281).bind fun t287 => (some (t287, 0, t282, t283, t284, t285, t286))) = some (r1, r2, r3, r4, r5, r6, r7) := H
        have A11 := Aside0.mk A110
        clear A110
        replace H := Option.bind_eq_some_iff.mp H
        obtain ⟨t287, A120, H⟩ := H
        replace H : (some (t287, 0, t282, t283, t284, t285, t286)) = some (r1, r2, r3, r4, r5, r6, r7) := H
        have A12 := Aside0.mk A120
        clear A120
        simp only [Option.some.injEq, Prod.mk.injEq] at H
        obtain ⟨rfl, rfl, rfl, rfl, rfl, rfl, rfl⟩ := H
        go_enter Try.func35, Try.ntmps35
        go_wp2_with (first | ((with_reducible refine gate_callee (f := 24) rfl ?_); refine goesL_ (some 36) rfl rfl Try.func24 (by kernel_rfl) rfl #[.pointer (some ⟨g, 0, none⟩)] rfl (by (try simp only [List.map_toArray, List.map_cons, List.map_nil]); first | done | rfl | (simp only [List.length_drop, List.length_take]; rfl)) ?_; (with_reducible refine (tcb_Task_End.calls k g s0_0 s0_1 s0_2 s0_3 s0_4 t281 t282 t283 t284 t285 t286 w0 _ ?side1 ?side2 A11.out).mono ?_); (case side1 => repeat (first | (with_reducible first | exact HI0.out | apply IsS55.alloc | apply IsS55.drewN | apply IsS55.drew | apply IsS55.set_0 | apply IsS55.set_1 | apply IsS55.set_2 | apply IsS55.set_3 | apply IsS55.set_4) | exact HI0.out)); (case side2 => repeat (first | (with_reducible first | exact HB.out | apply below_alloc | apply pw_below_drewN | apply below_drew1 | refine below_set ?_ (IsS55.ge HI0.out)) | exact HB.out)); rintro e w13 ⟨rfl, hi, hb, hk⟩; refine ⟨_, rfl, ?_⟩; have n0_ := Aside0.mk (KeepBut.trans (by repeat (first | (with_reducible first | exact HK.out | apply KeepBut.set_ | apply keep_drewN | apply keep_drew | apply keep_alloc) | exact HK.out)) hk (.inl rfl)); have n1_ := Aside0.mk (hb); have n2_ := Aside0.mk (hi); clear HK; clear HB; clear HI0; have HK := n0_; have HB := n1_; have HI0 := n2_; clear n0_ n1_ n2_; (try clear hb); (try clear hb2); (try clear hk); (try clear hi)) | ((with_reducible refine gate_callee (f := 33) rfl ?_); refine goesL_ (some 37) rfl rfl Try.func33 (by kernel_rfl) rfl #[.bool t281] rfl (by (try simp only [List.map_toArray, List.map_cons, List.map_nil]); first | done | rfl | (simp only [List.length_drop, List.length_take]; rfl)) ?_; (with_reducible refine (detentlaw10_flag.calls t281 t287 _ A12.out).mono ?_); rintro e w' ⟨rfl, ⟨nd, rfl⟩⟩; refine ⟨_, rfl, ?_⟩))
        go_ret2
        exact ⟨by first | rfl | (simp [errW_none, errW_some] <;> rfl) | (simp [*, errW_none, errW_some] <;> rfl), by repeat (first | (with_reducible first | exact HI0.out | apply IsS55.alloc | apply IsS55.drewN | apply IsS55.drew | apply IsS55.set_0 | apply IsS55.set_1 | apply IsS55.set_2 | apply IsS55.set_3 | apply IsS55.set_4) | exact HI0.out), by repeat (first | (with_reducible first | exact HB.out | apply below_alloc | apply pw_below_drewN | apply below_drew1 | refine below_set ?_ (IsS55.ge HI0.out)) | exact HB.out), by repeat (first | (with_reducible first | exact HK.out | apply KeepBut.set_ | apply keep_drewN | apply keep_drew | apply keep_alloc) | exact HK.out)⟩
      · rw [if_neg c10] at H
        have c10b0 : (a1 == 2) = false := beq_eq_false_iff_ne.mpr c10
        have c10b1 : (a1 != 2) = true := bne_iff_ne.mpr c10
        by_cases c14 : a1 = 3
        · rw [if_pos c14] at H
          have c14b0 : (a1 == 3) = true := beq_iff_eq.mpr c14
          have c14b1 : (a1 != 3) = false := bne_eq_false_iff_eq.mpr c14
          clear c14
          replace H := Option.bind_eq_some_iff.mp H
          obtain ⟨⟨t288, t289, t290, t291, t292, t293, t294⟩, A150, H⟩ := H
          replace H : ((detentlaw10_flag.f t288).bind fun t295 => (some (t295, t289, t290, t291, t292, t293, t294))) = some (r1, r2, r3, r4, r5, r6, r7) := H
          have A15 := Aside0.mk A150
          clear A150
          replace H := Option.bind_eq_some_iff.mp H
          obtain ⟨t295, A160, H⟩ := H
          replace H : (some (t295, t289, t290, t291, t292, t293, t294)) = some (r1, r2, r3, r4, r5, r6, r7) := H
          have A16 := Aside0.mk A160
          clear A160
          simp only [Option.some.injEq, Prod.mk.injEq] at H
          obtain ⟨rfl, rfl, rfl, rfl, rfl, rfl, rfl⟩ := H
          go_enter Try.func35, Try.ntmps35
          go_wp2_with (first | ((with_reducible refine gate_callee (f := 30) rfl ?_); refine goesL_ (some 42) rfl rfl Try.func30 (by kernel_rfl) rfl #[.pointer (some ⟨g, 0, none⟩)] rfl (by (try simp only [List.map_toArray, List.map_cons, List.map_nil]); first | done | rfl | (simp only [List.length_drop, List.length_take]; rfl)) ?_; (with_reducible refine (tcb_Task_Kill.calls k g s0_0 s0_1 s0_2 s0_3 s0_4 t288 t289 t290 t291 t292 t293 t294 w0 _ ?side1 ?side2 A15.out).mono ?_); (case side1 => repeat (first | (with_reducible first | exact HI0.out | apply IsS55.alloc | apply IsS55.drewN | apply IsS55.drew | apply IsS55.set_0 | apply IsS55.set_1 | apply IsS55.set_2 | apply IsS55.set_3 | apply IsS55.set_4) | exact HI0.out)); (case side2 => repeat (first | (with_reducible first | exact HB.out | apply below_alloc | apply pw_below_drewN | apply below_drew1 | refine below_set ?_ (IsS55.ge HI0.out)) | exact HB.out)); rintro e w17 ⟨rfl, hi, hb, hk⟩; refine ⟨_, rfl, ?_⟩; have n0_ := Aside0.mk (KeepBut.trans (by repeat (first | (with_reducible first | exact HK.out | apply KeepBut.set_ | apply keep_drewN | apply keep_drew | apply keep_alloc) | exact HK.out)) hk (.inl rfl)); have n1_ := Aside0.mk (hb); have n2_ := Aside0.mk (hi); clear HK; clear HB; clear HI0; have HK := n0_; have HB := n1_; have HI0 := n2_; clear n0_ n1_ n2_; (try clear hb); (try clear hb2); (try clear hk); (try clear hi)) | ((with_reducible refine gate_callee (f := 33) rfl ?_); refine goesL_ (some 46) rfl rfl Try.func33 (by kernel_rfl) rfl #[.bool t288] rfl (by (try simp only [List.map_toArray, List.map_cons, List.map_nil]); first | done | rfl | (simp only [List.length_drop, List.length_take]; rfl)) ?_; (with_reducible refine (detentlaw10_flag.calls t288 t295 _ A16.out).mono ?_); rintro e w' ⟨rfl, ⟨nd, rfl⟩⟩; refine ⟨_, rfl, ?_⟩))
          go_ret2
          exact ⟨by first | rfl | (simp [errW_none, errW_some] <;> rfl) | (simp [*, errW_none, errW_some] <;> rfl), by repeat (first | (with_reducible first | exact HI0.out | apply IsS55.alloc | apply IsS55.drewN | apply IsS55.drew | apply IsS55.set_0 | apply IsS55.set_1 | apply IsS55.set_2 | apply IsS55.set_3 | apply IsS55.set_4) | exact HI0.out), by repeat (first | (with_reducible first | exact HB.out | apply below_alloc | apply pw_below_drewN | apply below_drew1 | refine below_set ?_ (IsS55.ge HI0.out)) | exact HB.out), by repeat (first | (with_reducible first | exact HK.out | apply KeepBut.set_ | apply keep_drewN | apply keep_drew | apply keep_alloc) | exact HK.out)⟩
        · rw [if_neg c14] at H
          have c14b0 : (a1 == 3) = false := beq_eq_false_iff_ne.mpr c14
          have c14b1 : (a1 != 3) = true := bne_iff_ne.mpr c14
          by_cases c18 : a1 = 4
          · rw [if_pos c18] at H
            have c18b0 : (a1 == 4) = true := beq_iff_eq.mpr c18
            have c18b1 : (a1 != 4) = false := bne_eq_false_iff_eq.mpr c18
            clear c18
            replace H := Option.bind_eq_some_iff.mp H
            obtain ⟨⟨t296, t297, t298, t299, t300, t301, t302⟩, A190, H⟩ := H
            replace H : ((detentlaw10_flag.f t296).bind fun t303 => (some (t303, t297, t298, t299, t300, t301, t302))) = some (r1, r2, r3, r4, r5, r6, r7) := H
            have A19 := Aside0.mk A190
            clear A190
            replace H := Option.bind_eq_some_iff.mp H
            obtain ⟨t303, A200, H⟩ := H
            replace H : (some (t303, t297, t298, t299, t300, t301, t302)) = some (r1, r2, r3, r4, r5, r6, r7) := H
            have A20 := Aside0.mk A200
            clear A200
            simp only [Option.some.injEq, Prod.mk.injEq] at H
            obtain ⟨rfl, rfl, rfl, rfl, rfl, rfl, rfl⟩ := H
            go_enter Try.func35, Try.ntmps35
            go_wp2_with (first | ((with_reducible refine gate_callee (f := 27) rfl ?_); refine goesL_ (some 52) rfl rfl Try.func27 (by kernel_rfl) rfl #[.pointer (some ⟨g, 0, none⟩)] rfl (by (try simp only [List.map_toArray, List.map_cons, List.map_nil]); first | done | rfl | (simp only [List.length_drop, List.length_take]; rfl)) ?_; (with_reducible refine (tcb_Task_Sleep.calls k g s0_0 s0_1 s0_2 s0_3 s0_4 t296 t297 t298 t299 t300 t301 t302 w0 _ ?side1 ?side2 A19.out).mono ?_); (case side1 => repeat (first | (with_reducible first | exact HI0.out | apply IsS55.alloc | apply IsS55.drewN | apply IsS55.drew | apply IsS55.set_0 | apply IsS55.set_1 | apply IsS55.set_2 | apply IsS55.set_3 | apply IsS55.set_4) | exact HI0.out)); (case side2 => repeat (first | (with_reducible first | exact HB.out | apply below_alloc | apply pw_below_drewN | apply below_drew1 | refine below_set ?_ (IsS55.ge HI0.out)) | exact HB.out)); rintro e w21 ⟨rfl, hi, hb, hk⟩; refine ⟨_, rfl, ?_⟩; have n0_ := Aside0.mk (KeepBut.trans (by repeat (first | (with_reducible first | exact HK.out | apply KeepBut.set_ | apply keep_drewN | apply keep_drew | apply keep_alloc) | exact HK.out)) hk (.inl rfl)); have n1_ := Aside0.mk (hb); have n2_ := Aside0.mk (hi); clear HK; clear HB; clear HI0; have HK := n0_; have HB := n1_; have HI0 := n2_; clear n0_ n1_ n2_; (try clear hb); (try clear hb2); (try clear hk); (try clear hi)) | ((with_reducible refine gate_callee (f := 33) rfl ?_); refine goesL_ (some 56) rfl rfl Try.func33 (by kernel_rfl) rfl #[.bool t296] rfl (by (try simp only [List.map_toArray, List.map_cons, List.map_nil]); first | done | rfl | (simp only [List.length_drop, List.length_take]; rfl)) ?_; (with_reducible refine (detentlaw10_flag.calls t296 t303 _ A20.out).mono ?_); rintro e w' ⟨rfl, ⟨nd, rfl⟩⟩; refine ⟨_, rfl, ?_⟩))
            go_ret2
            exact ⟨by first | rfl | (simp [errW_none, errW_some] <;> rfl) | (simp [*, errW_none, errW_some] <;> rfl), by repeat (first | (with_reducible first | exact HI0.out | apply IsS55.alloc | apply IsS55.drewN | apply IsS55.drew | apply IsS55.set_0 | apply IsS55.set_1 | apply IsS55.set_2 | apply IsS55.set_3 | apply IsS55.set_4) | exact HI0.out), by repeat (first | (with_reducible first | exact HB.out | apply below_alloc | apply pw_below_drewN | apply below_drew1 | refine below_set ?_ (IsS55.ge HI0.out)) | exact HB.out), by repeat (first | (with_reducible first | exact HK.out | apply KeepBut.set_ | apply keep_drewN | apply keep_drew | apply keep_alloc) | exact HK.out)⟩
          · rw [if_neg c18] at H
            have c18b0 : (a1 == 4) = false := beq_eq_false_iff_ne.mpr c18
            have c18b1 : (a1 != 4) = true := bne_iff_ne.mpr c18
            by_cases c22 : a1 = 5
            · rw [if_pos c22] at H
              have c22b0 : (a1 == 5) = true := beq_iff_eq.mpr c22
              have c22b1 : (a1 != 5) = false := bne_eq_false_iff_eq.mpr c22
              clear c22
              replace H := Option.bind_eq_some_iff.mp H
              obtain ⟨⟨t304, t305, t306, t307, t308, t309⟩, A230, H⟩ := H
              replace H : (some (0, t304, t305, t306, t307, t308, t309)) = some (r1, r2, r3, r4, r5, r6, r7) := H
              have A23 := Aside0.mk A230
              clear A230
              simp only [Option.some.injEq, Prod.mk.injEq] at H
              obtain ⟨rfl, rfl, rfl, rfl, rfl, rfl, rfl⟩ := H
              go_enter Try.func35, Try.ntmps35
              go_wp2_with (first | ((with_reducible refine gate_callee (f := 43) rfl ?_); refine goesL_ (some 61) rfl rfl Try.func43 (by kernel_rfl) rfl #[.pointer (some ⟨g, 0, none⟩)] rfl (by (try simp only [List.map_toArray, List.map_cons, List.map_nil]); first | done | rfl | (simp only [List.length_drop, List.length_take]; rfl)) ?_; (with_reducible refine (tcb_Task_Stay.calls k g s0_0 s0_1 s0_2 s0_3 s0_4 t304 t305 t306 t307 t308 t309 w0 _ ?side1 ?side2 A23.out).mono ?_); (case side1 => repeat (first | (with_reducible first | exact HI0.out | apply IsS55.alloc | apply IsS55.drewN | apply IsS55.drew | apply IsS55.set_0 | apply IsS55.set_1 | apply IsS55.set_2 | apply IsS55.set_3 | apply IsS55.set_4) | exact HI0.out)); (case side2 => repeat (first | (with_reducible first | exact HB.out | apply below_alloc | apply pw_below_drewN | apply below_drew1 | refine below_set ?_ (IsS55.ge HI0.out)) | exact HB.out)); rintro e w24 ⟨rfl, hi, hb, hk⟩; refine ⟨_, rfl, ?_⟩; have n0_ := Aside0.mk (KeepBut.trans (by repeat (first | (with_reducible first | exact HK.out | apply KeepBut.set_ | apply keep_drewN | apply keep_drew | apply keep_alloc) | exact HK.out)) hk (.inl rfl)); have n1_ := Aside0.mk (hb); have n2_ := Aside0.mk (hi); clear HK; clear HB; clear HI0; have HK := n0_; have HB := n1_; have HI0 := n2_; clear n0_ n1_ n2_; (try clear hb); (try clear hb2); (try clear hk); (try clear hi)))
              go_ret2
              exact ⟨by first | rfl | (simp [errW_none, errW_some] <;> rfl) | (simp [*, errW_none, errW_some] <;> rfl), by repeat (first | (with_reducible first | exact HI0.out | apply IsS55.alloc | apply IsS55.drewN | apply IsS55.drew | apply IsS55.set_0 | apply IsS55.set_1 | apply IsS55.set_2 | apply IsS55.set_3 | apply IsS55.set_4) | exact HI0.out), by repeat (first | (with_reducible first | exact HB.out | apply below_alloc | apply pw_below_drewN | apply below_drew1 | refine below_set ?_ (IsS55.ge HI0.out)) | exact HB.out), by repeat (first | (with_reducible first | exact HK.out | apply KeepBut.set_ | apply keep_drewN | apply keep_drew | apply keep_alloc) | exact HK.out)⟩
            · rw [if_neg c22] at H
              have c22b0 : (a1 == 5) = false := beq_eq_false_iff_ne.mpr c22
              have c22b1 : (a1 != 5) = true := bne_iff_ne.mpr c22
              by_cases c25 : a1 = 6
              · rw [if_pos c25] at H
                have c25b0 : (a1 == 6) = true := beq_iff_eq.mpr c25
                have c25b1 : (a1 != 6) = false := bne_eq_false_iff_eq.mpr c25
                clear c25
                replace H := Option.bind_eq_some_iff.mp H
                obtain ⟨⟨t310, t311, t312, t313, t314, t315, t316⟩, A260, H⟩ := H
                replace H : ((detentlaw10_flag.f t310).bind fun t317 => (some (t317, t311, t312, t313, t314, t315, t316))) = some (r1, r2, r3, r4, r5, r6, r7) := H
                have A26 := Aside0.mk A260
                clear A260
                replace H := Option.bind_eq_some_iff.mp H
                obtain ⟨t317, A270, H⟩ := H
                replace H : (some (t317, t311, t312, t313, t314, t315, t316)) = some (r1, r2, r3, r4, r5, r6, r7) := H
                have A27 := Aside0.mk A270
                clear A270
                simp only [Option.some.injEq, Prod.mk.injEq] at H
                obtain ⟨rfl, rfl, rfl, rfl, rfl, rfl, rfl⟩ := H
                go_enter Try.func35, Try.ntmps35
                go_wp2_with (first | ((with_reducible refine gate_callee (f := 28) rfl ?_); refine goesL_ (some 66) rfl rfl Try.func28 (by kernel_rfl) rfl #[.pointer (some ⟨g, 0, none⟩)] rfl (by (try simp only [List.map_toArray, List.map_cons, List.map_nil]); first | done | rfl | (simp only [List.length_drop, List.length_take]; rfl)) ?_; (with_reducible refine (tcb_Task_Wake.calls k g s0_0 s0_1 s0_2 s0_3 s0_4 t310 t311 t312 t313 t314 t315 t316 w0 _ ?side1 ?side2 A26.out).mono ?_); (case side1 => repeat (first | (with_reducible first | exact HI0.out | apply IsS55.alloc | apply IsS55.drewN | apply IsS55.drew | apply IsS55.set_0 | apply IsS55.set_1 | apply IsS55.set_2 | apply IsS55.set_3 | apply IsS55.set_4) | exact HI0.out)); (case side2 => repeat (first | (with_reducible first | exact HB.out | apply below_alloc | apply pw_below_drewN | apply below_drew1 | refine below_set ?_ (IsS55.ge HI0.out)) | exact HB.out)); rintro e w28 ⟨rfl, hi, hb, hk⟩; refine ⟨_, rfl, ?_⟩; have n0_ := Aside0.mk (KeepBut.trans (by repeat (first | (with_reducible first | exact HK.out | apply KeepBut.set_ | apply keep_drewN | apply keep_drew | apply keep_alloc) | exact HK.out)) hk (.inl rfl)); have n1_ := Aside0.mk (hb); have n2_ := Aside0.mk (hi); clear HK; clear HB; clear HI0; have HK := n0_; have HB := n1_; have HI0 := n2_; clear n0_ n1_ n2_; (try clear hb); (try clear hb2); (try clear hk); (try clear hi)) | ((with_reducible refine gate_callee (f := 33) rfl ?_); refine goesL_ (some 70) rfl rfl Try.func33 (by kernel_rfl) rfl #[.bool t310] rfl (by (try simp only [List.map_toArray, List.map_cons, List.map_nil]); first | done | rfl | (simp only [List.length_drop, List.length_take]; rfl)) ?_; (with_reducible refine (detentlaw10_flag.calls t310 t317 _ A27.out).mono ?_); rintro e w' ⟨rfl, ⟨nd, rfl⟩⟩; refine ⟨_, rfl, ?_⟩))
                go_ret2
                exact ⟨by first | rfl | (simp [errW_none, errW_some] <;> rfl) | (simp [*, errW_none, errW_some] <;> rfl), by repeat (first | (with_reducible first | exact HI0.out | apply IsS55.alloc | apply IsS55.drewN | apply IsS55.drew | apply IsS55.set_0 | apply IsS55.set_1 | apply IsS55.set_2 | apply IsS55.set_3 | apply IsS55.set_4) | exact HI0.out), by repeat (first | (with_reducible first | exact HB.out | apply below_alloc | apply pw_below_drewN | apply below_drew1 | refine below_set ?_ (IsS55.ge HI0.out)) | exact HB.out), by repeat (first | (with_reducible first | exact HK.out | apply KeepBut.set_ | apply keep_drewN | apply keep_drew | apply keep_alloc) | exact HK.out)⟩
              · rw [if_neg c25] at H
                have c25b0 : (a1 == 6) = false := beq_eq_false_iff_ne.mpr c25
                have c25b1 : (a1 != 6) = true := bne_iff_ne.mpr c25
                by_cases c29 : a1 = 7
                · rw [if_pos c29] at H
                  have c29b0 : (a1 == 7) = true := beq_iff_eq.mpr c29
                  have c29b1 : (a1 != 7) = false := bne_eq_false_iff_eq.mpr c29
                  clear c29
                  replace H := Option.bind_eq_some_iff.mp H
                  obtain ⟨⟨t318, t319, t320, t321, t322, t323, t324⟩, A300, H⟩ := H
                  replace H : (some (t318, t319, t320, t321, t322, t323, t324)) = some (r1, r2, r3, r4, r5, r6, r7) := H
                  have A30 := Aside0.mk A300
                  clear A300
                  simp only [Option.some.injEq, Prod.mk.injEq] at H
                  obtain ⟨rfl, rfl, rfl, rfl, rfl, rfl, rfl⟩ := H
                  go_enter Try.func35, Try.ntmps35
                  go_wp2_with (first | ((with_reducible refine gate_callee (f := 39) rfl ?_); refine goesL_ (some 76) rfl rfl Try.func39 (by kernel_rfl) rfl #[.pointer (some ⟨g, 0, none⟩)] rfl (by (try simp only [List.map_toArray, List.map_cons, List.map_nil]); first | done | rfl | (simp only [List.length_drop, List.length_take]; rfl)) ?_; (with_reducible refine (tcb_Task_CanWake.calls k g s0_0 s0_1 s0_2 s0_3 s0_4 t318 t319 t320 t321 t322 t323 t324 w0 _ ?side1 ?side2 A30.out).mono ?_); (case side1 => repeat (first | (with_reducible first | exact HI0.out | apply IsS55.alloc | apply IsS55.drewN | apply IsS55.drew | apply IsS55.set_0 | apply IsS55.set_1 | apply IsS55.set_2 | apply IsS55.set_3 | apply IsS55.set_4) | exact HI0.out)); (case side2 => repeat (first | (with_reducible first | exact HB.out | apply below_alloc | apply pw_below_drewN | apply below_drew1 | refine below_set ?_ (IsS55.ge HI0.out)) | exact HB.out)); rintro e w31 ⟨rfl, hi, hb, hk⟩; refine ⟨_, rfl, ?_⟩; have n0_ := Aside0.mk (KeepBut.trans (by repeat (first | (with_reducible first | exact HK.out | apply KeepBut.set_ | apply keep_drewN | apply keep_drew | apply keep_alloc) | exact HK.out)) hk (.inl rfl)); have n1_ := Aside0.mk (hb); have n2_ := Aside0.mk (hi); clear HK; clear HB; clear HI0; have HK := n0_; have HB := n1_; have HI0 := n2_; clear n0_ n1_ n2_; (try clear hb); (try clear hb2); (try clear hk); (try clear hi)))
                  go_ret2
                  exact ⟨by first | rfl | (simp [errW_none, errW_some] <;> rfl) | (simp [*, errW_none, errW_some] <;> rfl), by repeat (first | (with_reducible first | exact HI0.out | apply IsS55.alloc | apply IsS55.drewN | apply IsS55.drew | apply IsS55.set_0 | apply IsS55.set_1 | apply IsS55.set_2 | apply IsS55.set_3 | apply IsS55.set_4) | exact HI0.out), by repeat (first | (with_reducible first | exact HB.out | apply below_alloc | apply pw_below_drewN | apply below_drew1 | refine below_set ?_ (IsS55.ge HI0.out)) | exact HB.out), by repeat (first | (with_reducible first | exact HK.out | apply KeepBut.set_ | apply keep_drewN | apply keep_drew | apply keep_alloc) | exact HK.out)⟩
                · rw [if_neg c29] at H
                  have c29b0 : (a1 == 7) = false := beq_eq_false_iff_ne.mpr c29
                  have c29b1 : (a1 != 7) = true := bne_iff_ne.mpr c29
                  by_cases c32 : a1 = 8
                  · rw [if_pos c32] at H
                    have c32b0 : (a1 == 8) = true := beq_iff_eq.mpr c32
                    have c32b1 : (a1 != 8) = false := bne_eq_false_iff_eq.mpr c32
                    clear c32
                    replace H := Option.bind_eq_some_iff.mp H
                    obtain ⟨⟨t325, t326, t327, t328, t329, t330⟩, A330, H⟩ := H
                    replace H : ((detentlaw10_flag.f t325).bind fun t331 => (some (t331, 0, t326, t327, t328, t329, t330))) = some (r1, r2, r3, r4, r5, r6, r7) := H
                    have A33 := Aside0.mk A330
                    clear A330
                    replace H := Option.bind_eq_some_iff.mp H
                    obtain ⟨t331, A340, H⟩ := H
                    replace H : (some (t331, 0, t326, t327, t328, t329, t330)) = some (r1, r2, r3, r4, r5, r6, r7) := H
                    have A34 := Aside0.mk A340
                    clear A340
                    simp only [Option.some.injEq, Prod.mk.injEq] at H
                    obtain ⟨rfl, rfl, rfl, rfl, rfl, rfl, rfl⟩ := H
                    go_enter Try.func35, Try.ntmps35
                    go_wp2_with (first | ((with_reducible refine gate_callee (f := 42) rfl ?_); refine goesL_ (some 84) rfl rfl Try.func42 (by kernel_rfl) rfl #[.pointer (some ⟨g, 0, none⟩)] rfl (by (try simp only [List.map_toArray, List.map_cons, List.map_nil]); first | done | rfl | (simp only [List.length_drop, List.length_take]; rfl)) ?_; (with_reducible refine (tcb_Task_Release.calls g s0_0 s0_1 s0_2 s0_3 s0_4 t325 t326 t327 t328 t329 t330 w0 _ ?side1 ?side2 A33.out).mono ?_); (case side1 => repeat (first | (with_reducible first | exact HI0.out | apply IsS55.alloc | apply IsS55.drewN | apply IsS55.drew | apply IsS55.set_0 | apply IsS55.set_1 | apply IsS55.set_2 | apply IsS55.set_3 | apply IsS55.set_4) | exact HI0.out)); (case side2 => repeat (first | (with_reducible first | exact HB.out | apply below_alloc | apply pw_below_drewN | apply below_drew1 | refine below_set ?_ (IsS55.ge HI0.out)) | exact HB.out)); rintro e w35 ⟨rfl, hi, hb, hk⟩; refine ⟨_, rfl, ?_⟩; have n0_ := Aside0.mk (KeepBut.trans (by repeat (first | (with_reducible first | exact HK.out | apply KeepBut.set_ | apply keep_drewN | apply keep_drew | apply keep_alloc) | exact HK.out)) hk (.inl rfl)); have n1_ := Aside0.mk (hb); have n2_ := Aside0.mk (hi); clear HK; clear HB; clear HI0; have HK := n0_; have HB := n1_; have HI0 := n2_; clear n0_ n1_ n2_; (try clear hb); (try clear hb2); (try clear hk); (try clear hi)) | ((with_reducible refine gate_callee (f := 33) rfl ?_); refine goesL_ (some 85) rfl rfl Try.func33 (by kernel_rfl) rfl #[.bool t325] rfl (by (try simp only [List.map_toArray, List.map_cons, List.map_nil]); first | done | rfl | (simp only [List.length_drop, List.length_take]; rfl)) ?_; (with_reducible refine (detentlaw10_flag.calls t325 t331 _ A34.out).mono ?_); rintro e w' ⟨rfl, ⟨nd, rfl⟩⟩; refine ⟨_, rfl, ?_⟩))
                    go_ret2
                    exact ⟨by first | rfl | (simp [errW_none, errW_some] <;> rfl) | (simp [*, errW_none, errW_some] <;> rfl), by repeat (first | (with_reducible first | exact HI0.out | apply IsS55.alloc | apply IsS55.drewN | apply IsS55.drew | apply IsS55.set_0 | apply IsS55.set_1 | apply IsS55.set_2 | apply IsS55.set_3 | apply IsS55.set_4) | exact HI0.out), by repeat (first | (with_reducible first | exact HB.out | apply below_alloc | apply pw_below_drewN | apply below_drew1 | refine below_set ?_ (IsS55.ge HI0.out)) | exact HB.out), by repeat (first | (with_reducible first | exact HK.out | apply KeepBut.set_ | apply keep_drewN | apply keep_drew | apply keep_alloc) | exact HK.out)⟩
                  · rw [if_neg c32] at H
                    have c32b0 : (a1 == 8) = false := beq_eq_false_iff_ne.mpr c32
                    have c32b1 : (a1 != 8) = true := bne_iff_ne.mpr c32
                    by_cases c36 : a1 = 9
                    · rw [if_pos c36] at H
                      have c36b0 : (a1 == 9) = true := beq_iff_eq.mpr c36
                      have c36b1 : (a1 != 9) = false := bne_eq_false_iff_eq.mpr c36
                      clear c36
                      replace H := Option.bind_eq_some_iff.mp H
                      obtain ⟨⟨t332, t333, t334, t335, t336, t337⟩, A370, H⟩ := H
                      replace H : (some (0, t332, t333, t334, t335, t336, t337)) = some (r1, r2, r3, r4, r5, r6, r7) := H
                      have A37 := Aside0.mk A370
                      clear A370
                      simp only [Option.some.injEq, Prod.mk.injEq] at H
                      obtain ⟨rfl, rfl, rfl, rfl, rfl, rfl, rfl⟩ := H
                      go_enter Try.func35, Try.ntmps35
                      go_wp2_with (first | ((with_reducible refine gate_callee (f := 29) rfl ?_); refine goesL_ (some 89) rfl rfl Try.func29 (by kernel_rfl) rfl #[.pointer (some ⟨g, 0, none⟩)] rfl (by (try simp only [List.map_toArray, List.map_cons, List.map_nil]); first | done | rfl | (simp only [List.length_drop, List.length_take]; rfl)) ?_; (with_reducible refine (tcb_Task_Suspend.calls k g s0_0 s0_1 s0_2 s0_3 s0_4 t332 t333 t334 t335 t336 t337 w0 _ ?side1 ?side2 A37.out).mono ?_); (case side1 => repeat (first | (with_reducible first | exact HI0.out | apply IsS55.alloc | apply IsS55.drewN | apply IsS55.drew | apply IsS55.set_0 | apply IsS55.set_1 | apply IsS55.set_2 | apply IsS55.set_3 | apply IsS55.set_4) | exact HI0.out)); (case side2 => repeat (first | (with_reducible first | exact HB.out | apply below_alloc | apply pw_below_drewN | apply below_drew1 | refine below_set ?_ (IsS55.ge HI0.out)) | exact HB.out)); rintro e w38 ⟨rfl, hi, hb, hk⟩; refine ⟨_, rfl, ?_⟩; have n0_ := Aside0.mk (KeepBut.trans (by repeat (first | (with_reducible first | exact HK.out | apply KeepBut.set_ | apply keep_drewN | apply keep_drew | apply keep_alloc) | exact HK.out)) hk (.inl rfl)); have n1_ := Aside0.mk (hb); have n2_ := Aside0.mk (hi); clear HK; clear HB; clear HI0; have HK := n0_; have HB := n1_; have HI0 := n2_; clear n0_ n1_ n2_; (try clear hb); (try clear hb2); (try clear hk); (try clear hi)))
                      go_ret2
                      exact ⟨by first | rfl | (simp [errW_none, errW_some] <;> rfl) | (simp [*, errW_none, errW_some] <;> rfl), by repeat (first | (with_reducible first | exact HI0.out | apply IsS55.alloc | apply IsS55.drewN | apply IsS55.drew | apply IsS55.set_0 | apply IsS55.set_1 | apply IsS55.set_2 | apply IsS55.set_3 | apply IsS55.set_4) | exact HI0.out), by repeat (first | (with_reducible first | exact HB.out | apply below_alloc | apply pw_below_drewN | apply below_drew1 | refine below_set ?_ (IsS55.ge HI0.out)) | exact HB.out), by repeat (first | (with_reducible first | exact HK.out | apply KeepBut.set_ | apply keep_drewN | apply keep_drew | apply keep_alloc) | exact HK.out)⟩
                    · rw [if_neg c36] at H
                      have c36b0 : (a1 == 9) = false := beq_eq_false_iff_ne.mpr c36
                      have c36b1 : (a1 != 9) = true := bne_iff_ne.mpr c36
                      have HC39 := Aside0.mk H
                      clear H
                      go_enter Try.func35, Try.ntmps35
                      go_upto_if 90 with (fail)
                      go_cut [90] (fun v90 wc => ∃ (kq : Nat) (x90_38 : Bool), v90 = .bool x90_38 ∧ Aside0 (detentlaw10_do.j0 kq a1 x90_38 s0_0 s0_1 s0_2 s0_3 s0_4 = some (r1, r2, r3, r4, r5, r6, r7)) ∧ Aside0 (kq ≤ k) ∧ Aside0 (IsS55 w0 wc g s0_0 s0_1 s0_2 s0_3 s0_4) ∧ Aside0 (KeepBut w wc g none) ∧ Aside0 (Below w0.heap.size w0 wc))
                      case first =>
                        have H := HC39.out
                        clear HC39
                        by_cases c40 : a1 = 10
                        · rw [if_pos c40] at H
                          have c40b0 : (a1 == 10) = true := beq_iff_eq.mpr c40
                          have c40b1 : (a1 != 10) = false := bne_eq_false_iff_eq.mpr c40
                          clear c40
                          (first | rw [c40b0] | (simp only [i64_w, i32_w]; rw [c40b0]) | skip)
                          have H' := Aside0.mk H
                          clear H
                          go_wp2
                          go_meet
                          case rel => exact ⟨_, ((a1 == 10)), (by first | rfl | (simp; done) | (simp [*]; done)), H', ⟨by first | omega | exact Nat.le_refl _⟩, ⟨by repeat (first | (with_reducible first | exact HI0.out | apply IsS55.alloc | apply IsS55.drewN | apply IsS55.drew | apply IsS55.set_0 | apply IsS55.set_1 | apply IsS55.set_2 | apply IsS55.set_3 | apply IsS55.set_4) | exact HI0.out)⟩, ⟨by repeat (first | (with_reducible first | exact HK.out | apply KeepBut.set_ | apply keep_drewN | apply keep_drew | apply keep_alloc) | exact HK.out)⟩, ⟨by repeat (first | (with_reducible first | exact HB.out | apply below_alloc | apply pw_below_drewN | apply below_drew1 | refine below_set ?_ (IsS55.ge HI0.out)) | exact HB.out)⟩⟩
                        · rw [if_neg c40] at H
                          have c40b0 : (a1 == 10) = false := beq_eq_false_iff_ne.mpr c40
                          have c40b1 : (a1 != 10) = true := bne_iff_ne.mpr c40
                          (first | rw [c40b0] | (simp only [i64_w, i32_w]; rw [c40b0]) | skip)
                          have H' := Aside0.mk H
                          clear H
                          go_wp2
                          go_meet
                          case rel => exact ⟨_, ((a1 == 11)), (by first | rfl | (simp; done) | (simp [*]; done)), H', ⟨by first | omega | exact Nat.le_refl _⟩, ⟨by repeat (first | (with_reducible first | exact HI0.out | apply IsS55.alloc | apply IsS55.drewN | apply IsS55.drew | apply IsS55.set_0 | apply IsS55.set_1 | apply IsS55.set_2 | apply IsS55.set_3 | apply IsS55.set_4) | exact HI0.out)⟩, ⟨by repeat (first | (with_reducible first | exact HK.out | apply KeepBut.set_ | apply keep_drewN | apply keep_drew | apply keep_alloc) | exact HK.out)⟩, ⟨by repeat (first | (with_reducible first | exact HB.out | apply below_alloc | apply pw_below_drewN | apply below_drew1 | refine below_set ?_ (IsS55.ge HI0.out)) | exact HB.out)⟩⟩
                      case rest =>
                        clear HC39
                        try clear c1
                        try clear c2
                        try clear p2
                        try clear c3
                        try clear c3b0
                        try clear c3b1
                        try clear c4
                        try clear c7
                        try clear c7b0
                        try clear c7b1
                        try clear c10
                        try clear c10b0
                        try clear c10b1
                        try clear c14
                        try clear c14b0
                        try clear c14b1
                        try clear c18
                        try clear c18b0
                        try clear c18b1
                        try clear c22
                        try clear c22b0
                        try clear c22b1
                        try clear c23
                        try clear c24
                        try clear c25
                        try clear c25b0
                        try clear c25b1
                        try clear c27
                        try clear c28
                        try clear c29
                        try clear c29b0
                        try clear c29b1
                        try clear c30
                        try clear c32
                        try clear c32b0
                        try clear c32b1
                        try clear c33
                        try clear c35
                        try clear c36
                        try clear c36b0
                        try clear c36b1
                        try clear c39
                        try clear c40
                        try clear c40b0
                        try clear c40b1
                        obtain ⟨kq, x90_38, rfl, HA, HJ38, HI0, HK, HB⟩ := hcut
                        cases kq with
                        | zero => exact absurd HA.out (by simp [detentlaw10_do.j0])
                        | succ kj38 =>
                          have H := HA.out
                          clear HA
                          simp only [detentlaw10_do.j0] at H
                          by_cases c41 : x90_38 = true
                          · subst c41
                            have H1 : ((tcb_Task_Resume.f kj38 s0_0 s0_1 s0_2 s0_3 s0_4 (a1 == 11)).bind fun bt338 => ((detentlaw10_flag.f bt338.1).bind fun t345 => (some (t345, bt338.2.1, bt338.2.2.1, bt338.2.2.2.1, bt338.2.2.2.2.1, bt338.2.2.2.2.2.1, bt338.2.2.2.2.2.2)))) = some (r1, r2, r3, r4, r5, r6, r7) := by rw [if_pos rfl] at H; exact H
                            clear H
                            have H := H1
                            clear H1
                            replace H := Option.bind_eq_some_iff.mp H
                            obtain ⟨⟨t338, t339, t340, t341, t342, t343, t344⟩, A420, H⟩ := H
                            replace H : ((detentlaw10_flag.f t338).bind fun t345 => (some (t345, t339, t340, t341, t342, t343, t344))) = some (r1, r2, r3, r4, r5, r6, r7) := H
                            have A42 := Aside0.mk A420
                            clear A420
                            replace H := Option.bind_eq_some_iff.mp H
                            obtain ⟨t345, A430, H⟩ := H
                            replace H : (some (t345, t339, t340, t341, t342, t343, t344)) = some (r1, r2, r3, r4, r5, r6, r7) := H
                            have A43 := Aside0.mk A430
                            clear A430
                            simp only [Option.some.injEq, Prod.mk.injEq] at H
                            obtain ⟨rfl, rfl, rfl, rfl, rfl, rfl, rfl⟩ := H
                            go_wp2_with (first | ((with_reducible refine gate_callee (f := 31) rfl ?_); refine goesL_ (some 97) rfl rfl Try.func31 (by kernel_rfl) rfl #[.pointer (some ⟨g, 0, none⟩), .bool (a1 == 11)] rfl (by (try simp only [List.map_toArray, List.map_cons, List.map_nil]); first | done | rfl | (simp only [List.length_drop, List.length_take]; rfl)) ?_; (with_reducible refine (tcb_Task_Resume.calls kj38 g s0_0 s0_1 s0_2 s0_3 s0_4 (a1 == 11) t338 t339 t340 t341 t342 t343 t344 w0 _ ?side1 ?side2 A42.out).mono ?_); (case side1 => repeat (first | (with_reducible first | exact HI0.out | apply IsS55.alloc | apply IsS55.drewN | apply IsS55.drew | apply IsS55.set_0 | apply IsS55.set_1 | apply IsS55.set_2 | apply IsS55.set_3 | apply IsS55.set_4) | exact HI0.out)); (case side2 => repeat (first | (with_reducible first | exact HB.out | apply below_alloc | apply pw_below_drewN | apply below_drew1 | refine below_set ?_ (IsS55.ge HI0.out)) | exact HB.out)); rintro e w44 ⟨rfl, hi, hb, hk⟩; refine ⟨_, rfl, ?_⟩; have n0_ := Aside0.mk (KeepBut.trans (by repeat (first | (with_reducible first | exact HK.out | apply KeepBut.set_ | apply keep_drewN | apply keep_drew | apply keep_alloc) | exact HK.out)) hk (.inl rfl)); have n1_ := Aside0.mk (hb); have n2_ := Aside0.mk (hi); clear HK; clear HB; clear HI0; have HK := n0_; have HB := n1_; have HI0 := n2_; clear n0_ n1_ n2_; (try clear hb); (try clear hb2); (try clear hk); (try clear hi)) | ((with_reducible refine gate_callee (f := 33) rfl ?_); refine goesL_ (some 101) rfl rfl Try.func33 (by kernel_rfl) rfl #[.bool t338] rfl (by (try simp only [List.map_toArray, List.map_cons, List.map_nil]); first | done | rfl | (simp only [List.length_drop, List.length_take]; rfl)) ?_; (with_reducible refine (detentlaw10_flag.calls t338 t345 _ A43.out).mono ?_); rintro e w' ⟨rfl, ⟨nd, rfl⟩⟩; refine ⟨_, rfl, ?_⟩))
                            go_ret2
                            exact ⟨by first | rfl | (simp [errW_none, errW_some] <;> rfl) | (simp [*, errW_none, errW_some] <;> rfl), by repeat (first | (with_reducible first | exact HI0.out | apply IsS55.alloc | apply IsS55.drewN | apply IsS55.drew | apply IsS55.set_0 | apply IsS55.set_1 | apply IsS55.set_2 | apply IsS55.set_3 | apply IsS55.set_4) | exact HI0.out), by repeat (first | (with_reducible first | exact HB.out | apply below_alloc | apply pw_below_drewN | apply below_drew1 | refine below_set ?_ (IsS55.ge HI0.out)) | exact HB.out), by repeat (first | (with_reducible first | exact HK.out | apply KeepBut.set_ | apply keep_drewN | apply keep_drew | apply keep_alloc) | exact HK.out)⟩
                          · replace c41 := Bool.eq_false_iff.mpr c41
                            subst c41
                            have H1 : (some (0, 0, s0_0, s0_1, s0_2, s0_3, s0_4)) = some (r1, r2, r3, r4, r5, r6, r7) := by rw [if_neg (show ¬ (false = true) by decide)] at H; exact H
                            clear H
                            have H := H1
                            clear H1
                            simp only [Option.some.injEq, Prod.mk.injEq] at H
                            obtain ⟨rfl, rfl, rfl, rfl, rfl, rfl, rfl⟩ := H
                            go_wp2
                            go_ret2
                            exact ⟨by first | rfl | (simp [errW_none, errW_some] <;> rfl) | (simp [*, errW_none, errW_some] <;> rfl), by repeat (first | (with_reducible first | exact HI0.out | apply IsS55.alloc | apply IsS55.drewN | apply IsS55.drew | apply IsS55.set_0 | apply IsS55.set_1 | apply IsS55.set_2 | apply IsS55.set_3 | apply IsS55.set_4) | exact HI0.out), by repeat (first | (with_reducible first | exact HB.out | apply below_alloc | apply pw_below_drewN | apply below_drew1 | refine below_set ?_ (IsS55.ge HI0.out)) | exact HB.out), by repeat (first | (with_reducible first | exact HK.out | apply KeepBut.set_ | apply keep_drewN | apply keep_drew | apply keep_alloc) | exact HK.out)⟩

end Go.Proofs.Ytgkemmhpfekoaaa.PTaskIs
