-- Laid by a program out of Lean's own print of the program; not by print.sh as it stands (NOTES.md tells what differs)
import Derived.Test.YtgkemmhpfekoaaaPTaskPlaysx0
import Derived.Test.YtgkemmhpfekoaaaPTaskPlaysx3
import Derived.Test.YtgkemmhpfekoaaaPTaskPlaysx4
import Derived.Test.YtgkemmhpfekoaaaPTaskPlaysx5
namespace Go.Proofs.Ytgkemmhpfekoaaa.PTaskPlays
open Go.RowKit Go.Proofs.YtgkemmhpfekoaaaW.PrintWords Go.Proofs.YtgkemmhpfekoaaaW.PrintLast Go.Proofs.YtgkemmhpfekoaaaW.PrintMore
attribute [local go_sem] max2_int min2_int max_two min_two max_three min_three max_four min_four   -- for this text's walks alone
set_option linter.unusedVariables false
set_option linter.unusedSimpArgs false

/-! ### detentlaw10_want: function 36 -/
def detentlaw10_want.j0 : Nat → Int → Bool → Int → Int → Int → Int → Bool → Option (Int × Int × Int × Int × Int × Int × Bool)
  | 0, _, _, _, _, _, _, _ => none
  | k + 1, x1, x85, x1000, x1001, x1002, x1003, x1004 => if x85 = true then ((detentref10_Task_Resume.f k x1000 x1001 x1002 x1003 x1004 (x1 == 11)).bind fun bt436 => ((detentlaw10_flag.f bt436.1).bind fun t443 => (some (t443, bt436.2.1, bt436.2.2.1, bt436.2.2.2.1, bt436.2.2.2.2.1, bt436.2.2.2.2.2.1, bt436.2.2.2.2.2.2)))) else (some (0, 0, x1000, x1001, x1002, x1003, x1004))
def detentlaw10_want.f (k : Nat) (s0_0 : Int) (s0_1 : Int) (s0_2 : Int) (s0_3 : Int) (s0_4 : Bool) (a1 : Int) : Option (Int × Int × Int × Int × Int × Int × Bool) := if a1 = 0 then ((detentref10_Task_Act.f s0_0 s0_1 s0_2 s0_3 s0_4).bind fun bt365 => ((detentlaw10_flag.f bt365.1).bind fun t372 => (some (t372, bt365.2.1, bt365.2.2.1, bt365.2.2.2.1, bt365.2.2.2.2.1, bt365.2.2.2.2.2.1, bt365.2.2.2.2.2.2)))) else (if a1 = 1 then ((detentref10_Task_CanAct.f s0_0 s0_1 s0_2 s0_3 s0_4).bind fun bt373 => (some (bt373.1, 0, bt373.2.1, bt373.2.2.1, bt373.2.2.2.1, bt373.2.2.2.2.1, bt373.2.2.2.2.2))) else (if a1 = 2 then ((detentref10_Task_End.f s0_0 s0_1 s0_2 s0_3 s0_4).bind fun bt379 => ((detentlaw10_flag.f bt379.1).bind fun t385 => (some (t385, 0, bt379.2.1, bt379.2.2.1, bt379.2.2.2.1, bt379.2.2.2.2.1, bt379.2.2.2.2.2)))) else (if a1 = 3 then ((detentref10_Task_Kill.f s0_0 s0_1 s0_2 s0_3 s0_4).bind fun bt386 => ((detentlaw10_flag.f bt386.1).bind fun t393 => (some (t393, bt386.2.1, bt386.2.2.1, bt386.2.2.2.1, bt386.2.2.2.2.1, bt386.2.2.2.2.2.1, bt386.2.2.2.2.2.2)))) else (if a1 = 4 then ((detentref10_Task_Sleep.f s0_0 s0_1 s0_2 s0_3 s0_4).bind fun bt394 => ((detentlaw10_flag.f bt394.1).bind fun t401 => (some (t401, bt394.2.1, bt394.2.2.1, bt394.2.2.2.1, bt394.2.2.2.2.1, bt394.2.2.2.2.2.1, bt394.2.2.2.2.2.2)))) else (if a1 = 5 then ((detentref10_Task_Stay.f s0_0 s0_1 s0_2 s0_3 s0_4).bind fun bt402 => (some (0, bt402.1, bt402.2.1, bt402.2.2.1, bt402.2.2.2.1, bt402.2.2.2.2.1, bt402.2.2.2.2.2))) else (if a1 = 6 then ((detentref10_Task_Wake.f s0_0 s0_1 s0_2 s0_3 s0_4).bind fun bt408 => ((detentlaw10_flag.f bt408.1).bind fun t415 => (some (t415, bt408.2.1, bt408.2.2.1, bt408.2.2.2.1, bt408.2.2.2.2.1, bt408.2.2.2.2.2.1, bt408.2.2.2.2.2.2)))) else (if a1 = 7 then ((detentref10_Task_CanWake.f s0_0 s0_1 s0_2 s0_3 s0_4).bind fun bt416 => (some (bt416.1, bt416.2.1, bt416.2.2.1, bt416.2.2.2.1, bt416.2.2.2.2.1, bt416.2.2.2.2.2.1, bt416.2.2.2.2.2.2))) else (if a1 = 8 then ((detentref10_Task_Release.f s0_0 s0_1 s0_2 s0_3 s0_4).bind fun bt423 => ((detentlaw10_flag.f bt423.1).bind fun t429 => (some (t429, 0, bt423.2.1, bt423.2.2.1, bt423.2.2.2.1, bt423.2.2.2.2.1, bt423.2.2.2.2.2)))) else (if a1 = 9 then ((detentref10_Task_Suspend.f s0_0 s0_1 s0_2 s0_3 s0_4).bind fun bt430 => (some (0, bt430.1, bt430.2.1, bt430.2.2.1, bt430.2.2.2.1, bt430.2.2.2.2.1, bt430.2.2.2.2.2))) else (if a1 = 10 then (detentlaw10_want.j0 k a1 (a1 == 10) s0_0 s0_1 s0_2 s0_3 s0_4) else (detentlaw10_want.j0 k a1 (a1 == 11) s0_0 s0_1 s0_2 s0_3 s0_4)))))))))))
theorem detentlaw10_want.mono_l : ∀ k, (∀ y0 y1 y2 y3 y4 y5 y6, LeO (detentlaw10_want.j0 k y0 y1 y2 y3 y4 y5 y6) (detentlaw10_want.j0 (k + 1) y0 y1 y2 y3 y4 y5 y6))
  | 0 => fun _ _ _ _ _ _ _ r h => by simp [detentlaw10_want.j0] at h
  | k + 1 => by
    have ih0 := detentlaw10_want.mono_l k
    · intro y0 y1 y2 y3 y4 y5 y6
      unfold detentlaw10_want.j0
      repeat' first
      | (with_reducible exact ih0 _ _ _ _ _ _ _)
      | (with_reducible exact detentref10_Task_Resume.mono _ _ _ _ _ _ _)
      | (with_reducible exact LeO.refl _)
      | (with_reducible exact LeO.none _)
      | (with_reducible refine LeO.ite ?_ ?_)
      | (with_reducible refine LeO.bind ?_ (fun _ => ?_))
      | exact ih0 _ _ _ _ _ _ _
      | exact detentref10_Task_Resume.mono _ _ _ _ _ _ _
      | exact LeO.none _
      | refine LeO.ite ?_ ?_
      | refine LeO.bind ?_ (fun _ => ?_)
theorem detentlaw10_want.mono : ∀ a0 a1 a2 a3 a4 a5 k, LeO (detentlaw10_want.f k a0 a1 a2 a3 a4 a5) (detentlaw10_want.f (k + 1) a0 a1 a2 a3 a4 a5) := by
  intro a0 a1 a2 a3 a4 a5 k
  have ih0 := detentlaw10_want.mono_l k
  unfold detentlaw10_want.f
  repeat' first
      | (with_reducible exact ih0 _ _ _ _ _ _ _)
      | (with_reducible exact detentref10_Task_Resume.mono _ _ _ _ _ _ _)
      | (with_reducible exact LeO.refl _)
      | (with_reducible exact LeO.none _)
      | (with_reducible refine LeO.ite ?_ ?_)
      | (with_reducible refine LeO.bind ?_ (fun _ => ?_))
      | exact ih0 _ _ _ _ _ _ _
      | exact detentref10_Task_Resume.mono _ _ _ _ _ _ _
      | exact LeO.none _
      | refine LeO.ite ?_ ?_
      | refine LeO.bind ?_ (fun _ => ?_)
set_option maxHeartbeats 8000000 in
set_option maxRecDepth 100000 in
theorem detentlaw10_want.calls (k : Nat) (g : Nat) (s0_0 : Int) (s0_1 : Int) (s0_2 : Int) (s0_3 : Int) (s0_4 : Bool) (a1 : Int) (r1 : Int) (r2 : Int) (r3 : Int) (r4 : Int) (r5 : Int) (r6 : Int) (r7 : Bool) (w0 w : World) (hI : IsS84 w0 w g s0_0 s0_1 s0_2 s0_3 s0_4) (hB : Below w0.heap.size w0 w) (h : detentlaw10_want.f k s0_0 s0_1 s0_2 s0_3 s0_4 a1 = some (r1, r2, r3, r4, r5, r6, r7)) :
    Calls Try.prog 36 #[.pointer (some ⟨g, 0, none⟩), .int .i64 a1] w fun e w' => e = .returned (.tuple #[.int .i64 r1, .int .i64 r2]) ∧ IsS84 w0 w' g r3 r4 r5 r6 r7 ∧ Below w0.heap.size w0 w' ∧ KeepBut w w' g none := by
  have HI0 := Aside0.mk hI
  have HK := Aside0.mk (KeepBut.refl w g none)
  have HL := Aside0.mk hB.size
  clear hI
  have HW0 := Aside0.mk hB.size
  have HB := Aside0.mk hB
  clear hB
  have H : (if a1 = 0 then ((detentref10_Task_Act.f s0_0 s0_1 s0_2 s0_3 s0_4).bind fun bt365 => ((detentlaw10_flag.f bt365.1).bind fun t372 => (some (t372, bt365.2.1, bt365.2.2.1, bt365.2.2.2.1, bt365.2.2.2.2.1, bt365.2.2.2.2.2.1, bt365.2.2.2.2.2.2)))) else (if a1 = 1 then ((detentref10_Task_CanAct.f s0_0 s0_1 s0_2 s0_3 s0_4).bind fun bt373 => (some (bt373.1, 0, bt373.2.1, bt373.2.2.1, bt373.2.2.2.1, bt373.2.2.2.2.1, bt373.2.2.2.2.2))) else (if a1 = 2 then ((detentref10_Task_End.f s0_0 s0_1 s0_2 s0_3 s0_4).bind fun bt379 => ((detentlaw10_flag.f bt379.1).bind fun t385 => (some (t385, 0, bt379.2.1, bt379.2.2.1, bt379.2.2.2.1, bt379.2.2.2.2.1, bt379.2.2.2.2.2)))) else (if a1 = 3 then ((detentref10_Task_Kill.f s0_0 s0_1 s0_2 s0_3 s0_4).bind fun bt386 => ((detentlaw10_flag.f bt386.1).bind fun t393 => (some (t393, bt386.2.1, bt386.2.2.1, bt386.2.2.2.1, bt386.2.2.2.2.1, bt386.2.2.2.2.2.1, bt386.2.2.2.2.2.2)))) else (if a1 = 4 then ((detentref10_Task_Sleep.f s0_0 s0_1 s0_2 s0_3 s0_4).bind fun bt394 => ((detentlaw10_flag.f bt394.1).bind fun t401 => (some (t401, bt394.2.1, bt394.2.2.1, bt394.2.2.2.1, bt394.2.2.2.2.1, bt394.2.2.2.2.2.1, bt394.2.2.2.2.2.2)))) else (if a1 = 5 then ((detentref10_Task_Stay.f s0_0 s0_1 s0_2 s0_3 s0_4).bind fun bt402 => (some (0, bt402.1, bt402.2.1, bt402.2.2.1, bt402.2.2.2.1, bt402.2.2.2.2.1, bt402.2.2.2.2.2))) else (if a1 = 6 then ((detentref10_Task_Wake.f s0_0 s0_1 s0_2 s0_3 s0_4).bind fun bt408 => ((detentlaw10_flag.f bt408.1).bind fun t415 => (some (t415, bt408.2.1, bt408.2.2.1, bt408.2.2.2.1, bt408.2.2.2.2.1, bt408.2.2.2.2.2.1, bt408.2.2.2.2.2.2)))) else (if a1 = 7 then ((detentref10_Task_CanWake.f s0_0 s0_1 s0_2 s0_3 s0_4).bind fun bt416 => (some (bt416.1, bt416.2.1, bt416.2.2.1, bt416.2.2.2.1, bt416.2.2.2.2.1, bt416.2.2.2.2.2.1, bt416.2.2.2.2.2.2))) else (if a1 = 8 then ((detentref10_Task_Release.f s0_0 s0_1 s0_2 s0_3 s0_4).bind fun bt423 => ((detentlaw10_flag.f bt423.1).bind fun t429 => (some (t429, 0, bt423.2.1, bt423.2.2.1, bt423.2.2.2.1, bt423.2.2.2.2.1, bt423.2.2.2.2.2)))) else (if a1 = 9 then ((detentref10_Task_Suspend.f s0_0 s0_1 s0_2 s0_3 s0_4).bind fun bt430 => (some (0, bt430.1, bt430.2.1, bt430.2.2.1, bt430.2.2.2.1, bt430.2.2.2.2.1, bt430.2.2.2.2.2))) else (if a1 = 10 then (detentlaw10_want.j0 k a1 (a1 == 10) s0_0 s0_1 s0_2 s0_3 s0_4) else (detentlaw10_want.j0 k a1 (a1 == 11) s0_0 s0_1 s0_2 s0_3 s0_4)))))))))))) = some (r1, r2, r3, r4, r5, r6, r7) := h
  clear h
  by_cases c3 : a1 = 0
  · rw [if_pos c3] at H
    have c3b0 : (a1 == 0) = true := beq_iff_eq.mpr c3
    have c3b1 : (a1 != 0) = false := bne_eq_false_iff_eq.mpr c3
    clear c3
    replace H := Option.bind_eq_some_iff.mp H
    obtain ⟨⟨t365, t366, t367, t368, t369, t370, t371⟩, A40, H⟩ := H
    replace H : ((detentlaw10_flag.f t365).bind fun t372 => (some (t372, t366, t367, t368, t369, t370, t371))) = some (r1, r2, r3, r4, r5, r6, r7) := H
    have A4 := Aside0.mk A40
    clear A40
    replace H := Option.bind_eq_some_iff.mp H
    obtain ⟨t372, A50, H⟩ := H
    replace H : (some (t372, t366, t367, t368, t369, t370, t371)) = some (r1, r2, r3, r4, r5, r6, r7) := H
    have A5 := Aside0.mk A50
    clear A50
    simp only [Option.some.injEq, Prod.mk.injEq] at H
    obtain ⟨rfl, rfl, rfl, rfl, rfl, rfl, rfl⟩ := H
    go_enter Try.func36, Try.ntmps36
    go_wp2_with (first | ((with_reducible refine gate_callee (f := 44) rfl ?_); refine goesL_ (some 21) rfl rfl Try.func44 (by kernel_rfl) rfl #[.pointer (some ⟨g, 0, none⟩)] rfl (by (try simp only [List.map_toArray, List.map_cons, List.map_nil]); first | done | rfl | (simp only [List.length_drop, List.length_take]; rfl)) ?_; (with_reducible refine (detentref10_Task_Act.calls g s0_0 s0_1 s0_2 s0_3 s0_4 t365 t366 t367 t368 t369 t370 t371 w0 _ ?side1 ?side2 A4.out).mono ?_); (case side1 => repeat (first | (with_reducible first | exact HI0.out | apply IsS84.alloc | apply IsS84.drewN | apply IsS84.drew | apply IsS84.set_0 | apply IsS84.set_1 | apply IsS84.set_2 | apply IsS84.set_3 | apply IsS84.set_4) | exact HI0.out)); (case side2 => repeat (first | (with_reducible first | exact HB.out | apply below_alloc | apply pw_below_drewN | apply below_drew1 | refine below_set ?_ (IsS84.ge HI0.out)) | exact HB.out)); rintro e w6 ⟨rfl, hi, hb, hk⟩; refine ⟨_, rfl, ?_⟩; have n0_ := Aside0.mk (KeepBut.trans (by repeat (first | (with_reducible first | exact HK.out | apply KeepBut.set_ | apply keep_drewN | apply keep_drew | apply keep_alloc) | exact HK.out)) hk (.inl rfl)); have n1_ := Aside0.mk (hb); have n2_ := Aside0.mk (hi); clear HK; clear HB; clear HI0; have HK := n0_; have HB := n1_; have HI0 := n2_; clear n0_ n1_ n2_; (try clear hb); (try clear hb2); (try clear hk); (try clear hi)) | ((with_reducible refine gate_callee (f := 33) rfl ?_); refine goesL_ (some 25) rfl rfl Try.func33 (by kernel_rfl) rfl #[.bool t365] rfl (by (try simp only [List.map_toArray, List.map_cons, List.map_nil]); first | done | rfl | (simp only [List.length_drop, List.length_take]; rfl)) ?_; (with_reducible refine (detentlaw10_flag.calls t365 t372 _ A5.out).mono ?_); rintro e w' ⟨rfl, ⟨nd, rfl⟩⟩; refine ⟨_, rfl, ?_⟩))
    go_ret2
    exact ⟨by first | rfl | (simp [errW_none, errW_some] <;> rfl) | (simp [*, errW_none, errW_some] <;> rfl), by repeat (first | (with_reducible first | exact HI0.out | apply IsS84.alloc | apply IsS84.drewN | apply IsS84.drew | apply IsS84.set_0 | apply IsS84.set_1 | apply IsS84.set_2 | apply IsS84.set_3 | apply IsS84.set_4) | exact HI0.out), by repeat (first | (with_reducible first | exact HB.out | apply below_alloc | apply pw_below_drewN | apply below_drew1 | refine below_set ?_ (IsS84.ge HI0.out)) | exact HB.out), by repeat (first | (with_reducible first | exact HK.out | apply KeepBut.set_ | apply keep_drewN | apply keep_drew | apply keep_alloc) | exact HK.out)⟩
  · rw [if_neg c3] at H
    have c3b0 : (a1 == 0) = false := beq_eq_false_iff_ne.mpr c3
    have c3b1 : (a1 != 0) = true := bne_iff_ne.mpr c3
    by_cases c7 : a1 = 1
    · rw [if_pos c7] at H
      have c7b0 : (a1 == 1) = true := beq_iff_eq.mpr c7
      have c7b1 : (a1 != 1) = false := bne_eq_false_iff_eq.mpr c7
      clear c7
      replace H := Option.bind_eq_some_iff.mp H
      obtain ⟨⟨t373, t374, t375, t376, t377, t378⟩, A80, H⟩ := H
      replace H : (some (t373, 0, t374, t375, t376, t377, t378)) = some (r1, r2, r3, r4, r5, r6, r7) := H
      have A8 := Aside0.mk A80
      clear A80
      simp only [Option.some.injEq, Prod.mk.injEq] at H
      obtain ⟨rfl, rfl, rfl, rfl, rfl, rfl, rfl⟩ := H
      go_enter Try.func36, Try.ntmps36
      go_wp2_with (first | ((with_reducible refine gate_callee (f := 45) rfl ?_); refine goesL_ (some 30) rfl rfl Try.func45 (by kernel_rfl) rfl #[.pointer (some ⟨g, 0, none⟩)] rfl (by (try simp only [List.map_toArray, List.map_cons, List.map_nil]); first | done | rfl | (simp only [List.length_drop, List.length_take]; rfl)) ?_; (with_reducible refine (detentref10_Task_CanAct.calls g s0_0 s0_1 s0_2 s0_3 s0_4 t373 t374 t375 t376 t377 t378 w0 _ ?side1 ?side2 A8.out).mono ?_); (case side1 => repeat (first | (with_reducible first | exact HI0.out | apply IsS84.alloc | apply IsS84.drewN | apply IsS84.drew | apply IsS84.set_0 | apply IsS84.set_1 | apply IsS84.set_2 | apply IsS84.set_3 | apply IsS84.set_4) | exact HI0.out)); (case side2 => repeat (first | (with_reducible first | exact HB.out | apply below_alloc | apply pw_below_drewN | apply below_drew1 | refine below_set ?_ (IsS84.ge HI0.out)) | exact HB.out)); rintro e w9 ⟨rfl, hi, hb, hk⟩; refine ⟨_, rfl, ?_⟩; have n0_ := Aside0.mk (KeepBut.trans (by repeat (first | (with_reducible first | exact HK.out | apply KeepBut.set_ | apply keep_drewN | apply keep_drew | apply keep_alloc) | exact HK.out)) hk (.inl rfl)); have n1_ := Aside0.mk (hb); have n2_ := Aside0.mk (hi); clear HK; clear HB; clear HI0; have HK := n0_; have HB := n1_; have HI0 := n2_; clear n0_ n1_ n2_; (try clear hb); (try clear hb2); (try clear hk); (try clear hi)))
      go_ret2
      exact ⟨by first | rfl | (simp [errW_none, errW_some] <;> rfl) | (simp [*, errW_none, errW_some] <;> rfl), by repeat (first | (with_reducible first | exact HI0.out | apply IsS84.alloc | apply IsS84.drewN | apply IsS84.drew | apply IsS84.set_0 | apply IsS84.set_1 | apply IsS84.set_2 | apply IsS84.set_3 | apply IsS84.set_4) | exact HI0.out), by repeat (first | (with_reducible first | exact HB.out | apply below_alloc | apply pw_below_drewN | apply below_drew1 | refine below_set ?_ (IsS84.ge HI0.out)) | exact HB.out), by repeat (first | (with_reducible first | exact HK.out | apply KeepBut.set_ | apply keep_drewN | apply keep_drew | apply keep_alloc) | exact HK.out)⟩
    · rw [if_neg c7] at H
      have c7b0 : (a1 == 1) = false := beq_eq_false_iff_ne.mpr c7
      have c7b1 : (a1 != 1) = true := bne_iff_ne.mpr c7
      by_cases c10 : a1 = 2
      · rw [if_pos c10] at H
        have c10b0 : (a1 == 2) = true := beq_iff_eq.mpr c10
        have c10b1 : (a1 != 2) = false := bne_eq_false_iff_eq.mpr c10
        clear c10
        replace H := Option.bind_eq_some_iff.mp H
        obtain ⟨⟨t379, t380, t381, t382, t383, t384⟩, A110, H⟩ := H
        replace H : ((detentlaw10_flag.f t379).bind fun t385 => (some (t385, 0, t380, t381, t382, t383, t384))) = some (r1, r2, r3, r4, r5, r6, r7) := H
        have A11 := Aside0.mk A110
        clear A110
        replace H := Option.bind_eq_some_iff.mp H
        obtain ⟨t385, A120, H⟩ := H
        replace H : (some (t385, 0, t380, t381, t382, t383, t384)) = some (r1, r2, r3, r4, r5, r6, r7) := H
        have A12 := Aside0.mk A120
        clear A120
        simp only [Option.some.injEq, Prod.mk.injEq] at H
        obtain ⟨rfl, rfl, rfl, rfl, rfl, rfl, rfl⟩ := H
        go_enter Try.func36, Try.ntmps36
        go_wp2_with (first | ((with_reducible refine gate_callee (f := 46) rfl ?_); refine goesL_ (some 34) rfl rfl Try.func46 (by kernel_rfl) rfl #[.pointer (some ⟨g, 0, none⟩)] rfl (by (try simp only [List.map_toArray, List.map_cons, List.map_nil]); first | done | rfl | (simp only [List.length_drop, List.length_take]; rfl)) ?_; (with_reducible refine (detentref10_Task_End.calls g s0_0 s0_1 s0_2 s0_3 s0_4 t379 t380 t381 t382 t383 t384 w0 _ ?side1 ?side2 A11.out).mono ?_); (case side1 => repeat (first | (with_reducible first | exact HI0.out | apply IsS84.alloc | apply IsS84.drewN | apply IsS84.drew | apply IsS84.set_0 | apply IsS84.set_1 | apply IsS84.set_2 | apply IsS84.set_3 | apply IsS84.set_4) | exact HI0.out)); (case side2 => repeat (first | (with_reducible first | exact HB.out | apply below_alloc | apply pw_below_drewN | apply below_drew1 | refine below_set ?_ (IsS84.ge HI0.out)) | exact HB.out)); rintro e w13 ⟨rfl, hi, hb, hk⟩; refine ⟨_, rfl, ?_⟩; have n0_ := Aside0.mk (KeepBut.trans (by repeat (first | (with_reducible first | exact HK.out | apply KeepBut.set_ | apply keep_drewN | apply keep_drew | apply keep_alloc) | exact HK.out)) hk (.inl rfl)); have n1_ := Aside0.mk (hb); have n2_ := Aside0.mk (hi); clear HK; clear HB; clear HI0; have HK := n0_; have HB := n1_; have HI0 := n2_; clear n0_ n1_ n2_; (try clear hb); (try clear hb2); (try clear hk); (try clear hi)) | ((with_reducible refine gate_callee (f := 33) rfl ?_); refine goesL_ (some 35) rfl rfl Try.func33 (by kernel_rfl) rfl #[.bool t379] rfl (by (try simp only [List.map_toArray, List.map_cons, List.map_nil]); first | done | rfl | (simp only [List.length_drop, List.length_take]; rfl)) ?_; (with_reducible refine (detentlaw10_flag.calls t379 t385 _ A12.out).mono ?_); rintro e w' ⟨rfl, ⟨nd, rfl⟩⟩; refine ⟨_, rfl, ?_⟩))
        go_ret2
        exact ⟨by first | rfl | (simp [errW_none, errW_some] <;> rfl) | (simp [*, errW_none, errW_some] <;> rfl), by repeat (first | (with_reducible first | exact HI0.out | apply IsS84.alloc | apply IsS84.drewN | apply IsS84.drew | apply IsS84.set_0 | apply IsS84.set_1 | apply IsS84.set_2 | apply IsS84.set_3 | apply IsS84.set_4) | exact HI0.out), by repeat (first | (with_reducible first | exact HB.out | apply below_alloc | apply pw_below_drewN | apply below_drew1 | refine below_set ?_ (IsS84.ge HI0.out)) | exact HB.out), by repeat (first | (with_reducible first | exact HK.out | apply KeepBut.set_ | apply keep_drewN | apply keep_drew | apply keep_alloc) | exact HK.out)⟩
      · rw [if_neg c10] at H
        have c10b0 : (a1 == 2) = false := beq_eq_false_iff_ne.mpr c10
        have c10b1 : (a1 != 2) = true := bne_iff_ne.mpr c10
        by_cases c14 : a1 = 3
        · rw [if_pos c14] at H
          have c14b0 : (a1 == 3) = true := beq_iff_eq.mpr c14
          have c14b1 : (a1 != 3) = false := bne_eq_false_iff_eq.mpr c14
          clear c14
          replace H := Option.bind_eq_some_iff.mp H
          obtain ⟨⟨t386, t387, t388, t389, t390, t391, t392⟩, A150, H⟩ := H
          replace H : ((detentlaw10_flag.f t386).bind fun t393 => (some (t393, t387, t388, t389, t390, t391, t392))) = some (r1, r2, r3, r4, r5, r6, r7) := H
          have A15 := Aside0.mk A150
          clear A150
          replace H := Option.bind_eq_some_iff.mp H
          obtain ⟨t393, A160, H⟩ := H
          replace H : (some (t393, t387, t388, t389, t390, t391, t392)) = some (r1, r2, r3, r4, r5, r6, r7) := H
          have A16 := Aside0.mk A160
          clear A160
          simp only [Option.some.injEq, Prod.mk.injEq] at H
          obtain ⟨rfl, rfl, rfl, rfl, rfl, rfl, rfl⟩ := H
          go_enter Try.func36, Try.ntmps36
          go_wp2_with (first | ((with_reducible refine gate_callee (f := 47) rfl ?_); refine goesL_ (some 40) rfl rfl Try.func47 (by kernel_rfl) rfl #[.pointer (some ⟨g, 0, none⟩)] rfl (by (try simp only [List.map_toArray, List.map_cons, List.map_nil]); first | done | rfl | (simp only [List.length_drop, List.length_take]; rfl)) ?_; (with_reducible refine (detentref10_Task_Kill.calls g s0_0 s0_1 s0_2 s0_3 s0_4 t386 t387 t388 t389 t390 t391 t392 w0 _ ?side1 ?side2 A15.out).mono ?_); (case side1 => repeat (first | (with_reducible first | exact HI0.out | apply IsS84.alloc | apply IsS84.drewN | apply IsS84.drew | apply IsS84.set_0 | apply IsS84.set_1 | apply IsS84.set_2 | apply IsS84.set_3 | apply IsS84.set_4) | exact HI0.out)); (case side2 => repeat (first | (with_reducible first | exact HB.out | apply below_alloc | apply pw_below_drewN | apply below_drew1 | refine below_set ?_ (IsS84.ge HI0.out)) | exact HB.out)); rintro e w17 ⟨rfl, hi, hb, hk⟩; refine ⟨_, rfl, ?_⟩; have n0_ := Aside0.mk (KeepBut.trans (by repeat (first | (with_reducible first | exact HK.out | apply KeepBut.set_ | apply keep_drewN | apply keep_drew | apply keep_alloc) | exact HK.out)) hk (.inl rfl)); have n1_ := Aside0.mk (hb); have n2_ := Aside0.mk (hi); clear HK; clear HB; clear HI0; have HK := n0_; have HB := n1_; have HI0 := n2_; clear n0_ n1_ n2_; (try clear hb); (try clear hb2); (try clear hk); (try clear hi)) | ((with_reducible refine gate_callee (f := 33) rfl ?_); refine goesL_ (some 44) rfl rfl Try.func33 (by kernel_rfl) rfl #[.bool t386] rfl (by (try simp only [List.map_toArray, List.map_cons, List.map_nil]); first | done | rfl | (simp only [List.length_drop, List.length_take]; rfl)) ?_; (with_reducible refine (detentlaw10_flag.calls t386 t393 _ A16.out).mono ?_); rintro e w' ⟨rfl, ⟨nd, rfl⟩⟩; refine ⟨_, rfl, ?_⟩))
          go_ret2
          exact ⟨by first | rfl | (simp [errW_none, errW_some] <;> rfl) | (simp [*, errW_none, errW_some] <;> rfl), by repeat (first | (with_reducible first | exact HI0.out | apply IsS84.alloc | apply IsS84.drewN | apply IsS84.drew | apply IsS84.set_0 | apply IsS84.set_1 | apply IsS84.set_2 | apply IsS84.set_3 | apply IsS84.set_4) | exact HI0.out), by repeat (first | (with_reducible first | exact HB.out | apply below_alloc | apply pw_below_drewN | apply below_drew1 | refine below_set ?_ (IsS84.ge HI0.out)) | exact HB.out), by repeat (first | (with_reducible first | exact HK.out | apply KeepBut.set_ | apply keep_drewN | apply keep_drew | apply keep_alloc) | exact HK.out)⟩
        · rw [if_neg c14] at H
          have c14b0 : (a1 == 3) = false := beq_eq_false_iff_ne.mpr c14
          have c14b1 : (a1 != 3) = true := bne_iff_ne.mpr c14
          by_cases c18 : a1 = 4
          · rw [if_pos c18] at H
            have c18b0 : (a1 == 4) = true := beq_iff_eq.mpr c18
            have c18b1 : (a1 != 4) = false := bne_eq_false_iff_eq.mpr c18
            clear c18
            replace H := Option.bind_eq_some_iff.mp H
            obtain ⟨⟨t394, t395, t396, t397, t398, t399, t400⟩, A190, H⟩ := H
            replace H : ((detentlaw10_flag.f t394).bind fun t401 => (some (t401, t395, t396, t397, t398, t399, t400))) = some (r1, r2, r3, r4, r5, r6, r7) := H
            have A19 := Aside0.mk A190
            clear A190
            replace H := Option.bind_eq_some_iff.mp H
            obtain ⟨t401, A200, H⟩ := H
            replace H : (some (t401, t395, t396, t397, t398, t399, t400)) = some (r1, r2, r3, r4, r5, r6, r7) := H
            have A20 := Aside0.mk A200
            clear A200
            simp only [Option.some.injEq, Prod.mk.injEq] at H
            obtain ⟨rfl, rfl, rfl, rfl, rfl, rfl, rfl⟩ := H
            go_enter Try.func36, Try.ntmps36
            go_wp2_with (first | ((with_reducible refine gate_callee (f := 48) rfl ?_); refine goesL_ (some 50) rfl rfl Try.func48 (by kernel_rfl) rfl #[.pointer (some ⟨g, 0, none⟩)] rfl (by (try simp only [List.map_toArray, List.map_cons, List.map_nil]); first | done | rfl | (simp only [List.length_drop, List.length_take]; rfl)) ?_; (with_reducible refine (detentref10_Task_Sleep.calls g s0_0 s0_1 s0_2 s0_3 s0_4 t394 t395 t396 t397 t398 t399 t400 w0 _ ?side1 ?side2 A19.out).mono ?_); (case side1 => repeat (first | (with_reducible first | exact HI0.out | apply IsS84.alloc | apply IsS84.drewN | apply IsS84.drew | apply IsS84.set_0 | apply IsS84.set_1 | apply IsS84.set_2 | apply IsS84.set_3 | apply IsS84.set_4) | exact HI0.out)); (case side2 => repeat (first | (with_reducible first | exact HB.out | apply below_alloc | apply pw_below_drewN | apply below_drew1 | refine below_set ?_ (IsS84.ge HI0.out)) | exact HB.out)); rintro e w21 ⟨rfl, hi, hb, hk⟩; refine ⟨_, rfl, ?_⟩; have n0_ := Aside0.mk (KeepBut.trans (by repeat (first | (with_reducible first | exact HK.out | apply KeepBut.set_ | apply keep_drewN | apply keep_drew | apply keep_alloc) | exact HK.out)) hk (.inl rfl)); have n1_ := Aside0.mk (hb); have n2_ := Aside0.mk (hi); clear HK; clear HB; clear HI0; have HK := n0_; have HB := n1_; have HI0 := n2_; clear n0_ n1_ n2_; (try clear hb); (try clear hb2); (try clear hk); (try clear hi)) | ((with_reducible refine gate_callee (f := 33) rfl ?_); refine goesL_ (some 54) rfl rfl Try.func33 (by kernel_rfl) rfl #[.bool t394] rfl (by (try simp only [List.map_toArray, List.map_cons, List.map_nil]); first | done | rfl | (simp only [List.length_drop, List.length_take]; rfl)) ?_; (with_reducible refine (detentlaw10_flag.calls t394 t401 _ A20.out).mono ?_); rintro e w' ⟨rfl, ⟨nd, rfl⟩⟩; refine ⟨_, rfl, ?_⟩))
            go_ret2
            exact ⟨by first | rfl | (simp [errW_none, errW_some] <;> rfl) | (simp [*, errW_none, errW_some] <;> rfl), by repeat (first | (with_reducible first | exact HI0.out | apply IsS84.alloc | apply IsS84.drewN | apply IsS84.drew | apply IsS84.set_0 | apply IsS84.set_1 | apply IsS84.set_2 | apply IsS84.set_3 | apply IsS84.set_4) | exact HI0.out), by repeat (first | (with_reducible first | exact HB.out | apply below_alloc | apply pw_below_drewN | apply below_drew1 | refine below_set ?_ (IsS84.ge HI0.out)) | exact HB.out), by repeat (first | (with_reducible first | exact HK.out | apply KeepBut.set_ | apply keep_drewN | apply keep_drew | apply keep_alloc) | exact HK.out)⟩
          · rw [if_neg c18] at H
            have c18b0 : (a1 == 4) = false := beq_eq_false_iff_ne.mpr c18
            have c18b1 : (a1 != 4) = true := bne_iff_ne.mpr c18
            by_cases c22 : a1 = 5
            · rw [if_pos c22] at H
              have c22b0 : (a1 == 5) = true := beq_iff_eq.mpr c22
              have c22b1 : (a1 != 5) = false := bne_eq_false_iff_eq.mpr c22
              clear c22
              replace H := Option.bind_eq_some_iff.mp H
              obtain ⟨⟨t402, t403, t404, t405, t406, t407⟩, A230, H⟩ := H
              replace H : (some (0, t402, t403, t404, t405, t406, t407)) = some (r1, r2, r3, r4, r5, r6, r7) := H
              have A23 := Aside0.mk A230
              clear A230
              simp only [Option.some.injEq, Prod.mk.injEq] at H
              obtain ⟨rfl, rfl, rfl, rfl, rfl, rfl, rfl⟩ := H
              go_enter Try.func36, Try.ntmps36
              go_wp2_with (first | ((with_reducible refine gate_callee (f := 49) rfl ?_); refine goesL_ (some 59) rfl rfl Try.func49 (by kernel_rfl) rfl #[.pointer (some ⟨g, 0, none⟩)] rfl (by (try simp only [List.map_toArray, List.map_cons, List.map_nil]); first | done | rfl | (simp only [List.length_drop, List.length_take]; rfl)) ?_; (with_reducible refine (detentref10_Task_Stay.calls g s0_0 s0_1 s0_2 s0_3 s0_4 t402 t403 t404 t405 t406 t407 w0 _ ?side1 ?side2 A23.out).mono ?_); (case side1 => repeat (first | (with_reducible first | exact HI0.out | apply IsS84.alloc | apply IsS84.drewN | apply IsS84.drew | apply IsS84.set_0 | apply IsS84.set_1 | apply IsS84.set_2 | apply IsS84.set_3 | apply IsS84.set_4) | exact HI0.out)); (case side2 => repeat (first | (with_reducible first | exact HB.out | apply below_alloc | apply pw_below_drewN | apply below_drew1 | refine below_set ?_ (IsS84.ge HI0.out)) | exact HB.out)); rintro e w24 ⟨rfl, hi, hb, hk⟩; refine ⟨_, rfl, ?_⟩; have n0_ := Aside0.mk (KeepBut.trans (by repeat (first | (with_reducible first | exact HK.out | apply KeepBut.set_ | apply keep_drewN | apply keep_drew | apply keep_alloc) | exact HK.out)) hk (.inl rfl)); have n1_ := Aside0.mk (hb); have n2_ := Aside0.mk (hi); clear HK; clear HB; clear HI0; have HK := n0_; have HB := n1_; have HI0 := n2_; clear n0_ n1_ n2_; (try clear hb); (try clear hb2); (try clear hk); (try clear hi)))
              go_ret2
              exact ⟨by first | rfl | (simp [errW_none, errW_some] <;> rfl) | (simp [*, errW_none, errW_some] <;> rfl), by repeat (first | (with_reducible first | exact HI0.out | apply IsS84.alloc | apply IsS84.drewN | apply IsS84.drew | apply IsS84.set_0 | apply IsS84.set_1 | apply IsS84.set_2 | apply IsS84.set_3 | apply IsS84.set_4) | exact HI0.out), by repeat (first | (with_reducible first | exact HB.out | apply below_alloc | apply pw_below_drewN | apply below_drew1 | refine below_set ?_ (IsS84.ge HI0.out)) | exact HB.out), by repeat (first | (with_reducible first | exact HK.out | apply KeepBut.set_ | apply keep_drewN | apply keep_drew | apply keep_alloc) | exact HK.out)⟩
            · rw [if_neg c22] at H
              have c22b0 : (a1 == 5) = false := beq_eq_false_iff_ne.mpr c22
              have c22b1 : (a1 != 5) = true := bne_iff_ne.mpr c22
              by_cases c25 : a1 = 6
              · rw [if_pos c25] at H
                have c25b0 : (a1 == 6) = true := beq_iff_eq.mpr c25
                have c25b1 : (a1 != 6) = false := bne_eq_false_iff_eq.mpr c25
                clear c25
                replace H := Option.bind_eq_some_iff.mp H
                obtain ⟨⟨t408, t409, t410, t411, t412, t413, t414⟩, A260, H⟩ := H
                replace H : ((detentlaw10_flag.f t408).bind fun t415 => (some (t415, t409, t410, t411, t412, t413, t414))) = some (r1, r2, r3, r4, r5, r6, r7) := H
                have A26 := Aside0.mk A260
                clear A260
                replace H := Option.bind_eq_some_iff.mp H
                obtain ⟨t415, A270, H⟩ := H
                replace H : (some (t415, t409, t410, t411, t412, t413, t414)) = some (r1, r2, r3, r4, r5, r6, r7) := H
                have A27 := Aside0.mk A270
                clear A270
                simp only [Option.some.injEq, Prod.mk.injEq] at H
                obtain ⟨rfl, rfl, rfl, rfl, rfl, rfl, rfl⟩ := H
                go_enter Try.func36, Try.ntmps36
                go_wp2_with (first | ((with_reducible refine gate_callee (f := 50) rfl ?_); refine goesL_ (some 64) rfl rfl Try.func50 (by kernel_rfl) rfl #[.pointer (some ⟨g, 0, none⟩)] rfl (by (try simp only [List.map_toArray, List.map_cons, List.map_nil]); first | done | rfl | (simp only [List.length_drop, List.length_take]; rfl)) ?_; (with_reducible refine (detentref10_Task_Wake.calls g s0_0 s0_1 s0_2 s0_3 s0_4 t408 t409 t410 t411 t412 t413 t414 w0 _ ?side1 ?side2 A26.out).mono ?_); (case side1 => repeat (first | (with_reducible first | exact HI0.out | apply IsS84.alloc | apply IsS84.drewN | apply IsS84.drew | apply IsS84.set_0 | apply IsS84.set_1 | apply IsS84.set_2 | apply IsS84.set_3 | apply IsS84.set_4) | exact HI0.out)); (case side2 => repeat (first | (with_reducible first | exact HB.out | apply below_alloc | apply pw_below_drewN | apply below_drew1 | refine below_set ?_ (IsS84.ge HI0.out)) | exact HB.out)); rintro e w28 ⟨rfl, hi, hb, hk⟩; refine ⟨_, rfl, ?_⟩; have n0_ := Aside0.mk (KeepBut.trans (by repeat (first | (with_reducible first | exact HK.out | apply KeepBut.set_ | apply keep_drewN | apply keep_drew | apply keep_alloc) | exact HK.out)) hk (.inl rfl)); have n1_ := Aside0.mk (hb); have n2_ := Aside0.mk (hi); clear HK; clear HB; clear HI0; have HK := n0_; have HB := n1_; have HI0 := n2_; clear n0_ n1_ n2_; (try clear hb); (try clear hb2); (try clear hk); (try clear hi)) | ((with_reducible refine gate_callee (f := 33) rfl ?_); refine goesL_ (some 68) rfl rfl Try.func33 (by kernel_rfl) rfl #[.bool t408] rfl (by (try simp only [List.map_toArray, List.map_cons, List.map_nil]); first | done | rfl | (simp only [List.length_drop, List.length_take]; rfl)) ?_; (with_reducible refine (detentlaw10_flag.calls t408 t415 _ A27.out).mono ?_); rintro e w' ⟨rfl, ⟨nd, rfl⟩⟩; refine ⟨_, rfl, ?_⟩))
                go_ret2
                exact ⟨by first | rfl | (simp [errW_none, errW_some] <;> rfl) | (simp [*, errW_none, errW_some] <;> rfl), by repeat (first | (with_reducible first | exact HI0.out | apply IsS84.alloc | apply IsS84.drewN | apply IsS84.drew | apply IsS84.set_0 | apply IsS84.set_1 | apply IsS84.set_2 | apply IsS84.set_3 | apply IsS84.set_4) | exact HI0.out), by repeat (first | (with_reducible first | exact HB.out | apply below_alloc | apply pw_below_drewN | apply below_drew1 | refine below_set ?_ (IsS84.ge HI0.out)) | exact HB.out), by repeat (first | (with_reducible first | exact HK.out | apply KeepBut.set_ | apply keep_drewN | apply keep_drew | apply keep_alloc) | exact HK.out)⟩
              · rw [if_neg c25] at H
                have c25b0 : (a1 == 6) = false := beq_eq_false_iff_ne.mpr c25
                have c25b1 : (a1 != 6) = true := bne_iff_ne.mpr c25
                by_cases c29 : a1 = 7
                · rw [if_pos c29] at H
                  have c29b0 : (a1 == 7) = true := beq_iff_eq.mpr c29
                  have c29b1 : (a1 != 7) = false := bne_eq_false_iff_eq.mpr c29
                  clear c29
                  replace H := Option.bind_eq_some_iff.mp H
                  obtain ⟨⟨t416, t417, t418, t419, t420, t421, t422⟩, A300, H⟩ := H
                  replace H : (some (t416, t417, t418, t419, t420, t421, t422)) = some (r1, r2, r3, r4, r5, r6, r7) := H
                  have A30 := Aside0.mk A300
                  clear A300
                  simp only [Option.some.injEq, Prod.mk.injEq] at H
                  obtain ⟨rfl, rfl, rfl, rfl, rfl, rfl, rfl⟩ := H
                  go_enter Try.func36, Try.ntmps36
                  go_wp2_with (first | ((with_reducible refine gate_callee (f := 51) rfl ?_); refine goesL_ (some 73) rfl rfl Try.func51 (by kernel_rfl) rfl #[.pointer (some ⟨g, 0, none⟩)] rfl (by (try simp only [List.map_toArray, List.map_cons, List.map_nil]); first | done | rfl | (simp only [List.length_drop, List.length_take]; rfl)) ?_; (with_reducible refine (detentref10_Task_CanWake.calls g s0_0 s0_1 s0_2 s0_3 s0_4 t416 t417 t418 t419 t420 t421 t422 w0 _ ?side1 ?side2 A30.out).mono ?_); (case side1 => repeat (first | (with_reducible first | exact HI0.out | apply IsS84.alloc | apply IsS84.drewN | apply IsS84.drew | apply IsS84.set_0 | apply IsS84.set_1 | apply IsS84.set_2 | apply IsS84.set_3 | apply IsS84.set_4) | exact HI0.out)); (case side2 => repeat (first | (with_reducible first | exact HB.out | apply below_alloc | apply pw_below_drewN | apply below_drew1 | refine below_set ?_ (IsS84.ge HI0.out)) | exact HB.out)); rintro e w31 ⟨rfl, hi, hb, hk⟩; refine ⟨_, rfl, ?_⟩; have n0_ := Aside0.mk (KeepBut.trans (by repeat (first | (with_reducible first | exact HK.out | apply KeepBut.set_ | apply keep_drewN | apply keep_drew | apply keep_alloc) | exact HK.out)) hk (.inl rfl)); have n1_ := Aside0.mk (hb); have n2_ := Aside0.mk (hi); clear HK; clear HB; clear HI0; have HK := n0_; have HB := n1_; have HI0 := n2_; clear n0_ n1_ n2_; (try clear hb); (try clear hb2); (try clear hk); (try clear hi)))
                  go_ret2
                  exact ⟨by first | rfl | (simp [errW_none, errW_some] <;> rfl) | (simp [*, errW_none, errW_some] <;> rfl), by repeat (first | (with_reducible first | exact HI0.out | apply IsS84.alloc | apply IsS84.drewN | apply IsS84.drew | apply IsS84.set_0 | apply IsS84.set_1 | apply IsS84.set_2 | apply IsS84.set_3 | apply IsS84.set_4) | exact HI0.out), by repeat (first | (with_reducible first | exact HB.out | apply below_alloc | apply pw_below_drewN | apply below_drew1 | refine below_set ?_ (IsS84.ge HI0.out)) | exact HB.out), by repeat (first | (with_reducible first | exact HK.out | apply KeepBut.set_ | apply keep_drewN | apply keep_drew | apply keep_alloc) | exact HK.out)⟩
                · rw [if_neg c29] at H
                  have c29b0 : (a1 == 7) = false := beq_eq_false_iff_ne.mpr c29
                  have c29b1 : (a1 != 7) = true := bne_iff_ne.mpr c29
                  by_cases c32 : a1 = 8
                  · rw [if_pos c32] at H
                    have c32b0 : (a1 == 8) = true := beq_iff_eq.mpr c32
                    have c32b1 : (a1 != 8) = false := bne_eq_false_iff_eq.mpr c32
                    clear c32
                    replace H := Option.bind_eq_some_iff.mp H
                    obtain ⟨⟨t423, t424, t425, t426, t427, t428⟩, A330, H⟩ := H
                    replace H : ((detentlaw10_flag.f t423).bind fun t429 => (some (t429, 0, t424, t425, t426, t427, t428))) = some (r1, r2, r3, r4, r5, r6, r7) := H
                    have A33 := Aside0.mk A330
                    clear A330
                    replace H := Option.bind_eq_some_iff.mp H
                    obtain ⟨t429, A340, H⟩ := H
                    replace H : (some (t429, 0, t424, t425, t426, t427, t428)) = some (r1, r2, r3, r4, r5, r6, r7) := H
                    have A34 := Aside0.mk A340
                    clear A340
                    simp only [Option.some.injEq, Prod.mk.injEq] at H
                    obtain ⟨rfl, rfl, rfl, rfl, rfl, rfl, rfl⟩ := H
                    go_enter Try.func36, Try.ntmps36
                    go_wp2_with (first | ((with_reducible refine gate_callee (f := 52) rfl ?_); refine goesL_ (some 79) rfl rfl Try.func52 (by kernel_rfl) rfl #[.pointer (some ⟨g, 0, none⟩)] rfl (by (try simp only [List.map_toArray, List.map_cons, List.map_nil]); first | done | rfl | (simp only [List.length_drop, List.length_take]; rfl)) ?_; (with_reducible refine (detentref10_Task_Release.calls g s0_0 s0_1 s0_2 s0_3 s0_4 t423 t424 t425 t426 t427 t428 w0 _ ?side1 ?side2 A33.out).mono ?_); (case side1 => repeat (first | (with_reducible first | exact HI0.out | apply IsS84.alloc | apply IsS84.drewN | apply IsS84.drew | apply IsS84.set_0 | apply IsS84.set_1 | apply IsS84.set_2 | apply IsS84.set_3 | apply IsS84.set_4) | exact HI0.out)); (case side2 => repeat (first | (with_reducible first | exact HB.out | apply below_alloc | apply pw_below_drewN | apply below_drew1 | refine below_set ?_ (IsS84.ge HI0.out)) | exact HB.out)); rintro e w35 ⟨rfl, hi, hb, hk⟩; refine ⟨_, rfl, ?_⟩; have n0_ := Aside0.mk (KeepBut.trans (by repeat (first | (with_reducible first | exact HK.out | apply KeepBut.set_ | apply keep_drewN | apply keep_drew | apply keep_alloc) | exact HK.out)) hk (.inl rfl)); have n1_ := Aside0.mk (hb); have n2_ := Aside0.mk (hi); clear HK; clear HB; clear HI0; have HK := n0_; have HB := n1_; have HI0 := n2_; clear n0_ n1_ n2_; (try clear hb); (try clear hb2); (try clear hk); (try clear hi)) | ((with_reducible refine gate_callee (f := 33) rfl ?_); refine goesL_ (some 80) rfl rfl Try.func33 (by kernel_rfl) rfl #[.bool t423] rfl (by (try simp only [List.map_toArray, List.map_cons, List.map_nil]); first | done | rfl | (simp only [List.length_drop, List.length_take]; rfl)) ?_; (with_reducible refine (detentlaw10_flag.calls t423 t429 _ A34.out).mono ?_); rintro e w' ⟨rfl, ⟨nd, rfl⟩⟩; refine ⟨_, rfl, ?_⟩))
                    go_ret2
                    exact ⟨by first | rfl | (simp [errW_none, errW_some] <;> rfl) | (simp [*, errW_none, errW_some] <;> rfl), by repeat (first | (with_reducible first | exact HI0.out | apply IsS84.alloc | apply IsS84.drewN | apply IsS84.drew | apply IsS84.set_0 | apply IsS84.set_1 | apply IsS84.set_2 | apply IsS84.set_3 | apply IsS84.set_4) | exact HI0.out), by repeat (first | (with_reducible first | exact HB.out | apply below_alloc | apply pw_below_drewN | apply below_drew1 | refine below_set ?_ (IsS84.ge HI0.out)) | exact HB.out), by repeat (first | (with_reducible first | exact HK.out | apply KeepBut.set_ | apply keep_drewN | apply keep_drew | apply keep_alloc) | exact HK.out)⟩
                  · rw [if_neg c32] at H
                    have c32b0 : (a1 == 8) = false := beq_eq_false_iff_ne.mpr c32
                    have c32b1 : (a1 != 8) = true := bne_iff_ne.mpr c32
                    by_cases c36 : a1 = 9
                    · rw [if_pos c36] at H
                      have c36b0 : (a1 == 9) = true := beq_iff_eq.mpr c36
                      have c36b1 : (a1 != 9) = false := bne_eq_false_iff_eq.mpr c36
                      clear c36
                      replace H := Option.bind_eq_some_iff.mp H
                      obtain ⟨⟨t430, t431, t432, t433, t434, t435⟩, A370, H⟩ := H
                      replace H : (some (0, t430, t431, t432, t433, t434, t435)) = some (r1, r2, r3, r4, r5, r6, r7) := H
                      have A37 := Aside0.mk A370
                      clear A370
                      simp only [Option.some.injEq, Prod.mk.injEq] at H
                      obtain ⟨rfl, rfl, rfl, rfl, rfl, rfl, rfl⟩ := H
                      go_enter Try.func36, Try.ntmps36
                      go_wp2_with (first | ((with_reducible refine gate_callee (f := 53) rfl ?_); refine goesL_ (some 84) rfl rfl Try.func53 (by kernel_rfl) rfl #[.pointer (some ⟨g, 0, none⟩)] rfl (by (try simp only [List.map_toArray, List.map_cons, List.map_nil]); first | done | rfl | (simp only [List.length_drop, List.length_take]; rfl)) ?_; (with_reducible refine (detentref10_Task_Suspend.calls g s0_0 s0_1 s0_2 s0_3 s0_4 t430 t431 t432 t433 t434 t435 w0 _ ?side1 ?side2 A37.out).mono ?_); (case side1 => repeat (first | (with_reducible first | exact HI0.out | apply IsS84.alloc | apply IsS84.drewN | apply IsS84.drew | apply IsS84.set_0 | apply IsS84.set_1 | apply IsS84.set_2 | apply IsS84.set_3 | apply IsS84.set_4) | exact HI0.out)); (case side2 => repeat (first | (with_reducible first | exact HB.out | apply below_alloc | apply pw_below_drewN | apply below_drew1 | refine below_set ?_ (IsS84.ge HI0.out)) | exact HB.out)); rintro e w38 ⟨rfl, hi, hb, hk⟩; refine ⟨_, rfl, ?_⟩; have n0_ := Aside0.mk (KeepBut.trans (by repeat (first | (with_reducible first | exact HK.out | apply KeepBut.set_ | apply keep_drewN | apply keep_drew | apply keep_alloc) | exact HK.out)) hk (.inl rfl)); have n1_ := Aside0.mk (hb); have n2_ := Aside0.mk (hi); clear HK; clear HB; clear HI0; have HK := n0_; have HB := n1_; have HI0 := n2_; clear n0_ n1_ n2_; (try clear hb); (try clear hb2); (try clear hk); (try clear hi)))
                      go_ret2
                      exact ⟨by first | rfl | (simp [errW_none, errW_some] <;> rfl) | (simp [*, errW_none, errW_some] <;> rfl), by repeat (first | (with_reducible first | exact HI0.out | apply IsS84.alloc | apply IsS84.drewN | apply IsS84.drew | apply IsS84.set_0 | apply IsS84.set_1 | apply IsS84.set_2 | apply IsS84.set_3 | apply IsS84.set_4) | exact HI0.out), by repeat (first | (with_reducible first | exact HB.out | apply below_alloc | apply pw_below_drewN | apply below_drew1 | refine below_set ?_ (IsS84.ge HI0.out)) | exact HB.out), by repeat (first | (with_reducible first | exact HK.out | apply KeepBut.set_ | apply keep_drewN | apply keep_drew | apply keep_alloc) | exact HK.out)⟩
                    · rw [if_neg c36] at H
                      have c36b0 : (a1 == 9) = false := beq_eq_false_iff_ne.mpr c36
                      have c36b1 : (a1 != 9) = true := bne_iff_ne.mpr c36
                      have HC39 := Aside0.mk H
                      clear H
                      go_enter Try.func36, Try.ntmps36
                      go_upto_if 85 with (fail)
                      go_cut [85] (fun v85 wc => ∃ (kq : Nat) (x85_38 : Bool), v85 = .bool x85_38 ∧ Aside0 (detentlaw10_want.j0 kq a1 x85_38 s0_0 s0_1 s0_2 s0_3 s0_4 = some (r1, r2, r3, r4, r5, r6, r7)) ∧ Aside0 (kq ≤ k) ∧ Aside0 (IsS84 w0 wc g s0_0 s0_1 s0_2 s0_3 s0_4) ∧ Aside0 (KeepBut w wc g none) ∧ Aside0 (Below w0.heap.size w0 wc))
                      case first =>
                        have H := HC39.out
                        clear HC39
                        by_cases c40 : a1 = 10
                        · rw [if_pos c40] at H
                          have c40b0 : (a1 == 10) = true := beq_iff_eq.mpr c40
                          have c40b1 : (a1 != 10) = false := bne_eq_false_iff_eq.mpr c40
                          clear c40
                          (first | rw [c40b0] | (simp only [i64_w, i32_w]; rw [c40b0]) | skip)
                          have H' := Aside0.mk H
                          clear H
                          go_wp2
                          go_meet
                          case rel => exact ⟨_, ((a1 == 10)), (by first | rfl | (simp; done) | (simp [*]; done)), H', ⟨by first | omega | exact Nat.le_refl _⟩, ⟨by repeat (first | (with_reducible first | exact HI0.out | apply IsS84.alloc | apply IsS84.drewN | apply IsS84.drew | apply IsS84.set_0 | apply IsS84.set_1 | apply IsS84.set_2 | apply IsS84.set_3 | apply IsS84.set_4) | exact HI0.out)⟩, ⟨by repeat (first | (with_reducible first | exact HK.out | apply KeepBut.set_ | apply keep_drewN | apply keep_drew | apply keep_alloc) | exact HK.out)⟩, ⟨by repeat (first | (with_reducible first | exact HB.out | apply below_alloc | apply pw_below_drewN | apply below_drew1 | refine below_set ?_ (IsS84.ge HI0.out)) | exact HB.out)⟩⟩
                        · rw [if_neg c40] at H
                          have c40b0 : (a1 == 10) = false := beq_eq_false_iff_ne.mpr c40
                          have c40b1 : (a1 != 10) = true := bne_iff_ne.mpr c40
                          (first | rw [c40b0] | (simp only [i64_w, i32_w]; rw [c40b0]) | skip)
                          have H' := Aside0.mk H
                          clear H
                          go_wp2
                          go_meet
                          case rel => exact ⟨_, ((a1 == 11)), (by first | rfl | (simp; done) | (simp [*]; done)), H', ⟨by first | omega | exact Nat.le_refl _⟩, ⟨by repeat (first | (with_reducible first | exact HI0.out | apply IsS84.alloc | apply IsS84.drewN | apply IsS84.drew | apply IsS84.set_0 | apply IsS84.set_1 | apply IsS84.set_2 | apply IsS84.set_3 | apply IsS84.set_4) | exact HI0.out)⟩, ⟨by repeat (first | (with_reducible first | exact HK.out | apply KeepBut.set_ | apply keep_drewN | apply keep_drew | apply keep_alloc) | exact HK.out)⟩, ⟨by repeat (first | (with_reducible first | exact HB.out | apply below_alloc | apply pw_below_drewN | apply below_drew1 | refine below_set ?_ (IsS84.ge HI0.out)) | exact HB.out)⟩⟩
                      case rest =>
                        clear HC39
                        try clear c1
                        try clear c2
                        try clear p2
                        try clear c3
                        try clear c3b0
                        try clear c3b1
                        try clear c4
                        try clear c5
                        try clear c7
                        try clear c7b0
                        try clear c7b1
                        try clear c10
                        try clear c10b0
                        try clear c10b1
                        try clear c14
                        try clear c14b0
                        try clear c14b1
                        try clear c18
                        try clear c18b0
                        try clear c18b1
                        try clear c22
                        try clear c22b0
                        try clear c22b1
                        try clear c25
                        try clear c25b0
                        try clear c25b1
                        try clear c29
                        try clear c29b0
                        try clear c29b1
                        try clear c32
                        try clear c32b0
                        try clear c32b1
                        try clear c33
                        try clear c36
                        try clear c36b0
                        try clear c36b1
                        try clear c40
                        try clear c40b0
                        try clear c40b1
                        obtain ⟨kq, x85_38, rfl, HA, HJ38, HI0, HK, HB⟩ := hcut
                        cases kq with
                        | zero => exact absurd HA.out (by simp [detentlaw10_want.j0])
                        | succ kj38 =>
                          have H := HA.out
                          clear HA
                          simp only [detentlaw10_want.j0] at H
                          by_cases c41 : x85_38 = true
                          · subst c41
                            have H1 : ((detentref10_Task_Resume.f kj38 s0_0 s0_1 s0_2 s0_3 s0_4 (a1 == 11)).bind fun bt436 => ((detentlaw10_flag.f bt436.1).bind fun t443 => (some (t443, bt436.2.1, bt436.2.2.1, bt436.2.2.2.1, bt436.2.2.2.2.1, bt436.2.2.2.2.2.1, bt436.2.2.2.2.2.2)))) = some (r1, r2, r3, r4, r5, r6, r7) := by rw [if_pos rfl] at H; exact H
                            clear H
                            have H := H1
                            clear H1
                            replace H := Option.bind_eq_some_iff.mp H
                            obtain ⟨⟨t436, t437, t438, t439, t440, t441, t442⟩, A420, H⟩ := H
                            replace H : ((detentlaw10_flag.f t436).bind fun t443 => (some (t443, t437, t438, t439, t440, t441, t442))) = some (r1, r2, r3, r4, r5, r6, r7) := H
                            have A42 := Aside0.mk A420
                            clear A420
                            replace H := Option.bind_eq_some_iff.mp H
                            obtain ⟨t443, A430, H⟩ := H
                            replace H : (some (t443, t437, t438, t439, t440, t441, t442)) = some (r1, r2, r3, r4, r5, r6, r7) := H
                            have A43 := Aside0.mk A430
                            clear A430
                            simp only [Option.some.injEq, Prod.mk.injEq] at H
                            obtain ⟨rfl, rfl, rfl, rfl, rfl, rfl, rfl⟩ := H
                            go_wp2_with (first | ((with_reducible refine gate_callee (f := 54) rfl ?_); refine goesL_ (some 92) rfl rfl Try.func54 (by kernel_rfl) rfl #[.pointer (some ⟨g, 0, none⟩), .bool (a1 == 11)] rfl (by (try simp only [List.map_toArray, List.map_cons, List.map_nil]); first | done | rfl | (simp only [List.length_drop, List.length_take]; rfl)) ?_; (with_reducible refine (detentref10_Task_Resume.calls kj38 g s0_0 s0_1 s0_2 s0_3 s0_4 (a1 == 11) t436 t437 t438 t439 t440 t441 t442 w0 _ ?side1 ?side2 A42.out).mono ?_); (case side1 => repeat (first | (with_reducible first | exact HI0.out | apply IsS84.alloc | apply IsS84.drewN | apply IsS84.drew | apply IsS84.set_0 | apply IsS84.set_1 | apply IsS84.set_2 | apply IsS84.set_3 | apply IsS84.set_4) | exact HI0.out)); (case side2 => repeat (first | (with_reducible first | exact HB.out | apply below_alloc | apply pw_below_drewN | apply below_drew1 | refine below_set ?_ (IsS84.ge HI0.out)) | exact HB.out)); rintro e w44 ⟨rfl, hi, hb, hk⟩; refine ⟨_, rfl, ?_⟩; have n0_ := Aside0.mk (KeepBut.trans (by repeat (first | (with_reducible first | exact HK.out | apply KeepBut.set_ | apply keep_drewN | apply keep_drew | apply keep_alloc) | exact HK.out)) hk (.inl rfl)); have n1_ := Aside0.mk (hb); have n2_ := Aside0.mk (hi); clear HK; clear HB; clear HI0; have HK := n0_; have HB := n1_; have HI0 := n2_; clear n0_ n1_ n2_; (try clear hb); (try clear hb2); (try clear hk); (try clear hi)) | ((with_reducible refine gate_callee (f := 33) rfl ?_); refine goesL_ (some 96) rfl rfl Try.func33 (by kernel_rfl) rfl #[.bool t436] rfl (by (try simp only [List.map_toArray, List.map_cons, List.map_nil]); first | done | rfl | (simp only [List.length_drop, List.length_take]; rfl)) ?_; (with_reducible refine (detentlaw10_flag.calls t436 t443 _ A43.out).mono ?_); rintro e w' ⟨rfl, ⟨nd, rfl⟩⟩; refine ⟨_, rfl, ?_⟩))
                            go_ret2
                            exact ⟨by first | rfl | (simp [errW_none, errW_some] <;> rfl) | (simp [*, errW_none, errW_some] <;> rfl), by repeat (first | (with_reducible first | exact HI0.out | apply IsS84.alloc | apply IsS84.drewN | apply IsS84.drew | apply IsS84.set_0 | apply IsS84.set_1 | apply IsS84.set_2 | apply IsS84.set_3 | apply IsS84.set_4) | exact HI0.out), by repeat (first | (with_reducible first | exact HB.out | apply below_alloc | apply pw_below_drewN | apply below_drew1 | refine below_set ?_ (IsS84.ge HI0.out)) | exact HB.out), by repeat (first | (with_reducible first | exact HK.out | apply KeepBut.set_ | apply keep_drewN | apply keep_drew | apply keep_alloc) | exact HK.out)⟩
                          · replace c41 := Bool.eq_false_iff.mpr c41
                            subst c41
                            have H1 : (some (0, 0, s0_0, s0_1, s0_2, s0_3, s0_4)) = some (r1, r2, r3, r4, r5, r6, r7) := by rw [if_neg (show ¬ (false = true) by decide)] at H; exact H
                            clear H
                            have H := H1
                            clear H1
                            simp only [Option.some.injEq, Prod.mk.injEq] at H
                            obtain ⟨rfl, rfl, rfl, rfl, rfl, rfl, rfl⟩ := H
                            go_wp2
                            go_ret2
                            exact ⟨by first | rfl | (simp [errW_none, errW_some] <;> rfl) | (simp [*, errW_none, errW_some] <;> rfl), by repeat (first | (with_reducible first | exact HI0.out | apply IsS84.alloc | apply IsS84.drewN | apply IsS84.drew | apply IsS84.set_0 | apply IsS84.set_1 | apply IsS84.set_2 | apply IsS84.set_3 | apply IsS84.set_4) | exact HI0.out), by repeat (first | (with_reducible first | exact HB.out | apply below_alloc | apply pw_below_drewN | apply below_drew1 | refine below_set ?_ (IsS84.ge HI0.out)) | exact HB.out), by repeat (first | (with_reducible first | exact HK.out | apply KeepBut.set_ | apply keep_drewN | apply keep_drew | apply keep_alloc) | exact HK.out)⟩

-- NOT PRINTED: function 37 (detentlaw10_same)

-- NOT PRINTED: function 11 (detentlaw10_TaskPlays)

end Go.Proofs.Ytgkemmhpfekoaaa.PTaskPlays
