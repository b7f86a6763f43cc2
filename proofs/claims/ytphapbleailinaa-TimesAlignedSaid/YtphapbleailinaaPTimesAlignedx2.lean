-- PRINTED BY print.sh 35421559b90ae4d0a3588c463048766b98c2df88dd9212a6774a882060cdf62d: not written by this session
import Derived.Test.YtphapbleailinaaPTimesAlignedx0
import Derived.Test.YtphapbleailinaaPTimesAlignedx1
namespace Go.Proofs.Ytphapbleailinaa.PTimesAligned
open Go.RowKit Go.Proofs.YtphapbleailinaaW.PrintWords Go.Proofs.YtphapbleailinaaW.PrintLast Go.Proofs.YtphapbleailinaaW.PrintMore
attribute [local go_sem] max2_int min2_int max_two min_two max_three min_three max_four min_four   -- for this text's walks alone
set_option linter.unusedVariables false
set_option linter.unusedSimpArgs false

/-! ### detentlaw1_TimesAligned: function 11 -/
def detentlaw1_TimesAligned.j0 : Nat → Int → Int → Bool → Option (Bool)
  | 0, _, _, _ => none
  | k + 1, x0, x1, x21 => if x21 = true then (some true) else ((nums_Align.f x0 x1).bind fun t124 => ((nums_Align.f t124 x1).bind fun t125 => (if t125 = t124 then ((nums_Align.f (wrap64 (t124 + 1)) x1).bind fun t126 => (if t126 = (wrap64 (t124 + x1)) then (if t124 = x0 then (some true) else ((nums_Align.f (wrap64 (x0 + 1)) x1).bind fun t127 => (some (t127 == t124)))) else (some false))) else (some false))))
def detentlaw1_TimesAligned.f (k : Nat) (a0 : Int) (a1 : Int) : Option (Bool) := (detentlaw1_known.f k).bind fun t123 => (if t123 = true then (if a0 < 0 then (detentlaw1_TimesAligned.j0 k a0 a1 true) else (if a0 > 536870912 then (detentlaw1_TimesAligned.j0 k a0 a1 true) else (if a1 < 1 then (detentlaw1_TimesAligned.j0 k a0 a1 true) else (detentlaw1_TimesAligned.j0 k a0 a1 (decide (a1 > 4096)))))) else (some false))
theorem detentlaw1_TimesAligned.mono_l : ∀ k, (∀ y0 y1 y2, LeO (detentlaw1_TimesAligned.j0 k y0 y1 y2) (detentlaw1_TimesAligned.j0 (k + 1) y0 y1 y2))
  | 0 => fun _ _ _ r h => by simp [detentlaw1_TimesAligned.j0] at h
  | k + 1 => by
    have ih0 := detentlaw1_TimesAligned.mono_l k
    · intro y0 y1 y2
      unfold detentlaw1_TimesAligned.j0
      repeat' first
      | (with_reducible exact ih0 _ _ _)
      | (with_reducible exact detentlaw1_known.mono _)
      | (with_reducible exact LeO.refl _)
      | (with_reducible exact LeO.none _)
      | (with_reducible refine LeO.ite ?_ ?_)
      | (with_reducible refine LeO.bind ?_ (fun _ => ?_))
      | exact ih0 _ _ _
      | exact detentlaw1_known.mono _
      | exact LeO.none _
      | refine LeO.ite ?_ ?_
      | refine LeO.bind ?_ (fun _ => ?_)
theorem detentlaw1_TimesAligned.mono : ∀ a0 a1 k, LeO (detentlaw1_TimesAligned.f k a0 a1) (detentlaw1_TimesAligned.f (k + 1) a0 a1) := by
  intro a0 a1 k
  have ih0 := detentlaw1_TimesAligned.mono_l k
  unfold detentlaw1_TimesAligned.f
  repeat' first
      | (with_reducible exact ih0 _ _ _)
      | (with_reducible exact detentlaw1_known.mono _)
      | (with_reducible exact LeO.refl _)
      | (with_reducible exact LeO.none _)
      | (with_reducible refine LeO.ite ?_ ?_)
      | (with_reducible refine LeO.bind ?_ (fun _ => ?_))
      | exact ih0 _ _ _
      | exact detentlaw1_known.mono _
      | exact LeO.none _
      | refine LeO.ite ?_ ?_
      | refine LeO.bind ?_ (fun _ => ?_)
set_option maxHeartbeats 8000000 in
set_option maxRecDepth 100000 in
theorem detentlaw1_TimesAligned.calls (k : Nat) (a0 : Int) (a1 : Int) (r : Bool) (w : World) (h : detentlaw1_TimesAligned.f k a0 a1 = some r) :
    Calls Try.prog 11 #[.int .i64 a0, .int .i64 a1] w fun e w' => e = .returned (.bool r) ∧ Below w.heap.size w w' := by
  have HB := Aside0.mk (Below.refl w.heap.size w)
  have H : ((detentlaw1_known.f k).bind fun t123 => (if t123 = true then (if a0 < 0 then (detentlaw1_TimesAligned.j0 k a0 a1 true) else (if a0 > 536870912 then (detentlaw1_TimesAligned.j0 k a0 a1 true) else (if a1 < 1 then (detentlaw1_TimesAligned.j0 k a0 a1 true) else (detentlaw1_TimesAligned.j0 k a0 a1 (decide (a1 > 4096)))))) else (some false))) = some r := h
  clear h
  replace H := Option.bind_eq_some_iff.mp H
  obtain ⟨t123, A30, H⟩ := H
  replace H : (if t123 = true then (if a0 < 0 then (detentlaw1_TimesAligned.j0 k a0 a1 true) else (if a0 > 536870912 then (detentlaw1_TimesAligned.j0 k a0 a1 true) else (if a1 < 1 then (detentlaw1_TimesAligned.j0 k a0 a1 true) else (detentlaw1_TimesAligned.j0 k a0 a1 (decide (a1 > 4096)))))) else (some false)) = some r := H
  have A3 := Aside0.mk A30
  clear A30
  by_cases c4 : t123 = true
  · subst c4
    have H1 : (if a0 < 0 then (detentlaw1_TimesAligned.j0 k a0 a1 true) else (if a0 > 536870912 then (detentlaw1_TimesAligned.j0 k a0 a1 true) else (if a1 < 1 then (detentlaw1_TimesAligned.j0 k a0 a1 true) else (detentlaw1_TimesAligned.j0 k a0 a1 (decide (a1 > 4096)))))) = some r := by rw [if_pos rfl] at H; exact H
    clear H
    have H := H1
    clear H1
    have HC5 := Aside0.mk H
    clear H
    go_enter Try.func11, Try.ntmps11
    go_upto_region 3 with (first | ((with_reducible refine gate_callee (f := 22) rfl ?_); refine goesL_ (some 6) rfl rfl Try.func22 (by kernel_rfl) rfl #[] rfl (by (try simp only [List.map_toArray, List.map_cons, List.map_nil]); first | done | rfl | (simp only [List.length_drop, List.length_take]; rfl)) ?_; (with_reducible refine (detentlaw1_known.calls k  true _ A3.out).mono ?_); rintro e w6 ⟨rfl, hb⟩; refine ⟨_, rfl, ?_⟩; have n0_ := Aside0.mk (below_step (by repeat (first | (with_reducible first | exact HB.out | apply below_alloc | apply pw_below_drewN | apply below_drew1) | exact HB.out)) hb); clear HB; have HB := n0_; clear n0_; (try clear hb); (try clear hb2); (try clear hk); (try clear hi)))
    (try simp only [Act.put, List.setIfInBounds_toArray, List.set_cons_zero, List.set_cons_succ])
    go_cut [21] (fun v21 wc => ∃ (kq : Nat) (x21_4 : Bool), v21 = .bool x21_4 ∧ Aside0 (detentlaw1_TimesAligned.j0 kq a0 a1 x21_4 = some r) ∧ Aside0 (kq ≤ k) ∧ Aside0 (Below w.heap.size w wc))
    case first =>
      have H := HC5.out
      clear HC5
      by_cases c7 : a0 < 0
      · rw [if_pos c7] at H
        have c7b0 : decide (a0 < 0) = true := decide_eq_true c7
        clear c7
        (first | rw [c7b0] | (simp only [i64_w, i32_w]; rw [c7b0]) | skip)
        have H' := Aside0.mk H
        clear H
        go_wp2
        go_meet
        case rel => exact ⟨_, (true), (by first | rfl | (simp; done) | (simp [*]; done)), H', ⟨by first | omega | exact Nat.le_refl _⟩, ⟨by repeat (first | (with_reducible first | exact HB.out | apply below_alloc | apply pw_below_drewN | apply below_drew1) | exact HB.out)⟩⟩
      · rw [if_neg c7] at H
        have c7b0 : decide (a0 < 0) = false := decide_eq_false c7
        clear c7
        (first | rw [c7b0] | (simp only [i64_w, i32_w]; rw [c7b0]) | skip)
        by_cases c8 : a0 > 536870912
        · rw [if_pos c8] at H
          have c8b0 : decide (536870912 < a0) = true := decide_eq_true c8
          clear c8
          have H' := Aside0.mk H
          clear H
          go_wp2
          go_meet
          case rel => exact ⟨_, (true), (by first | rfl | (simp; done) | (simp [*]; done)), H', ⟨by first | omega | exact Nat.le_refl _⟩, ⟨by repeat (first | (with_reducible first | exact HB.out | apply below_alloc | apply pw_below_drewN | apply below_drew1) | exact HB.out)⟩⟩
        · rw [if_neg c8] at H
          have c8b0 : decide (536870912 < a0) = false := decide_eq_false c8
          clear c8
          by_cases c9 : a1 < 1
          · rw [if_pos c9] at H
            have c9b0 : decide (a1 < 1) = true := decide_eq_true c9
            clear c9
            have H' := Aside0.mk H
            clear H
            go_wp2
            go_meet
            case rel => exact ⟨_, (true), (by first | rfl | (simp; done) | (simp [*]; done)), H', ⟨by first | omega | exact Nat.le_refl _⟩, ⟨by repeat (first | (with_reducible first | exact HB.out | apply below_alloc | apply pw_below_drewN | apply below_drew1) | exact HB.out)⟩⟩
          · rw [if_neg c9] at H
            have c9b0 : decide (a1 < 1) = false := decide_eq_false c9
            clear c9
            have H' := Aside0.mk H
            clear H
            go_wp2
            go_meet
            case rel => exact ⟨_, (decide (a1 > 4096)), (by first | rfl | (simp; done) | (simp [*]; done)), H', ⟨by first | omega | exact Nat.le_refl _⟩, ⟨by repeat (first | (with_reducible first | exact HB.out | apply below_alloc | apply pw_below_drewN | apply below_drew1) | exact HB.out)⟩⟩
    case rest =>
      clear HC5
      try clear c1
      try clear c2
      try clear p2
      try clear c4
      try clear c7
      try clear c7b0
      try clear c8
      try clear c8b0
      try clear c9
      try clear c9b0
      obtain ⟨kq, x21_4, rfl, HA, HJ4, HB⟩ := hcut
      cases kq with
      | zero => exact absurd HA.out (by simp [detentlaw1_TimesAligned.j0])
      | succ kj4 =>
        have H := HA.out
        clear HA
        simp only [detentlaw1_TimesAligned.j0] at H
        by_cases c10 : x21_4 = true
        · subst c10
          have H1 : (some true) = some r := by rw [if_pos rfl] at H; exact H
          clear H
          have H := H1
          clear H1
          obtain rfl := Option.some.inj H
          go_wp2
          go_ret
          exact ⟨by first | rfl | (simp [errW_none, errW_some] <;> rfl) | (simp [*, errW_none, errW_some] <;> rfl), by repeat (first | (with_reducible first | exact HB.out | apply below_alloc | apply pw_below_drewN | apply below_drew1) | exact HB.out)⟩
        · replace c10 := Bool.eq_false_iff.mpr c10
          subst c10
          have H1 : ((nums_Align.f a0 a1).bind fun t124 => ((nums_Align.f t124 a1).bind fun t125 => (if t125 = t124 then ((nums_Align.f (wrap64 (t124 + 1)) a1).bind fun t126 => (if t126 = (wrap64 (t124 + a1)) then (if t124 = a0 then (some true) else ((nums_Align.f (wrap64 (a0 + 1)) a1).bind fun t127 => (some (t127 == t124)))) else (some false))) else (some false)))) = some r := by rw [if_neg (show ¬ (false = true) by decide)] at H; exact H
          clear H
          have H := H1
          clear H1
          replace H := Option.bind_eq_some_iff.mp H
          obtain ⟨t124, A110, H⟩ := H
          replace H : ((nums_Align.f t124 a1).bind fun t125 => (if t125 = t124 then ((nums_Align.f (wrap64 (t124 + 1)) a1).bind fun t126 => (if t126 = (wrap64 (t124 + a1)) then (if t124 = a0 then (some true) else ((nums_Align.f (wrap64 (a0 + 1)) a1).bind fun t127 => (some (t127 == t124)))) else (some false))) else (some false))) = some r := H
          have A11 := Aside0.mk A110
          clear A110
          replace H := Option.bind_eq_some_iff.mp H
          obtain ⟨t125, A120, H⟩ := H
          replace H : (if t125 = t124 then ((nums_Align.f (wrap64 (t124 + 1)) a1).bind fun t126 => (if t126 = (wrap64 (t124 + a1)) then (if t124 = a0 then (some true) else ((nums_Align.f (wrap64 (a0 + 1)) a1).bind fun t127 => (some (t127 == t124)))) else (some false))) else (some false)) = some r := H
          have A12 := Aside0.mk A120
          clear A120
          by_cases c13 : t125 = t124
          · rw [if_pos c13] at H
            have c13b0 : (t125 == t124) = true := beq_iff_eq.mpr c13
            have c13b1 : (t125 != t124) = false := bne_eq_false_iff_eq.mpr c13
            clear c13
            replace H := Option.bind_eq_some_iff.mp H
            obtain ⟨t126, A140, H⟩ := H
            replace H : (if t126 = (wrap64 (t124 + a1)) then (if t124 = a0 then (some true) else ((nums_Align.f (wrap64 (a0 + 1)) a1).bind fun t127 => (some (t127 == t124)))) else (some false)) = some r := H
            have A14 := Aside0.mk A140
            clear A140
            by_cases c15 : t126 = (wrap64 (t124 + a1))
            · rw [if_pos c15] at H
              have c15b0 : (t126 == (wrap64 (t124 + a1))) = true := beq_iff_eq.mpr c15
              have c15b1 : (t126 != (wrap64 (t124 + a1))) = false := bne_eq_false_iff_eq.mpr c15
              clear c15
              by_cases c16 : t124 = a0
              · rw [if_pos c16] at H
                have c16b0 : (t124 == a0) = true := beq_iff_eq.mpr c16
                have c16b1 : (t124 != a0) = false := bne_eq_false_iff_eq.mpr c16
                clear c16
                obtain rfl := Option.some.inj H
                go_wp2_with (first | ((with_reducible refine gate_callee (f := 31) rfl ?_); refine goesL_ (some 24) rfl rfl Try.func31 (by kernel_rfl) rfl #[.int .i64 a0, .int .i64 a1] rfl (by (try simp only [List.map_toArray, List.map_cons, List.map_nil]); first | done | rfl | (simp only [List.length_drop, List.length_take]; rfl)) ?_; (with_reducible refine (nums_Align.calls a0 a1 t124 _ A11.out).mono ?_); rintro e w' ⟨rfl, ⟨nd, rfl⟩⟩; refine ⟨_, rfl, ?_⟩) | ((with_reducible refine gate_callee (f := 31) rfl ?_); refine goesL_ (some 27) rfl rfl Try.func31 (by kernel_rfl) rfl #[.int .i64 t124, .int .i64 a1] rfl (by (try simp only [List.map_toArray, List.map_cons, List.map_nil]); first | done | rfl | (simp only [List.length_drop, List.length_take]; rfl)) ?_; (with_reducible refine (nums_Align.calls t124 a1 t125 _ A12.out).mono ?_); rintro e w' ⟨rfl, ⟨nd, rfl⟩⟩; refine ⟨_, rfl, ?_⟩) | (go_at_call 31; (with_reducible refine (nums_Align.calls (wrap64 (t124 + 1)) a1 t126 _ A14.out).mono ?_); rintro e w' ⟨rfl, ⟨nd, rfl⟩⟩))
                go_ret
                exact ⟨by first | rfl | (simp [errW_none, errW_some] <;> rfl) | (simp [*, errW_none, errW_some] <;> rfl), by repeat (first | (with_reducible first | exact HB.out | apply below_alloc | apply pw_below_drewN | apply below_drew1) | exact HB.out)⟩
              · rw [if_neg c16] at H
                have c16b0 : (t124 == a0) = false := beq_eq_false_iff_ne.mpr c16
                have c16b1 : (t124 != a0) = true := bne_iff_ne.mpr c16
                replace H := Option.bind_eq_some_iff.mp H
                obtain ⟨t127, A170, H⟩ := H
                replace H : (some (t127 == t124)) = some r := H
                have A17 := Aside0.mk A170
                clear A170
                obtain rfl := Option.some.inj H
                go_wp2_with (first | ((with_reducible refine gate_callee (f := 31) rfl ?_); refine goesL_ (some 24) rfl rfl Try.func31 (by kernel_rfl) rfl #[.int .i64 a0, .int .i64 a1] rfl (by (try simp only [List.map_toArray, List.map_cons, List.map_nil]); first | done | rfl | (simp only [List.length_drop, List.length_take]; rfl)) ?_; (with_reducible refine (nums_Align.calls a0 a1 t124 _ A11.out).mono ?_); rintro e w' ⟨rfl, ⟨nd, rfl⟩⟩; refine ⟨_, rfl, ?_⟩) | ((with_reducible refine gate_callee (f := 31) rfl ?_); refine goesL_ (some 27) rfl rfl Try.func31 (by kernel_rfl) rfl #[.int .i64 t124, .int .i64 a1] rfl (by (try simp only [List.map_toArray, List.map_cons, List.map_nil]); first | done | rfl | (simp only [List.length_drop, List.length_take]; rfl)) ?_; (with_reducible refine (nums_Align.calls t124 a1 t125 _ A12.out).mono ?_); rintro e w' ⟨rfl, ⟨nd, rfl⟩⟩; refine ⟨_, rfl, ?_⟩) | (go_at_call 31; (with_reducible refine (nums_Align.calls (wrap64 (t124 + 1)) a1 t126 _ A14.out).mono ?_); rintro e w' ⟨rfl, ⟨nd, rfl⟩⟩) | (go_at_call 31; (with_reducible refine (nums_Align.calls (wrap64 (a0 + 1)) a1 t127 _ A17.out).mono ?_); rintro e w' ⟨rfl, ⟨nd, rfl⟩⟩))
                go_ret
                exact ⟨by first | rfl | (simp [errW_none, errW_some] <;> rfl) | (simp [*, errW_none, errW_some] <;> rfl), by repeat (first | (with_reducible first | exact HB.out | apply below_alloc | apply pw_below_drewN | apply below_drew1) | exact HB.out)⟩
            · rw [if_neg c15] at H
              have c15b0 : (t126 == (wrap64 (t124 + a1))) = false := beq_eq_false_iff_ne.mpr c15
              have c15b1 : (t126 != (wrap64 (t124 + a1))) = true := bne_iff_ne.mpr c15
              obtain rfl := Option.some.inj H
              go_wp2_with (first | ((with_reducible refine gate_callee (f := 31) rfl ?_); refine goesL_ (some 24) rfl rfl Try.func31 (by kernel_rfl) rfl #[.int .i64 a0, .int .i64 a1] rfl (by (try simp only [List.map_toArray, List.map_cons, List.map_nil]); first | done | rfl | (simp only [List.length_drop, List.length_take]; rfl)) ?_; (with_reducible refine (nums_Align.calls a0 a1 t124 _ A11.out).mono ?_); rintro e w' ⟨rfl, ⟨nd, rfl⟩⟩; refine ⟨_, rfl, ?_⟩) | ((with_reducible refine gate_callee (f := 31) rfl ?_); refine goesL_ (some 27) rfl rfl Try.func31 (by kernel_rfl) rfl #[.int .i64 t124, .int .i64 a1] rfl (by (try simp only [List.map_toArray, List.map_cons, List.map_nil]); first | done | rfl | (simp only [List.length_drop, List.length_take]; rfl)) ?_; (with_reducible refine (nums_Align.calls t124 a1 t125 _ A12.out).mono ?_); rintro e w' ⟨rfl, ⟨nd, rfl⟩⟩; refine ⟨_, rfl, ?_⟩) | (go_at_call 31; (with_reducible refine (nums_Align.calls (wrap64 (t124 + 1)) a1 t126 _ A14.out).mono ?_); rintro e w' ⟨rfl, ⟨nd, rfl⟩⟩))
              go_ret
              exact ⟨by first | rfl | (simp [errW_none, errW_some] <;> rfl) | (simp [*, errW_none, errW_some] <;> rfl), by repeat (first | (with_reducible first | exact HB.out | apply below_alloc | apply pw_below_drewN | apply below_drew1) | exact HB.out)⟩
          · rw [if_neg c13] at H
            have c13b0 : (t125 == t124) = false := beq_eq_false_iff_ne.mpr c13
            have c13b1 : (t125 != t124) = true := bne_iff_ne.mpr c13
            obtain rfl := Option.some.inj H
            go_wp2_with (first | ((with_reducible refine gate_callee (f := 31) rfl ?_); refine goesL_ (some 24) rfl rfl Try.func31 (by kernel_rfl) rfl #[.int .i64 a0, .int .i64 a1] rfl (by (try simp only [List.map_toArray, List.map_cons, List.map_nil]); first | done | rfl | (simp only [List.length_drop, List.length_take]; rfl)) ?_; (with_reducible refine (nums_Align.calls a0 a1 t124 _ A11.out).mono ?_); rintro e w' ⟨rfl, ⟨nd, rfl⟩⟩; refine ⟨_, rfl, ?_⟩) | ((with_reducible refine gate_callee (f := 31) rfl ?_); refine goesL_ (some 27) rfl rfl Try.func31 (by kernel_rfl) rfl #[.int .i64 t124, .int .i64 a1] rfl (by (try simp only [List.map_toArray, List.map_cons, List.map_nil]); first | done | rfl | (simp only [List.length_drop, List.length_take]; rfl)) ?_; (with_reducible refine (nums_Align.calls t124 a1 t125 _ A12.out).mono ?_); rintro e w' ⟨rfl, ⟨nd, rfl⟩⟩; refine ⟨_, rfl, ?_⟩))
            go_ret
            exact ⟨by first | rfl | (simp [errW_none, errW_some] <;> rfl) | (simp [*, errW_none, errW_some] <;> rfl), by repeat (first | (with_reducible first | exact HB.out | apply below_alloc | apply pw_below_drewN | apply below_drew1) | exact HB.out)⟩
  · replace c4 := Bool.eq_false_iff.mpr c4
    subst c4
    have H1 : (some false) = some r := by rw [if_neg (show ¬ (false = true) by decide)] at H; exact H
    clear H
    have H := H1
    clear H1
    obtain rfl := Option.some.inj H
    go_enter Try.func11, Try.ntmps11
    go_wp2_with (first | ((with_reducible refine gate_callee (f := 22) rfl ?_); refine goesL_ (some 6) rfl rfl Try.func22 (by kernel_rfl) rfl #[] rfl (by (try simp only [List.map_toArray, List.map_cons, List.map_nil]); first | done | rfl | (simp only [List.length_drop, List.length_take]; rfl)) ?_; (with_reducible refine (detentlaw1_known.calls k  false _ A3.out).mono ?_); rintro e w18 ⟨rfl, hb⟩; refine ⟨_, rfl, ?_⟩; have n0_ := Aside0.mk (below_step (by repeat (first | (with_reducible first | exact HB.out | apply below_alloc | apply pw_below_drewN | apply below_drew1) | exact HB.out)) hb); clear HB; have HB := n0_; clear n0_; (try clear hb); (try clear hb2); (try clear hk); (try clear hi)))
    go_ret
    exact ⟨by first | rfl | (simp [errW_none, errW_some] <;> rfl) | (simp [*, errW_none, errW_some] <;> rfl), by repeat (first | (with_reducible first | exact HB.out | apply below_alloc | apply pw_below_drewN | apply below_drew1) | exact HB.out)⟩

/-- THE ONE PURE STATEMENT of detentlaw1_TimesAligned: yours. -/
def detentlaw1_TimesAligned.Pure : Prop := ∀ (a0 : Int) (a1 : Int), (Lit.int .i64 a0).wf = true → (Lit.int .i64 a1).wf = true → ∃ k, detentlaw1_TimesAligned.f k a0 a1 = some true
theorem detentlaw1_TimesAligned.walk (P : detentlaw1_TimesAligned.Pure) (a0 : Int) (a1 : Int) (w : World) (w0 : (Lit.int .i64 a0).wf = true) (w1 : (Lit.int .i64 a1).wf = true) :
    Calls Try.prog 11 #[.int .i64 a0, .int .i64 a1] w fun e w' => e = .returned (.bool true) ∧ Below w.heap.size w w' := by
  obtain ⟨k, h⟩ := P a0 a1 w0 w1
  refine (detentlaw1_TimesAligned.calls k a0 a1 true w h).mono ?_
  rintro e w' ⟨rfl, hd⟩
  exact ⟨rfl, hd⟩

end Go.Proofs.Ytphapbleailinaa.PTimesAligned
