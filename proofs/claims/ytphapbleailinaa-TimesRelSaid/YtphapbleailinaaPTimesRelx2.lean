-- PRINTED BY print.sh 35421559b90ae4d0a3588c463048766b98c2df88dd9212a6774a882060cdf62d: not written by this session
import Derived.Test.YtphapbleailinaaPTimesRelx0
import Derived.Test.YtphapbleailinaaPTimesRelx1
namespace Go.Proofs.Ytphapbleailinaa.PTimesRel
open Go.RowKit Go.Proofs.YtphapbleailinaaW.PrintWords Go.Proofs.YtphapbleailinaaW.PrintLast Go.Proofs.YtphapbleailinaaW.PrintMore
attribute [local go_sem] max2_int min2_int max_two min_two max_three min_three max_four min_four   -- for this text's walks alone
set_option linter.unusedVariables false
set_option linter.unusedSimpArgs false

/-! ### detentlaw1_TimesRel: function 9 -/
def detentlaw1_TimesRel.j0 : Nat → Int → Int → Int → Bool → Option (Bool)
  | 0, _, _, _, _ => none
  | k + 1, x3, x4, x16, x56 => if x56 = true then (some false) else (if x3 < 0 then (some (x16 == x3)) else (if x3 > 1073741824 then (some (x16 == x3)) else (if x4 < 1 then (some (x16 == x3)) else (if x4 > 4096 then (some (x16 == x3)) else (if x16 ≥ x3 then (if (wrap64 (x16 - x3)) < x4 then (if x4 = 0 then (none) else (some ((Int.tmod x16 x4) == 0))) else (some false)) else (some false))))))
def detentlaw1_TimesRel.f (k : Nat) (a0 : Int) (a1 : Int) (a2 : Int) (a3 : Int) (a4 : Int) : Option (Bool) := (detentlaw1_known.f k).bind fun t123 => (if t123 = true then ((nums_Rel.f a0).bind fun bt124 => ((detentref1_Rel.f a0).bind fun bt126 => ((nums_Ticks.f a1 a2).bind fun t128 => ((nums_Align.f a3 a4).bind fun t129 => (if bt124.1 = bt126.1 then (if bt124.2 = bt126.2 then ((detentref1_Ticks.f a1 a2).bind fun t130 => (if t128 = t130 then ((detentref1_Align.f a3 a4).bind fun t131 => (detentlaw1_TimesRel.j0 k a3 a4 t129 (t129 != t131))) else (detentlaw1_TimesRel.j0 k a3 a4 t129 true))) else (detentlaw1_TimesRel.j0 k a3 a4 t129 true)) else (detentlaw1_TimesRel.j0 k a3 a4 t129 true)))))) else (some false))
theorem detentlaw1_TimesRel.mono_l : ∀ k, (∀ y0 y1 y2 y3, LeO (detentlaw1_TimesRel.j0 k y0 y1 y2 y3) (detentlaw1_TimesRel.j0 (k + 1) y0 y1 y2 y3))
  | 0 => fun _ _ _ _ r h => by simp [detentlaw1_TimesRel.j0] at h
  | k + 1 => by
    have ih0 := detentlaw1_TimesRel.mono_l k
    · intro y0 y1 y2 y3
      unfold detentlaw1_TimesRel.j0
      repeat' first
      | (with_reducible exact ih0 _ _ _ _)
      | (with_reducible exact detentlaw1_known.mono _)
      | (with_reducible exact LeO.refl _)
      | (with_reducible exact LeO.none _)
      | (with_reducible refine LeO.ite ?_ ?_)
      | (with_reducible refine LeO.bind ?_ (fun _ => ?_))
      | exact ih0 _ _ _ _
      | exact detentlaw1_known.mono _
      | exact LeO.none _
      | refine LeO.ite ?_ ?_
      | refine LeO.bind ?_ (fun _ => ?_)
theorem detentlaw1_TimesRel.mono : ∀ a0 a1 a2 a3 a4 k, LeO (detentlaw1_TimesRel.f k a0 a1 a2 a3 a4) (detentlaw1_TimesRel.f (k + 1) a0 a1 a2 a3 a4) := by
  intro a0 a1 a2 a3 a4 k
  have ih0 := detentlaw1_TimesRel.mono_l k
  unfold detentlaw1_TimesRel.f
  repeat' first
      | (with_reducible exact ih0 _ _ _ _)
      | (with_reducible exact detentlaw1_known.mono _)
      | (with_reducible exact LeO.refl _)
      | (with_reducible exact LeO.none _)
      | (with_reducible refine LeO.ite ?_ ?_)
      | (with_reducible refine LeO.bind ?_ (fun _ => ?_))
      | exact ih0 _ _ _ _
      | exact detentlaw1_known.mono _
      | exact LeO.none _
      | refine LeO.ite ?_ ?_
      | refine LeO.bind ?_ (fun _ => ?_)
set_option maxHeartbeats 8000000 in
set_option maxRecDepth 100000 in
theorem detentlaw1_TimesRel.calls (k : Nat) (a0 : Int) (a1 : Int) (a2 : Int) (a3 : Int) (a4 : Int) (r : Bool) (w : World) (h : detentlaw1_TimesRel.f k a0 a1 a2 a3 a4 = some r) :
    Calls Try.prog 9 #[.int .i64 a0, .int .u64 a1, .int .u64 a2, .int .i64 a3, .int .i64 a4] w fun e w' => e = .returned (.bool r) ∧ Below w.heap.size w w' := by
  have HB := Aside0.mk (Below.refl w.heap.size w)
  have H : ((detentlaw1_known.f k).bind fun t123 => (if t123 = true then ((nums_Rel.f a0).bind fun bt124 => ((detentref1_Rel.f a0).bind fun bt126 => ((nums_Ticks.f a1 a2).bind fun t128 => ((nums_Align.f a3 a4).bind fun t129 => (if bt124.1 = bt126.1 then (if bt124.2 = bt126.2 then ((detentref1_Ticks.f a1 a2).bind fun t130 => (if t128 = t130 then ((detentref1_Align.f a3 a4).bind fun t131 => (detentlaw1_TimesRel.j0 k a3 a4 t129 (t129 != t131))) else (detentlaw1_TimesRel.j0 k a3 a4 t129 true))) else (detentlaw1_TimesRel.j0 k a3 a4 t129 true)) else (detentlaw1_TimesRel.j0 k a3 a4 t129 true)))))) else (some false))) = some r := h
  clear h
  replace H := Option.bind_eq_some_iff.mp H
  obtain ⟨t123, A60, H⟩ := H
  replace H : (if t123 = true then ((nums_Rel.f a0).bind fun bt124 => ((detentref1_Rel.f a0).bind fun bt126 => ((nums_Ticks.f a1 a2).bind fun t128 => ((nums_Align.f a3 a4).bind fun t129 => (if bt124.1 = bt126.1 then (if bt124.2 = bt126.2 then ((detentref1_Ticks.f a1 a2).bind fun t130 => (if t128 = t130 then ((detentref1_Align.f a3 a4).bind fun t131 => (detentlaw1_TimesRel.j0 k a3 a4 t129 (t129 != t131))) else (detentlaw1_TimesRel.j0 k a3 a4 t129 true))) else (detentlaw1_TimesRel.j0 k a3 a4 t129 true)) else (detentlaw1_TimesRel.j0 k a3 a4 t129 true)))))) else (some false)) = some r := H
  have A6 := Aside0.mk A60
  clear A60
  by_cases c7 : t123 = true
  · subst c7
    have H1 : ((nums_Rel.f a0).bind fun bt124 => ((detentref1_Rel.f a0).bind fun bt126 => ((nums_Ticks.f a1 a2).bind fun t128 => ((nums_Align.f a3 a4).bind fun t129 => (if bt124.1 = bt126.1 then (if bt124.2 = bt126.2 then ((detentref1_Ticks.f a1 a2).bind fun t130 => (if t128 = t130 then ((detentref1_Align.f a3 a4).bind fun t131 => (detentlaw1_TimesRel.j0 k a3 a4 t129 (t129 != t131))) else (detentlaw1_TimesRel.j0 k a3 a4 t129 true))) else (detentlaw1_TimesRel.j0 k a3 a4 t129 true)) else (detentlaw1_TimesRel.j0 k a3 a4 t129 true)))))) = some r := by rw [if_pos rfl] at H; exact H
    clear H
    have H := H1
    clear H1
    replace H := Option.bind_eq_some_iff.mp H
    obtain ⟨⟨t124, t125⟩, A80, H⟩ := H
    replace H : ((detentref1_Rel.f a0).bind fun bt126 => ((nums_Ticks.f a1 a2).bind fun t128 => ((nums_Align.f a3 a4).bind fun t129 => (if t124 = bt126.1 then (if t125 = bt126.2 then ((detentref1_Ticks.f a1 a2).bind fun t130 => (if t128 = t130 then ((detentref1_Align.f a3 a4).bind fun t131 => (detentlaw1_TimesRel.j0 k a3 a4 t129 (t129 != t131))) else (detentlaw1_TimesRel.j0 k a3 a4 t129 true))) else (detentlaw1_TimesRel.j0 k a3 a4 t129 true)) else (detentlaw1_TimesRel.j0 k a3 a4 t129 true))))) = some r := H
    have A8 := Aside0.mk A80
    clear A80
    replace H := Option.bind_eq_some_iff.mp H
    obtain ⟨⟨t126, t127⟩, A90, H⟩ := H
    replace H : ((nums_Ticks.f a1 a2).bind fun t128 => ((nums_Align.f a3 a4).bind fun t129 => (if t124 = t126 then (if t125 = t127 then ((detentref1_Ticks.f a1 a2).bind fun t130 => (if t128 = t130 then ((detentref1_Align.f a3 a4).bind fun t131 => (detentlaw1_TimesRel.j0 k a3 a4 t129 (t129 != t131))) else (detentlaw1_TimesRel.j0 k a3 a4 t129 true))) else (detentlaw1_TimesRel.j0 k a3 a4 t129 true)) else (detentlaw1_TimesRel.j0 k a3 a4 t129 true)))) = some r := H
    have A9 := Aside0.mk A90
    clear A90
    replace H := Option.bind_eq_some_iff.mp H
    obtain ⟨t128, A100, H⟩ := H
    replace H : ((nums_Align.f a3 a4).bind fun t129 => (if t124 = t126 then (if t125 = t127 then ((detentref1_Ticks.f a1 a2).bind fun t130 => (if t128 = t130 then ((detentref1_Align.f a3 a4).bind fun t131 => (detentlaw1_TimesRel.j0 k a3 a4 t129 (t129 != t131))) else (detentlaw1_TimesRel.j0 k a3 a4 t129 true))) else (detentlaw1_TimesRel.j0 k a3 a4 t129 true)) else (detentlaw1_TimesRel.j0 k a3 a4 t129 true))) = some r := H
    have A10 := Aside0.mk A100
    clear A100
    replace H := Option.bind_eq_some_iff.mp H
    obtain ⟨t129, A110, H⟩ := H
    replace H : (if t124 = t126 then (if t125 = t127 then ((detentref1_Ticks.f a1 a2).bind fun t130 => (if t128 = t130 then ((detentref1_Align.f a3 a4).bind fun t131 => (detentlaw1_TimesRel.j0 k a3 a4 t129 (t129 != t131))) else (detentlaw1_TimesRel.j0 k a3 a4 t129 true))) else (detentlaw1_TimesRel.j0 k a3 a4 t129 true)) else (detentlaw1_TimesRel.j0 k a3 a4 t129 true)) = some r := H
    have A11 := Aside0.mk A110
    clear A110
    have HC12 := Aside0.mk H
    clear H
    go_enter Try.func9, Try.ntmps9
    go_upto_region 7 with (first | ((with_reducible refine gate_callee (f := 22) rfl ?_); refine goesL_ (some 17) rfl rfl Try.func22 (by kernel_rfl) rfl #[] rfl (by (try simp only [List.map_toArray, List.map_cons, List.map_nil]); first | done | rfl | (simp only [List.length_drop, List.length_take]; rfl)) ?_; (with_reducible refine (detentlaw1_known.calls k  true _ A6.out).mono ?_); rintro e w13 ⟨rfl, hb⟩; refine ⟨_, rfl, ?_⟩; have n0_ := Aside0.mk (below_step (by repeat (first | (with_reducible first | exact HB.out | apply below_alloc | apply pw_below_drewN | apply below_drew1) | exact HB.out)) hb); clear HB; have HB := n0_; clear n0_; (try clear hb); (try clear hb2); (try clear hk); (try clear hi)) | ((with_reducible refine gate_callee (f := 28) rfl ?_); refine goesL_ (some 21) rfl rfl Try.func28 (by kernel_rfl) rfl #[.int .i64 a0] rfl (by (try simp only [List.map_toArray, List.map_cons, List.map_nil]); first | done | rfl | (simp only [List.length_drop, List.length_take]; rfl)) ?_; (with_reducible refine (nums_Rel.calls a0 t124 t125 _ A8.out).mono ?_); rintro e w' ⟨rfl, ⟨nd, rfl⟩⟩; refine ⟨_, rfl, ?_⟩) | ((with_reducible refine gate_callee (f := 29) rfl ?_); refine goesL_ (some 26) rfl rfl Try.func29 (by kernel_rfl) rfl #[.int .i64 a0] rfl (by (try simp only [List.map_toArray, List.map_cons, List.map_nil]); first | done | rfl | (simp only [List.length_drop, List.length_take]; rfl)) ?_; (with_reducible refine (detentref1_Rel.calls a0 t126 t127 _ A9.out).mono ?_); rintro e w' ⟨rfl, ⟨nd, rfl⟩⟩; refine ⟨_, rfl, ?_⟩) | ((with_reducible refine gate_callee (f := 30) rfl ?_); refine goesL_ (some 31) rfl rfl Try.func30 (by kernel_rfl) rfl #[.int .u64 a1, .int .u64 a2] rfl (by (try simp only [List.map_toArray, List.map_cons, List.map_nil]); first | done | rfl | (simp only [List.length_drop, List.length_take]; rfl)) ?_; (with_reducible refine (nums_Ticks.calls a1 a2 t128 _ A10.out).mono ?_); rintro e w' ⟨rfl, ⟨nd, rfl⟩⟩; refine ⟨_, rfl, ?_⟩) | ((with_reducible refine gate_callee (f := 31) rfl ?_); refine goesL_ (some 34) rfl rfl Try.func31 (by kernel_rfl) rfl #[.int .i64 a3, .int .i64 a4] rfl (by (try simp only [List.map_toArray, List.map_cons, List.map_nil]); first | done | rfl | (simp only [List.length_drop, List.length_take]; rfl)) ?_; (with_reducible refine (nums_Align.calls a3 a4 t129 _ A11.out).mono ?_); rintro e w' ⟨rfl, ⟨nd, rfl⟩⟩; refine ⟨_, rfl, ?_⟩))
    (try simp only [Act.put, List.setIfInBounds_toArray, List.set_cons_zero, List.set_cons_succ])
    go_cut [56] (fun v56 wc => ∃ (kq : Nat) (x56_11 : Bool), v56 = .bool x56_11 ∧ Aside0 (detentlaw1_TimesRel.j0 kq a3 a4 t129 x56_11 = some r) ∧ Aside0 (kq ≤ k) ∧ Aside0 (Below w.heap.size w wc))
    case first =>
      have H := HC12.out
      clear HC12
      by_cases c14 : t124 = t126
      · rw [if_pos c14] at H
        have c14b0 : (t124 == t126) = true := beq_iff_eq.mpr c14
        have c14b1 : (t124 != t126) = false := bne_eq_false_iff_eq.mpr c14
        clear c14
        (first | rw [c14b0] | (simp only [i64_w, i32_w]; rw [c14b0]) | skip)
        by_cases c15 : t125 = t127
        · rw [if_pos c15] at H
          have c15b0 : (t125 == t127) = true := beq_iff_eq.mpr c15
          have c15b1 : (t125 != t127) = false := bne_eq_false_iff_eq.mpr c15
          clear c15
          replace H := Option.bind_eq_some_iff.mp H
          obtain ⟨t130, A160, H⟩ := H
          replace H : (if t128 = t130 then ((detentref1_Align.f a3 a4).bind fun t131 => (detentlaw1_TimesRel.j0 k a3 a4 t129 (t129 != t131))) else (detentlaw1_TimesRel.j0 k a3 a4 t129 true)) = some r := H
          have A16 := Aside0.mk A160
          clear A160
          by_cases c17 : t128 = t130
          · rw [if_pos c17] at H
            have c17b0 : (t128 == t130) = true := beq_iff_eq.mpr c17
            have c17b1 : (t128 != t130) = false := bne_eq_false_iff_eq.mpr c17
            clear c17
            replace H := Option.bind_eq_some_iff.mp H
            obtain ⟨t131, A180, H⟩ := H
            replace H : (detentlaw1_TimesRel.j0 k a3 a4 t129 (t129 != t131)) = some r := H
            have A18 := Aside0.mk A180
            clear A180
            have H' := Aside0.mk H
            clear H
            go_wp2_with (first | (go_at_call 32; (with_reducible refine (detentref1_Ticks.calls a1 a2 t130 _ A16.out).mono ?_); rintro e w' ⟨rfl, ⟨nd, rfl⟩⟩) | (go_at_call 33; (with_reducible refine (detentref1_Align.calls a3 a4 t131 _ A18.out).mono ?_); rintro e w' ⟨rfl, ⟨nd, rfl⟩⟩))
            go_meet
            case rel => exact ⟨_, ((t129 != t131)), (by first | rfl | (simp; done) | (simp [*]; done)), H', ⟨by first | omega | exact Nat.le_refl _⟩, ⟨by repeat (first | (with_reducible first | exact HB.out | apply below_alloc | apply pw_below_drewN | apply below_drew1) | exact HB.out)⟩⟩
          · rw [if_neg c17] at H
            have c17b0 : (t128 == t130) = false := beq_eq_false_iff_ne.mpr c17
            have c17b1 : (t128 != t130) = true := bne_iff_ne.mpr c17
            have H' := Aside0.mk H
            clear H
            go_wp2_with (first | (go_at_call 32; (with_reducible refine (detentref1_Ticks.calls a1 a2 t130 _ A16.out).mono ?_); rintro e w' ⟨rfl, ⟨nd, rfl⟩⟩))
            go_meet
            case rel => exact ⟨_, (true), (by first | rfl | (simp; done) | (simp [*]; done)), H', ⟨by first | omega | exact Nat.le_refl _⟩, ⟨by repeat (first | (with_reducible first | exact HB.out | apply below_alloc | apply pw_below_drewN | apply below_drew1) | exact HB.out)⟩⟩
        · rw [if_neg c15] at H
          have c15b0 : (t125 == t127) = false := beq_eq_false_iff_ne.mpr c15
          have c15b1 : (t125 != t127) = true := bne_iff_ne.mpr c15
          have H' := Aside0.mk H
          clear H
          go_wp2
          go_meet
          case rel => exact ⟨_, (true), (by first | rfl | (simp; done) | (simp [*]; done)), H', ⟨by first | omega | exact Nat.le_refl _⟩, ⟨by repeat (first | (with_reducible first | exact HB.out | apply below_alloc | apply pw_below_drewN | apply below_drew1) | exact HB.out)⟩⟩
      · rw [if_neg c14] at H
        have c14b0 : (t124 == t126) = false := beq_eq_false_iff_ne.mpr c14
        have c14b1 : (t124 != t126) = true := bne_iff_ne.mpr c14
        (first | rw [c14b0] | (simp only [i64_w, i32_w]; rw [c14b0]) | skip)
        have H' := Aside0.mk H
        clear H
        go_wp2
        go_meet
        case rel => exact ⟨_, (true), (by first | rfl | (simp; done) | (simp [*]; done)), H', ⟨by first | omega | exact Nat.le_refl _⟩, ⟨by repeat (first | (with_reducible first | exact HB.out | apply below_alloc | apply pw_below_drewN | apply below_drew1) | exact HB.out)⟩⟩
    case rest =>
      clear HC12
      try clear c1
      try clear c2
      try clear p2
      try clear c3
      try clear c7
      try clear c9
      try clear c14
      try clear c14b0
      try clear c14b1
      try clear c15
      try clear c15b0
      try clear c15b1
      try clear c17
      try clear c17b0
      try clear c17b1
      obtain ⟨kq, x56_11, rfl, HA, HJ11, HB⟩ := hcut
      cases kq with
      | zero => exact absurd HA.out (by simp [detentlaw1_TimesRel.j0])
      | succ kj11 =>
        have H := HA.out
        clear HA
        simp only [detentlaw1_TimesRel.j0] at H
        by_cases c19 : x56_11 = true
        · subst c19
          have H1 : (some false) = some r := by rw [if_pos rfl] at H; exact H
          clear H
          have H := H1
          clear H1
          obtain rfl := Option.some.inj H
          go_wp2
          go_ret
          exact ⟨by first | rfl | (simp [errW_none, errW_some] <;> rfl) | (simp [*, errW_none, errW_some] <;> rfl), by repeat (first | (with_reducible first | exact HB.out | apply below_alloc | apply pw_below_drewN | apply below_drew1) | exact HB.out)⟩
        · replace c19 := Bool.eq_false_iff.mpr c19
          subst c19
          have H1 : (if a3 < 0 then (some (t129 == a3)) else (if a3 > 1073741824 then (some (t129 == a3)) else (if a4 < 1 then (some (t129 == a3)) else (if a4 > 4096 then (some (t129 == a3)) else (if t129 ≥ a3 then (if (wrap64 (t129 - a3)) < a4 then (if a4 = 0 then (none) else (some ((Int.tmod t129 a4) == 0))) else (some false)) else (some false)))))) = some r := by rw [if_neg (show ¬ (false = true) by decide)] at H; exact H
          clear H
          have H := H1
          clear H1
          by_cases c20 : a3 < 0
          · rw [if_pos c20] at H
            have c20b0 : decide (a3 < 0) = true := decide_eq_true c20
            clear c20
            obtain rfl := Option.some.inj H
            go_wp2
            go_ret
            exact ⟨by first | rfl | (simp [errW_none, errW_some] <;> rfl) | (simp [*, errW_none, errW_some] <;> rfl), by repeat (first | (with_reducible first | exact HB.out | apply below_alloc | apply pw_below_drewN | apply below_drew1) | exact HB.out)⟩
          · rw [if_neg c20] at H
            have c20b0 : decide (a3 < 0) = false := decide_eq_false c20
            clear c20
            by_cases c21 : a3 > 1073741824
            · rw [if_pos c21] at H
              have c21b0 : decide (1073741824 < a3) = true := decide_eq_true c21
              clear c21
              obtain rfl := Option.some.inj H
              go_wp2
              go_ret
              exact ⟨by first | rfl | (simp [errW_none, errW_some] <;> rfl) | (simp [*, errW_none, errW_some] <;> rfl), by repeat (first | (with_reducible first | exact HB.out | apply below_alloc | apply pw_below_drewN | apply below_drew1) | exact HB.out)⟩
            · rw [if_neg c21] at H
              have c21b0 : decide (1073741824 < a3) = false := decide_eq_false c21
              clear c21
              by_cases c22 : a4 < 1
              · rw [if_pos c22] at H
                have c22b0 : decide (a4 < 1) = true := decide_eq_true c22
                clear c22
                obtain rfl := Option.some.inj H
                go_wp2
                go_ret
                exact ⟨by first | rfl | (simp [errW_none, errW_some] <;> rfl) | (simp [*, errW_none, errW_some] <;> rfl), by repeat (first | (with_reducible first | exact HB.out | apply below_alloc | apply pw_below_drewN | apply below_drew1) | exact HB.out)⟩
              · rw [if_neg c22] at H
                have c22b0 : decide (a4 < 1) = false := decide_eq_false c22
                clear c22
                by_cases c23 : a4 > 4096
                · rw [if_pos c23] at H
                  have c23b0 : decide (4096 < a4) = true := decide_eq_true c23
                  clear c23
                  obtain rfl := Option.some.inj H
                  go_wp2
                  go_ret
                  exact ⟨by first | rfl | (simp [errW_none, errW_some] <;> rfl) | (simp [*, errW_none, errW_some] <;> rfl), by repeat (first | (with_reducible first | exact HB.out | apply below_alloc | apply pw_below_drewN | apply below_drew1) | exact HB.out)⟩
                · rw [if_neg c23] at H
                  have c23b0 : decide (4096 < a4) = false := decide_eq_false c23
                  clear c23
                  by_cases c24 : t129 ≥ a3
                  · rw [if_pos c24] at H
                    have c24b0 : decide (a3 ≤ t129) = true := decide_eq_true c24
                    clear c24
                    by_cases c25 : (wrap64 (t129 - a3)) < a4
                    · rw [if_pos c25] at H
                      have c25b0 : decide ((wrap64 (t129 - a3)) < a4) = true := decide_eq_true c25
                      clear c25
                      by_cases c26 : a4 = 0
                      · rw [if_pos c26] at H
                        exact absurd H (by simp)
                      · rw [if_neg c26] at H
                        have c26b0 : (a4 == 0) = false := beq_eq_false_iff_ne.mpr c26
                        have c26b1 : (a4 != 0) = true := bne_iff_ne.mpr c26
                        obtain rfl := Option.some.inj H
                        go_wp2
                        go_ret
                        exact ⟨by first | rfl | (simp [errW_none, errW_some] <;> rfl) | (simp [*, errW_none, errW_some] <;> rfl), by repeat (first | (with_reducible first | exact HB.out | apply below_alloc | apply pw_below_drewN | apply below_drew1) | exact HB.out)⟩
                    · rw [if_neg c25] at H
                      have c25b0 : decide ((wrap64 (t129 - a3)) < a4) = false := decide_eq_false c25
                      clear c25
                      obtain rfl := Option.some.inj H
                      go_wp2
                      go_ret
                      exact ⟨by first | rfl | (simp [errW_none, errW_some] <;> rfl) | (simp [*, errW_none, errW_some] <;> rfl), by repeat (first | (with_reducible first | exact HB.out | apply below_alloc | apply pw_below_drewN | apply below_drew1) | exact HB.out)⟩
                  · rw [if_neg c24] at H
                    have c24b0 : decide (a3 ≤ t129) = false := decide_eq_false c24
                    clear c24
                    obtain rfl := Option.some.inj H
                    go_wp2
                    go_ret
                    exact ⟨by first | rfl | (simp [errW_none, errW_some] <;> rfl) | (simp [*, errW_none, errW_some] <;> rfl), by repeat (first | (with_reducible first | exact HB.out | apply below_alloc | apply pw_below_drewN | apply below_drew1) | exact HB.out)⟩
  · replace c7 := Bool.eq_false_iff.mpr c7
    subst c7
    have H1 : (some false) = some r := by rw [if_neg (show ¬ (false = true) by decide)] at H; exact H
    clear H
    have H := H1
    clear H1
    obtain rfl := Option.some.inj H
    go_enter Try.func9, Try.ntmps9
    go_wp2_with (first | ((with_reducible refine gate_callee (f := 22) rfl ?_); refine goesL_ (some 17) rfl rfl Try.func22 (by kernel_rfl) rfl #[] rfl (by (try simp only [List.map_toArray, List.map_cons, List.map_nil]); first | done | rfl | (simp only [List.length_drop, List.length_take]; rfl)) ?_; (with_reducible refine (detentlaw1_known.calls k  false _ A6.out).mono ?_); rintro e w27 ⟨rfl, hb⟩; refine ⟨_, rfl, ?_⟩; have n0_ := Aside0.mk (below_step (by repeat (first | (with_reducible first | exact HB.out | apply below_alloc | apply pw_below_drewN | apply below_drew1) | exact HB.out)) hb); clear HB; have HB := n0_; clear n0_; (try clear hb); (try clear hb2); (try clear hk); (try clear hi)))
    go_ret
    exact ⟨by first | rfl | (simp [errW_none, errW_some] <;> rfl) | (simp [*, errW_none, errW_some] <;> rfl), by repeat (first | (with_reducible first | exact HB.out | apply below_alloc | apply pw_below_drewN | apply below_drew1) | exact HB.out)⟩

/-- THE ONE PURE STATEMENT of detentlaw1_TimesRel: yours. -/
def detentlaw1_TimesRel.Pure : Prop := ∀ (a0 : Int) (a1 : Int) (a2 : Int) (a3 : Int) (a4 : Int), (Lit.int .i64 a0).wf = true → (Lit.int .u64 a1).wf = true → (Lit.int .u64 a2).wf = true → (Lit.int .i64 a3).wf = true → (Lit.int .i64 a4).wf = true → ∃ k, detentlaw1_TimesRel.f k a0 a1 a2 a3 a4 = some true
theorem detentlaw1_TimesRel.walk (P : detentlaw1_TimesRel.Pure) (a0 : Int) (a1 : Int) (a2 : Int) (a3 : Int) (a4 : Int) (w : World) (w0 : (Lit.int .i64 a0).wf = true) (w1 : (Lit.int .u64 a1).wf = true) (w2 : (Lit.int .u64 a2).wf = true) (w3 : (Lit.int .i64 a3).wf = true) (w4 : (Lit.int .i64 a4).wf = true) :
    Calls Try.prog 9 #[.int .i64 a0, .int .u64 a1, .int .u64 a2, .int .i64 a3, .int .i64 a4] w fun e w' => e = .returned (.bool true) ∧ Below w.heap.size w w' := by
  obtain ⟨k, h⟩ := P a0 a1 a2 a3 a4 w0 w1 w2 w3 w4
  refine (detentlaw1_TimesRel.calls k a0 a1 a2 a3 a4 true w h).mono ?_
  rintro e w' ⟨rfl, hd⟩
  exact ⟨rfl, hd⟩

end Go.Proofs.Ytphapbleailinaa.PTimesRel
