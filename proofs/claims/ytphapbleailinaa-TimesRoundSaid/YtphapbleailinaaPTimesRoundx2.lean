-- PRINTED BY print.sh 35421559b90ae4d0a3588c463048766b98c2df88dd9212a6774a882060cdf62d: not written by this session
import Derived.Test.YtphapbleailinaaPTimesRoundx0
import Derived.Test.YtphapbleailinaaPTimesRoundx1
namespace Go.Proofs.Ytphapbleailinaa.PTimesRound
open Go.RowKit Go.Proofs.YtphapbleailinaaW.PrintWords Go.Proofs.YtphapbleailinaaW.PrintLast Go.Proofs.YtphapbleailinaaW.PrintMore
attribute [local go_sem] max2_int min2_int max_two min_two max_three min_three max_four min_four   -- for this text's walks alone
set_option linter.unusedVariables false
set_option linter.unusedSimpArgs false

/-! ### detentlaw1_TimesRound: function 7 -/
def detentlaw1_TimesRound.f (k : Nat) (a0 : Int) (a1 : Int) (a2 : Int) : Option (Bool) := (detentlaw1_known.f k).bind fun t123 => (if t123 = true then ((nums_Add.f a0 a2).bind fun t124 => ((nums_Gap.f a0 a1).bind fun t125 => ((detentref1_Add.f a0 a2).bind fun t126 => (if t124 = t126 then (if t124 < 281474976710656 then ((detentref1_Gap.f a0 a1).bind fun t127 => (if t125 = t127 then ((nums_Due.f a0 a1).bind fun t128 => (if (t128 == (decide (t125 ≥ 0))) = true then ((nums_Add.f a0 (Int.tmod (IntKind.u64.wrap (t125)) 281474976710656)).bind fun t129 => (if t129 = (Int.tmod a1 281474976710656) then ((nums_Add.f a0 (Int.tmod a2 140737488355328)).bind fun t130 => ((nums_Gap.f a0 t130).bind fun t131 => (some (t131 == (wrap64 (Int.tmod a2 140737488355328)))))) else (some false))) else (some false))) else (some false))) else (some false)) else (some false))))) else (some false))
theorem detentlaw1_TimesRound.mono : ∀ a0 a1 a2 k, LeO (detentlaw1_TimesRound.f k a0 a1 a2) (detentlaw1_TimesRound.f (k + 1) a0 a1 a2) := by
  intro a0 a1 a2 k
  unfold detentlaw1_TimesRound.f
  repeat' first
      | (with_reducible exact detentlaw1_known.mono _)
      | (with_reducible exact LeO.refl _)
      | (with_reducible exact LeO.none _)
      | (with_reducible refine LeO.ite ?_ ?_)
      | (with_reducible refine LeO.bind ?_ (fun _ => ?_))
      | exact detentlaw1_known.mono _
      | exact LeO.none _
      | refine LeO.ite ?_ ?_
      | refine LeO.bind ?_ (fun _ => ?_)
set_option maxHeartbeats 8000000 in
set_option maxRecDepth 100000 in
theorem detentlaw1_TimesRound.calls (k : Nat) (a0 : Int) (a1 : Int) (a2 : Int) (r : Bool) (w : World) (h : detentlaw1_TimesRound.f k a0 a1 a2 = some r) :
    Calls Try.prog 7 #[.int .u64 a0, .int .u64 a1, .int .u64 a2] w fun e w' => e = .returned (.bool r) ∧ Below w.heap.size w w' := by
  have HB := Aside0.mk (Below.refl w.heap.size w)
  have H : ((detentlaw1_known.f k).bind fun t123 => (if t123 = true then ((nums_Add.f a0 a2).bind fun t124 => ((nums_Gap.f a0 a1).bind fun t125 => ((detentref1_Add.f a0 a2).bind fun t126 => (if t124 = t126 then (if t124 < 281474976710656 then ((detentref1_Gap.f a0 a1).bind fun t127 => (if t125 = t127 then ((nums_Due.f a0 a1).bind fun t128 => (if (t128 == (decide (t125 ≥ 0))) = true then ((nums_Add.f a0 (Int.tmod (IntKind.u64.wrap (t125)) 281474976710656)).bind fun t129 => (if t129 = (Int.tmod a1 281474976710656) then ((nums_Add.f a0 (Int.tmod a2 140737488355328)).bind fun t130 => ((nums_Gap.f a0 t130).bind fun t131 => (some (t131 == (wrap64 (Int.tmod a2 140737488355328)))))) else (some false))) else (some false))) else (some false))) else (some false)) else (some false))))) else (some false))) = some r := h
  clear h
  replace H := Option.bind_eq_some_iff.mp H
  obtain ⟨t123, A40, H⟩ := H
  replace H : (if t123 = true then ((nums_Add.f a0 a2).bind fun t124 => ((nums_Gap.f a0 a1).bind fun t125 => ((detentref1_Add.f a0 a2).bind fun t126 => (if t124 = t126 then (if t124 < 281474976710656 then ((detentref1_Gap.f a0 a1).bind fun t127 => (if t125 = t127 then ((nums_Due.f a0 a1).bind fun t128 => (if (t128 == (decide (t125 ≥ 0))) = true then ((nums_Add.f a0 (Int.tmod (IntKind.u64.wrap (t125)) 281474976710656)).bind fun t129 => (if t129 = (Int.tmod a1 281474976710656) then ((nums_Add.f a0 (Int.tmod a2 140737488355328)).bind fun t130 => ((nums_Gap.f a0 t130).bind fun t131 => (some (t131 == (wrap64 (Int.tmod a2 140737488355328)))))) else (some false))) else (some false))) else (some false))) else (some false)) else (some false))))) else (some false)) = some r := H
  have A4 := Aside0.mk A40
  clear A40
  by_cases c5 : t123 = true
  · subst c5
    have H1 : ((nums_Add.f a0 a2).bind fun t124 => ((nums_Gap.f a0 a1).bind fun t125 => ((detentref1_Add.f a0 a2).bind fun t126 => (if t124 = t126 then (if t124 < 281474976710656 then ((detentref1_Gap.f a0 a1).bind fun t127 => (if t125 = t127 then ((nums_Due.f a0 a1).bind fun t128 => (if (t128 == (decide (t125 ≥ 0))) = true then ((nums_Add.f a0 (Int.tmod (IntKind.u64.wrap (t125)) 281474976710656)).bind fun t129 => (if t129 = (Int.tmod a1 281474976710656) then ((nums_Add.f a0 (Int.tmod a2 140737488355328)).bind fun t130 => ((nums_Gap.f a0 t130).bind fun t131 => (some (t131 == (wrap64 (Int.tmod a2 140737488355328)))))) else (some false))) else (some false))) else (some false))) else (some false)) else (some false))))) = some r := by rw [if_pos rfl] at H; exact H
    clear H
    have H := H1
    clear H1
    replace H := Option.bind_eq_some_iff.mp H
    obtain ⟨t124, A60, H⟩ := H
    replace H : ((nums_Gap.f a0 a1).bind fun t125 => ((detentref1_Add.f a0 a2).bind fun t126 => (if t124 = t126 then (if t124 < 281474976710656 then ((detentref1_Gap.f a0 a1).bind fun t127 => (if t125 = t127 then ((nums_Due.f a0 a1).bind fun t128 => (if (t128 == (decide (t125 ≥ 0))) = true then ((nums_Add.f a0 (Int.tmod (IntKind.u64.wrap (t125)) 281474976710656)).bind fun t129 => (if t129 = (Int.tmod a1 281474976710656) then ((nums_Add.f a0 (Int.tmod a2 140737488355328)).bind fun t130 => ((nums_Gap.f a0 t130).bind fun t131 => (some (t131 == (wrap64 (Int.tmod a2 140737488355328)))))) else (some false))) else (some false))) else (some false))) else (some false)) else (some false)))) = some r := H
    have A6 := Aside0.mk A60
    clear A60
    replace H := Option.bind_eq_some_iff.mp H
    obtain ⟨t125, A70, H⟩ := H
    replace H : ((detentref1_Add.f a0 a2).bind fun t126 => (if t124 = t126 then (if t124 < 281474976710656 then ((detentref1_Gap.f a0 a1).bind fun t127 => (if t125 = t127 then ((nums_Due.f a0 a1).bind fun t128 => (if (t128 == (decide (t125 ≥ 0))) = true then ((nums_Add.f a0 (Int.tmod (IntKind.u64.wrap (t125)) 281474976710656)).bind fun t129 => (if t129 = (Int.tmod a1 281474976710656) then ((nums_Add.f a0 (Int.tmod a2 140737488355328)).bind fun t130 => ((nums_Gap.f a0 t130).bind fun t131 => (some (t131 == (wrap64 (Int.tmod a2 140737488355328)))))) else (some false))) else (some false))) else (some false))) else (some false)) else (some false))) = some r := H
    have A7 := Aside0.mk A70
    clear A70
    replace H := Option.bind_eq_some_iff.mp H
    obtain ⟨t126, A80, H⟩ := H
    replace H : (if t124 = t126 then (if t124 < 281474976710656 then ((detentref1_Gap.f a0 a1).bind fun t127 => (if t125 = t127 then ((nums_Due.f a0 a1).bind fun t128 => (if (t128 == (decide (t125 ≥ 0))) = true then ((nums_Add.f a0 (Int.tmod (IntKind.u64.wrap (t125)) 281474976710656)).bind fun t129 => (if t129 = (Int.tmod a1 281474976710656) then ((nums_Add.f a0 (Int.tmod a2 140737488355328)).bind fun t130 => ((nums_Gap.f a0 t130).bind fun t131 => (some (t131 == (wrap64 (Int.tmod a2 140737488355328)))))) else (some false))) else (some false))) else (some false))) else (some false)) else (some false)) = some r := H
    have A8 := Aside0.mk A80
    clear A80
    by_cases c9 : t124 = t126
    · rw [if_pos c9] at H
      have c9b0 : (t124 == t126) = true := beq_iff_eq.mpr c9
      have c9b1 : (t124 != t126) = false := bne_eq_false_iff_eq.mpr c9
      clear c9
      by_cases c10 : t124 < 281474976710656
      · rw [if_pos c10] at H
        have c10b0 : decide (t124 < 281474976710656) = true := decide_eq_true c10
        clear c10
        replace H := Option.bind_eq_some_iff.mp H
        obtain ⟨t127, A110, H⟩ := H
        replace H : (if t125 = t127 then ((nums_Due.f a0 a1).bind fun t128 => (if (t128 == (decide (t125 ≥ 0))) = true then ((nums_Add.f a0 (Int.tmod (IntKind.u64.wrap (t125)) 281474976710656)).bind fun t129 => (if t129 = (Int.tmod a1 281474976710656) then ((nums_Add.f a0 (Int.tmod a2 140737488355328)).bind fun t130 => ((nums_Gap.f a0 t130).bind fun t131 => (some (t131 == (wrap64 (Int.tmod a2 140737488355328)))))) else (some false))) else (some false))) else (some false)) = some r := H
        have A11 := Aside0.mk A110
        clear A110
        by_cases c12 : t125 = t127
        · rw [if_pos c12] at H
          have c12b0 : (t125 == t127) = true := beq_iff_eq.mpr c12
          have c12b1 : (t125 != t127) = false := bne_eq_false_iff_eq.mpr c12
          clear c12
          replace H := Option.bind_eq_some_iff.mp H
          obtain ⟨t128, A130, H⟩ := H
          replace H : (if (t128 == (decide (t125 ≥ 0))) = true then ((nums_Add.f a0 (Int.tmod (IntKind.u64.wrap (t125)) 281474976710656)).bind fun t129 => (if t129 = (Int.tmod a1 281474976710656) then ((nums_Add.f a0 (Int.tmod a2 140737488355328)).bind fun t130 => ((nums_Gap.f a0 t130).bind fun t131 => (some (t131 == (wrap64 (Int.tmod a2 140737488355328)))))) else (some false))) else (some false)) = some r := H
          have A13 := Aside0.mk A130
          clear A130
          by_cases c14 : (t128 == (decide (t125 ≥ 0))) = true
          · rw [if_pos c14] at H
            have c14b0 : (t128 == (decide (t125 ≥ 0))) = true := c14
            (try (have c14b1 : decide (t128 = (decide (t125 ≥ 0))) = true := by simpa using c14))
            (try (have c14b2 : (t128 == (decide (t125 ≥ 0))) = true := by simpa using c14))
            clear c14
            replace H := Option.bind_eq_some_iff.mp H
            obtain ⟨t129, A150, H⟩ := H
            replace H : (if t129 = (Int.tmod a1 281474976710656) then ((nums_Add.f a0 (Int.tmod a2 140737488355328)).bind fun t130 => ((nums_Gap.f a0 t130).bind fun t131 => (some (t131 == (wrap64 (Int.tmod a2 140737488355328)))))) else (some false)) = some r := H
            have A15 := Aside0.mk A150
            clear A150
            by_cases c16 : t129 = (Int.tmod a1 281474976710656)
            · rw [if_pos c16] at H
              have c16b0 : (t129 == (Int.tmod a1 281474976710656)) = true := beq_iff_eq.mpr c16
              have c16b1 : (t129 != (Int.tmod a1 281474976710656)) = false := bne_eq_false_iff_eq.mpr c16
              clear c16
              replace H := Option.bind_eq_some_iff.mp H
              obtain ⟨t130, A170, H⟩ := H
              replace H : ((nums_Gap.f a0 t130).bind fun t131 => (some (t131 == (wrap64 (Int.tmod a2 140737488355328))))) = some r := H
              have A17 := Aside0.mk A170
              clear A170
              replace H := Option.bind_eq_some_iff.mp H
              obtain ⟨t131, A180, H⟩ := H
              replace H : (some (t131 == (wrap64 (Int.tmod a2 140737488355328)))) = some r := H
              have A18 := Aside0.mk A180
              clear A180
              obtain rfl := Option.some.inj H
              go_enter Try.func7, Try.ntmps7
              go_wp2_with (first | ((with_reducible refine gate_callee (f := 22) rfl ?_); refine goesL_ (some 9) rfl rfl Try.func22 (by kernel_rfl) rfl #[] rfl (by (try simp only [List.map_toArray, List.map_cons, List.map_nil]); first | done | rfl | (simp only [List.length_drop, List.length_take]; rfl)) ?_; (with_reducible refine (detentlaw1_known.calls k  true _ A4.out).mono ?_); rintro e w19 ⟨rfl, hb⟩; refine ⟨_, rfl, ?_⟩; have n0_ := Aside0.mk (below_step (by repeat (first | (with_reducible first | exact HB.out | apply below_alloc | apply pw_below_drewN | apply below_drew1) | exact HB.out)) hb); clear HB; have HB := n0_; clear n0_; (try clear hb); (try clear hb2); (try clear hk); (try clear hi)) | ((with_reducible refine gate_callee (f := 23) rfl ?_); refine goesL_ (some 13) rfl rfl Try.func23 (by kernel_rfl) rfl #[.int .u64 a0, .int .u64 a2] rfl (by (try simp only [List.map_toArray, List.map_cons, List.map_nil]); first | done | rfl | (simp only [List.length_drop, List.length_take]; rfl)) ?_; (with_reducible refine (nums_Add.calls a0 a2 t124 _ A6.out).mono ?_); rintro e w' ⟨rfl, ⟨nd, rfl⟩⟩; refine ⟨_, rfl, ?_⟩) | ((with_reducible refine gate_callee (f := 24) rfl ?_); refine goesL_ (some 16) rfl rfl Try.func24 (by kernel_rfl) rfl #[.int .u64 a0, .int .u64 a1] rfl (by (try simp only [List.map_toArray, List.map_cons, List.map_nil]); first | done | rfl | (simp only [List.length_drop, List.length_take]; rfl)) ?_; (with_reducible refine (nums_Gap.calls a0 a1 t125 _ A7.out).mono ?_); rintro e w' ⟨rfl, ⟨nd, rfl⟩⟩; refine ⟨_, rfl, ?_⟩) | ((with_reducible refine gate_callee (f := 25) rfl ?_); refine goesL_ (some 20) rfl rfl Try.func25 (by kernel_rfl) rfl #[.int .u64 a0, .int .u64 a2] rfl (by (try simp only [List.map_toArray, List.map_cons, List.map_nil]); first | done | rfl | (simp only [List.length_drop, List.length_take]; rfl)) ?_; (with_reducible refine (detentref1_Add.calls a0 a2 t126 _ A8.out).mono ?_); rintro e w' ⟨rfl, ⟨nd, rfl⟩⟩; refine ⟨_, rfl, ?_⟩) | (go_at_call 26; (with_reducible refine (detentref1_Gap.calls a0 a1 t127 _ A11.out).mono ?_); rintro e w' ⟨rfl, ⟨nd, rfl⟩⟩) | (go_at_call 27; (with_reducible refine (nums_Due.calls a0 a1 t128 _ A13.out).mono ?_); rintro e w' ⟨rfl, ⟨nd, rfl⟩⟩) | (go_at_call 23; (with_reducible refine (nums_Add.calls a0 (Int.tmod (IntKind.u64.wrap (t125)) 281474976710656) t129 _ A15.out).mono ?_); rintro e w' ⟨rfl, ⟨nd, rfl⟩⟩) | (go_at_call 23; (with_reducible refine (nums_Add.calls a0 (Int.tmod a2 140737488355328) t130 _ A17.out).mono ?_); rintro e w' ⟨rfl, ⟨nd, rfl⟩⟩) | (go_at_call 24; (with_reducible refine (nums_Gap.calls a0 t130 t131 _ A18.out).mono ?_); rintro e w' ⟨rfl, ⟨nd, rfl⟩⟩))
              go_ret
              exact ⟨by first | rfl | (simp [errW_none, errW_some] <;> rfl) | (simp [*, errW_none, errW_some] <;> rfl), by repeat (first | (with_reducible first | exact HB.out | apply below_alloc | apply pw_below_drewN | apply below_drew1) | exact HB.out)⟩
            · rw [if_neg c16] at H
              have c16b0 : (t129 == (Int.tmod a1 281474976710656)) = false := beq_eq_false_iff_ne.mpr c16
              have c16b1 : (t129 != (Int.tmod a1 281474976710656)) = true := bne_iff_ne.mpr c16
              obtain rfl := Option.some.inj H
              go_enter Try.func7, Try.ntmps7
              go_wp2_with (first | ((with_reducible refine gate_callee (f := 22) rfl ?_); refine goesL_ (some 9) rfl rfl Try.func22 (by kernel_rfl) rfl #[] rfl (by (try simp only [List.map_toArray, List.map_cons, List.map_nil]); first | done | rfl | (simp only [List.length_drop, List.length_take]; rfl)) ?_; (with_reducible refine (detentlaw1_known.calls k  true _ A4.out).mono ?_); rintro e w20 ⟨rfl, hb⟩; refine ⟨_, rfl, ?_⟩; have n0_ := Aside0.mk (below_step (by repeat (first | (with_reducible first | exact HB.out | apply below_alloc | apply pw_below_drewN | apply below_drew1) | exact HB.out)) hb); clear HB; have HB := n0_; clear n0_; (try clear hb); (try clear hb2); (try clear hk); (try clear hi)) | ((with_reducible refine gate_callee (f := 23) rfl ?_); refine goesL_ (some 13) rfl rfl Try.func23 (by kernel_rfl) rfl #[.int .u64 a0, .int .u64 a2] rfl (by (try simp only [List.map_toArray, List.map_cons, List.map_nil]); first | done | rfl | (simp only [List.length_drop, List.length_take]; rfl)) ?_; (with_reducible refine (nums_Add.calls a0 a2 t124 _ A6.out).mono ?_); rintro e w' ⟨rfl, ⟨nd, rfl⟩⟩; refine ⟨_, rfl, ?_⟩) | ((with_reducible refine gate_callee (f := 24) rfl ?_); refine goesL_ (some 16) rfl rfl Try.func24 (by kernel_rfl) rfl #[.int .u64 a0, .int .u64 a1] rfl (by (try simp only [List.map_toArray, List.map_cons, List.map_nil]); first | done | rfl | (simp only [List.length_drop, List.length_take]; rfl)) ?_; (with_reducible refine (nums_Gap.calls a0 a1 t125 _ A7.out).mono ?_); rintro e w' ⟨rfl, ⟨nd, rfl⟩⟩; refine ⟨_, rfl, ?_⟩) | ((with_reducible refine gate_callee (f := 25) rfl ?_); refine goesL_ (some 20) rfl rfl Try.func25 (by kernel_rfl) rfl #[.int .u64 a0, .int .u64 a2] rfl (by (try simp only [List.map_toArray, List.map_cons, List.map_nil]); first | done | rfl | (simp only [List.length_drop, List.length_take]; rfl)) ?_; (with_reducible refine (detentref1_Add.calls a0 a2 t126 _ A8.out).mono ?_); rintro e w' ⟨rfl, ⟨nd, rfl⟩⟩; refine ⟨_, rfl, ?_⟩) | (go_at_call 26; (with_reducible refine (detentref1_Gap.calls a0 a1 t127 _ A11.out).mono ?_); rintro e w' ⟨rfl, ⟨nd, rfl⟩⟩) | (go_at_call 27; (with_reducible refine (nums_Due.calls a0 a1 t128 _ A13.out).mono ?_); rintro e w' ⟨rfl, ⟨nd, rfl⟩⟩) | (go_at_call 23; (with_reducible refine (nums_Add.calls a0 (Int.tmod (IntKind.u64.wrap (t125)) 281474976710656) t129 _ A15.out).mono ?_); rintro e w' ⟨rfl, ⟨nd, rfl⟩⟩))
              go_ret
              exact ⟨by first | rfl | (simp [errW_none, errW_some] <;> rfl) | (simp [*, errW_none, errW_some] <;> rfl), by repeat (first | (with_reducible first | exact HB.out | apply below_alloc | apply pw_below_drewN | apply below_drew1) | exact HB.out)⟩
          · rw [if_neg c14] at H
            have c14b0 : (t128 == (decide (t125 ≥ 0))) = false := by simpa using c14
            (try (have c14b1 : decide (t128 = (decide (t125 ≥ 0))) = false := by simpa using c14))
            (try (have c14b2 : (t128 == (decide (t125 ≥ 0))) = false := by simpa using c14))
            (try (have c14b3 : ¬ (t128 = (decide (t125 ≥ 0))) := by simpa using c14))
            clear c14
            obtain rfl := Option.some.inj H
            go_enter Try.func7, Try.ntmps7
            go_wp2_with (first | ((with_reducible refine gate_callee (f := 22) rfl ?_); refine goesL_ (some 9) rfl rfl Try.func22 (by kernel_rfl) rfl #[] rfl (by (try simp only [List.map_toArray, List.map_cons, List.map_nil]); first | done | rfl | (simp only [List.length_drop, List.length_take]; rfl)) ?_; (with_reducible refine (detentlaw1_known.calls k  true _ A4.out).mono ?_); rintro e w21 ⟨rfl, hb⟩; refine ⟨_, rfl, ?_⟩; have n0_ := Aside0.mk (below_step (by repeat (first | (with_reducible first | exact HB.out | apply below_alloc | apply pw_below_drewN | apply below_drew1) | exact HB.out)) hb); clear HB; have HB := n0_; clear n0_; (try clear hb); (try clear hb2); (try clear hk); (try clear hi)) | ((with_reducible refine gate_callee (f := 23) rfl ?_); refine goesL_ (some 13) rfl rfl Try.func23 (by kernel_rfl) rfl #[.int .u64 a0, .int .u64 a2] rfl (by (try simp only [List.map_toArray, List.map_cons, List.map_nil]); first | done | rfl | (simp only [List.length_drop, List.length_take]; rfl)) ?_; (with_reducible refine (nums_Add.calls a0 a2 t124 _ A6.out).mono ?_); rintro e w' ⟨rfl, ⟨nd, rfl⟩⟩; refine ⟨_, rfl, ?_⟩) | ((with_reducible refine gate_callee (f := 24) rfl ?_); refine goesL_ (some 16) rfl rfl Try.func24 (by kernel_rfl) rfl #[.int .u64 a0, .int .u64 a1] rfl (by (try simp only [List.map_toArray, List.map_cons, List.map_nil]); first | done | rfl | (simp only [List.length_drop, List.length_take]; rfl)) ?_; (with_reducible refine (nums_Gap.calls a0 a1 t125 _ A7.out).mono ?_); rintro e w' ⟨rfl, ⟨nd, rfl⟩⟩; refine ⟨_, rfl, ?_⟩) | ((with_reducible refine gate_callee (f := 25) rfl ?_); refine goesL_ (some 20) rfl rfl Try.func25 (by kernel_rfl) rfl #[.int .u64 a0, .int .u64 a2] rfl (by (try simp only [List.map_toArray, List.map_cons, List.map_nil]); first | done | rfl | (simp only [List.length_drop, List.length_take]; rfl)) ?_; (with_reducible refine (detentref1_Add.calls a0 a2 t126 _ A8.out).mono ?_); rintro e w' ⟨rfl, ⟨nd, rfl⟩⟩; refine ⟨_, rfl, ?_⟩) | (go_at_call 26; (with_reducible refine (detentref1_Gap.calls a0 a1 t127 _ A11.out).mono ?_); rintro e w' ⟨rfl, ⟨nd, rfl⟩⟩) | (go_at_call 27; (with_reducible refine (nums_Due.calls a0 a1 t128 _ A13.out).mono ?_); rintro e w' ⟨rfl, ⟨nd, rfl⟩⟩))
            go_ret
            exact ⟨by first | rfl | (simp [errW_none, errW_some] <;> rfl) | (simp [*, errW_none, errW_some] <;> rfl), by repeat (first | (with_reducible first | exact HB.out | apply below_alloc | apply pw_below_drewN | apply below_drew1) | exact HB.out)⟩
        · rw [if_neg c12] at H
          have c12b0 : (t125 == t127) = false := beq_eq_false_iff_ne.mpr c12
          have c12b1 : (t125 != t127) = true := bne_iff_ne.mpr c12
          obtain rfl := Option.some.inj H
          go_enter Try.func7, Try.ntmps7
          go_wp2_with (first | ((with_reducible refine gate_callee (f := 22) rfl ?_); refine goesL_ (some 9) rfl rfl Try.func22 (by kernel_rfl) rfl #[] rfl (by (try simp only [List.map_toArray, List.map_cons, List.map_nil]); first | done | rfl | (simp only [List.length_drop, List.length_take]; rfl)) ?_; (with_reducible refine (detentlaw1_known.calls k  true _ A4.out).mono ?_); rintro e w22 ⟨rfl, hb⟩; refine ⟨_, rfl, ?_⟩; have n0_ := Aside0.mk (below_step (by repeat (first | (with_reducible first | exact HB.out | apply below_alloc | apply pw_below_drewN | apply below_drew1) | exact HB.out)) hb); clear HB; have HB := n0_; clear n0_; (try clear hb); (try clear hb2); (try clear hk); (try clear hi)) | ((with_reducible refine gate_callee (f := 23) rfl ?_); refine goesL_ (some 13) rfl rfl Try.func23 (by kernel_rfl) rfl #[.int .u64 a0, .int .u64 a2] rfl (by (try simp only [List.map_toArray, List.map_cons, List.map_nil]); first | done | rfl | (simp only [List.length_drop, List.length_take]; rfl)) ?_; (with_reducible refine (nums_Add.calls a0 a2 t124 _ A6.out).mono ?_); rintro e w' ⟨rfl, ⟨nd, rfl⟩⟩; refine ⟨_, rfl, ?_⟩) | ((with_reducible refine gate_callee (f := 24) rfl ?_); refine goesL_ (some 16) rfl rfl Try.func24 (by kernel_rfl) rfl #[.int .u64 a0, .int .u64 a1] rfl (by (try simp only [List.map_toArray, List.map_cons, List.map_nil]); first | done | rfl | (simp only [List.length_drop, List.length_take]; rfl)) ?_; (with_reducible refine (nums_Gap.calls a0 a1 t125 _ A7.out).mono ?_); rintro e w' ⟨rfl, ⟨nd, rfl⟩⟩; refine ⟨_, rfl, ?_⟩) | ((with_reducible refine gate_callee (f := 25) rfl ?_); refine goesL_ (some 20) rfl rfl Try.func25 (by kernel_rfl) rfl #[.int .u64 a0, .int .u64 a2] rfl (by (try simp only [List.map_toArray, List.map_cons, List.map_nil]); first | done | rfl | (simp only [List.length_drop, List.length_take]; rfl)) ?_; (with_reducible refine (detentref1_Add.calls a0 a2 t126 _ A8.out).mono ?_); rintro e w' ⟨rfl, ⟨nd, rfl⟩⟩; refine ⟨_, rfl, ?_⟩) | (go_at_call 26; (with_reducible refine (detentref1_Gap.calls a0 a1 t127 _ A11.out).mono ?_); rintro e w' ⟨rfl, ⟨nd, rfl⟩⟩))
          go_ret
          exact ⟨by first | rfl | (simp [errW_none, errW_some] <;> rfl) | (simp [*, errW_none, errW_some] <;> rfl), by repeat (first | (with_reducible first | exact HB.out | apply below_alloc | apply pw_below_drewN | apply below_drew1) | exact HB.out)⟩
      · rw [if_neg c10] at H
        have c10b0 : decide (t124 < 281474976710656) = false := decide_eq_false c10
        clear c10
        obtain rfl := Option.some.inj H
        go_enter Try.func7, Try.ntmps7
        go_wp2_with (first | ((with_reducible refine gate_callee (f := 22) rfl ?_); refine goesL_ (some 9) rfl rfl Try.func22 (by kernel_rfl) rfl #[] rfl (by (try simp only [List.map_toArray, List.map_cons, List.map_nil]); first | done | rfl | (simp only [List.length_drop, List.length_take]; rfl)) ?_; (with_reducible refine (detentlaw1_known.calls k  true _ A4.out).mono ?_); rintro e w23 ⟨rfl, hb⟩; refine ⟨_, rfl, ?_⟩; have n0_ := Aside0.mk (below_step (by repeat (first | (with_reducible first | exact HB.out | apply below_alloc | apply pw_below_drewN | apply below_drew1) | exact HB.out)) hb); clear HB; have HB := n0_; clear n0_; (try clear hb); (try clear hb2); (try clear hk); (try clear hi)) | ((with_reducible refine gate_callee (f := 23) rfl ?_); refine goesL_ (some 13) rfl rfl Try.func23 (by kernel_rfl) rfl #[.int .u64 a0, .int .u64 a2] rfl (by (try simp only [List.map_toArray, List.map_cons, List.map_nil]); first | done | rfl | (simp only [List.length_drop, List.length_take]; rfl)) ?_; (with_reducible refine (nums_Add.calls a0 a2 t124 _ A6.out).mono ?_); rintro e w' ⟨rfl, ⟨nd, rfl⟩⟩; refine ⟨_, rfl, ?_⟩) | ((with_reducible refine gate_callee (f := 24) rfl ?_); refine goesL_ (some 16) rfl rfl Try.func24 (by kernel_rfl) rfl #[.int .u64 a0, .int .u64 a1] rfl (by (try simp only [List.map_toArray, List.map_cons, List.map_nil]); first | done | rfl | (simp only [List.length_drop, List.length_take]; rfl)) ?_; (with_reducible refine (nums_Gap.calls a0 a1 t125 _ A7.out).mono ?_); rintro e w' ⟨rfl, ⟨nd, rfl⟩⟩; refine ⟨_, rfl, ?_⟩) | ((with_reducible refine gate_callee (f := 25) rfl ?_); refine goesL_ (some 20) rfl rfl Try.func25 (by kernel_rfl) rfl #[.int .u64 a0, .int .u64 a2] rfl (by (try simp only [List.map_toArray, List.map_cons, List.map_nil]); first | done | rfl | (simp only [List.length_drop, List.length_take]; rfl)) ?_; (with_reducible refine (detentref1_Add.calls a0 a2 t126 _ A8.out).mono ?_); rintro e w' ⟨rfl, ⟨nd, rfl⟩⟩; refine ⟨_, rfl, ?_⟩))
        go_ret
        exact ⟨by first | rfl | (simp [errW_none, errW_some] <;> rfl) | (simp [*, errW_none, errW_some] <;> rfl), by repeat (first | (with_reducible first | exact HB.out | apply below_alloc | apply pw_below_drewN | apply below_drew1) | exact HB.out)⟩
    · rw [if_neg c9] at H
      have c9b0 : (t124 == t126) = false := beq_eq_false_iff_ne.mpr c9
      have c9b1 : (t124 != t126) = true := bne_iff_ne.mpr c9
      obtain rfl := Option.some.inj H
      go_enter Try.func7, Try.ntmps7
      go_wp2_with (first | ((with_reducible refine gate_callee (f := 22) rfl ?_); refine goesL_ (some 9) rfl rfl Try.func22 (by kernel_rfl) rfl #[] rfl (by (try simp only [List.map_toArray, List.map_cons, List.map_nil]); first | done | rfl | (simp only [List.length_drop, List.length_take]; rfl)) ?_; (with_reducible refine (detentlaw1_known.calls k  true _ A4.out).mono ?_); rintro e w24 ⟨rfl, hb⟩; refine ⟨_, rfl, ?_⟩; have n0_ := Aside0.mk (below_step (by repeat (first | (with_reducible first | exact HB.out | apply below_alloc | apply pw_below_drewN | apply below_drew1) | exact HB.out)) hb); clear HB; have HB := n0_; clear n0_; (try clear hb); (try clear hb2); (try clear hk); (try clear hi)) | ((with_reducible refine gate_callee (f := 23) rfl ?_); refine goesL_ (some 13) rfl rfl Try.func23 (by kernel_rfl) rfl #[.int .u64 a0, .int .u64 a2] rfl (by (try simp only [List.map_toArray, List.map_cons, List.map_nil]); first | done | rfl | (simp only [List.length_drop, List.length_take]; rfl)) ?_; (with_reducible refine (nums_Add.calls a0 a2 t124 _ A6.out).mono ?_); rintro e w' ⟨rfl, ⟨nd, rfl⟩⟩; refine ⟨_, rfl, ?_⟩) | ((with_reducible refine gate_callee (f := 24) rfl ?_); refine goesL_ (some 16) rfl rfl Try.func24 (by kernel_rfl) rfl #[.int .u64 a0, .int .u64 a1] rfl (by (try simp only [List.map_toArray, List.map_cons, List.map_nil]); first | done | rfl | (simp only [List.length_drop, List.length_take]; rfl)) ?_; (with_reducible refine (nums_Gap.calls a0 a1 t125 _ A7.out).mono ?_); rintro e w' ⟨rfl, ⟨nd, rfl⟩⟩; refine ⟨_, rfl, ?_⟩) | ((with_reducible refine gate_callee (f := 25) rfl ?_); refine goesL_ (some 20) rfl rfl Try.func25 (by kernel_rfl) rfl #[.int .u64 a0, .int .u64 a2] rfl (by (try simp only [List.map_toArray, List.map_cons, List.map_nil]); first | done | rfl | (simp only [List.length_drop, List.length_take]; rfl)) ?_; (with_reducible refine (detentref1_Add.calls a0 a2 t126 _ A8.out).mono ?_); rintro e w' ⟨rfl, ⟨nd, rfl⟩⟩; refine ⟨_, rfl, ?_⟩))
      go_ret
      exact ⟨by first | rfl | (simp [errW_none, errW_some] <;> rfl) | (simp [*, errW_none, errW_some] <;> rfl), by repeat (first | (with_reducible first | exact HB.out | apply below_alloc | apply pw_below_drewN | apply below_drew1) | exact HB.out)⟩
  · replace c5 := Bool.eq_false_iff.mpr c5
    subst c5
    have H1 : (some false) = some r := by rw [if_neg (show ¬ (false = true) by decide)] at H; exact H
    clear H
    have H := H1
    clear H1
    obtain rfl := Option.some.inj H
    go_enter Try.func7, Try.ntmps7
    go_wp2_with (first | ((with_reducible refine gate_callee (f := 22) rfl ?_); refine goesL_ (some 9) rfl rfl Try.func22 (by kernel_rfl) rfl #[] rfl (by (try simp only [List.map_toArray, List.map_cons, List.map_nil]); first | done | rfl | (simp only [List.length_drop, List.length_take]; rfl)) ?_; (with_reducible refine (detentlaw1_known.calls k  false _ A4.out).mono ?_); rintro e w25 ⟨rfl, hb⟩; refine ⟨_, rfl, ?_⟩; have n0_ := Aside0.mk (below_step (by repeat (first | (with_reducible first | exact HB.out | apply below_alloc | apply pw_below_drewN | apply below_drew1) | exact HB.out)) hb); clear HB; have HB := n0_; clear n0_; (try clear hb); (try clear hb2); (try clear hk); (try clear hi)))
    go_ret
    exact ⟨by first | rfl | (simp [errW_none, errW_some] <;> rfl) | (simp [*, errW_none, errW_some] <;> rfl), by repeat (first | (with_reducible first | exact HB.out | apply below_alloc | apply pw_below_drewN | apply below_drew1) | exact HB.out)⟩

/-- THE ONE PURE STATEMENT of detentlaw1_TimesRound: yours. -/
def detentlaw1_TimesRound.Pure : Prop := ∀ (a0 : Int) (a1 : Int) (a2 : Int), (Lit.int .u64 a0).wf = true → (Lit.int .u64 a1).wf = true → (Lit.int .u64 a2).wf = true → ∃ k, detentlaw1_TimesRound.f k a0 a1 a2 = some true
theorem detentlaw1_TimesRound.walk (P : detentlaw1_TimesRound.Pure) (a0 : Int) (a1 : Int) (a2 : Int) (w : World) (w0 : (Lit.int .u64 a0).wf = true) (w1 : (Lit.int .u64 a1).wf = true) (w2 : (Lit.int .u64 a2).wf = true) :
    Calls Try.prog 7 #[.int .u64 a0, .int .u64 a1, .int .u64 a2] w fun e w' => e = .returned (.bool true) ∧ Below w.heap.size w w' := by
  obtain ⟨k, h⟩ := P a0 a1 a2 w0 w1 w2
  refine (detentlaw1_TimesRound.calls k a0 a1 a2 true w h).mono ?_
  rintro e w' ⟨rfl, hd⟩
  exact ⟨rfl, hd⟩

end Go.Proofs.Ytphapbleailinaa.PTimesRound
