/- Exceptions raised, masked, taken and returned, whatever the calls: the walk of ExceptPlays. Conditions: none. -/
import Derived.Test.YtphapbleailinaaExceptRaise
import Derived.OwnWalk
import Derived.RegionTactic
import Derived.BigRegion
import Derived.ChangeAlike
import Derived.Deep.QuietTactic
import Derived.BigQuiet
namespace Go.Proofs.Ytphapbleailinaa.ExceptHand
set_option linter.unusedVariables false
open Go.RowKit Go.Proofs.YtphapbleailinaaW.PrintWords Go.Proofs.YtphapbleailinaaW.PrintLast Go.Proofs.YtphapbleailinaaW.PrintMore Go.Proofs.Ytphapbleailinaa.PExceptPlays
theorem T.alloc {w0 W : World} {g : Nat} {b : Int} {e : Bool} {d : Int} (h : T w0 W g b e d) (o : Obj) : T w0 (W.alloc o) g b e d := ⟨h.1.alloc o, below_alloc h.2 o⟩
theorem T.lt {w0 W : World} {g : Nat} {b : Int} {e : Bool} {d : Int} (h : T w0 W g b e d) : g < W.heap.size := World.block_lt_of_cell? W _ h.cells.1
set_option maxHeartbeats 8000000 in
set_option maxRecDepth 100000 in
theorem plays_in (A : Option Addr) (len cap : Nat) (F : Nat → Int × Option Addr × Nat × List Int) (hl : len ≤ 100) (w : World) (hR : Acts w A len cap F) :
    Calls Try.prog 6 #[.slice A len cap] w fun e w' => e = .returned (.bool true) ∧ Below w.heap.size w w' := by
  have HR := Aside0.mk hR; clear hR
  go_enter Try.func6, Try.ntmps6
  go_wp2_with fail
  refine (known_calls w).mono ?_
  rintro e w1 ⟨rfl, h1⟩
  have H1 := Aside0.mk h1; clear h1
  have H2 := Aside0.mk (T.made H1.out)
  go_wp2
  go_loopw [4, 5, 6, 7] (fun vb ve vd i w' => ∃ (j : Nat) (b : Int) (e : Bool) (d : Int), j ≤ len ∧ vb = .int .u32 b ∧ ve = .bool e ∧ vd = .int .i64 d ∧ i = .int .i64 j ∧ Aside0 (T w w' w1.heap.size b e d) ∧ Aside0 (U b) ∧ 0 ≤ d ∧ d ≤ j) (fun _ _ _ i _ => len - (intOf i).toNat)
  case atStart => exact ⟨0, _, _, _, Nat.zero_le _, rfl, rfl, rfl, rfl, H2, ⟨U.zero⟩, by omega, by omega⟩
  case round =>
    clear H2
    obtain ⟨j, b, e, d, hj, rfl, rfl, rfl, rfl, HT, HU, hd0, hd1⟩ := hrel
    by_cases hlt : j < len
    · obtain ⟨B, O, hA, hc⟩ := HR.out.2.2.1 (by omega)
      obtain ⟨hz1, hz2, hz3, hz4⟩ := HR.out.2.2.2 j hlt
      subst hA
      obtain ⟨x0, x1⟩ := hc j hlt
      have hB := World.block_lt_of_cell? w _ x0
      have x0 := (HT.out.2.cell (p := ⟨B, O + j * 2, none⟩) hB).trans x0
      have x1 := (HT.out.2.cell (p := ⟨B, O + j * 2 + 1, none⟩) hB).trans x1
      have HF := Aside0.mk (far_int hz3 (g := w1.heap.size) HT.out.1.ge)
      have hz3 := hz3.below HT.out.2
      clear hc hB
      obtain ⟨⟨op, bA, bc, zs⟩, hF⟩ : ∃ q, F j = q := ⟨_, rfl⟩
      rw [hF] at x0 x1 hz1 hz2 hz3 hz4 HF
      dsimp only at x0 x1 hz1 hz2 hz3 hz4 HF
      have HZ2 := Aside0.mk hz2
      have hz9 : bc ≤ 9223372036854775807 := hz2
      clear hz2
      have HZ4 := Aside0.mk hz4; clear hz4
      have HCN := Aside0.mk (show wr.heap.size ≠ w1.heap.size by have := HT.out.lt; omega)
      have HTA := Aside0.mk (HT.out.alloc (.cells #[.int .i64 op, .slice bA zs.length bc] 39))
      have HZ := Aside0.mk (hz3.allocS (.cells #[.int .i64 op, .slice bA zs.length bc] 39))
      clear hz3
      by_cases hbig : 20 < zs.length
      · as_aux_lemma =>
          go_wp2
          go_ret
          exact ⟨rfl, HTA.out.2⟩
      · by_cases o1 : op = 1
        · as_aux_lemma =>
            subst o1
            go_wp2
            go_loop [9, 10] (fun a i => ∃ m : Nat, m ≤ zs.length ∧ i = .int .i64 m ∧ a = .int .u32 (orFrom 0 (zs.take m))) (fun _ i => zs.length - (intOf i).toNat)
            case atStart => exact ⟨0, Nat.zero_le _, rfl, rfl⟩
            case round =>
              obtain ⟨m, hm, rfl, rfl⟩ := hrel
              by_cases hl2 : m < zs.length
              · obtain ⟨ad, hbA, hcell⟩ := HZ.out.2.2 (by omega)
                have HS := Aside0.mk (orFrom_snoc zs m hl2)
                have hx := hcell m hl2
                subst hbA
                clear hcell
                go_wp2
                go_round
                case rel => exact ⟨m + 1, by omega, by go_num, by rw [HS.out]; simp [hl2, o32]⟩
                case measure => simp [intOf]; omega
              · obtain rfl : m = zs.length := by omega
                have ht : zs.take zs.length = zs := List.take_length
                rw [ht]; clear ht
                clear hl2 hm
                have uv := orFrom_U HZ4.out U.zero
                have HUV := Aside0.mk uv; clear uv
                obtain ⟨v, hv⟩ : ∃ v, orFrom 0 zs = v := ⟨_, rfl⟩
                have HV := Aside0.mk hv
                rw [hv] at HUV
                rw [hv]
                clear hv
                by_cases v0 : v = 0
                · subst v0
                  go_wp2_with fail
                  refine (raise_bits HTA.out HU.out zs HZ4.out (by omega) bA bc (Kd.C_of_reads (d := 0) HZ.out) hz1 HF.out (-17) (Go.bits .or .u32 b 0) (by rw [HV.out]; rfl) (by rw [HV.out])).mono ?_
                  rintro r w4 ⟨rfl, h4⟩
                  obtain ⟨c0, c1, c2⟩ := h4.cells
                  have H4 := Aside0.mk h4
                  clear h4
                  go_wp2
                  go_roundw
                  case rel => exact ⟨j + 1, _, _, _, by omega, rfl, rfl, rfl, by go_num, H4, ⟨HU.out.or HUV.out⟩, by omega, by omega⟩
                  case measure => simp [intOf]; omega
                · have bv : (v == 0) = false := beq_eq_false_iff_ne.2 v0
                  have bw : (v != 0) = true := bne_iff_ne.2 v0
                  go_wp2_with fail
                  refine (raise_bits HTA.out HU.out zs HZ4.out (by omega) bA bc (Kd.C_of_reads (d := 0) HZ.out) hz1 HF.out 0 (Go.bits .or .u32 b v) (by rw [HV.out, if_neg v0]) (by rw [HV.out])).mono ?_
                  rintro r w4 ⟨rfl, h4⟩
                  obtain ⟨c0, c1, c2⟩ := h4.cells
                  have H4 := Aside0.mk h4
                  clear h4
                  go_wp2
                  go_roundw
                  case rel => exact ⟨j + 1, _, _, _, by omega, rfl, rfl, rfl, by go_num, H4, ⟨HU.out.or HUV.out⟩, by omega, by omega⟩
                  case measure => simp [intOf]; omega
        · have b1 : (op == 1) = false := beq_eq_false_iff_ne.2 o1
          by_cases o2 : op = 2
          · subst o2
            as_aux_lemma =>
              go_wp2_with fail
              refine (disable_T HTA.out).mono ?_
              rintro r w4 ⟨rfl, h4⟩
              obtain ⟨c0, c1, c2⟩ := h4.cells
              have H4 := Aside0.mk h4
              clear h4
              go_wp2
              go_roundw
              case rel => exact ⟨j + 1, b, false, d, by omega, rfl, rfl, rfl, by go_num, H4, ⟨HU.out⟩, by omega, by omega⟩
              case measure => simp [intOf]; omega
          · have b2 : (op == 2) = false := beq_eq_false_iff_ne.2 o2
            by_cases o3 : op = 3
            · subst o3
              as_aux_lemma =>
                go_wp2_with fail
                refine (enable_T HTA.out).mono ?_
                rintro r w4 ⟨rfl, h4⟩
                obtain ⟨c0, c1, c2⟩ := h4.cells
                have H4 := Aside0.mk h4
                clear h4
                go_wp2
                go_roundw
                case rel => exact ⟨j + 1, b, true, d, by omega, rfl, rfl, rfl, by go_num, H4, ⟨HU.out⟩, by omega, by omega⟩
                case measure => simp [intOf]; omega
            · have b3 : (op == 3) = false := beq_eq_false_iff_ne.2 o3
              by_cases o4 : op = 4
              · subst o4
                cases e with
                | false =>
                  as_aux_lemma =>
                    go_wp2_with fail
                    refine (take_no HTA.out (.inl rfl)).mono ?_
                    rintro r w4 ⟨rfl, h4⟩
                    obtain ⟨c0, c1, c2⟩ := h4.cells
                    have H4 := Aside0.mk h4
                    clear h4
                    go_wp2
                    go_roundw
                    case rel => exact ⟨j + 1, b, false, d, by omega, rfl, rfl, rfl, by go_num, H4, ⟨HU.out⟩, by omega, by omega⟩
                    case measure => simp [intOf]; omega
                | true =>
                  by_cases v0 : b = 0
                  · subst v0
                    as_aux_lemma =>
                      go_wp2_with fail
                      refine (take_no HTA.out (.inr rfl)).mono ?_
                      rintro r w4 ⟨rfl, h4⟩
                      obtain ⟨c0, c1, c2⟩ := h4.cells
                      have H4 := Aside0.mk h4
                      clear h4
                      go_wp2
                      go_roundw
                      case rel => exact ⟨j + 1, 0, true, d, by omega, rfl, rfl, rfl, by go_num, H4, ⟨HU.out⟩, by omega, by omega⟩
                      case measure => simp [intOf]; omega
                  · have bv : (b == 0) = false := beq_eq_false_iff_ne.2 v0
                    have bw : (b != 0) = true := bne_iff_ne.2 v0
                    as_aux_lemma =>
                      go_wp2_with fail
                      refine (take_yes HTA.out v0 (d' := d + 1) (by unfold wrap64; omega)).mono ?_
                      rintro r w4 ⟨rfl, h4⟩
                      obtain ⟨c0, c1, c2⟩ := h4.cells
                      have H4 := Aside0.mk h4
                      clear h4
                      go_wp2
                      go_roundw
                      case rel => exact ⟨j + 1, 0, false, d + 1, by omega, rfl, rfl, by go_num, by go_num, H4, ⟨U.zero⟩, by omega, by omega⟩
                      case measure => simp [intOf]; omega
              · have b4 : (op == 4) = false := beq_eq_false_iff_ne.2 o4
                by_cases o5 : op = 5
                · subst o5
                  by_cases d0 : 0 < d
                  · have g1 : decide (0 < d) = true := decide_eq_true d0
                    have g2 : (d == 0) = false := beq_eq_false_iff_ne.2 (by omega)
                    as_aux_lemma =>
                      go_wp2_with fail
                      refine (return_yes HTA.out d0 (d' := d - 1) (by unfold wrap64; omega)).mono ?_
                      rintro r w4 ⟨rfl, h4⟩
                      obtain ⟨c0, c1, c2⟩ := h4.cells
                      have H4 := Aside0.mk h4
                      clear h4
                      go_wp2
                      go_roundw
                      case rel => exact ⟨j + 1, b, true, d - 1, by omega, rfl, rfl, by go_num, by go_num, H4, ⟨HU.out⟩, by omega, by omega⟩
                      case measure => simp [intOf]; omega
                  · obtain rfl : d = 0 := by omega
                    as_aux_lemma =>
                      go_wp2_with fail
                      refine (return_no HTA.out (by omega)).mono ?_
                      rintro r w4 ⟨rfl, h4⟩
                      obtain ⟨c0, c1, c2⟩ := h4.cells
                      have H4 := Aside0.mk h4
                      clear h4
                      go_wp2
                      go_roundw
                      case rel => exact ⟨j + 1, b, e, 0, by omega, rfl, rfl, rfl, by go_num, H4, ⟨HU.out⟩, by omega, by omega⟩
                      case measure => simp [intOf]; omega
                · have b5 : (op == 5) = false := beq_eq_false_iff_ne.2 o5
                  by_cases o6 : op = 6
                  · subst o6
                    as_aux_lemma =>
                      go_wp2_with fail
                      refine (reset_T HTA.out).mono ?_
                      rintro r w4 ⟨rfl, h4⟩
                      obtain ⟨c0, c1, c2⟩ := h4.cells
                      have H4 := Aside0.mk h4
                      clear h4
                      go_wp2
                      go_roundw
                      case rel => exact ⟨j + 1, 0, false, 0, by omega, rfl, rfl, rfl, by go_num, H4, ⟨U.zero⟩, by omega, by omega⟩
                      case measure => simp [intOf]; omega
                  · have b6 : (op == 6) = false := beq_eq_false_iff_ne.2 o6
                    as_aux_lemma =>
                      obtain ⟨c0, c1, c2⟩ := HTA.out.cells
                      go_wp2
                      go_roundw
                      case rel => exact ⟨j + 1, b, e, d, by omega, rfl, rfl, rfl, by go_num, HTA, ⟨HU.out⟩, by omega, by omega⟩
                      case measure => simp [intOf]; omega
    · obtain rfl : j = len := by omega
      as_aux_lemma =>
        go_wp2
        go_ret
        exact ⟨rfl, HT.out.2⟩
set_option maxHeartbeats 2000000 in
set_option maxRecDepth 100000 in
theorem plays_big (A : Option Addr) (len cap : Nat) (hl : 100 < len) (hl9 : len ≤ 9223372036854775807) (w : World) :
    Calls Try.prog 6 #[.slice A len cap] w fun e w' => e = .returned (.bool true) ∧ Below w.heap.size w w' := by
  go_enter Try.func6, Try.ntmps6
  go_wp2_with fail
  refine (known_calls w).mono ?_
  rintro e w1 ⟨rfl, h1⟩
  have H1 := Aside0.mk h1; clear h1
  go_wp2
  go_ret
  exact ⟨rfl, H1.out⟩
theorem plays_walk (a0 : Option Addr) (len0 cap0 : Nat) (z0 : Nat → Int × Option Addr × Nat × List Int) (w : World) (w0 : Acts w a0 len0 cap0 z0) :
    Calls Try.prog 6 #[.slice a0 len0 cap0] w fun e w' => e = .returned (.bool true) ∧ Below w.heap.size w w' := by
  have hl : len0 ≤ 9223372036854775807 := by have := w0.1; have := w0.2.1; unfold maxLen at this; omega
  by_cases h : 100 < len0
  · exact plays_big a0 len0 cap0 h hl w
  · exact plays_in a0 len0 cap0 z0 (by omega) w w0
end Go.Proofs.Ytphapbleailinaa.ExceptHand
