/- The program's lists and the document's, of the same rows, tell the same. Conditions: none. -/
import Derived.Test.YteiepbjajennkaaListRefBack
namespace Go.Proofs.Yteiepbjajennkaa.ListHand
set_option linter.unusedVariables false
open Go.RowKit Go.Proofs.YteiepbjajennkaaW.PrintWords Go.Proofs.YteiepbjajennkaaW.PrintMore
variable {w0 W : World} {lo g a b q s N H : Nat} {R : Nat → List Nat}
theorem LR.first_out (h : LR w0 W g a b N H R) (n : Int) (hn : n < 0 ∨ H ≤ n) :
    Calls Try.prog 29 #[.pointer (some ⟨g, 0, none⟩), .int .i64 n] W fun e w' => e = .returned (.tuple #[.int .i64 0, .bool false]) ∧ W = w' := by
  obtain ⟨ca, cb, h1, h2⟩ := h
  exact ListHand.first_out h1 n hn
theorem LR.len_out (h : LR w0 W g a b N H R) (n : Int) (hn : n < 0 ∨ H ≤ n) :
    Calls Try.prog 16 #[.pointer (some ⟨g, 0, none⟩), .int .i64 n] W fun e w' => e = .returned (.int .i64 0) ∧ W = w' := by
  obtain ⟨ca, cb, h1, h2⟩ := h
  exact ListHand.len_out h1 n hn
theorem LR.of_out (h : LR w0 W g a b N H R) (n : Int) (hn : n < 0 ∨ N ≤ n) :
    Calls Try.prog 30 #[.pointer (some ⟨g, 0, none⟩), .int .i64 n] W fun e w' => e = .returned (.tuple #[.int .i64 0, .bool false]) ∧ W = w' := by
  obtain ⟨ca, cb, h1, h2⟩ := h
  exact ListHand.of_out h1 n hn
theorem LR.next_out (h : LR w0 W g a b N H R) (n : Int) (hn : n < 0 ∨ N ≤ n) :
    Calls Try.prog 21 #[.pointer (some ⟨g, 0, none⟩), .int .i64 n] W fun e w' => e = .returned (.tuple #[.int .i64 0, .bool false]) ∧ W = w' := by
  obtain ⟨ca, cb, h1, h2⟩ := h
  exact ListHand.next_out h1 n hn
theorem LR.of_no (h : LR w0 W g a b N H R) (n : Nat) (hn : n < N) (hm : ∀ j, j < H → n ∉ R j) :
    Calls Try.prog 30 #[.pointer (some ⟨g, 0, none⟩), .int .i64 n] W fun e w' => e = .returned (.tuple #[.int .i64 0, .bool false]) ∧ W = w' := by
  obtain ⟨ca, cb, h1, h2⟩ := h
  have := of_in h1 n hn (-1) ((h2.inn hn).2 hm)
  exact this
theorem LR.next_no (h : LR w0 W g a b N H R) (n : Nat) (hn : n < N) (hm : ∀ j, j < H → n ∉ R j) :
    Calls Try.prog 21 #[.pointer (some ⟨g, 0, none⟩), .int .i64 n] W fun e w' => e = .returned (.tuple #[.int .i64 0, .bool false]) ∧ W = w' := by
  obtain ⟨ca, cb, h1, h2⟩ := h
  have := next_in h1 n hn (-1) (congrArg (·.2.1) (h2.free n hn hm))
  exact this
theorem rf_row (h : Rf w0 lo W q s N H R) {x : Nat} (hx : x < H) : ∃ A c, W.cell? ⟨s, x, none⟩ = some (.slice A (R x).length c) ∧ ReadsInt W .i64 A (R x).length (ints (R x)) ∧ (R x).length ≤ c := by
  obtain ⟨v, e1, e2, e3⟩ := h.row x hx
  have hle : ∀ (A : Option Addr) c, v = .slice A (R x).length c → (R x).length ≤ c := fun A c e => own_le (e ▸ e2)
  obtain ⟨A, c, rfl, e4⟩ := own_reads e2
  exact ⟨A, c, e1, e4, hle A c rfl⟩
set_option maxHeartbeats 4000000 in
set_option maxRecDepth 100000 in
theorem told_same (h : LR w0 W g a b N H R) (h2 : Rf w0 lo W q s N H R) :
    Calls Try.prog 28 #[.pointer (some ⟨g, 0, none⟩), .pointer (some ⟨q, 0, none⟩)] W fun e w' => e = .returned (.bool true) ∧ Below W.heap.size W w' := by
  obtain ⟨N0, N1, H0, H1⟩ := h.bounds
  have HWL := Aside0.mk h2.be.size
  have HL := Aside0.mk h; clear h
  have HR := Aside0.mk h2; clear h2
  go_enter Try.func28, Try.ntmps28
  go_wp2
  go_loopw [5] (fun i w' => ∃ j : Int, -1 ≤ j ∧ j ≤ H + 1 ∧ i = .int .i64 j ∧ Aside0 (Below W.heap.size W w')) (fun i _ => (H + 1 - intOf i).toNat)
  case atStart => exact ⟨-1, by omega, by omega, rfl, ⟨Below.refl _ _⟩⟩
  case round =>
    obtain ⟨j, hj0, hj1, rfl, HW⟩ := hrel
    have HL1 := Aside0.mk (HL.out.below HW.out)
    have HR1 := Aside0.mk (HR.out.below HW.out HWL.out)
    have d1 := HR1.out.c1
    by_cases hlt : j ≤ H
    · by_cases hout : j < 0 ∨ H ≤ j
      · have HO := Aside0.mk hout; clear hout
        go_wp2_with fail
        refine (ref_head HR1.out j false (by have := HO.out; simp; omega)).mono ?_
        rintro e w' ⟨rfl, rfl⟩
        go_wp2_with fail
        refine (HL1.out.first_out j HO.out).mono ?_
        rintro e w' ⟨rfl, rfl⟩
        go_wp2_with fail
        refine (row_out HL1.out j HO.out).mono ?_
        rintro e w' ⟨rfl, rfl⟩
        go_wp2_with fail
        refine (same_calls [] (by simp) none none 0 0 0 0 rfl rfl _ ⟨rfl, by simp, fun h => by simp at h⟩ ⟨rfl, by simp, fun h => by simp at h⟩).mono ?_
        rintro e w1 ⟨rfl, hb⟩
        have HB := Aside0.mk (HW.out.trans ⟨hb.os, hb.tape, hb.output, hb.size, fun i hi => hb.block i (Nat.lt_of_lt_of_le hi HW.out.size)⟩)
        clear hb
        go_wp2_with fail
        refine ((HL.out.below HB.out).len_out j HO.out).mono ?_
        rintro e w' ⟨rfl, rfl⟩
        go_wp2
        go_roundw
        case rel => exact ⟨j + 1, by omega, by omega, by go_num, HB⟩
        case measure => simp [intOf]; omega
      · obtain ⟨x, rfl⟩ : ∃ x : Nat, j = x := ⟨j.toNat, by omega⟩
        have hx : x < H := by omega
        clear hout hlt
        obtain ⟨A, c, d2, d3, hlc⟩ := rf_row HR1.out hx
        have D3 := Aside0.mk d3; clear d3
        have hlen := HR1.out.len x hx
        go_wp2_with fail
        refine (ref_head HR1.out x true (by simp; omega)).mono ?_
        rintro e w' ⟨rfl, rfl⟩
        go_wp2_with fail
        by_cases hz : (R x).length = 0
        · have hn : R x = [] := List.length_eq_zero_iff.1 hz
          rw [hn]
          simp only [List.length_nil]
          rw [hn] at D3
          have HN := Aside0.mk hn; clear hn hz hlen
          refine (HL1.out.first hx (-1) (by rw [HN.out]; rfl)).mono ?_
          rintro e w' ⟨rfl, rfl⟩
          rw [toldI_no, toldB_no]
          go_wp2_with fail
          refine (row_calls HL1.out x hx).mono ?_
          rintro e w1 ⟨v, rfl, ho, hb⟩
          rw [HN.out] at ho
          obtain ⟨A2, c2, rfl, hr2, hn2⟩ := row_slice ho
          have HR2 := Aside0.mk hr2
          have HB1 := Aside0.mk hb
          have HB := Aside0.mk (HW.out.trans ⟨hb.os, hb.tape, hb.output, hb.size, fun i hi => hb.block i (Nat.lt_of_lt_of_le hi HW.out.size)⟩)
          clear hb ho hr2 hn2
          go_wp2_with fail
          refine (same_calls [] (by simp) A2 A _ _ c2 c rfl rfl _ HR2.out (D3.out.below HB1.out)).mono ?_
          rintro e w2 ⟨rfl, hb⟩
          have HB2 := Aside0.mk (HB.out.trans ⟨hb.os, hb.tape, hb.output, hb.size, fun i hi => hb.block i (Nat.lt_of_lt_of_le hi HB.out.size)⟩)
          clear hb
          go_wp2_with fail
          refine ((HL.out.below HB2.out).lenIs hx 0 (by rw [HN.out]; rfl)).mono ?_
          rintro e w' ⟨rfl, rfl⟩
          go_wp2
          go_roundw
          case rel => exact ⟨x + 1, by omega, by omega, by go_num, HB2⟩
          case measure => simp [intOf]; omega
        · obtain ⟨y, hy⟩ : ∃ y, (R x)[0]? = some y := ⟨_, List.getElem?_eq_getElem (by omega)⟩
          have HY := Aside0.mk hy; clear hy
          obtain ⟨ad, hA, hcl⟩ := D3.out.2.2 (by omega)
          have hc0 := hcl 0 (by omega)
          rw [ints_getD (R x) 0 (by omega), show (R x)[0] = y from Option.some.inj ((List.getElem?_eq_getElem (by omega)).symm.trans HY.out)] at hc0
          subst hA
          have HC := Aside0.mk hc0; clear hc0 hcl
          refine (HL1.out.first hx (y : Int) (atI_some HY.out)).mono ?_
          rintro e w' ⟨rfl, rfl⟩
          rw [toldI_nat, toldB_nat]
          go_wp2_with fail
          refine (row_calls HL1.out x hx).mono ?_
          rintro e w1 ⟨v, rfl, ho, hb⟩
          obtain ⟨A2, c2, rfl, hr2, hn2⟩ := row_slice ho
          have HR2 := Aside0.mk hr2
          have HB1 := Aside0.mk hb
          have HB := Aside0.mk (HW.out.trans ⟨hb.os, hb.tape, hb.output, hb.size, fun i hi => hb.block i (Nat.lt_of_lt_of_le hi HW.out.size)⟩)
          clear hb ho hr2 hn2
          go_wp2_with fail
          refine (same_calls (ints (R x)) (by rw [ints_len]; omega) A2 (some ad) _ _ c2 c (by rw [ints_len]) (by rw [ints_len]) _ (by rw [ints_len]; exact HR2.out) (by rw [ints_len]; exact (D3.out.below HB1.out))).mono ?_
          rintro e w2 ⟨rfl, hb⟩
          have HB2 := Aside0.mk (HB.out.trans ⟨hb.os, hb.tape, hb.output, hb.size, fun i hi => hb.block i (Nat.lt_of_lt_of_le hi HB.out.size)⟩)
          have hc1 := (hb.cell (by have := World.block_lt_of_cell? _ _ HC.out; have := HB1.out.size; omega)).trans ((HB1.out.cell (World.block_lt_of_cell? _ _ HC.out)).trans HC.out)
          clear hb
          have hc2 : w2.cell? ad = some (.int .i64 (y : Int)) := hc1
          generalize hn : (R x).length = n at *
          have HNN := Aside0.mk hn; clear hn
          have hnp : 0 < n := by omega
          have hnb : decide (0 < n) = true := decide_eq_true hnp
          go_wp2_with fail
          refine ((HL.out.below HB2.out).lenIs hx (n : Int) (by rw [HNN.out])).mono ?_
          rintro e w' ⟨rfl, rfl⟩
          go_wp2
          go_roundw
          case rel => exact ⟨x + 1, by omega, by omega, by go_num, HB2⟩
          case measure => simp [intOf]; omega
    · obtain rfl : j = H + 1 := by omega
      go_wp2
      clear d1 hlt hj0 hj1
      go_loop [9] (fun i => ∃ j : Int, -1 ≤ j ∧ j ≤ N + 1 ∧ i = .int .i64 j) (fun i => (N + 1 - intOf i).toNat)
      case atStart => exact ⟨-1, by omega, by omega, rfl⟩
      case round =>
        obtain ⟨j, hj0, hj1, rfl⟩ := hrel
        have d0 := HR1.out.c0
        by_cases hlt : j ≤ N
        · by_cases hout : j < 0 ∨ N ≤ j
          · have HO := Aside0.mk hout; clear hout
            go_wp2_with fail
            refine (of_far HR1.out j HO.out).mono ?_
            rintro e w' ⟨rfl, rfl⟩
            go_wp2_with fail
            refine (HL1.out.of_out j HO.out).mono ?_
            rintro e w' ⟨rfl, rfl⟩
            go_wp2_with fail
            refine (HL1.out.next_out j HO.out).mono ?_
            rintro e w' ⟨rfl, rfl⟩
            go_wp2
            go_round
            case rel => exact ⟨j + 1, by omega, by omega, by go_num⟩
            case measure => simp [intOf]; omega
          · obtain ⟨n, rfl⟩ : ∃ n : Nat, j = n := ⟨j.toNat, by omega⟩
            have hn : n < N := by omega
            clear hout hlt
            by_cases hf : ∀ i, i < H → n ∉ R i
            · have HF := Aside0.mk hf; clear hf
              go_wp2_with fail
              refine (of_free HR1.out n HF.out).mono ?_
              rintro e w' ⟨rfl, rfl⟩
              go_wp2_with fail
              refine (HL1.out.of_no n hn HF.out).mono ?_
              rintro e w' ⟨rfl, rfl⟩
              go_wp2_with fail
              refine (HL1.out.next_no n hn HF.out).mono ?_
              rintro e w' ⟨rfl, rfl⟩
              go_wp2
              go_round
              case rel => exact ⟨n + 1, by omega, by omega, by go_num⟩
              case measure => simp [intOf]; omega
            · obtain ⟨x, hx, hm⟩ : ∃ i, i < H ∧ n ∈ R i := Classical.byContradiction fun e => hf fun i hi hm => e ⟨i, hi, hm⟩
              obtain ⟨k, hk⟩ := List.getElem?_of_mem hm
              have hkl : k < (R x).length := (List.getElem?_eq_some_iff.1 hk).1
              have HK := Aside0.mk hk; have HM := Aside0.mk hm; clear hf hk hm
              obtain ⟨A, c, d2, d3, hlc⟩ := rf_row HR1.out hx
              have d1 := HR1.out.c1
              have hlen := HR1.out.len x hx
              obtain ⟨ad, rfl, hcl⟩ := d3.2.2 (by omega)
              by_cases hk2 : k + 1 < (R x).length
              · obtain ⟨y, hy⟩ : ∃ y, (R x)[k + 1]? = some y := ⟨_, List.getElem?_eq_getElem hk2⟩
                have hc1 := hcl (k + 1) hk2
                rw [ints_getD (R x) (k + 1) hk2, show (R x)[k + 1] = y from Option.some.inj ((List.getElem?_eq_getElem hk2).symm.trans hy)] at hc1
                have HY := Aside0.mk hy
                have hc1 : wr.cell? ⟨ad.block, ad.off + (k + 1), none⟩ = some (.int .i64 (y : Int)) := hc1
                clear hy hcl d3
                generalize (R x).length = m at *
                have hk3 : (k : Int) + 1 < (m : Int) := by omega
                have hk4 : ((k : Int) + 1).toNat = k + 1 := by omega
                go_wp2_with fail
                refine (of_at HR1.out n x k hx HK.out).mono ?_
                rintro e w' ⟨rfl, rfl⟩
                go_wp2_with fail
                refine (HL1.out.of hx HM.out).mono ?_
                rintro e w' ⟨rfl, rfl⟩
                go_wp2_with fail
                refine (HL1.out.next hx HK.out (y : Int) (atI_some HY.out)).mono ?_
                rintro e w' ⟨rfl, rfl⟩
                rw [toldI_nat, toldB_nat]
                go_wp2
                go_round
                case rel => exact ⟨n + 1, by omega, by omega, by go_num⟩
                case measure => simp [intOf]; omega
              · have HY := Aside0.mk (atI_none (l := R x) (k := k + 1) (by omega))
                clear hcl d3
                generalize (R x).length = m at *
                have hk3 : ¬ ((k : Int) + 1 < (m : Int)) := by omega
                go_wp2_with fail
                refine (of_at HR1.out n x k hx HK.out).mono ?_
                rintro e w' ⟨rfl, rfl⟩
                go_wp2_with fail
                refine (HL1.out.of hx HM.out).mono ?_
                rintro e w' ⟨rfl, rfl⟩
                go_wp2_with fail
                refine (HL1.out.next hx HK.out (-1) HY.out).mono ?_
                rintro e w' ⟨rfl, rfl⟩
                rw [toldI_no, toldB_no]
                go_wp2
                go_round
                case rel => exact ⟨n + 1, by omega, by omega, by go_num⟩
                case measure => simp [intOf]; omega
        · obtain rfl : j = N + 1 := by omega
          go_wp2
          go_ret
          exact ⟨rfl, HW.out⟩
end Go.Proofs.Yteiepbjajennkaa.ListHand
