/- The document's lists: Back, all its ways. Conditions: none. -/
import Derived.Test.YteiepbjajennkaaListRefNo
import Derived.RegionTactic
import Derived.BigRegion
import Derived.ChangeAlike
import Derived.Deep.RegionWith
import Derived.Deep.DrawnRows
import Derived.Deep.QuietTactic
import Derived.BigQuiet
import Derived.StillTailTactics

namespace Go.Proofs.Yteiepbjajennkaa.ListHand
set_option linter.unusedVariables false
open Go.RowKit Go.Proofs.YteiepbjajennkaaW.PrintWords Go.Proofs.YteiepbjajennkaaW.PrintMore
variable {w0 W : World} {lo q s N H : Nat} {R : Nat → List Nat}
theorem ints_getD (xs : List Nat) (j : Nat) (h : j < xs.length) : (ints xs).getD j 0 = (xs[j] : Int) := by simp [ints, h]
theorem back_rbad (h : Rf w0 lo W q s N H R) (x : Int) (hx : ¬(0 ≤ x ∧ x < H)) (A : Option Addr) (m c : Nat) :
    Calls Try.prog 24 #[.pointer (some ⟨q, 0, none⟩), .int .i64 x, .slice A m c] W fun e w' => e = .returned (.int .i64 (-17)) ∧ W = w' := by
  have HL := Aside0.mk h; clear h
  have HX := Aside0.mk hx; clear hx
  go_enter Try.func24, Try.ntmps24
  go_wp2_with fail
  refine (ref_head HL.out x false (decide_eq_false HX.out)).mono ?_
  rintro e w' ⟨rfl, rfl⟩
  go_wp2
  go_ret
  exact ⟨rfl, rfl⟩
set_option maxHeartbeats 1000000 in
theorem back_rnode (h : Rf w0 lo W q s N H R) (x : Nat) (hx : x < H) (xs : List Int) (hn : xs.length ≤ 1000) (A : Option Addr) (c m : Nat) (hm : m = xs.length) (hr : ReadsInt W .i64 A xs.length xs) (k : Nat) (hk : k < xs.length) (hbad : ¬ (0 ≤ xs[k] ∧ xs[k] < N)) (hok : ∀ j, (hj : j < k) → 0 ≤ xs[j] ∧ xs[j] < N) :
    Calls Try.prog 24 #[.pointer (some ⟨q, 0, none⟩), .int .i64 x, .slice A m c] W fun e w' => e = .returned (.int .i64 (-17)) ∧ W = w' := by
  subst hm
  have HL := Aside0.mk h; clear h
  have HR := Aside0.mk hr; clear hr
  have HB := Aside0.mk hbad; clear hbad
  have HO := Aside0.mk hok; clear hok
  have HX := Aside0.mk hx; clear hx
  go_enter Try.func24, Try.ntmps24
  go_wp2_with fail
  refine (ref_head HL.out x true (by have := HX.out; simp; omega)).mono ?_
  rintro e w' ⟨rfl, rfl⟩
  go_wp2
  go_loop [7] (fun i => ∃ j : Nat, j ≤ k ∧ i = .int .i64 j) (fun i => xs.length - (intOf i).toNat)
  case atStart => exact ⟨0, Nat.zero_le _, rfl⟩
  case round =>
    obtain ⟨j, hj, rfl⟩ := hrel
    have hlt : j < xs.length := by omega
    obtain ⟨ad, hA, hcell⟩ := HR.out.2.2 (by omega)
    have hx := hcell j hlt
    subst hA
    have hg : xs.getD j 0 = xs[j] := by simp [hlt]
    rw [hg] at hx
    clear hcell hg
    by_cases e : j = k
    · subst e
      have HB2 := Aside0.mk (show decide (0 ≤ xs[j] ∧ xs[j] < (N : Int)) = false from decide_eq_false HB.out)
      clear HB HO
      generalize xs[j] = x at *
      go_wp2_with fail
      refine (ref_node HL.out x false HB2.out).mono ?_
      rintro e w' ⟨rfl, rfl⟩
      go_wp2
      go_ret
      exact ⟨rfl, rfl⟩
    · have HB2 := Aside0.mk (show decide (0 ≤ xs[j] ∧ xs[j] < (N : Int)) = true from decide_eq_true (HO.out j (by omega)))
      clear HB HO
      generalize xs[j] = x at *
      go_wp2_with fail
      refine (ref_node HL.out x true HB2.out).mono ?_
      rintro e w' ⟨rfl, rfl⟩
      go_wp2
      go_round
      case rel => exact ⟨j + 1, by omega, by go_num⟩
      case measure => simp [intOf]; omega
set_option maxHeartbeats 4000000 in
set_option maxRecDepth 100000 in
theorem back_rheld (h : Rf w0 lo W q s N H R) (x : Nat) (hx : x < H) (xs : List Nat) (hN : ∀ n ∈ xs, n < N) (hlen : xs.length ≤ 1000) (A : Option Addr) (c m : Nat) (hm : m = xs.length) (hr : ReadsInt W .i64 A xs.length (ints xs))
    (k : Nat) (hk : k < xs.length) (hok : ∀ j, (hj : j < k) → (∀ i, i < H → xs[j] ∉ R i) ∧ xs[j] ∉ xs.take j) (hbad : (∃ y, y < H ∧ xs[k] ∈ R y) ∨ xs[k] ∈ xs.take k) :
    Calls Try.prog 24 #[.pointer (some ⟨q, 0, none⟩), .int .i64 x, .slice A m c] W fun e w' => e = .returned (.int .i64 (-41)) ∧ Below W.heap.size W w' := by
  subst hm
  have HL := Aside0.mk h; clear h
  have HWL := Aside0.mk HL.out.be.size
  have HX := Aside0.mk hx; have HN := Aside0.mk hN; have HR := Aside0.mk hr; clear hx hN hr
  have HO := Aside0.mk hok; have HB := Aside0.mk hbad; clear hok hbad
  go_enter Try.func24, Try.ntmps24
  go_wp2_with fail
  refine (ref_head HL.out x true (by have := HX.out; simp; omega)).mono ?_
  rintro e w' ⟨rfl, rfl⟩
  go_wp2
  go_loop [7] (fun i => ∃ j : Nat, j ≤ xs.length ∧ i = .int .i64 j) (fun i => xs.length - (intOf i).toNat)
  case atStart => exact ⟨0, Nat.zero_le _, rfl⟩
  case round =>
    obtain ⟨j, hj, rfl⟩ := hrel
    by_cases hlt : j < xs.length
    · obtain ⟨ad, hA, hcl⟩ := HR.out.2.2 (by omega)
      have hxj := hcl j hlt
      rw [ints_getD xs j hlt] at hxj
      have HJ := Aside0.mk (HN.out xs[j] (List.getElem_mem hlt))
      subst hA
      clear hcl
      generalize xs[j] = y at *
      go_wp2_with fail
      refine (ref_node HL.out y true (by have := HJ.out; simp; omega)).mono ?_
      rintro e w' ⟨rfl, rfl⟩
      go_wp2
      go_round
      case rel => exact ⟨j + 1, by omega, by go_num⟩
      case measure => simp [intOf]; omega
    · obtain rfl : j = xs.length := by omega
      go_wp2
      clear hj hlt
      go_loopw [8, 9, 10, 11] (fun i _ _ _ w' => ∃ j : Nat, j ≤ k ∧ i = .int .i64 j ∧ Aside0 (Below W.heap.size W w')) (fun i _ _ _ _ => xs.length - (intOf i).toNat)
      case atStart => exact ⟨0, Nat.zero_le _, rfl, ⟨Below.refl _ _⟩⟩
      case round =>
        obtain ⟨j, hj, rfl, HW⟩ := hrel
        have hlt : j < xs.length := by omega
        by_cases e : j = k
        · subst e
          have HLw := Aside0.mk (HL.out.below HW.out HWL.out)
          obtain ⟨ad, hA, hcl⟩ := (HR.out.below HW.out).2.2 (by omega)
          have hxj := hcl j hlt
          rw [ints_getD xs j hlt] at hxj
          subst hA
          have HBB := Aside0.mk HB.out
          have HY := Aside0.mk (show xs[j]? = some xs[j] from List.getElem?_eq_getElem hlt)
          clear hcl HB HO
          generalize xs[j] = y at *
          by_cases hf : ∀ i, i < H → y ∉ R i
          · have hmem : y ∈ xs.take j := HBB.out.resolve_left (fun ⟨i, hi, hm⟩ => hf i hi hm)
            obtain ⟨t0, ht0, et0⟩ := List.mem_take_iff_getElem.1 hmem
            have HF := Aside0.mk hf; clear hf
            have HT := Aside0.mk et0; clear et0 hmem HBB
            go_wp2_with fail
            refine (of_free HLw.out y HF.out).mono ?_
            rintro e w' ⟨rfl, rfl⟩
            go_wp2
            obtain ⟨wo, rfl⟩ : ∃ wo : World, wo = wr := ⟨_, rfl⟩
            clear hxj
            go_loopw [11] (fun i w' => ∃ t : Nat, t ≤ t0 ∧ i = .int .i64 t ∧ Aside0 (Below W.heap.size W w')) (fun i _ => xs.length - (intOf i).toNat)
            case atStart => exact ⟨0, Nat.zero_le _, rfl, HW⟩
            case round =>
              clear HW HLw
              obtain ⟨t, ht, rfl, HW⟩ := hrel
              have hlt2 : t < j := by omega
              obtain ⟨bd, hB, hcl⟩ := (HR.out.below HW.out).2.2 (by omega)
              cases hB
              have x1 := hcl t (by omega)
              have x2 := hcl j hlt
              rw [ints_getD xs t (by omega)] at x1
              rw [ints_getD xs j hlt, show xs[j] = y from Option.some.inj ((List.getElem?_eq_getElem hlt).symm.trans HY.out)] at x2
              have HZ := Aside0.mk (show xs[t]? = some xs[t] from List.getElem?_eq_getElem (by omega))
              clear hcl
              generalize xs[t] = z at *
              by_cases hzy : z = y
              · subst hzy
                go_wp2
                go_quiet (fail)
                have HW2 := Aside0.mk (below_drewN HW.out nq)
                go_wp2
                go_ret
                exact ⟨rfl, HW2.out⟩
              · have b1 : ((z : Int) == (y : Int)) = false := beq_eq_false_iff_ne.2 (by omega)
                have hne : t ≠ t0 := fun e => by
                  subst e
                  exact hzy (Option.some.inj (HZ.out.symm.trans ((List.getElem?_eq_getElem (by omega)).trans (congrArg some HT.out))))
                clear hzy
                go_wp2
                go_quiet (fail)
                have HW2 := Aside0.mk (below_drewN HW.out nq)
                go_wp2
                go_roundw
                case rel => exact ⟨t + 1, by omega, by go_num, HW2⟩
                case measure => simp [intOf]; omega
          · obtain ⟨i, hi, hm⟩ : ∃ i, i < H ∧ y ∈ R i := Classical.byContradiction fun e => hf fun i hi hm => e ⟨i, hi, hm⟩
            obtain ⟨p, hp⟩ := List.getElem?_of_mem hm
            have HP := Aside0.mk (And.intro hi hp); clear hi hp hm hf HBB
            go_wp2_with fail
            refine (of_at HLw.out y i p HP.out.1 HP.out.2).mono ?_
            rintro e w' ⟨rfl, rfl⟩
            go_wp2
            go_ret
            exact ⟨rfl, HW.out⟩
        · have hjk : j < k := by omega
          have HLw := Aside0.mk (HL.out.below HW.out HWL.out)
          obtain ⟨ad, hA, hcl⟩ := (HR.out.below HW.out).2.2 (by omega)
          have hxj := hcl j hlt
          rw [ints_getD xs j hlt] at hxj
          subst hA
          have HF := Aside0.mk (HO.out j hjk).1
          have HD := Aside0.mk (HO.out j hjk).2
          have HY := Aside0.mk (show xs[j]? = some xs[j] from List.getElem?_eq_getElem hlt)
          clear hcl
          generalize xs[j] = y at *
          go_wp2_with fail
          refine (of_free HLw.out y HF.out).mono ?_
          rintro e w' ⟨rfl, rfl⟩
          go_wp2
          obtain ⟨wo, rfl⟩ : ∃ wo : World, wo = wr := ⟨_, rfl⟩
          clear hxj
          go_loopw [11] (fun i w' => ∃ t : Nat, t ≤ j ∧ i = .int .i64 t ∧ Aside0 (Below W.heap.size W w')) (fun i _ => xs.length - (intOf i).toNat)
          case atStart => exact ⟨0, Nat.zero_le _, rfl, HW⟩
          case round =>
            clear HW HLw
            obtain ⟨t, ht, rfl, HW⟩ := hrel
            by_cases hlt2 : t < j
            · obtain ⟨bd, hB, hcl⟩ := (HR.out.below HW.out).2.2 (by omega)
              cases hB
              have x1 := hcl t (by omega)
              have x2 := hcl j hlt
              rw [ints_getD xs t (by omega)] at x1
              rw [ints_getD xs j hlt, show xs[j] = y from Option.some.inj ((List.getElem?_eq_getElem hlt).symm.trans HY.out)] at x2
              have hne : xs[t] ≠ y := fun e => HD.out (e ▸ List.mem_take_iff_getElem.2 ⟨t, by omega, rfl⟩)
              have b1 : ((xs[t] : Int) == (y : Int)) = false := beq_eq_false_iff_ne.2 (by omega)
              clear hcl hne
              generalize xs[t] = z at *
              go_wp2
              go_quiet (fail)
              have HW2 := Aside0.mk (below_drewN HW.out nq)
              go_wp2
              go_roundw
              case rel => exact ⟨t + 1, by omega, by go_num, HW2⟩
              case measure => simp [intOf]; omega
            · obtain rfl : t = j := by omega
              go_wp2
              go_roundw
              case rel => exact ⟨t + 1, by omega, by go_num, HW⟩
              case measure => simp [intOf]; omega
set_option maxHeartbeats 4000000 in
set_option maxRecDepth 100000 in
theorem back_ref (h : Rf w0 lo W q s N H R) (x : Nat) (hx : x < H) (xs : List Nat) (hN : ∀ n ∈ xs, n < N) (hfree : ∀ n ∈ xs, ∀ j, j < H → n ∉ R j) (hdup : xs.Nodup) (hlen : xs.length ≤ 1000) (A : Option Addr) (c m : Nat) (hm : m = xs.length) (hr : ReadsInt W .i64 A xs.length (ints xs)) (hAs : ∀ ad, A = some ad → 0 < xs.length → ad.block ≠ s) :
    Calls Try.prog 24 #[.pointer (some ⟨q, 0, none⟩), .int .i64 x, .slice A m c] W fun e w' => e = .returned (.int .i64 0) ∧ Rf w0 lo w' q s N H (setR R x (R x ++ xs)) ∧ KB W w' s s := by
  subst hm
  have HL := Aside0.mk h; clear h
  have HWL := Aside0.mk HL.out.be.size
  have HX := Aside0.mk hx; have HN := Aside0.mk hN; have HR := Aside0.mk hr; clear hx hN hr
  have HFR := Aside0.mk hfree; have HDU := Aside0.mk hdup; have HAS := Aside0.mk hAs; clear hfree hdup hAs
  go_enter Try.func24, Try.ntmps24
  go_wp2_with fail
  refine (ref_head HL.out x true (by have := HX.out; simp; omega)).mono ?_
  rintro e w' ⟨rfl, rfl⟩
  go_wp2
  go_loop [7] (fun i => ∃ j : Nat, j ≤ xs.length ∧ i = .int .i64 j) (fun i => xs.length - (intOf i).toNat)
  case atStart => exact ⟨0, Nat.zero_le _, rfl⟩
  case round =>
    obtain ⟨j, hj, rfl⟩ := hrel
    by_cases hlt : j < xs.length
    · obtain ⟨ad, hA, hcl⟩ := HR.out.2.2 (by omega)
      have hxj := hcl j hlt
      rw [ints_getD xs j hlt] at hxj
      have HJ := Aside0.mk (HN.out xs[j] (List.getElem_mem hlt))
      subst hA
      clear hcl
      generalize xs[j] = y at *
      go_wp2_with fail
      refine (ref_node HL.out y true (by have := HJ.out; simp; omega)).mono ?_
      rintro e w' ⟨rfl, rfl⟩
      go_wp2
      go_round
      case rel => exact ⟨j + 1, by omega, by go_num⟩
      case measure => simp [intOf]; omega
    · obtain rfl : j = xs.length := by omega
      go_wp2
      clear hj hlt
      go_loopw [8, 9, 10, 11] (fun i _ _ _ w' => ∃ j : Nat, j ≤ xs.length ∧ i = .int .i64 j ∧ Aside0 (Below W.heap.size W w')) (fun i _ _ _ _ => xs.length - (intOf i).toNat)
      case atStart => exact ⟨0, Nat.zero_le _, rfl, ⟨Below.refl _ _⟩⟩
      case round =>
        obtain ⟨j, hj, rfl, HW⟩ := hrel
        by_cases hlt : j < xs.length
        · skip
          have HLw := Aside0.mk (HL.out.below HW.out HWL.out)
          obtain ⟨ad, hA, hcl⟩ := (HR.out.below HW.out).2.2 (by omega)
          have hxj := hcl j hlt
          rw [ints_getD xs j hlt] at hxj
          subst hA
          have HF := Aside0.mk (HFR.out xs[j] (List.getElem_mem hlt))
          have HD := Aside0.mk (show xs[j] ∉ xs.take j from fun hin => by
            obtain ⟨i', hi', e2⟩ := List.mem_take_iff_getElem.1 hin
            have := (List.getElem_inj HDU.out).1 e2
            omega)
          have HY := Aside0.mk (show xs[j]? = some xs[j] from List.getElem?_eq_getElem hlt)
          clear hcl
          generalize xs[j] = y at *
          go_wp2_with fail
          refine (of_free HLw.out y HF.out).mono ?_
          rintro e w' ⟨rfl, rfl⟩
          go_wp2
          obtain ⟨wo, rfl⟩ : ∃ wo : World, wo = wr := ⟨_, rfl⟩
          clear hxj
          go_loopw [11] (fun i w' => ∃ t : Nat, t ≤ j ∧ i = .int .i64 t ∧ Aside0 (Below W.heap.size W w')) (fun i _ => xs.length - (intOf i).toNat)
          case atStart => exact ⟨0, Nat.zero_le _, rfl, HW⟩
          case round =>
            clear HW HLw
            obtain ⟨t, ht, rfl, HW⟩ := hrel
            by_cases hlt2 : t < j
            · obtain ⟨bd, hB, hcl⟩ := (HR.out.below HW.out).2.2 (by omega)
              cases hB
              have x1 := hcl t (by omega)
              have x2 := hcl j hlt
              rw [ints_getD xs t (by omega)] at x1
              rw [ints_getD xs j hlt, show xs[j] = y from Option.some.inj ((List.getElem?_eq_getElem hlt).symm.trans HY.out)] at x2
              have hne : xs[t] ≠ y := fun e => HD.out (e ▸ List.mem_take_iff_getElem.2 ⟨t, by omega, rfl⟩)
              have b1 : ((xs[t] : Int) == (y : Int)) = false := beq_eq_false_iff_ne.2 (by omega)
              clear hcl hne
              generalize xs[t] = z at *
              go_wp2
              go_quiet (fail)
              have HW2 := Aside0.mk (below_drewN HW.out nq)
              go_wp2
              go_roundw
              case rel => exact ⟨t + 1, by omega, by go_num, HW2⟩
              case measure => simp [intOf]; omega
            · obtain rfl : t = j := by omega
              go_wp2
              go_roundw
              case rel => exact ⟨t + 1, by omega, by go_num, HW⟩
              case measure => simp [intOf]; omega
        · obtain rfl : j = xs.length := by omega
          clear hlt hj
          go_wp2
          have HW1 := HW
          have HL1 := Aside0.mk (HL.out.below HW.out HWL.out)
          have HR1 := Aside0.mk (HR.out.below HW.out)
          clear HW
          go_loopw [12] (fun i w' => ∃ j : Nat, j ≤ xs.length ∧ i = .int .i64 j ∧ Aside0 (Rf w0 lo w' q s N H (setR R x (R x ++ xs.take j))) ∧ Aside0 (KB W w' s s)) (fun i _ => xs.length - (intOf i).toNat)
          case atStart => exact ⟨0, Nat.zero_le _, rfl, ⟨by rw [List.take_zero, List.append_nil, setR_self]; exact HL1.out⟩, ⟨KB.of_below HW1.out s s⟩⟩
          case round =>
            clear HL1 HR1 HW1
            obtain ⟨j, hj, rfl, HLj, HKj⟩ := hrel
            by_cases hlt : j < xs.length
            · obtain ⟨ad, hAd, hcell⟩ := HR.out.2.2 (by omega)
              have hAb := HAS.out ad hAd (by omega)
              have hxj := hcell j hlt
              rw [ints_getD xs j hlt] at hxj
              have hxj := (HKj.out.cell (World.block_lt_of_cell? W _ hxj) (by rw [add_block]; exact hAb) (by rw [add_block]; exact hAb)).trans hxj
              subst hAd
              clear hcell hAb
              have d1 := HLj.out.c1
              obtain ⟨v, e1, e2, e3⟩ := HLj.out.row x HX.out
              rw [setR_at] at e2
              have hle : ∀ (A : Option Addr) c, v = .slice A (R x ++ xs.take j).length c → (R x ++ xs.take j).length ≤ c := fun A c e => own_le (e ▸ e2)
              obtain ⟨A2, c2, rfl, e4⟩ := own_reads e2
              clear e2 e3 e4 hle
              have hH := HLj.out.H1
              have hxH := HX.out
              have HT := Aside0.mk (List.take_succ_eq_append_getElem hlt)
              have hm := List.getElem_mem hlt
              have hnN := HN.out _ hm
              have HFREE := Aside0.mk (show ∀ i, i < H → xs[j] ∉ setR R x (R x ++ xs.take j) i from fun i hi hin => by
                by_cases e : i = x
                · subst e
                  rw [setR_at] at hin
                  rcases List.mem_append.1 hin with q | q
                  · exact HFR.out _ hm i hi q
                  · obtain ⟨i', hi', e2⟩ := List.mem_take_iff_getElem.1 q
                    have := (List.getElem_inj HDU.out).1 e2
                    omega
                · rw [setR_ne _ _ e] at hin
                  exact HFR.out _ hm i hi hin)
              have HP := Aside0.mk (fun (w' : World) (hl : Rf w0 lo w' q s N H (setR R x (R x ++ xs.take j))) => put_in hl x (R x ++ xs.take j).length xs[j] HX.out (by rw [setR_at]; exact Nat.le_refl _) hnN HFREE.out)
              have hz : (R x ++ xs.take j).length ≤ 1024 := by have h1 := HLj.out.len x HX.out; have h2 := HLj.out.N1; rw [setR_at] at h1; omega
              rw [setR_at, insertIdx_end, setR_setR, List.append_assoc, ← HT.out] at HP
              clear HFREE hm HT hnN
              generalize xs[j] = n at *
              generalize (R x ++ xs.take j).length = z at *
              go_wp2
              go_still_tail 14, (by kernel_rfl)
              change wpList _ _ _ _ _ wr.drew
              have HPd := Aside0.mk (HP.out wr.drew (HLj.out.below (below_drew (Below.refl _ _)) (Nat.le_trans HWL.out HKj.out.size)))
              have HKd := Aside0.mk HKj.out.drew
              clear HP
              generalize wr.drew = w2 at *
              go_wp2_with fail
              refine HPd.out.mono ?_
              rintro e w3 ⟨rfl, h2, k2⟩
              have H2 := Aside0.mk h2
              have K2 := Aside0.mk (HKd.out.trans k2)
              clear h2 k2
              go_wp2
              go_roundw
              case rel => exact ⟨j + 1, by omega, by go_num, H2, K2⟩
              case measure => simp [intOf]; omega
            · obtain rfl : j = xs.length := by omega
              rw [List.take_length] at HLj
              go_wp2
              go_ret
              exact ⟨rfl, HLj.out, HKj.out⟩
end Go.Proofs.Yteiepbjajennkaa.ListHand
