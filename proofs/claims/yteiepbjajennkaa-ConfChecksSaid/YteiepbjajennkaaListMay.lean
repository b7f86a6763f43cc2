/- Whether nodes may come into a row. Conditions: none. -/
import Derived.Test.YteiepbjajennkaaListSet
import Derived.OwnWalk
namespace Go.Proofs.Yteiepbjajennkaa.ListHand
set_option linter.unusedVariables false
open Go.RowKit Go.Proofs.YteiepbjajennkaaW.PrintWords
variable {w0 W : World} {g a b N H : Nat} {ca cb : Nat → Int}
theorem Ls.KBrefl (h : Ls w0 W g a b N H ca cb) : KB W W a b := KB.refl _ _ _
theorem may_head (h : Ls w0 W g a b N H ca cb) (hd : Int) (xs : List Int) (A : Option Addr) (c : Nat) (hh : hd < 0 ∨ H ≤ hd) :
    Calls Try.prog 39 #[.pointer (some ⟨g, 0, none⟩), .int .i64 hd, .slice A xs.length c] W fun e w' => e = .returned (.int .i64 (-17)) ∧ W = w' := by
  have HL := Aside0.mk h; clear h
  have HN := Aside0.mk hh; clear hh
  go_enter Try.func39, Try.ntmps39
  go_wp2_with fail
  refine (head_calls HL.out hd false (by have := HN.out; simp; omega)).mono ?_
  rintro e w' ⟨rfl, rfl⟩
  go_wp2
  go_ret
  exact ⟨rfl, rfl⟩
set_option maxHeartbeats 1000000 in
theorem may_node (h : Ls w0 W g a b N H ca cb) (hd : Nat) (hh : hd < H) (xs : List Int) (hn : xs.length ≤ 1000) (A : Option Addr) (c m : Nat) (hm : m = xs.length) (hr : ReadsInt W .i64 A xs.length xs) (k : Nat) (hk : k < xs.length) (hbad : xs[k] < 0 ∨ (N : Int) ≤ xs[k]) (hok : ∀ j, (hj : j < k) → 0 ≤ xs[j] ∧ xs[j] < N) :
    Calls Try.prog 39 #[.pointer (some ⟨g, 0, none⟩), .int .i64 hd, .slice A m c] W fun e w' => e = .returned (.int .i64 (-17)) ∧ W = w' := by
  subst hm
  have HL := Aside0.mk h; clear h
  have HR := Aside0.mk hr; clear hr
  have HB := Aside0.mk hbad; clear hbad
  have HO := Aside0.mk hok; clear hok
  go_enter Try.func39, Try.ntmps39
  go_wp2_with fail
  refine (head_calls HL.out hd true (by simp; omega)).mono ?_
  rintro e w' ⟨rfl, rfl⟩
  go_wp2
  go_loop [18] (fun i => ∃ j : Nat, j ≤ k ∧ i = .int .i64 j) (fun i => xs.length - (intOf i).toNat)
  case atStart => exact ⟨0, Nat.zero_le _, rfl⟩
  case round =>
    obtain ⟨j, hj, rfl⟩ := hrel
    have hlt : j < xs.length := by omega
    obtain ⟨ad, hA, hcell⟩ := HR.out.2.2 (by omega)
    have hx := hcell j hlt
    subst hA
    have hg : xs.getD j 0 = xs[j] := by simp [hlt]
    rw [hg] at hx
    clear hcell hg
    by_cases e : j = k
    · subst e
      have HB2 := Aside0.mk (show decide (0 ≤ xs[j] ∧ xs[j] < (N : Int)) = false by have := HB.out; simp; omega)
      clear HB HO
      generalize xs[j] = x at *
      go_wp2_with fail
      refine (node_calls HL.out x false HB2.out).mono ?_
      rintro e w' ⟨rfl, rfl⟩
      go_wp2
      go_ret
      exact ⟨rfl, rfl⟩
    · have HB2 := Aside0.mk (show decide (0 ≤ xs[j] ∧ xs[j] < (N : Int)) = true by have := HO.out j (by omega); simp; omega)
      clear HB HO
      generalize xs[j] = x at *
      go_wp2_with fail
      refine (node_calls HL.out x true HB2.out).mono ?_
      rintro e w' ⟨rfl, rfl⟩
      go_wp2
      go_round
      case rel => exact ⟨j + 1, by omega, by go_num⟩
      case measure => simp [intOf]; omega
/-- The world behind the map that a call makes. -/
def MayW (W w' : World) (S : List Int) : Prop := SetIs w' W.heap.size S ∧ Below W.heap.size W w'
theorem MayW.made (W : World) : MayW W (W.alloc (.map #[] 0)) [] := ⟨SetIs.made W, below_alloc (Below.refl _ _) _⟩
theorem MayW.fill {W w' : World} {S : List Int} (h : MayW W w' S) {x : Int} (hx : x ∉ S) : ∃ w2, (Instr.mapUpdate 166 (.map (some W.heap.size)) (.int .i64 x) (.bool true)).run Try.prog w' = .ok () w2 ∧ MayW W w2 (S ++ [x]) := by
  obtain ⟨w2, h1, h2, h3⟩ := fill_run (P := Try.prog) Try.underlying166 Try.underlying3 h.1 hx
  have b := h3 W.heap.size (Nat.le_refl _)
  exact ⟨w2, h1, h2, h.2.trans b⟩
theorem info4 : (Try.prog.info? 4).map (fun i => (i.zero, i.size, i.bytes)) = some (some (.bool false), 1, 1) := by kernel_rfl
theorem MayW.out {W w' : World} {S : List Int} (h : MayW W w' S) {x : Int} (hx : x ∉ S) : (Instr.lookup 166 (.map (some W.heap.size)) (.int .i64 x) false).run Try.prog w' = .ok (.bool false) w' := by
  obtain ⟨i, hi, hz, _, _⟩ := info_parts info4
  exact look_out Try.underlying166 Try.underlying3 h.1 hx hi hz
theorem MayW.isIn {W w' : World} {S : List Int} (h : MayW W w' S) {x : Int} (hx : x ∈ S) : (Instr.lookup 166 (.map (some W.heap.size)) (.int .i64 x) false).run Try.prog w' = .ok (.bool true) w' := look_in Try.underlying166 Try.underlying3 h.1 hx
set_option maxHeartbeats 2000000 in
/-- All are nodes: the first k are free, and each another one; the one at k is not (if there is one at k). -/
theorem may_all (h : Ls w0 W g a b N H ca cb) (hd : Nat) (hh : hd < H) (xs : List Int) (hn : xs.length ≤ 1000) (A : Option Addr) (c m : Nat) (hm : m = xs.length) (hr : ReadsInt W .i64 A xs.length xs) (hall : ∀ x ∈ xs, 0 ≤ x ∧ x < N)
    (k : Nat) (hk : k ≤ xs.length) (hok : ∀ j, (hj : j < k) → ca (xs[j].toNat * 3) = -1 ∧ xs[j] ∉ xs.take j) (hbad : (hj : k < xs.length) → ca (xs[k].toNat * 3) ≠ -1 ∨ xs[k] ∈ xs.take k) (r : Int) (hrr : (if k < xs.length then (-41 : Int) else 0) = r) :
    Calls Try.prog 39 #[.pointer (some ⟨g, 0, none⟩), .int .i64 hd, .slice A m c] W fun e w' => e = .returned (.int .i64 r) ∧ Below W.heap.size W w' := by
  subst hm
  have hmm := @run_makeMap Try.prog
  have HL := Aside0.mk h; clear h
  have HR := Aside0.mk hr; clear hr
  have HA := Aside0.mk hall; clear hall
  have HB := Aside0.mk hbad; clear hbad
  have HO := Aside0.mk hok; clear hok
  have HRR := Aside0.mk hrr; clear hrr
  go_enter Try.func39, Try.ntmps39
  go_wp2_with fail
  refine (head_calls HL.out hd true (by simp; omega)).mono ?_
  rintro e w' ⟨rfl, rfl⟩
  go_wp2
  go_loop [18] (fun i => ∃ j : Nat, j ≤ xs.length ∧ i = .int .i64 j) (fun i => xs.length - (intOf i).toNat)
  case atStart => exact ⟨0, Nat.zero_le _, rfl⟩
  case round =>
    obtain ⟨j, hj, rfl⟩ := hrel
    by_cases hlt : j < xs.length
    · obtain ⟨ad, hA, hcell⟩ := HR.out.2.2 (by omega)
      have hx := hcell j hlt
      subst hA
      have hg : xs.getD j 0 = xs[j] := by simp [hlt]
      rw [hg] at hx
      have HB2 := Aside0.mk (show decide (0 ≤ xs[j] ∧ xs[j] < (N : Int)) = true by have := HA.out xs[j] (List.getElem_mem hlt); simp; omega)
      clear hcell hg HA HB HO HRR HR
      generalize xs[j] = x at *
      go_wp2_with fail
      refine (node_calls HL.out x true HB2.out).mono ?_
      rintro e w' ⟨rfl, rfl⟩
      go_wp2
      go_round
      case rel => exact ⟨j + 1, by omega, by go_num⟩
      case measure => simp [intOf]; omega
    · obtain rfl : j = xs.length := by omega
      go_wp2_with fail
      go_loopw [30] (fun i w' => ∃ j : Nat, j ≤ k ∧ i = .int .i64 j ∧ Aside0 (MayW W w' (xs.take j))) (fun i _ => xs.length - (intOf i).toNat)
      case atStart => exact ⟨0, Nat.zero_le _, rfl, ⟨MayW.made W⟩⟩
      case round =>
        obtain ⟨j, hj, rfl, HM⟩ := hrel
        have HLw := Aside0.mk (HL.out.below HM.out.2)
        by_cases hlt : j < xs.length
        · obtain ⟨ad, hA, hcell⟩ := (HR.out.below HM.out.2).2.2 (by omega)
          have hx := hcell j hlt
          subst hA
          have hg : xs.getD j 0 = xs[j] := by simp [hlt]
          rw [hg] at hx
          obtain ⟨x0, x1⟩ := HA.out xs[j] (List.getElem_mem hlt)
          by_cases e : j = k
          · subst e
            have HB2 := Aside0.mk (HB.out hlt)
            have HR2 := HRR.out
            rw [if_pos hlt] at HR2
            subst HR2
            clear hcell hg HA HB HO HR
            generalize xs[j] = x at *
            obtain ⟨y, rfl⟩ : ∃ y : Nat, x = y := ⟨x.toNat, by omega⟩
            rw [Int.toNat_natCast] at HB2
            have hy : y < N := by omega
            by_cases hin : ca (y * 3) = -1
            · have hmem : (y : Int) ∈ xs.take j := by
                rcases HB2.out with q | q
                · exact absurd hin q
                · exact q
              have hlook := HM.out.isIn hmem
              go_wp2_with fail
              refine (in_calls HLw.out y hy false (by rw [hin]; rfl)).mono ?_
              rintro e w' ⟨rfl, rfl⟩
              go_wp2
              go_ret
              exact ⟨rfl, HM.out.2⟩
            · go_wp2_with fail
              refine (in_calls HLw.out y hy true (by simpa using hin)).mono ?_
              rintro e w' ⟨rfl, rfl⟩
              go_wp2
              go_ret
              exact ⟨rfl, HM.out.2⟩
          · obtain ⟨o1, o2⟩ := HO.out j (by omega)
            have HT := Aside0.mk (List.take_succ_eq_append_getElem hlt)
            clear hcell hg HA HB HO HR HRR
            have HO2 := Aside0.mk o1; clear o1
            generalize xs[j] = x at *
            obtain ⟨y, rfl⟩ : ∃ y : Nat, x = y := ⟨x.toNat, by omega⟩
            rw [Int.toNat_natCast] at HO2
            have hy : y < N := by omega
            have hlook := HM.out.out o2
            obtain ⟨w2, hfill, hM2⟩ := HM.out.fill o2
            have HM2 := Aside0.mk hM2; clear hM2 o2
            go_wp2_with fail
            refine (in_calls HLw.out y hy false (by rw [HO2.out]; rfl)).mono ?_
            rintro e w' ⟨rfl, rfl⟩
            go_wp2
            go_roundw
            case rel => exact ⟨j + 1, by omega, by go_num, ⟨by rw [HT.out]; exact HM2.out⟩⟩
            case measure => simp [intOf]; omega
        · obtain rfl : j = xs.length := by omega
          have HR2 := HRR.out
          rw [if_neg (by omega)] at HR2
          subst HR2
          go_wp2
          go_ret
          exact ⟨rfl, HM.out.2⟩
end Go.Proofs.Yteiepbjajennkaa.ListHand
