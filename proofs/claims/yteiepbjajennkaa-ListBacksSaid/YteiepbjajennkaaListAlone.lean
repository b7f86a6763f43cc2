/- A node taken out and put back behind stands last; the others keep their order: the walk of ListAlone. Conditions: none. -/
import Derived.Test.YteiepbjajennkaaListKnown
namespace Go.Proofs.Yteiepbjajennkaa.ListHand
set_option linter.unusedVariables false
open Go.RowKit Go.Proofs.YteiepbjajennkaaW.PrintWords Go.Proofs.YteiepbjajennkaaW.PrintMore
/-- The one row, its other ones empty. -/
def row0 (l : List Nat) : Nat → List Nat := setR (fun _ => []) 0 l
theorem row0_at (l : List Nat) : row0 l 0 = l := setR_at _ _ _
theorem row0_set (l l' : List Nat) : setR (row0 l) 0 l' = row0 l' := setR_setR _ _ _ _
theorem row0_not {l : List Nat} {n : Nat} (h : n ∉ l) (j : Nat) : n ∉ row0 l j := by
  unfold row0 setR
  split
  · exact h
  · simp
theorem row0_nil : (fun _ => [] : Nat → List Nat) = row0 [] := by
  funext j; unfold row0 setR; split <;> rfl
theorem range_snoc (i : Nat) : List.range i ++ [i] = List.range (i + 1) := List.range_succ.symm
/-- The numbers below m + 1 but q, and q behind them. -/
def alone (m q : Nat) : List Nat := (List.range (m + 1)).eraseIdx q ++ [q]
theorem alone_len (m q : Nat) (h : q ≤ m) : (alone m q).length = m + 1 := by
  unfold alone
  rw [List.length_append, List.length_eraseIdx, if_pos (by rw [List.length_range]; omega), List.length_range]; rfl
theorem alone_at (m q i : Nat) (h : q ≤ m) (hi : i < m) : (ints (alone m q)).getD i 0 = if i < q then (i : Int) else (i : Int) + 1 := by
  have hl : ((List.range (m + 1)).eraseIdx q).length = m := by rw [List.length_eraseIdx, if_pos (by rw [List.length_range]; omega), List.length_range]; rfl
  have e : (alone m q)[i]? = some (if i < q then i else i + 1) := by
    unfold alone
    rw [List.getElem?_append_left (by omega), List.getElem?_eraseIdx]
    split
    · rw [List.getElem?_range (by omega)]
    · rw [List.getElem?_range (by omega)]
  unfold ints
  rw [List.getD_eq_getElem?_getD, List.getElem?_map, e]
  simp only [Option.map_some, Option.getD_some]
  split <;> omega
theorem alone_last (m q : Nat) (h : q ≤ m) : (ints (alone m q)).getD m 0 = (q : Int) := by
  have hl : ((List.range (m + 1)).eraseIdx q).length = m := by rw [List.length_eraseIdx, if_pos (by rw [List.length_range]; omega), List.length_range]; rfl
  have e : (alone m q)[m]? = some q := by
    unfold alone
    rw [List.getElem?_append_right (by omega), hl, Nat.sub_self]; rfl
  unfold ints
  rw [List.getD_eq_getElem?_getD, List.getElem?_map, e]; rfl
theorem not_erase (m q : Nat) (h : q ≤ m) : q ∉ (List.range (m + 1)).eraseIdx q := by
  intro hm
  obtain ⟨j, hj⟩ := List.getElem?_of_mem hm
  rw [List.getElem?_eraseIdx] at hj
  split at hj
  · rw [List.getElem?_range (by omega)] at hj
    have := Option.some.inj hj; omega
  · by_cases h2 : j + 1 < m + 1
    · rw [List.getElem?_range h2] at hj
      have := Option.some.inj hj; omega
    · rw [List.getElem?_eq_none (by rw [List.length_range]; omega)] at hj; cases hj
set_option maxHeartbeats 4000000 in
set_option maxRecDepth 100000 in
theorem alone_in (m q : Nat) (hm : m + 1 ≤ 200) (hq : q ≤ m) (w : World) : Calls Try.prog 4 #[.int .i64 ((m + 1 : Nat) : Int), .int .i64 q] w fun e w' => e = .returned (.bool true) ∧ Below w.heap.size w w' := by
  have en : ((m + 1 : Nat) : Int) - 1 = (m : Int) := by omega
  generalize hNN : ((m + 1 : Nat) : Int) = NN at *
  have KN := Aside0.mk hNN
  have m0 : 1 ≤ NN := by omega
  have m1 : NN ≤ 200 := by omega
  have m2 : (q : Int) < NN := by omega
  clear hNN
  have HQ := Aside0.mk hq; clear hq
  have HM := Aside0.mk hm; clear hm
  go_enter Try.func4, Try.ntmps4
  go_wp2_with fail
  refine (known_calls w).mono ?_
  rintro e w1 ⟨rfl, h1⟩
  have H1 := Aside0.mk h1; clear h1
  go_wp2_with fail
  rw [← KN.out]
  refine (new_calls (w0 := w) (m + 1) 1 (by have := HM.out; omega) (by omega) H1.out).mono ?_
  rintro e w2 ⟨g, a, b, rfl, h2, _⟩
  rw [row0_nil] at h2
  have H2 := Aside0.mk h2; clear h2
  rw [KN.out]
  go_wp2
  go_loopw [7] (fun i w' => ∃ j : Nat, j ≤ m + 1 ∧ i = .int .i64 j ∧ Aside0 (LR w w' g a b (m + 1) 1 (row0 (List.range j)))) (fun i _ => m + 1 - (intOf i).toNat)
  case atStart => exact ⟨0, Nat.zero_le _, rfl, H2⟩
  case round =>
    clear H2
    obtain ⟨j, hj, rfl, HLj⟩ := hrel
    by_cases hlt : j < m + 1
    · have l1 : (j : Int) < NN := by have := KN.out; omega
      go_wp2_with fail
      refine (HLj.out.back1 0 j (by omega) hlt (fun i _ => row0_not (by simp) i)).mono ?_
      rintro e w3 ⟨rfl, h3, _⟩
      rw [row0_at, row0_set, range_snoc] at h3
      have H3 := Aside0.mk h3; clear h3
      go_wp2
      go_roundw
      case rel => exact ⟨j + 1, by omega, by go_num, H3⟩
      case measure => simp [intOf]; omega
    · obtain rfl : j = m + 1 := by omega
      have l1 : ¬ (((m + 1 : Nat) : Int) < NN) := by have := KN.out; omega
      go_wp2_with fail
      refine (HLj.out.out 0 q q (by omega) (by rw [row0_at, List.getElem?_range (by have := HQ.out; omega)])).mono ?_
      rintro e w3 ⟨rfl, h3, _⟩
      rw [row0_at, row0_set] at h3
      have H3 := Aside0.mk h3; clear h3
      go_wp2_with fail
      refine (H3.out.removed_free q (by have := HQ.out; omega) (fun i _ => row0_not (not_erase m q HQ.out) i)).mono ?_
      rintro e w4 ⟨rfl, rfl⟩
      go_wp2_with fail
      refine (H3.out.back1 0 q (by omega) (by have := HQ.out; omega) (fun i _ => row0_not (not_erase m q HQ.out) i)).mono ?_
      rintro e w5 ⟨rfl, h5, _⟩
      rw [row0_at, row0_set] at h5
      have H5 := Aside0.mk (show LR w w5 g a b (m + 1) 1 (row0 (alone m q)) from h5); clear h5
      go_wp2_with fail
      refine (row_calls H5.out 0 (by omega)).mono ?_
      rintro e w6 ⟨v, rfl, ho, hb⟩
      rw [row0_at] at ho
      obtain ⟨A, c, rfl, hr, hlen⟩ := row_slice ho
      rw [alone_len m q HQ.out] at hr hlen
      have HB := Aside0.mk (H5.out.below hb).be; clear ho hb
      obtain ⟨ad, hA, hcell⟩ := hr.2.2 (by omega)
      subst hA
      have hx := hcell m (by omega)
      rw [alone_last m q HQ.out] at hx
      have el : (((alone m q).length : Nat) : Int) = NN := by rw [alone_len m q HQ.out]; exact KN.out
      have HC := Aside0.mk hcell; clear hcell hr hlen
      rw [alone_len m q HQ.out] at el ⊢
      go_wp2
      go_loop [12, 13] (fun k i => ∃ j : Nat, j ≤ m ∧ i = .int .i64 j ∧ k = .int .i64 (if j ≤ q then (j : Int) else (j : Int) + 1)) (fun _ i => m + 1 - (intOf i).toNat)
      case atStart => exact ⟨0, Nat.zero_le _, rfl, rfl⟩
      case round =>
        obtain ⟨j, hj, rfl, rfl⟩ := hrel
        by_cases hlt : j < m
        · have hx := HC.out j (by omega)
          rw [alone_at m q j HQ.out hlt] at hx
          by_cases h1 : j < q
          · rw [if_pos h1] at hx
            rw [if_pos (by omega)]
            have b1 : ((j : Int) == (q : Int)) = false := beq_eq_false_iff_ne.2 (by omega)
            go_wp2
            go_round
            case rel => exact ⟨j + 1, by omega, by go_num, by rw [if_pos (by omega)]; go_num⟩
            case measure => simp [intOf]; omega
          · rw [if_neg h1] at hx
            by_cases h2 : j = q
            · subst h2
              rw [if_pos (Nat.le_refl _)]
              go_wp2
              go_round
              case rel => exact ⟨j + 1, by omega, by go_num, by rw [if_neg (by omega)]; go_num⟩
              case measure => simp [intOf]; omega
            · rw [if_neg (by omega)]
              have b1 : ((j : Int) + 1 == (q : Int)) = false := beq_eq_false_iff_ne.2 (by omega)
              go_wp2
              go_round
              case rel => exact ⟨j + 1, by omega, by go_num, by rw [if_neg (by omega)]; go_num⟩
              case measure => simp [intOf]; omega
        · obtain rfl : j = m := by omega
          go_wp2
          all_goals (go_ret; exact ⟨rfl, HB.out⟩)
set_option maxHeartbeats 2000000 in
theorem alone_out (n q : Int) (h : n < 1 ∨ 200 < n ∨ q < 0 ∨ n ≤ q) (w : World) : Calls Try.prog 4 #[.int .i64 n, .int .i64 q] w fun e w' => e = .returned (.bool true) ∧ Below w.heap.size w w' := by
  by_cases h0 : n < 1
  · clear h
    go_enter Try.func4, Try.ntmps4
    go_wp2_with fail
    refine (known_calls w).mono ?_
    rintro e w1 ⟨rfl, h1⟩
    have H1 := Aside0.mk h1; clear h1
    go_wp2
    go_ret
    exact ⟨rfl, H1.out⟩
  · by_cases h1 : 200 < n
    · clear h
      go_enter Try.func4, Try.ntmps4
      go_wp2_with fail
      refine (known_calls w).mono ?_
      rintro e w1 ⟨rfl, h1⟩
      have H1 := Aside0.mk h1; clear h1
      go_wp2
      go_ret
      exact ⟨rfl, H1.out⟩
    · by_cases h2 : q < 0
      · clear h
        go_enter Try.func4, Try.ntmps4
        go_wp2_with fail
        refine (known_calls w).mono ?_
        rintro e w1 ⟨rfl, h1⟩
        have H1 := Aside0.mk h1; clear h1
        go_wp2
        go_ret
        exact ⟨rfl, H1.out⟩
      · have h3 : n ≤ q := by omega
        clear h
        go_enter Try.func4, Try.ntmps4
        go_wp2_with fail
        refine (known_calls w).mono ?_
        rintro e w1 ⟨rfl, h1⟩
        have H1 := Aside0.mk h1; clear h1
        go_wp2
        go_ret
        exact ⟨rfl, H1.out⟩
theorem alone_walk (a0 a1 : Int) (w : World) (w0 : (Lit.int .i64 a0).wf = true) (w1 : (Lit.int .i64 a1).wf = true) : Calls Try.prog 4 #[.int .i64 a0, .int .i64 a1] w fun e w' => e = .returned (.bool true) ∧ Below w.heap.size w w' := by
  by_cases h : a0 < 1 ∨ 200 < a0 ∨ a1 < 0 ∨ a0 ≤ a1
  · exact alone_out a0 a1 h w
  · obtain ⟨n, rfl⟩ : ∃ n : Nat, a0 = ((n + 1 : Nat) : Int) := ⟨(a0 - 1).toNat, by omega⟩
    obtain ⟨q, rfl⟩ : ∃ q : Nat, a1 = q := ⟨a1.toNat, by omega⟩
    exact alone_in n q (by omega) (by omega) w
end Go.Proofs.Yteiepbjajennkaa.ListHand
