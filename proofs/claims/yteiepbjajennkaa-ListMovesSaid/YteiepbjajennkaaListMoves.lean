/- Nodes moved from one row's front to another one's front turn the row round: the walk of ListMoves. Conditions: none. -/
import Derived.Test.YteiepbjajennkaaListAlone
namespace Go.Proofs.Yteiepbjajennkaa.ListHand
set_option linter.unusedVariables false
open Go.RowKit Go.Proofs.YteiepbjajennkaaW.PrintWords Go.Proofs.YteiepbjajennkaaW.PrintMore
/-- Two rows. -/
def row2 (l r : List Nat) : Nat → List Nat := setR (setR (fun _ => []) 0 l) 1 r
theorem row2_0 (l r : List Nat) : row2 l r 0 = l := rfl
theorem row2_1 (l r : List Nat) : row2 l r 1 = r := rfl
theorem row2_set0 (l r l' : List Nat) : setR (row2 l r) 0 l' = row2 l' r := by
  funext j; unfold row2 setR
  by_cases e : j = 0
  · subst e; rfl
  · rw [if_neg e]; simp only [if_neg e]
theorem row2_set1 (l r l' : List Nat) : setR (row2 l r) 1 l' = row2 l l' := setR_setR _ _ _ _
theorem row2_nil : (fun _ => [] : Nat → List Nat) = row2 [] [] := by
  funext j; unfold row2 setR; split
  · rfl
  · split <;> rfl
theorem row2_not {l r : List Nat} {n : Nat} (h : n ∉ l) (h2 : n ∉ r) (j : Nat) : n ∉ row2 l r j := by
  unfold row2 setR
  split
  · exact h2
  · split
    · exact h
    · simp
/-- The rest of the numbers below m, from k on; those ahead, turned round. -/
def rest (m k : Nat) : List Nat := (List.range m).drop k
def turned (k : Nat) : List Nat := (List.range k).reverse
theorem rest_get (m k : Nat) (h : k < m) : (rest m k)[0]? = some k := by
  unfold rest
  rw [List.getElem?_drop, Nat.add_zero, List.getElem?_range h]
theorem rest_next (m k : Nat) (h : k < m) : (rest m k).eraseIdx 0 = rest m (k + 1) := by
  unfold rest
  rw [List.eraseIdx_zero, List.tail_drop]
theorem rest_not (m k : Nat) : k ∉ rest m (k + 1) := by
  unfold rest
  intro h
  obtain ⟨j, hj⟩ := List.getElem?_of_mem h
  rw [List.getElem?_drop] at hj
  by_cases h2 : k + 1 + j < m
  · rw [List.getElem?_range h2] at hj
    have := Option.some.inj hj; omega
  · rw [List.getElem?_eq_none (by rw [List.length_range]; omega)] at hj; cases hj
theorem turned_next (k : Nat) : k :: turned k = turned (k + 1) := by
  unfold turned
  rw [List.range_succ, List.reverse_append]; rfl
theorem turned_not (k : Nat) : k ∉ turned k := by unfold turned; simp
theorem turned_len (k : Nat) : (turned k).length = k := by unfold turned; simp
theorem turned_at (m j : Nat) (h : j < m) : (turned m)[j]? = some (m - 1 - j) := by
  unfold turned
  rw [List.getElem?_reverse (by rw [List.length_range]; omega), List.length_range, List.getElem?_range (by omega)]
theorem rest_all (m : Nat) : rest m m = [] := by unfold rest; rw [List.drop_eq_nil_of_le (by rw [List.length_range]; omega)]
set_option maxHeartbeats 4000000 in
set_option maxRecDepth 100000 in
theorem moves_in (m : Nat) (hm : m + 1 ≤ 200) (w : World) : Calls Try.prog 8 #[.int .i64 ((m + 1 : Nat) : Int)] w fun e w' => e = .returned (.bool true) ∧ Below w.heap.size w w' := by
  have en : ((m + 1 : Nat) : Int) - 1 = (m : Int) := by omega
  generalize hNN : ((m + 1 : Nat) : Int) = NN at *
  have KN := Aside0.mk hNN
  have m0 : 1 ≤ NN := by omega
  have m1 : NN ≤ 200 := by omega
  clear hNN
  have HM := Aside0.mk hm; clear hm
  go_enter Try.func8, Try.ntmps8
  go_wp2_with fail
  refine (known_calls w).mono ?_
  rintro e w1 ⟨rfl, h1⟩
  have H1 := Aside0.mk h1; clear h1
  go_wp2_with fail
  rw [← KN.out]
  refine (new_calls (w0 := w) (m + 1) 2 (by have := HM.out; omega) (by omega) H1.out).mono ?_
  rintro e w2 ⟨g, a, b, rfl, h2, _⟩
  rw [row2_nil] at h2
  have H2 := Aside0.mk h2; clear h2
  rw [KN.out]
  go_wp2
  go_loopw [5] (fun i w' => ∃ j : Nat, j ≤ m + 1 ∧ i = .int .i64 j ∧ Aside0 (LR w w' g a b (m + 1) 2 (row2 (List.range j) []))) (fun i _ => m + 1 - (intOf i).toNat)
  case atStart => exact ⟨0, Nat.zero_le _, rfl, H2⟩
  case round =>
    clear H2
    obtain ⟨j, hj, rfl, HLj⟩ := hrel
    by_cases hlt : j < m + 1
    · have l1 : (j : Int) < NN := by have := KN.out; omega
      go_wp2_with fail
      refine (HLj.out.back1 0 j (by omega) hlt (fun i _ => row2_not (by simp) (by simp) i)).mono ?_
      rintro e w3 ⟨rfl, h3, _⟩
      rw [row2_0, row2_set0, range_snoc] at h3
      have H3 := Aside0.mk h3; clear h3
      go_wp2
      go_roundw
      case rel => exact ⟨j + 1, by omega, by go_num, H3⟩
      case measure => simp [intOf]; omega
    · obtain rfl : j = m + 1 := by omega
      have l1 : ¬ (((m + 1 : Nat) : Int) < NN) := by have := KN.out; omega
      go_wp2
      go_loopw [6] (fun i w' => ∃ k : Nat, k ≤ m + 1 ∧ i = .int .i64 k ∧ Aside0 (LR w w' g a b (m + 1) 2 (row2 (rest (m + 1) k) (turned k)))) (fun i _ => m + 1 - (intOf i).toNat)
      case atStart => exact ⟨0, Nat.zero_le _, rfl, HLj⟩
      case round =>
        clear HLj l1
        obtain ⟨k, hk, rfl, HLk⟩ := hrel
        by_cases hlt : k < m + 1
        · have l1 : (k : Int) < NN := by have := KN.out; omega
          have hgk := rest_get (m + 1) k hlt
          have HG := Aside0.mk hgk; clear hgk
          go_wp2_with fail
          refine (HLk.out.first (x := 0) (by omega) (k : Int) (atI_some HG.out)).mono ?_
          rintro e w3 ⟨rfl, rfl⟩
          rw [toldI_nat, toldB_nat]
          go_wp2_with fail
          refine (HLk.out.out 0 0 k (by omega) HG.out).mono ?_
          rintro e w4 ⟨rfl, h4, _⟩
          rw [row2_0, row2_set0, rest_next (m + 1) k hlt] at h4
          have H4 := Aside0.mk h4; clear h4
          go_wp2_with fail
          refine (front_calls H4.out 1 (by omega) k hlt (fun i _ => row2_not (rest_not (m + 1) k) (turned_not k) i)).mono ?_
          rintro e w5 ⟨rfl, h5, _⟩
          rw [row2_1, row2_set1, turned_next] at h5
          have H5 := Aside0.mk h5; clear h5
          go_wp2
          go_roundw
          case rel => exact ⟨k + 1, by omega, by go_num, H5⟩
          case measure => simp [intOf]; omega
        · obtain rfl : k = m + 1 := by omega
          have l1 : ¬ (((m + 1 : Nat) : Int) < NN) := by have := KN.out; omega
          go_wp2_with fail
          refine (row_calls HLk.out 1 (by omega)).mono ?_
          rintro e w6 ⟨v, rfl, ho, hb⟩
          rw [row2_1] at ho
          obtain ⟨A, c, rfl, hr, hlen⟩ := row_slice ho
          rw [turned_len] at hr hlen
          have H6 := Aside0.mk (HLk.out.below hb); clear ho hb
          obtain ⟨ad, hA, hcell⟩ := hr.2.2 (by omega)
          subst hA
          have HC := Aside0.mk hcell; clear hcell hr hlen
          rw [turned_len]
          have HB := Aside0.mk H6.out.be
          go_wp2
          go_loop [10] (fun i => ∃ j : Nat, j ≤ m + 1 ∧ i = .int .i64 j) (fun i => m + 1 - (intOf i).toNat)
          case atStart => exact ⟨0, Nat.zero_le _, rfl⟩
          case round =>
            clear l1
            obtain ⟨j, hj, rfl⟩ := hrel
            by_cases hlt : j < m + 1
            · have hx := HC.out j hlt
              have hg : (ints (turned (m + 1))).getD j 0 = ((m - j : Nat) : Int) := by
                unfold ints
                rw [List.getD_eq_getElem?_getD, List.getElem?_map, turned_at (m + 1) j hlt]
                simp
              rw [hg] at hx
              have HMem := Aside0.mk (show m - j ∈ row2 (rest (m + 1) (m + 1)) (turned (m + 1)) 1 from by
                rw [row2_1]
                have := List.mem_of_getElem? (turned_at (m + 1) j hlt)
                rwa [show m + 1 - 1 - j = m - j by omega] at this)
              have eb : (((m - j : Nat) : Int) != (m : Int) - (j : Int)) = false := by
                have : ((m - j : Nat) : Int) = (m : Int) - (j : Int) := by omega
                rw [this]; simp
              clear hg
              go_wp2_with fail
              refine (H6.out.of (x := 1) (by omega) HMem.out).mono ?_
              rintro e w7 ⟨rfl, rfl⟩
              go_wp2
              go_round
              case rel => exact ⟨j + 1, by omega, by go_num⟩
              case measure => simp [intOf]; omega
            · obtain rfl : j = m + 1 := by omega
              have l1 : (((m + 1 : Nat) : Int) == NN) = true := by have := KN.out; simpa using this
              go_wp2_with fail
              refine (H6.out.lenIs (x := 0) (by omega) 0 (by rw [row2_0, rest_all]; rfl)).mono ?_
              rintro e w8 ⟨rfl, rfl⟩
              go_wp2
              go_ret
              exact ⟨rfl, HB.out⟩
set_option maxHeartbeats 2000000 in
theorem moves_out (n : Int) (h : n < 1 ∨ 200 < n) (w : World) : Calls Try.prog 8 #[.int .i64 n] w fun e w' => e = .returned (.bool true) ∧ Below w.heap.size w w' := by
  by_cases h0 : n < 1
  · clear h
    go_enter Try.func8, Try.ntmps8
    go_wp2_with fail
    refine (known_calls w).mono ?_
    rintro e w1 ⟨rfl, h1⟩
    have H1 := Aside0.mk h1; clear h1
    go_wp2
    go_ret
    exact ⟨rfl, H1.out⟩
  · have h1 : 200 < n := by omega
    clear h
    go_enter Try.func8, Try.ntmps8
    go_wp2_with fail
    refine (known_calls w).mono ?_
    rintro e w1 ⟨rfl, h1⟩
    have H1 := Aside0.mk h1; clear h1
    go_wp2
    go_ret
    exact ⟨rfl, H1.out⟩
theorem moves_walk (a0 : Int) (w : World) (w0 : (Lit.int .i64 a0).wf = true) : Calls Try.prog 8 #[.int .i64 a0] w fun e w' => e = .returned (.bool true) ∧ Below w.heap.size w w' := by
  by_cases h : a0 < 1 ∨ 200 < a0
  · exact moves_out a0 h w
  · obtain ⟨n, rfl⟩ : ∃ n : Nat, a0 = ((n + 1 : Nat) : Int) := ⟨(a0 - 1).toNat, by omega⟩
    exact moves_in n (by omega) w
end Go.Proofs.Yteiepbjajennkaa.ListHand
