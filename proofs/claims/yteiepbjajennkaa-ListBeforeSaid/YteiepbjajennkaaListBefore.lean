/- What is put ahead of a node stands right ahead of it; nothing else moves: the walk of ListBefore. Conditions: none. -/
import Derived.Test.YteiepbjajennkaaListAlone
namespace Go.Proofs.Yteiepbjajennkaa.ListHand
set_option linter.unusedVariables false
open Go.RowKit Go.Proofs.YteiepbjajennkaaW.PrintWords Go.Proofs.YteiepbjajennkaaW.PrintMore
variable {w0 W : World} {g a b N H : Nat} {R : Nat → List Nat}
/-- A node that stands already is not put again. -/
theorem before_in (h : LR w0 W g a b N H R) (n at_ x y : Nat) (hx : x < H) (hy : y < H) (hn : n ∈ R x) (hat : at_ ∈ R y) :
    Calls Try.prog 20 #[.pointer (some ⟨g, 0, none⟩), .int .i64 n, .int .i64 at_] W fun e w' => e = .returned (.int .i64 (-41)) ∧ W = w' := by
  have HL := Aside0.mk h; clear h
  obtain ⟨k, hk⟩ := List.getElem?_of_mem hn
  obtain ⟨k2, hk2⟩ := List.getElem?_of_mem hat
  have n1 := (HL.out.node hx hk).1
  have n2 := (HL.out.node hy hk2).1
  have HN := Aside0.mk hn; have HA := Aside0.mk hat; clear hn hat hk hk2
  go_enter Try.func20, Try.ntmps20
  go_wp2_with fail
  refine (HL.out.isNode n true (by simp; omega)).mono ?_
  rintro e w' ⟨rfl, rfl⟩
  go_wp2_with fail
  refine (HL.out.isNode at_ true (by simp; omega)).mono ?_
  rintro e w' ⟨rfl, rfl⟩
  go_wp2_with fail
  refine (HL.out.inIs at_ n2 hy HA.out).mono ?_
  rintro e w' ⟨rfl, rfl⟩
  go_wp2_with fail
  refine (HL.out.inIs n n1 hx HN.out).mono ?_
  rintro e w' ⟨rfl, rfl⟩
  go_wp2
  go_ret
  exact ⟨rfl, rfl⟩
def ahead (m q : Nat) : List Nat := (List.range m).insertIdx q m
theorem ahead_len (m q : Nat) (h : q < m) : (ahead m q).length = m + 1 := by
  unfold ahead
  rw [List.length_insertIdx, if_pos (by rw [List.length_range]; omega), List.length_range]
theorem ahead_q (m q : Nat) (h : q < m) : (ahead m q)[q]? = some m := by
  unfold ahead
  rw [List.getElem?_insertIdx, if_neg (by omega), if_pos rfl, if_pos (by rw [List.length_range]; omega)]
theorem ahead_next (m q : Nat) (h : q < m) : atI (ahead m q) (q + 1) = (q : Int) := by
  apply atI_some
  unfold ahead
  rw [List.getElem?_insertIdx, if_neg (by omega), if_neg (by omega), Nat.add_sub_cancel, List.getElem?_range h]
theorem ahead_mem (m q : Nat) (h : q < m) : q ∈ ahead m q := List.mem_of_getElem? (atI_eq (ahead_next m q h))
set_option maxHeartbeats 4000000 in
set_option maxRecDepth 100000 in
theorem before_law_in (m q : Nat) (hm : m ≤ 100) (hq : q < m) (w : World) : Calls Try.prog 5 #[.int .i64 m, .int .i64 q] w fun e w' => e = .returned (.bool true) ∧ Below w.heap.size w w' := by
  have HQ := Aside0.mk hq
  have HM := Aside0.mk hm
  have m0 : 1 ≤ m := by omega
  go_enter Try.func5, Try.ntmps5
  go_wp2_with fail
  refine (known_calls w).mono ?_
  rintro e w1 ⟨rfl, h1⟩
  have H1 := Aside0.mk h1; clear h1
  go_wp2_with fail
  have hc := new_calls (w0 := w) (m + 1) 1 (by omega) (by omega) H1.out
  rw [Int.natCast_add] at hc
  refine hc.mono ?_
  clear hc
  rintro e w2 ⟨g, a, b, rfl, h2, _⟩
  rw [row0_nil] at h2
  have H2 := Aside0.mk h2; clear h2
  go_wp2
  go_loopw [7] (fun i w' => ∃ j : Nat, j ≤ m ∧ i = .int .i64 j ∧ Aside0 (LR w w' g a b (m + 1) 1 (row0 (List.range j)))) (fun i _ => m - (intOf i).toNat)
  case atStart => exact ⟨0, Nat.zero_le _, rfl, H2⟩
  case round =>
    clear H2
    obtain ⟨j, hj, rfl, HLj⟩ := hrel
    by_cases hlt : j < m
    · go_wp2_with fail
      refine (HLj.out.back1 0 j (by omega) (by omega) (fun i _ => row0_not (by simp) i)).mono ?_
      rintro e w3 ⟨rfl, h3, _⟩
      rw [row0_at, row0_set, range_snoc] at h3
      have H3 := Aside0.mk h3; clear h3
      go_wp2
      go_roundw
      case rel => exact ⟨j + 1, by omega, by go_num, H3⟩
      case measure => simp [intOf]; omega
    · obtain rfl : j = m := by omega
      go_wp2_with fail
      refine (before_calls HLj.out j (by omega) (fun i _ => row0_not (by simp) i) 0 q q (by omega) (by rw [row0_at, List.getElem?_range (by omega)])).mono ?_
      rintro e w3 ⟨rfl, h3, _⟩
      rw [row0_at, row0_set] at h3
      have H3 := Aside0.mk (show LR w w3 g a b (j + 1) 1 (row0 (ahead j q)) from h3); clear h3
      go_wp2_with fail
      refine (before_in H3.out j q 0 0 (by omega) (by omega) (by rw [row0_at]; exact List.mem_of_getElem? (ahead_q j q HQ.out)) (by rw [row0_at]; exact ahead_mem j q HQ.out)).mono ?_
      rintro e w4 ⟨rfl, rfl⟩
      go_wp2_with fail
      refine (H3.out.next (x := 0) (k := q) (n := j) (by omega) (by rw [row0_at]; exact ahead_q j q HQ.out) (q : Int) (by rw [row0_at]; exact ahead_next j q HQ.out)).mono ?_
      rintro e w5 ⟨rfl, rfl⟩
      rw [toldI_nat, toldB_nat]
      go_wp2_with fail
      refine (row_calls H3.out 0 (by omega)).mono ?_
      rintro e w6 ⟨v, rfl, ho, hb⟩
      rw [row0_at] at ho
      obtain ⟨A, c, rfl, hr, hlen⟩ := row_slice ho
      rw [ahead_len j q HQ.out] at hr hlen
      have H6 := Aside0.mk (H3.out.below hb); clear ho hb
      obtain ⟨ad, hA, hcell⟩ := hr.2.2 (by omega)
      subst hA
      have hx := hcell q (by omega)
      have hg : (ints (ahead j q)).getD q 0 = (j : Int) := by
        unfold ints
        rw [List.getD_eq_getElem?_getD, List.getElem?_map, ahead_q j q HQ.out]; rfl
      rw [hg] at hx
      clear hcell hr hlen hg
      rw [ahead_len j q HQ.out]
      go_wp2_with fail
      refine (H6.out.out 0 q j (by omega) (by rw [row0_at]; exact ahead_q j q HQ.out)).mono ?_
      rintro e w7 ⟨rfl, h7, _⟩
      have H7 := Aside0.mk h7; clear h7
      go_wp2_with fail
      refine (H7.out.lenIs (x := 0) (by omega) (j : Int) (by
        rw [setR_at, row0_at, List.length_eraseIdx, if_pos (by rw [ahead_len j q HQ.out]; omega), ahead_len j q HQ.out]; rfl)).mono ?_
      rintro e w8 ⟨rfl, rfl⟩
      have HB := Aside0.mk H7.out.be
      go_wp2
      go_ret
      exact ⟨rfl, HB.out⟩
set_option maxHeartbeats 2000000 in
theorem before_law_out (n q : Int) (h : n < 1 ∨ 100 < n ∨ q < 0 ∨ n ≤ q) (w : World) : Calls Try.prog 5 #[.int .i64 n, .int .i64 q] w fun e w' => e = .returned (.bool true) ∧ Below w.heap.size w w' := by
  by_cases h0 : n < 1
  · clear h
    go_enter Try.func5, Try.ntmps5
    go_wp2_with fail
    refine (known_calls w).mono ?_
    rintro e w1 ⟨rfl, h1⟩
    have H1 := Aside0.mk h1; clear h1
    go_wp2
    go_ret
    exact ⟨rfl, H1.out⟩
  · by_cases h1 : 100 < n
    · clear h
      go_enter Try.func5, Try.ntmps5
      go_wp2_with fail
      refine (known_calls w).mono ?_
      rintro e w1 ⟨rfl, h1⟩
      have H1 := Aside0.mk h1; clear h1
      go_wp2
      go_ret
      exact ⟨rfl, H1.out⟩
    · by_cases h2 : q < 0
      · clear h
        go_enter Try.func5, Try.ntmps5
        go_wp2_with fail
        refine (known_calls w).mono ?_
        rintro e w1 ⟨rfl, h1⟩
        have H1 := Aside0.mk h1; clear h1
        go_wp2
        go_ret
        exact ⟨rfl, H1.out⟩
      · have h3 : n ≤ q := by omega
        clear h
        go_enter Try.func5, Try.ntmps5
        go_wp2_with fail
        refine (known_calls w).mono ?_
        rintro e w1 ⟨rfl, h1⟩
        have H1 := Aside0.mk h1; clear h1
        go_wp2
        go_ret
        exact ⟨rfl, H1.out⟩
theorem before_walk (a0 a1 : Int) (w : World) (w0 : (Lit.int .i64 a0).wf = true) (w1 : (Lit.int .i64 a1).wf = true) : Calls Try.prog 5 #[.int .i64 a0, .int .i64 a1] w fun e w' => e = .returned (.bool true) ∧ Below w.heap.size w w' := by
  by_cases h : a0 < 1 ∨ 100 < a0 ∨ a1 < 0 ∨ a0 ≤ a1
  · exact before_law_out a0 a1 h w
  · obtain ⟨n, rfl⟩ : ∃ n : Nat, a0 = n := ⟨a0.toNat, by omega⟩
    obtain ⟨q, rfl⟩ : ∃ q : Nat, a1 = q := ⟨a1.toNat, by omega⟩
    exact before_law_in n q (by omega) (by omega) w
end Go.Proofs.Yteiepbjajennkaa.ListHand
