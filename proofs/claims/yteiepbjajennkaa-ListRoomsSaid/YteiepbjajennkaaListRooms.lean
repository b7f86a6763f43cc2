/- Rows of as many nodes as may be; those that are none are refused everywhere: the walk of ListRooms. Conditions: none. -/
import Derived.Test.YteiepbjajennkaaListKnown
namespace Go.Proofs.Yteiepbjajennkaa.ListHand
set_option linter.unusedVariables false
open Go.RowKit Go.Proofs.YteiepbjajennkaaW.PrintWords Go.Proofs.YteiepbjajennkaaW.PrintMore
set_option maxHeartbeats 2000000 in
set_option maxRecDepth 100000 in
theorem rooms_in (N H : Nat) (hN : 1 ≤ N ∧ N ≤ 1024) (hH : 1 ≤ H ∧ H ≤ 64) (w : World) : Calls Try.prog 6 #[.int .i64 N, .int .i64 H] w fun e w' => e = .returned (.bool true) ∧ Below w.heap.size w w' := by
  obtain ⟨N0, N1⟩ := hN
  obtain ⟨H0, H1⟩ := hH
  obtain ⟨n, rfl⟩ : ∃ n, N = n + 1 := ⟨N - 1, by omega⟩
  obtain ⟨h, rfl⟩ : ∃ h, H = h + 1 := ⟨H - 1, by omega⟩
  have en : ((n + 1 : Nat) : Int) - 1 = (n : Int) := by omega
  have eh : ((h + 1 : Nat) : Int) - 1 = (h : Int) := by omega
  generalize hNN : ((n + 1 : Nat) : Int) = NN at *
  generalize hHH : ((h + 1 : Nat) : Int) = HH at *
  have KN := Aside0.mk hNN; have KH := Aside0.mk hHH
  have m0 : 1 ≤ NN := by omega
  have m1 : NN ≤ 1024 := by omega
  have m2 : 1 ≤ HH := by omega
  have m3 : HH ≤ 64 := by omega
  clear hNN hHH
  go_enter Try.func6, Try.ntmps6
  go_wp2_with fail
  refine (known_calls w).mono ?_
  rintro e w1 ⟨rfl, h1⟩
  have H1 := Aside0.mk h1; clear h1
  go_wp2_with fail
  rw [← KN.out, ← KH.out]
  refine (new_calls (w0 := w) (n + 1) (h + 1) (by omega) (by omega) H1.out).mono ?_
  rintro e w2 ⟨g, a, b, rfl, h2, _⟩
  have H2 := Aside0.mk h2; clear h2
  rw [KN.out, KH.out]
  go_wp2_with fail
  refine (H2.out.back1 h n (by omega) (by omega) (fun j _ => by simp)).mono ?_
  rintro e w3 ⟨rfl, h3, _⟩
  have H3 := Aside0.mk h3; clear h3
  go_wp2_with fail
  refine (H3.out.back1_head HH 0 (by have := KH.out; omega)).mono ?_
  rintro e w4 ⟨rfl, h4, _⟩
  have H4 := Aside0.mk h4; clear h4
  go_wp2_with fail
  refine (H4.out.back1_node 0 NN (by omega) (by have := KN.out; omega)).mono ?_
  rintro e w5 ⟨rfl, h5, _⟩
  have H5 := Aside0.mk h5; clear h5
  go_wp2_with fail
  refine (H5.out.removed_out NN (by have := KN.out; omega)).mono ?_
  rintro e w6 ⟨rfl, rfl⟩
  go_wp2_with fail
  refine (front_no (r := -17) (by decide) (by
    obtain ⟨ca, cb, l1, l2⟩ := H5.out.alloc (.cells #[.int .i64 0] 3)
    exact (may_head l1 (-1) [0] _ 1 (by omega)).mono fun e w' ⟨e1, e2⟩ => ⟨e1, by rw [← e2]; exact Below.refl _ _⟩)).mono ?_
  rintro e w7 ⟨rfl, h7⟩
  have H7 := Aside0.mk (H5.out.below h7); clear h7
  go_wp2_with fail
  refine (H7.out.lenIs (x := h) (by omega) 1 (by rw [setR_at]; rfl)).mono ?_
  rintro e w8 ⟨rfl, rfl⟩
  have HB := Aside0.mk H7.out.be
  go_wp2
  go_ret
  exact ⟨rfl, HB.out⟩
set_option maxHeartbeats 2000000 in
theorem rooms_out (N H : Int) (h : N < 1 ∨ 1024 < N ∨ H < 1 ∨ 64 < H) (w : World) : Calls Try.prog 6 #[.int .i64 N, .int .i64 H] w fun e w' => e = .returned (.bool true) ∧ Below w.heap.size w w' := by
  have HH := Aside0.mk h
  by_cases h0 : N < 1
  · clear h
    go_enter Try.func6, Try.ntmps6
    go_wp2_with fail
    refine (known_calls w).mono ?_
    rintro e w1 ⟨rfl, h1⟩
    have H1 := Aside0.mk h1; clear h1
    go_wp2_with fail
    refine (new_no N H HH.out w1).mono ?_
    rintro e w2 ⟨rfl, rfl⟩
    go_wp2
    go_ret
    exact ⟨rfl, H1.out⟩
  · by_cases h1 : 1024 < N
    · clear h
      go_enter Try.func6, Try.ntmps6
      go_wp2_with fail
      refine (known_calls w).mono ?_
      rintro e w1 ⟨rfl, h1⟩
      have H1 := Aside0.mk h1; clear h1
      go_wp2_with fail
      refine (new_no N H HH.out w1).mono ?_
      rintro e w2 ⟨rfl, rfl⟩
      go_wp2
      go_ret
      exact ⟨rfl, H1.out⟩
    · by_cases h2 : H < 1
      · clear h
        go_enter Try.func6, Try.ntmps6
        go_wp2_with fail
        refine (known_calls w).mono ?_
        rintro e w1 ⟨rfl, h1⟩
        have H1 := Aside0.mk h1; clear h1
        go_wp2_with fail
        refine (new_no N H HH.out w1).mono ?_
        rintro e w2 ⟨rfl, rfl⟩
        go_wp2
        go_ret
        exact ⟨rfl, H1.out⟩
      · have h3 : 64 < H := by omega
        have hq : decide (H ≤ 64) = false := decide_eq_false (by omega)
        clear h
        go_enter Try.func6, Try.ntmps6
        go_wp2_with fail
        refine (known_calls w).mono ?_
        rintro e w1 ⟨rfl, h1⟩
        have H1 := Aside0.mk h1; clear h1
        go_wp2_with fail
        refine (new_no N H HH.out w1).mono ?_
        rintro e w2 ⟨rfl, rfl⟩
        go_wp2
        go_ret
        exact ⟨rfl, H1.out⟩
theorem rooms_walk (a0 a1 : Int) (w : World) (w0 : (Lit.int .i64 a0).wf = true) (w1 : (Lit.int .i64 a1).wf = true) : Calls Try.prog 6 #[.int .i64 a0, .int .i64 a1] w fun e w' => e = .returned (.bool true) ∧ Below w.heap.size w w' := by
  by_cases h : a0 < 1 ∨ 1024 < a0 ∨ a1 < 1 ∨ 64 < a1
  · exact rooms_out a0 a1 h w
  · obtain ⟨n, rfl⟩ : ∃ n : Nat, a0 = n := ⟨a0.toNat, by omega⟩
    obtain ⟨m, rfl⟩ : ∃ m : Nat, a1 = m := ⟨a1.toNat, by omega⟩
    exact rooms_in n m (by omega) (by omega) w
end Go.Proofs.Yteiepbjajennkaa.ListHand
