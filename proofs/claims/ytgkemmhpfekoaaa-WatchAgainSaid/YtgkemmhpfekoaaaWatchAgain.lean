/- Set again, what was left is forgotten; stopped, it is never over: the walk of WatchAgain. Conditions: none. -/
import Derived.Test.YtgkemmhpfekoaaaWatchBase
namespace Go.Proofs.Ytgkemmhpfekoaaa.WatchHand
set_option linter.unusedVariables false
open Go.RowKit Go.Proofs.YtgkemmhpfekoaaaW.PrintWords Go.Proofs.YtgkemmhpfekoaaaW.PrintLast Go.Proofs.YtgkemmhpfekoaaaW.PrintMore
theorem bu16 {n : Int} (h : (Lit.int .u16 n).wf = true) : 0 ≤ n ∧ n ≤ 65535 := by
  simp [Lit.wf, IntKind.min, IntKind.max, IntKind.signed, IntKind.bits] at h
  omega
set_option maxHeartbeats 2000000 in
set_option maxRecDepth 100000 in
theorem again_core (a b : Int) (s : Bool) (w : World) (a0 : 1 ≤ a) (a1 : a ≤ 65535) (b0 : 1 ≤ b) (b1 : b ≤ 65535) :
    Calls Try.prog 6 #[.int .u16 a, .int .u16 b, .bool s] w fun e w' => e = .returned (.bool true) ∧ Below w.heap.size w w' := by
  have qa : (a == 0) = false := by simp; omega
  have qb : (b == 0) = false := by simp; omega
  go_enter Try.func6, Try.ntmps6
  go_wp2_with fail
  refine (known_calls w).mono ?_
  rintro e w1 ⟨rfl, h1⟩
  have H1 := Aside0.mk h1; clear h1
  go_wp2_with fail
  refine (new_calls 3 (by omega) (by omega) w1).mono ?_
  rintro e w2 ⟨rfl, h2⟩
  have h2' := Wt.made H1.out 3 (by omega) (by omega)
  rw [← h2] at h2'
  have H2 := Aside0.mk h2'; clear h2' h2
  go_wp2_with fail
  refine (start_in H2.out 1 (by omega) 2 a rfl a0 (by omega)).mono ?_
  rintro e w3 ⟨rfl, h3, _⟩
  have H3 := Aside0.mk h3; clear h3
  go_wp2_with fail
  refine (ran_at H3.out 1 (by omega) 2 (a - 1) rfl (by omega) (by omega) a (upd_at _ _ _) false (by simp; omega) 1 (by rw [if_pos (by omega)]; omega)).mono ?_
  rintro e w4 ⟨rfl, h4, _⟩
  have H4 := Aside0.mk h4; clear h4
  go_wp2_with fail
  refine (start_in H4.out 1 (by omega) 2 b rfl b0 (by omega)).mono ?_
  rintro e w5 ⟨rfl, h5, _⟩
  have H5 := Aside0.mk h5; clear h5
  cases s with
  | true =>
    go_wp2_with fail
    refine (stop_in H5.out 1 (by omega) 2 rfl).mono ?_
    rintro e w6 ⟨rfl, h6, _⟩
    have H6 := Aside0.mk h6; clear h6
    go_wp2_with fail
    refine (ran_at H6.out 1 (by omega) 2 (b - 1) rfl (by omega) (by omega) 0 (upd_at _ _ _) false (by simp) 0 (by rw [if_neg (by omega)])).mono ?_
    rintro e w7 ⟨rfl, h7, _⟩
    have H7 := Aside0.mk h7; clear h7
    go_wp2_with fail
    refine (ran_at H7.out 1 (by omega) 2 1 rfl (by omega) (by omega) 0 (upd_at _ _ _) false (by simp) 0 (by rw [if_neg (by omega)])).mono ?_
    rintro e w8 ⟨rfl, h8, _⟩
    have H8 := Aside0.mk h8; clear h8
    go_wp2_with fail
    refine (ran_at H8.out 1 (by omega) 2 100 rfl (by omega) (by omega) 0 (upd_at _ _ _) false (by simp) 0 (by rw [if_neg (by omega)])).mono ?_
    rintro e w9 ⟨rfl, h9, _⟩
    have H9 := Aside0.mk h9; clear h9
    go_wp2_with fail
    refine (left_in H9.out 1 (by omega) 2 rfl 0 (upd_at _ _ _) false rfl).mono ?_
    rintro e w10 ⟨rfl, h10, _⟩
    have H10 := Aside0.mk h10; clear h10
    go_wp2
    go_ret
    exact ⟨rfl, below_alloc H10.out.be _⟩
  | false =>
    go_wp2_with fail
    refine (ran_at H5.out 1 (by omega) 2 (b - 1) rfl (by omega) (by omega) b (upd_at _ _ _) false (by simp; omega) 1 (by rw [if_pos (by omega)]; omega)).mono ?_
    rintro e w7 ⟨rfl, h7, _⟩
    have H7 := Aside0.mk h7; clear h7
    go_wp2_with fail
    refine (ran_at H7.out 1 (by omega) 2 1 rfl (by omega) (by omega) 1 (upd_at _ _ _) true (by simp) 0 (by rw [if_neg (by omega)])).mono ?_
    rintro e w8 ⟨rfl, h8, _⟩
    have H8 := Aside0.mk h8; clear h8
    go_wp2_with fail
    refine (ran_at H8.out 1 (by omega) 2 100 rfl (by omega) (by omega) 0 (upd_at _ _ _) false (by simp) 0 (by rw [if_neg (by omega)])).mono ?_
    rintro e w9 ⟨rfl, h9, _⟩
    have H9 := Aside0.mk h9; clear h9
    go_wp2_with fail
    refine (left_in H9.out 1 (by omega) 2 rfl 0 (upd_at _ _ _) false rfl).mono ?_
    rintro e w10 ⟨rfl, h10, _⟩
    have H10 := Aside0.mk h10; clear h10
    go_wp2
    go_ret
    exact ⟨rfl, below_alloc H10.out.be _⟩
set_option maxHeartbeats 2000000 in
set_option maxRecDepth 100000 in
theorem again_walk (a b : Int) (s : Bool) (w : World) (wa : (Lit.int .u16 a).wf = true) (wb : (Lit.int .u16 b).wf = true) :
    Calls Try.prog 6 #[.int .u16 a, .int .u16 b, .bool s] w fun e w' => e = .returned (.bool true) ∧ Below w.heap.size w w' := by
  have ha := bu16 wa
  have hb := bu16 wb
  by_cases za : a = 0
  · have qa : (a == 0) = true := by simp [za]
    clear wa wb ha hb za
    go_enter Try.func6, Try.ntmps6
    go_wp2_with fail
    refine (known_calls w).mono ?_
    rintro e w1 ⟨rfl, h1⟩
    have H1 := Aside0.mk h1; clear h1
    go_wp2
    go_ret
    exact ⟨rfl, H1.out⟩
  by_cases zb : b = 0
  · have qa : (a == 0) = false := by simp [za]
    have qb : (b == 0) = true := by simp [zb]
    clear wa wb ha hb za zb
    go_enter Try.func6, Try.ntmps6
    go_wp2_with fail
    refine (known_calls w).mono ?_
    rintro e w1 ⟨rfl, h1⟩
    have H1 := Aside0.mk h1; clear h1
    go_wp2
    go_ret
    exact ⟨rfl, H1.out⟩
  exact again_core a b s w (by omega) ha.2 (by omega) hb.2
end Go.Proofs.Ytgkemmhpfekoaaa.WatchHand
