/- Routines nest as deep as they are enabled and raised anew, and come back one by one: the walk of ExceptNests. Conditions: none. -/
import Derived.Test.YtphapbleailinaaExceptBase
namespace Go.Proofs.Ytphapbleailinaa.ExceptHand
open Go.RowKit Go.Proofs.YtphapbleailinaaW.PrintWords Go.Proofs.YtphapbleailinaaW.PrintLast Go.Proofs.YtphapbleailinaaW.PrintMore Go.Proofs.Ytphapbleailinaa.PExceptPlays
theorem p32 (k : Nat) : U (2 ^ (k % 32) % 4294967296) ∧ (2 : Int) ^ (k % 32) % 4294967296 ≠ 0 := by
  have h : ∀ j : Nat, j < 32 → (0 ≤ (2 : Int) ^ j % 4294967296 ∧ (2 : Int) ^ j % 4294967296 < 4294967296) ∧ (2 : Int) ^ j % 4294967296 ≠ 0 := by decide +kernel
  exact h (k % 32) (Nat.mod_lt _ (by decide))
set_option maxHeartbeats 2000000 in
set_option maxRecDepth 100000 in
theorem nests_core (n : Int) (m : Nat) (hm : m < 40) (hn0 : 0 ≤ n) (hn1 : n ≤ 255) (hnm : n % 40 = m) (w : World) :
    Calls Try.prog 4 #[.int .u8 n] w fun e w' => e = .returned (.bool true) ∧ Below w.heap.size w w' := by
  have HM := Aside0.mk hnm; clear hnm
  go_enter Try.func4, Try.ntmps4
  go_wp2_with fail
  refine (known_calls w).mono ?_
  rintro e w1 ⟨rfl, h1⟩
  have H1 := Aside0.mk h1; clear h1
  go_wp2_with fail
  rw [HM.out]
  have H2 := Aside0.mk (T.made H1.out)
  go_loopw [5] (fun v w' => ∃ k : Nat, k ≤ m ∧ v = .int .i64 k ∧ Aside0 (T w w' w1.heap.size 0 false k)) (fun v _ => m - (intOf v).toNat)
  case atStart => exact ⟨0, Nat.zero_le _, rfl, H2⟩
  case round =>
    obtain ⟨k, hk, rfl, HT⟩ := hrel
    by_cases hlt : k < m
    · have hx := p32 k
      have HX := Aside0.mk hx; clear hx
      go_wp2_with fail
      refine (raise_one HT.out rfl _ HX.out.1 HX.out.2).mono ?_
      rintro e w2 ⟨rfl, h2⟩
      rw [zero_or HX.out.1] at h2
      have H3 := Aside0.mk h2; clear h2
      go_wp2_with fail
      refine (enable_T H3.out).mono ?_
      rintro e w3 ⟨rfl, h3⟩
      have H4 := Aside0.mk h3; clear h3
      go_wp2_with fail
      refine (take_yes H4.out HX.out.2 (d' := (k : Int) + 1) (by unfold wrap64; omega)).mono ?_
      rintro e w4 ⟨rfl, h4⟩
      obtain ⟨c0, c1, c2⟩ := h4.cells
      have H5 := Aside0.mk h4; clear h4
      go_wp2
      go_roundw
      case rel => exact ⟨k + 1, by omega, by go_num, H5⟩
      case measure => simp [intOf]; omega
    · obtain rfl : k = m := by omega
      go_wp2
      go_loopw [8] (fun v w' => ∃ j : Nat, j ≤ k ∧ v = .int .i64 j ∧ ∃ e, Aside0 (T w w' w1.heap.size 0 e (k - j : Nat))) (fun v _ => k - (intOf v).toNat)
      case atStart => exact ⟨0, Nat.zero_le _, rfl, false, HT⟩
      case round =>
        clear HT
        obtain ⟨j, hj, rfl, e, HT⟩ := hrel
        by_cases hlt2 : j < k
        · go_wp2_with fail
          refine (return_yes HT.out (by omega) (d' := ((k - (j + 1) : Nat) : Int)) (by unfold wrap64; omega)).mono ?_
          rintro e w5 ⟨rfl, h5⟩
          obtain ⟨c0, c1, c2⟩ := h5.cells
          have H6 := Aside0.mk h5; clear h5
          go_wp2
          go_roundw
          case rel => exact ⟨j + 1, by omega, by go_num, _, H6⟩
          case measure => simp [intOf]; omega
        · have hz : k - j = 0 := by omega
          rw [hz] at HT
          clear hz
          go_wp2_with fail
          refine (return_no HT.out (by omega)).mono ?_
          rintro e w5 ⟨rfl, h5⟩
          obtain ⟨c0, c1, c2⟩ := h5.cells
          have H6 := Aside0.mk h5; clear h5
          go_wp2
          go_ret
          exact ⟨rfl, H6.out.2⟩
theorem bu8 {n : Int} (h : (Lit.int .u8 n).wf = true) : 0 ≤ n ∧ n ≤ 255 := by
  simp [Lit.wf, IntKind.min, IntKind.max, IntKind.signed, IntKind.bits] at h
  omega
theorem nests_walk (n : Int) (w : World) (wn : (Lit.int .u8 n).wf = true) :
    Calls Try.prog 4 #[.int .u8 n] w fun e w' => e = .returned (.bool true) ∧ Below w.heap.size w w' := by
  have hn := bu8 wn
  exact nests_core n (n % 40).toNat (by omega) hn.1 hn.2 (by omega) w
end Go.Proofs.Ytphapbleailinaa.ExceptHand
