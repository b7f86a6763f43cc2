/- Are rows the same? Of rows that are, yes. Conditions: none. -/
import Derived.Test.YteiepbjajennkaaListKnown
import Derived.Deep.QuietTactic
import Derived.BigQuiet
namespace Go.Proofs.Yteiepbjajennkaa.ListHand
set_option linter.unusedVariables false
open Go.RowKit Go.Proofs.YteiepbjajennkaaW.PrintWords Go.Proofs.YteiepbjajennkaaW.PrintMore
theorem below_drewN {B : Nat} {w wr : World} (h : Below B w wr) (n : Nat) : Below B w (wr.drewN n) := ⟨h.os, h.tape, h.output, h.size, h.block⟩
set_option maxHeartbeats 2000000 in
theorem same_calls (xs : List Int) (hn : xs.length ≤ 2000) (A B : Option Addr) (n m c d : Nat) (hn1 : n = xs.length) (hm1 : m = xs.length) (W : World) (hA : ReadsInt W .i64 A xs.length xs) (hB : ReadsInt W .i64 B xs.length xs) :
    Calls Try.prog 17 #[.slice A n c, .slice B m d] W fun e w' => e = .returned (.bool true) ∧ Below W.heap.size W w' := by
  subst hn1 hm1
  have HA := Aside0.mk hA; clear hA
  have HB := Aside0.mk hB; clear hB
  go_enter Try.func17, Try.ntmps17
  go_wp2
  go_loopw [5] (fun i w' => ∃ j : Nat, j ≤ xs.length ∧ i = .int .i64 j ∧ Aside0 (Below W.heap.size W w')) (fun i _ => xs.length - (intOf i).toNat)
  case atStart => exact ⟨0, Nat.zero_le _, rfl, ⟨Below.refl _ _⟩⟩
  case round =>
    obtain ⟨j, hj, rfl, HW⟩ := hrel
    by_cases hlt : j < xs.length
    · obtain ⟨ad, e1, h1⟩ := (HA.out.below HW.out).2.2 (by omega)
      obtain ⟨bd, e2, h2⟩ := (HB.out.below HW.out).2.2 (by omega)
      have x1 := h1 j hlt
      have x2 := h2 j hlt
      subst e1 e2
      clear h1 h2
      generalize xs.getD j 0 = x at *
      go_wp2
      go_quiet (fail)
      have HW2 := Aside0.mk (below_drewN HW.out nq)
      go_wp2
      go_roundw
      case rel => exact ⟨j + 1, by omega, by go_num, HW2⟩
      case measure => simp [intOf]; omega
    · obtain rfl : j = xs.length := by omega
      go_wp2
      go_ret
      exact ⟨rfl, HW.out⟩
end Go.Proofs.Yteiepbjajennkaa.ListHand
