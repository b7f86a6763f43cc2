/- A task that is killed forgets wakeups and suspensions and keeps its activations. Conditions: none beside the statement's own. -/
import Derived.Test.YtgkemmhpfekoaaaPTaskForgetsx4
namespace Go.Proofs.Ytgkemmhpfekoaaa.Pure
open Go Go.RowKit Go.Proofs.Ytgkemmhpfekoaaa.PTaskForgets Go.Proofs.YtgkemmhpfekoaaaW.PrintWords Go.Proofs.YtgkemmhpfekoaaaW.PrintLast

theorem tt (x : Int) (h : 0 ≤ x) : Int.tmod (x % 8) 8 = Int.tmod x 8 := by
  rw [Int.tmod_eq_emod_of_nonneg h, Int.tmod_eq_emod_of_nonneg (by omega)]; omega
theorem l1_mod (x1 x2 : Int) (h1 : 0 ≤ x1) (h2 : 0 ≤ x2) (k : Nat) : ∀ i a b c d e, detentlaw10_TaskForgets.l1 k (x1 % 8) (x2 % 8) i a b c d e = detentlaw10_TaskForgets.l1 k x1 x2 i a b c d e := by
  induction k with
  | zero => intros; rfl
  | succ k ih => intros; simp only [detentlaw10_TaskForgets.l1, tt x1 h1, tt x2 h2, ih]
theorem j1_mod (x1 x2 : Int) (h1 : 0 ≤ x1) (h2 : 0 ≤ x2) (k : Nat) : ∀ a b c d e, detentlaw10_TaskForgets.j1 k (x1 % 8) (x2 % 8) a b c d e = detentlaw10_TaskForgets.j1 k x1 x2 a b c d e := by
  cases k with
  | zero => intros; rfl
  | succ k => intros; simp only [detentlaw10_TaskForgets.j1, l1_mod x1 x2 h1 h2]
theorem l0_mod (x0 x1 x2 : Int) (h0 : 0 ≤ x0) (h1 : 0 ≤ x1) (h2 : 0 ≤ x2) (k : Nat) : ∀ i a b c d e, detentlaw10_TaskForgets.l0 k (x0 % 8) (x1 % 8) (x2 % 8) i a b c d e = detentlaw10_TaskForgets.l0 k x0 x1 x2 i a b c d e := by
  induction k with
  | zero => intros; rfl
  | succ k ih => intros; simp only [detentlaw10_TaskForgets.l0, tt x0 h0, j1_mod x1 x2 h1 h2, ih]
theorem f_mod (x0 x1 x2 : Int) (s : Bool) (h0 : 0 ≤ x0) (h1 : 0 ≤ x1) (h2 : 0 ≤ x2) (k : Nat) : detentlaw10_TaskForgets.f k (x0 % 8) (x1 % 8) (x2 % 8) s = detentlaw10_TaskForgets.f k x0 x1 x2 s := by
  simp only [detentlaw10_TaskForgets.f, l0_mod x0 x1 x2 h0 h1 h2, j1_mod x1 x2 h1 h2]
theorem all_of : ∀ s : Bool, ∀ a : Nat, a < 8 → ∀ b : Nat, b < 8 → ∀ c : Nat, c < 8 → detentlaw10_TaskForgets.f 40 (a : Int) (b : Int) (c : Int) s = some true := by decide +kernel
theorem bu8 {n : Int} (h : (Lit.int .u8 n).wf = true) : 0 ≤ n ∧ n ≤ 255 := by
  simp [Lit.wf, IntKind.min, IntKind.max, IntKind.signed, IntKind.bits] at h
  omega
theorem TaskForgets : detentlaw10_TaskForgets.Pure := by
  intro a b c s wa wb wc
  have ha := bu8 wa
  have hb := bu8 wb
  have hc := bu8 wc
  refine ⟨40, ?_⟩
  rw [← f_mod a b c s ha.1 hb.1 hc.1]
  have := all_of s (a % 8).toNat (by omega) (b % 8).toNat (by omega) (c % 8).toNat (by omega)
  rwa [Int.toNat_of_nonneg (by omega), Int.toNat_of_nonneg (by omega), Int.toNat_of_nonneg (by omega)] at this

end Go.Proofs.Ytgkemmhpfekoaaa.Pure
