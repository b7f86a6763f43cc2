/- An executor over a program's operations: numbers that are lines. Conditions: none. -/
import Derived.Test.YtgkemmhpfekoaaaYC
namespace Go.Rse
theorem u8_bounds {a : Int} (h : (Lit.int .u8 a).wf = true) : 0 ≤ a ∧ a ≤ 255 := by
  simp only [Lit.wf, Bool.and_eq_true, decide_eq_true_eq] at h
  exact h
theorem lin_ok {ν : Nu} {ρ : Rho} {k : IntKind} {m a r : Int} {s : Nat} (hv : ρ.val s = a / m) (h : a % m = r) : AR ν ρ (.v (.one (.lin k m s r))) (.int k a) := by
  show Value.int k a = .int k (m * ρ.val s + r)
  rw [hv, ← h, Int.mul_ediv_add_emod]
theorem int_ok {ν : Nu} {ρ : Rho} {k : IntKind} {a : Int} : AR ν ρ (.v (.one (.int k a))) (.int k a) := rfl
theorem bool_ok {ν : Nu} {ρ : Rho} {a : Bool} : AR ν ρ (.v (.one (.bool a))) (.bool a) := rfl
theorem iv_nil {ρ : Rho} : IvOK ρ [] := fun i x hx => by simp at hx
theorem iv_one {ρ : Rho} {lo hi : Int} (h : lo ≤ ρ.val 0 ∧ ρ.val 0 ≤ hi) : IvOK ρ [⟨lo, hi, 0⟩] := by
  intro i x hx
  cases i with
  | zero => simp at hx; subst hx; exact ⟨h, md_no _ _⟩
  | succ i => simp at hx
theorem iv_two {ρ : Rho} {lo hi lo' hi' : Int} (h : lo ≤ ρ.val 0 ∧ ρ.val 0 ≤ hi) (h' : lo' ≤ ρ.val 1 ∧ ρ.val 1 ≤ hi') : IvOK ρ [⟨lo, hi, 0⟩, ⟨lo', hi', 0⟩] := by
  intro i x hx
  match i, hx with
  | 0, hx => simp at hx; subst hx; exact ⟨h, md_no _ _⟩
  | 1, hx => simp at hx; subst hx; exact ⟨h', md_no _ _⟩
  | i + 2, hx => simp at hx
/-- A number, and its rest. -/
theorem iv_rest {ρ : Rho} {hi : Int} {md : Nat} (h : 0 ≤ ρ.val 0 ∧ ρ.val 0 ≤ hi) (hm : 0 < md) (hmx : md ≠ LT) (h' : ρ.val 1 = ρ.val 0 % md) : IvOK ρ [⟨0, hi, 0⟩, ⟨0, md - 1, md⟩] := by
  intro i x hx
  have hp : (0 : Int) < md := by omega
  match i, hx with
  | 0, hx => simp at hx; subst hx; exact ⟨h, md_no _ _⟩
  | 1, hx =>
    simp at hx; subst hx
    refine ⟨⟨by rw [h']; exact Int.emod_nonneg _ (by omega), ?_⟩, md_rest hmx ?_⟩
    · have := Int.emod_lt_of_pos (ρ.val 0) hp
      show ρ.val 1 ≤ md - 1
      omega
    · rw [h', Int.tmod_eq_emod_of_nonneg h.1]
  | i + 2, hx => simp at hx
end Go.Rse
