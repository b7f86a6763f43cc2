/- An executor over a program's operations: numbers that are lines. Conditions: none. -/
import Derived.Test.YtjodpodmeobciaaGreatDoorYC
namespace Go.Rse
theorem u8_bounds {a : Int} (h : (Lit.int .u8 a).wf = true) : 0 ≤ a ∧ a ≤ 255 := by
  simp only [Lit.wf, Bool.and_eq_true, decide_eq_true_eq] at h
  exact h
theorem lin_ok {ν : Nu} {ρ : Rho} {k : IntKind} {m a r : Int} {s : Nat} (hv : ρ.val s = a / m) (h : a % m = r) : AR ν ρ (.v (.one (.lin k m s r))) (.int k a) := by
  show Value.int k a = .int k (m * ρ.val s + r)
  rw [hv, ← h, Int.mul_ediv_add_emod]
theorem int_ok {ν : Nu} {ρ : Rho} {k : IntKind} {a : Int} : AR ν ρ (.v (.one (.int k a))) (.int k a) := rfl
theorem bool_ok {ν : Nu} {ρ : Rho} {a : Bool} : AR ν ρ (.v (.one (.bool a))) (.bool a) := rfl
theorem iv_one {val : Nat → Int} {lo hi : Int} (h : lo ≤ val 0 ∧ val 0 ≤ hi) : ∀ (i : Nat) (x : Int × Int), [(lo, hi)][i]? = some x → x.1 ≤ val i ∧ val i ≤ x.2 := by
  intro i x hx
  cases i with
  | zero => simp at hx; subst hx; exact h
  | succ i => simp at hx
end Go.Rse
