/- An executor over a program's operations: a word out of bits. Conditions: none. -/
import Derived.Test.YtjodpodmeobciaaGreatDoorVD
namespace Go.Rsf
set_option linter.unusedVariables false
/-- A word out of so many bits. -/
def wN (b : Nat → Bool) : Nat → Nat
  | 0 => 0
  | q + 1 => wN b q + (if b q then 2 ^ q else 0)
theorem wN_lt (b : Nat → Bool) : ∀ q, wN b q < 2 ^ q
  | 0 => Nat.one_pos
  | q + 1 => by
    have := wN_lt b q
    unfold wN
    have h2 : 2 ^ (q + 1) = 2 ^ q + 2 ^ q := by rw [Nat.pow_succ]; omega
    split <;> omega
theorem wN_bit (b : Nat → Bool) (j : Nat) : ∀ q, (wN b q).testBit j = (decide (j < q) && b j)
  | 0 => by simp [wN]
  | q + 1 => by
    have hl := wN_lt b q
    have ih := wN_bit b j q
    unfold wN
    by_cases hb : b q = true
    · rw [if_pos hb]
      rcases Nat.lt_trichotomy j q with h | h | h
      · rw [Nat.add_comm, Nat.testBit_two_pow_add_gt h, ih]
        simp [h, Nat.lt_succ_of_lt h]
      · subst h
        rw [Nat.add_comm, Nat.testBit_two_pow_add_eq, Nat.testBit_lt_two_pow hl]
        simp [hb]
      · have : wN b q + 2 ^ q < 2 ^ j := by
          have h1 : 2 ^ (q + 1) ≤ 2 ^ j := Nat.pow_le_pow_right (by omega) h
          have h2 : 2 ^ (q + 1) = 2 ^ q + 2 ^ q := by rw [Nat.pow_succ]; omega
          omega
        rw [Nat.testBit_lt_two_pow this]
        have : ¬ j < q + 1 := by omega
        simp [this]
    · rw [if_neg hb, Nat.add_zero, ih]
      rcases Nat.lt_trichotomy j q with h | h | h
      · simp [h, Nat.lt_succ_of_lt h]
      · subst h; simp [hb]
      · have h1 : ¬ j < q + 1 := by omega
        have h2 : ¬ j < q := by omega
        simp [h1, h2]
/-- The lowest bit of a word. -/
theorem low_bit {w p : Nat} (h0 : ∀ i, i < p → w.testBit i = false) (h1 : w.testBit p = true) (hw : w < 2 ^ 64) : w &&& (2 ^ 64 - w) = 2 ^ p := by
  have hm : w % 2 ^ p = 0 := by
    apply Nat.eq_of_testBit_eq
    intro i
    rw [Nat.testBit_mod_two_pow, Nat.zero_testBit]
    by_cases hi : i < p
    · rw [h0 i hi]; simp
    · simp [hi]
  have hq : (w / 2 ^ p) % 2 = 1 := by
    have : (w / 2 ^ p).testBit 0 = true := by rw [Nat.testBit_div_two_pow]; simpa using h1
    rw [Nat.testBit_zero] at this
    simpa using this
  obtain ⟨q, hq2⟩ : ∃ q, w / 2 ^ p = 2 * q + 1 := ⟨w / 2 ^ p / 2, by omega⟩
  have hwq : w = 2 ^ p * (2 * q + 1) := by
    have := Nat.div_add_mod w (2 ^ p)
    rw [hm, hq2, Nat.add_zero] at this
    exact this.symm
  have hpos : 0 < w := by
    rcases Nat.eq_zero_or_pos w with h | h
    · rw [h] at h1; simp at h1
    · exact h
  have hw1 : w - 1 = 2 ^ p * (2 * q) + (2 ^ p - 1) := by
    have : 0 < 2 ^ p := Nat.two_pow_pos p
    rw [hwq, Nat.mul_add, Nat.mul_one]; omega
  apply Nat.eq_of_testBit_eq
  intro i
  have e : 2 ^ 64 - w = 2 ^ 64 - ((w - 1) + 1) := by omega
  rw [Nat.testBit_and, e, Nat.testBit_two_pow_sub_succ (by omega), Nat.testBit_two_pow]
  have hb : (w - 1).testBit i = if i < p then (2 ^ p - 1).testBit i else (2 * q).testBit (i - p) := by
    rw [hw1]; exact Nat.testBit_two_pow_mul_add _ (by have := Nat.two_pow_pos p; omega) _
  have hc : w.testBit i = if i < p then (0 : Nat).testBit i else (2 * q + 1).testBit (i - p) := by
    have := Nat.testBit_two_pow_mul_add (2 * q + 1) (Nat.two_pow_pos p) i
    rw [← this, ← hwq, Nat.add_zero]
  rcases Nat.lt_trichotomy i p with h | h | h
  · rw [h0 i h]
    have : p ≠ i := by omega
    simp [this]
  · subst h
    rw [h1, hb, if_neg (Nat.lt_irrefl _), Nat.sub_self]
    have hi64 : i < 64 := by
      rcases Nat.lt_or_ge i 64 with h | h
      · exact h
      · have : w < 2 ^ i := Nat.lt_of_lt_of_le hw (Nat.pow_le_pow_right (by omega) h)
        rw [Nat.testBit_lt_two_pow this] at h1; cases h1
    simp [hi64]
  · rw [hb, hc, if_neg (by omega), if_neg (by omega)]
    have hne : p ≠ i := by omega
    obtain ⟨d, hd⟩ : ∃ d, i - p = d + 1 := ⟨i - p - 1, by omega⟩
    rw [hd, Nat.testBit_succ, Nat.testBit_succ]
    have e1 : (2 * q + 1) / 2 = q := by omega
    have e2 : 2 * q / 2 = q := by omega
    rw [e1, e2]
    simp only [hne, decide_false]
    cases q.testBit d <;> simp
theorem or_bit {w j : Nat} (h : w.testBit j = false) : w ||| 2 ^ j = w + 2 ^ j := by
  have hd : w = 2 ^ (j + 1) * (w / 2 ^ (j + 1)) + w % 2 ^ j := by
    have h1 := Nat.div_add_mod w (2 ^ (j + 1))
    have h2 : w % 2 ^ (j + 1) = w % 2 ^ j := by
      apply Nat.eq_of_testBit_eq
      intro i
      rw [Nat.testBit_mod_two_pow, Nat.testBit_mod_two_pow]
      rcases Nat.lt_trichotomy i j with q | q | q
      · simp [q, Nat.lt_succ_of_lt q]
      · subst q; simp [h]
      · have e1 : ¬ i < j + 1 := by omega
        have e2 : ¬ i < j := by omega
        simp [e1, e2]
    omega
  apply Nat.eq_of_testBit_eq
  intro i
  have hlt : w % 2 ^ j < 2 ^ j := Nat.mod_lt _ (Nat.two_pow_pos j)
  have h2 : 2 ^ (j + 1) = 2 ^ j + 2 ^ j := by rw [Nat.pow_succ]; omega
  have e : w + 2 ^ j = 2 ^ (j + 1) * (w / 2 ^ (j + 1)) + (2 ^ j + w % 2 ^ j) := by omega
  rw [Nat.testBit_or, e, Nat.testBit_two_pow_mul_add _ (by omega), Nat.testBit_two_pow]
  have hc : w.testBit i = if i < j + 1 then (w % 2 ^ j).testBit i else (w / 2 ^ (j + 1)).testBit (i - (j + 1)) := by
    have := Nat.testBit_two_pow_mul_add (w / 2 ^ (j + 1)) (show w % 2 ^ j < 2 ^ (j + 1) by omega) i
    rw [← this, ← hd]
  rcases Nat.lt_trichotomy i j with q | q | q
  · rw [if_pos (by omega), hc, if_pos (by omega), Nat.testBit_two_pow_add_gt q]
    have : j ≠ i := by omega
    simp [this]
  · subst q
    rw [if_pos (by omega), Nat.testBit_two_pow_add_eq, Nat.testBit_lt_two_pow hlt, h]; simp
  · rw [if_neg (by omega), hc, if_neg (by omega)]
    have : j ≠ i := by omega
    simp [this]
/-- A word of symbols that are bits. -/
theorem wordV_eq {ρ : Rho} {x : Nat} : ∀ q, (∀ i, i < q → ρ.val (x + i) = 0 ∨ ρ.val (x + i) = 1) → wordV ρ x q = (wN (fun i => decide (ρ.val (x + i) = 1)) q : Nat)
  | 0, _ => rfl
  | q + 1, h => by
    unfold wordV wN
    rw [wordV_eq q fun i hi => h i (by omega)]
    rcases h q (by omega) with e | e
    · rw [e]; simp
    · rw [e]; simp
def bitsOf (ρ : Rho) (x : Nat) : Nat → Bool := fun i => decide (ρ.val (x + i) = 1) || decide (i = 15)
theorem word_nat {ρ : Rho} {i x y : Nat} (h : DfOK ρ i x y 4) : ρ.val i = (wN (bitsOf ρ x) 16 : Nat) := by
  obtain ⟨h1, h2⟩ := h
  have e : ∀ q, q ≤ 15 → wN (bitsOf ρ x) q = wN (fun i => decide (ρ.val (x + i) = 1)) q := by
    intro q
    induction q with
    | zero => intro _; rfl
    | succ q ih =>
      intro hq
      unfold wN
      rw [ih (by omega)]
      have : bitsOf ρ x q = decide (ρ.val (x + q) = 1) := by
        unfold bitsOf
        have : ¬ q = 15 := by omega
        simp [this]
      rw [this]
  rw [h2, wordV_eq 15 h1]
  show _ = ((wN (bitsOf ρ x) 15 + (if bitsOf ρ x 15 then 2 ^ 15 else 0) : Nat) : Int)
  rw [e 15 (Nat.le_refl _)]
  have : bitsOf ρ x 15 = true := by unfold bitsOf; simp
  rw [this]
  simp
end Go.Rsf
