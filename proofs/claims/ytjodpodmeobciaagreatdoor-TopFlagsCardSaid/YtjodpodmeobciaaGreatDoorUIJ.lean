/- The eventflag's kernel: what its symbols stand for; their intervals hold; how its loops go on. Conditions: none. -/
import Derived.Test.YtjodpodmeobciaaGreatDoorUG
namespace Go.Rsf
open Go.RowKit
set_option linter.unusedVariables false
set_option linter.unusedSimpArgs false
/-! ### Counting -/
/-- How many of the first are so. -/
def cn (μ : Nat → Bool) : Nat → Nat
  | 0 => 0
  | j + 1 => cn μ j + (if μ j then 1 else 0)
/-- The one that has k so ahead of it, from one on; nought: none among the first. -/
def atN (μ : Nat → Bool) (k : Nat) : Nat → Nat
  | 0 => 0
  | j + 1 => if μ j = true ∧ cn μ j = k then j + 1 else atN μ k j
theorem cn_succ (μ : Nat → Bool) (j : Nat) : cn μ (j + 1) = cn μ j + (if μ j then 1 else 0) := rfl
theorem cn_le (μ : Nat → Bool) : ∀ j, cn μ j ≤ j
  | 0 => Nat.le_refl _
  | j + 1 => by have := cn_le μ j; rw [cn_succ]; split <;> omega
theorem cn_mono (μ : Nat → Bool) {i : Nat} : ∀ {j : Nat}, i ≤ j → cn μ i ≤ cn μ j
  | 0, h => by have : i = 0 := by omega
               subst this; exact Nat.le_refl _
  | j + 1, h => by
    by_cases e : i = j + 1
    · subst e; exact Nat.le_refl _
    · have := cn_mono μ (i := i) (j := j) (by omega)
      rw [cn_succ]; omega
theorem cn_step {μ : Nat → Bool} {i j : Nat} (h : μ i = true) (hij : i < j) : cn μ i < cn μ j := by
  have h1 := cn_mono μ (i := i + 1) (j := j) hij
  have h2 : cn μ (i + 1) = cn μ i + 1 := by rw [cn_succ, if_pos h]
  omega
theorem cn_inj {μ : Nat → Bool} {i j : Nat} (hi : μ i = true) (hj : μ j = true) (h : cn μ i = cn μ j) : i = j := by
  rcases Nat.lt_trichotomy i j with q | q | q
  · have := cn_step hi q; omega
  · exact q
  · have := cn_step hj q; omega
theorem cn_sum (μ : Nat → Bool) : ∀ j, cn μ j + cn (fun i => !μ i) j = j
  | 0 => rfl
  | j + 1 => by
    have := cn_sum μ j
    rw [cn_succ, cn_succ]
    cases μ j <;> simp <;> omega
theorem cn_slow (μ : Nat → Bool) {i : Nat} : ∀ {j : Nat}, i ≤ j → cn μ j ≤ cn μ i + (j - i)
  | 0, h => by have : i = 0 := by omega
               subst this; omega
  | j + 1, h => by
    by_cases e : i = j + 1
    · subst e; omega
    · have := cn_slow μ (i := i) (j := j) (by omega)
      rw [cn_succ]
      split <;> omega
theorem atN_hit {μ : Nat → Bool} {i : Nat} (hi : μ i = true) : ∀ {n : Nat}, i < n → atN μ (cn μ i) n = i + 1
  | 0, h => absurd h (Nat.not_lt_zero _)
  | n + 1, h => by
    unfold atN
    by_cases e : i = n
    · subst e; rw [if_pos ⟨hi, rfl⟩]
    · rw [if_neg fun q => e (cn_inj hi q.1 q.2.symm)]
      exact atN_hit hi (by omega)
theorem atN_le (μ : Nat → Bool) (k : Nat) : ∀ n, atN μ k n ≤ n
  | 0 => Nat.le_refl _
  | n + 1 => by
    unfold atN
    split
    · exact Nat.le_refl _
    · have := atN_le μ k n; omega
theorem cn_hit {μ : Nat → Bool} {k : Nat} : ∀ {n : Nat}, k < cn μ n → ∃ i, i < n ∧ μ i = true ∧ cn μ i = k
  | 0, h => absurd h (Nat.not_lt_zero _)
  | n + 1, h => by
    rw [cn_succ] at h
    by_cases q : k < cn μ n
    · obtain ⟨i, h1, h2, h3⟩ := cn_hit q
      exact ⟨i, by omega, h2, h3⟩
    · by_cases hm : μ n = true
      · rw [if_pos hm] at h
        exact ⟨n, by omega, hm, by omega⟩
      · rw [if_neg hm] at h; omega
/-! ### The symbols -/
/-- A word out of bits that are so, and bit 15. -/
def wd (β : Nat → Bool) : Nat → Int
  | 0 => 0
  | q + 1 => wd β q + 2 ^ q * (if β q then 1 else 0)
theorem wd_bounds (β : Nat → Bool) : ∀ q, 0 ≤ wd β q ∧ wd β q < 2 ^ q
  | 0 => ⟨Int.le_refl 0, (by show (0 : Int) < 2 ^ 0; decide)⟩
  | q + 1 => by
    obtain ⟨h1, h2⟩ := wd_bounds β q
    unfold wd
    have h3 : (2 : Int) ^ (q + 1) = 2 ^ q + 2 ^ q := by rw [Int.pow_succ]; omega
    split
    · rw [Int.mul_one]; omega
    · rw [Int.mul_zero]; omega
theorem wd_add {β γ : Nat → Bool} {i : Nat} (hi : β i = false) (hg : ∀ j, γ j = if j = i then true else β j) : ∀ q, wd γ q = wd β q + (if i < q then 2 ^ i else 0)
  | 0 => by simp [wd]
  | q + 1 => by
    unfold wd
    rw [wd_add hi hg q, hg q]
    by_cases e : q = i
    · subst e
      rw [hi]; simp
    · by_cases h : i < q
      · have h2 : i < q + 1 := by omega
        simp only [e, if_false, h, if_true, h2]
        omega
      · have h2 : ¬ i < q + 1 := by omega
        simp only [e, if_false, h, h2]
        omega
theorem wd_none : ∀ q, wd (fun _ => false) q = 0
  | 0 => rfl
  | q + 1 => by unfold wd; rw [wd_none q]; simp
/-- What the symbols stand for: n tasks, what they want, the bits, which are met, which are told by now. -/
def vals (n : Nat) (wt : Nat → Nat) (b : Nat) (μ β : Nat → Bool) (s : Nat) : Int :=
  if s = 0 then (b : Int) else if s < 16 then 0 else if s < 32 then ((if s - 16 < n then wt (s - 16) else 0 : Nat) : Int)
  else if s < 48 then ((Nat.land b (if s - 32 < n then wt (s - 32) else 0) : Nat) : Int)
  else if s < 64 then (if β (s - 48) then 1 else 0)
  else if s < 80 then (if β (s - 64) then (b : Int) else 0)
  else if s = 80 then wd β 15 + 32768
  else if s = 81 then (cn μ n : Int)
  else if s < 96 then 0
  else if s < 112 then (atN μ (s - 96) n : Int)
  else if s < 128 then (atN (fun i => !μ i) (s - 112) n : Int)
  else 0
section
variable {n : Nat} {wt : Nat → Nat} {b : Nat} {μ β : Nat → Bool}
theorem vals_bits : vals n wt b μ β 0 = b := rfl
theorem vals_z {s : Nat} (h1 : 0 < s) (h2 : s < 16) : vals n wt b μ β s = 0 := by
  unfold vals; rw [if_neg (by omega), if_pos h2]
theorem vals_want {i : Nat} (h : i < 16) : vals n wt b μ β (16 + i) = ((if i < n then wt i else 0 : Nat) : Int) := by
  unfold vals
  rw [if_neg (by omega), if_neg (by omega), if_pos (by omega)]
  have e : 16 + i - 16 = i := by omega
  rw [e]
theorem vals_a {i : Nat} (h : i < 16) : vals n wt b μ β (32 + i) = ((Nat.land b (if i < n then wt i else 0) : Nat) : Int) := by
  unfold vals
  rw [if_neg (by omega), if_neg (by omega), if_neg (by omega), if_pos (by omega)]
  have e : 32 + i - 32 = i := by omega
  rw [e]
theorem vals_b {i : Nat} (h : i < 16) : vals n wt b μ β (48 + i) = if β i then 1 else 0 := by
  unfold vals
  rw [if_neg (by omega), if_neg (by omega), if_neg (by omega), if_neg (by omega), if_pos (by omega)]
  have e : 48 + i - 48 = i := by omega
  rw [e]
theorem vals_lv {i : Nat} (h : i < 16) : vals n wt b μ β (64 + i) = if β i then (b : Int) else 0 := by
  unfold vals
  rw [if_neg (by omega), if_neg (by omega), if_neg (by omega), if_neg (by omega), if_neg (by omega), if_pos (by omega)]
  have e : 64 + i - 64 = i := by omega
  rw [e]
theorem vals_W : vals n wt b μ β 80 = wd β 15 + 32768 := rfl
theorem vals_C : vals n wt b μ β 81 = cn μ n := rfl
theorem vals_z2 {i : Nat} (h : i < 14) : vals n wt b μ β (82 + i) = 0 := by
  unfold vals
  rw [if_neg (by omega), if_neg (by omega), if_neg (by omega), if_neg (by omega), if_neg (by omega), if_neg (by omega), if_neg (by omega), if_neg (by omega), if_pos (by omega)]
theorem vals_M {i : Nat} (h : i < 16) : vals n wt b μ β (96 + i) = atN μ i n := by
  unfold vals
  rw [if_neg (by omega), if_neg (by omega), if_neg (by omega), if_neg (by omega), if_neg (by omega), if_neg (by omega), if_neg (by omega), if_neg (by omega), if_neg (by omega), if_pos (by omega)]
  have e : 96 + i - 96 = i := by omega
  rw [e]
theorem vals_U {i : Nat} (h : i < 16) : vals n wt b μ β (112 + i) = atN (fun j => !μ j) i n := by
  unfold vals
  rw [if_neg (by omega), if_neg (by omega), if_neg (by omega), if_neg (by omega), if_neg (by omega), if_neg (by omega), if_neg (by omega), if_neg (by omega), if_neg (by omega), if_neg (by omega), if_pos (by omega)]
  have e : 112 + i - 112 = i := by omega
  rw [e]
/-- Symbols that do not hang on which are told. -/
theorem vals_same {γ : Nat → Bool} {s : Nat} (h1 : ∀ i, i < 16 → s = 48 + i → β i = γ i) (h2 : ∀ i, i < 16 → s = 64 + i → β i = γ i) (h3 : s ≠ 80) : vals n wt b μ β s = vals n wt b μ γ s := by
  unfold vals
  by_cases c1 : s < 48
  · simp only [c1, if_true]
  · by_cases c2 : s < 64
    · rw [h1 (s - 48) (by omega) (by omega)]
      simp only [c2, if_true]
    · by_cases c3 : s < 80
      · rw [h2 (s - 64) (by omega) (by omega)]
        simp only [c1, c2, c3, if_true, if_false]
      · simp only [c1, c2, c3, h3, if_false]
end
/-! ### Intervals -/
/-- A symbol's interval holds. -/
def Holds (ρ : Rho) (s : Nat) (x : Iv) : Prop := (x.lo ≤ ρ.val s ∧ ρ.val s ≤ x.hi) ∧ MdOK ρ s x.md
theorem seg_get {f : Nat → Iv} : ∀ {n i : Nat} {r : List Iv} {j : Nat} {x : Iv}, (seg f n i r)[j]? = some x → (j < n ∧ x = f (i + j)) ∨ (n ≤ j ∧ r[j - n]? = some x)
  | 0, i, r, j, x, h => .inr ⟨Nat.zero_le _, h⟩
  | n + 1, i, r, 0, x, h => by
    have h : some (f i) = some x := h
    cases h
    exact .inl ⟨Nat.zero_lt_succ _, rfl⟩
  | n + 1, i, r, j + 1, x, h => by
    have h : (seg f n (Nat.succ i) r)[j]? = some x := h
    rcases seg_get h with ⟨h1, h2⟩ | ⟨h1, h2⟩
    · exact .inl ⟨by omega, by rw [h2]; congr 1; omega⟩
    · refine .inr ⟨by omega, ?_⟩
      have e : j + 1 - (n + 1) = j - n := by omega
      rw [e]; exact h2
theorem seg_ok {ρ : Rho} {f : Nat → Iv} {n o : Nat} {r : List Iv} (hf : ∀ i, i < n → Holds ρ (o + i) (f i)) (hr : ∀ (j : Nat) x, r[j]? = some x → Holds ρ (o + n + j) x) : ∀ (j : Nat) x, (seg f n 0 r)[j]? = some x → Holds ρ (o + j) x := by
  intro j x h
  rcases seg_get h with ⟨h1, h2⟩ | ⟨h1, h2⟩
  · rw [h2, Nat.zero_add]; exact hf j h1
  · have := hr _ _ h2
    have e : o + n + (j - n) = o + j := by omega
    rw [e] at this; exact this
theorem cons_ok {ρ : Rho} {y : Iv} {o : Nat} {r : List Iv} (hy : Holds ρ o y) (hr : ∀ (j : Nat) x, r[j]? = some x → Holds ρ (o + 1 + j) x) : ∀ (j : Nat) x, (y :: r)[j]? = some x → Holds ρ (o + j) x
  | 0, x, h => by
    simp at h; subst h; exact hy
  | j + 1, x, h => by
    have := hr j x (by simpa using h)
    have e : o + 1 + j = o + (j + 1) := by omega
    rw [e] at this; exact this
theorem ivAll_ok {ρ : Rho} {T : IvT} (h0 : Holds ρ 0 T.bits) (hz : ∀ i, i < 15 → ρ.val (1 + i) = 0) (hw : ∀ i, i < 16 → Holds ρ (16 + i) (T.want i)) (ha : ∀ i, i < 16 → Holds ρ (32 + i) (T.a i)) (hb : ∀ i, i < 16 → Holds ρ (48 + i) (T.b i))
    (hl : ∀ i, i < 16 → Holds ρ (64 + i) (T.lv i)) (hW : Holds ρ 80 T.W) (hC : Holds ρ 81 T.C) (hz2 : ∀ i, i < 14 → ρ.val (82 + i) = 0) (hM : ∀ i, i < 16 → Holds ρ (96 + i) (T.M i)) (hU : ∀ i, i < 16 → Holds ρ (112 + i) (T.U i)) : IvOK ρ (ivAll T) := by
  have z : ∀ {s}, ρ.val s = 0 → Holds ρ s ⟨Int.ofNat 0, Int.ofNat 0, 0⟩ := fun e => ⟨⟨by rw [e]; exact Int.le_refl _, by rw [e]; exact Int.le_refl _⟩, md_no _ _⟩
  have key := cons_ok (ρ := ρ) (o := 0) (r := seg zIv 15 0 (seg T.want 16 0 (seg T.a 16 0 (seg T.b 16 0 (seg T.lv 16 0 (T.W :: T.C :: seg zIv 14 0 (seg T.M 16 0 (seg T.U 16 0 [])))))))) h0
    (seg_ok (o := 1) (fun i hi => z (hz i hi)) (seg_ok (o := 16) hw (seg_ok (o := 32) ha (seg_ok (o := 48) hb (seg_ok (o := 64) hl (cons_ok (o := 80) hW (cons_ok (o := 81) hC (seg_ok (o := 82) (fun i hi => z (hz2 i hi)) (seg_ok (o := 96) hM (seg_ok (o := 112) hU (fun j x h => by simp at h)))))))))))
  intro i x hx
  have := key i x hx
  rw [Nat.zero_add] at this
  exact this
theorem holds0 {ρ : Rho} {s lo hi : Nat} (h1 : (lo : Int) ≤ ρ.val s) (h2 : ρ.val s ≤ (hi : Int)) : Holds ρ s (iv3 lo hi 0) := ⟨⟨h1, h2⟩, md_no _ _⟩
theorem LT_val : Go.Rsf.LT = 18446744073709551616 := rfl
/-- How a symbol is made, out of a number that tells it. -/
theorem md_of {ρ : Rho} {s c kd x y : Nat} (h0 : 0 < c) (hc : c < 1000000) (hk : c % 8 = kd) (hx : c / 8 % 256 = x) (hy : c / 2048 = y) (h : DfOK ρ s x y kd) : MdOK ρ s (Nat.add Go.Rsf.LT c) := by
  have hm : Nat.mod (Nat.add Go.Rsf.LT c) Go.Rsf.LT = c := by
    show (Go.Rsf.LT + c) % Go.Rsf.LT = c
    rw [Nat.add_mod_left]
    exact Nat.mod_eq_of_lt (by rw [LT_val]; omega)
  have hlt : Go.Rsf.LT < Nat.add Go.Rsf.LT c := by show Go.Rsf.LT < Go.Rsf.LT + c; omega
  refine ⟨fun _ h2 => absurd h2 (Nat.lt_asymm hlt), fun e => absurd e (Nat.ne_of_gt hlt), fun _ => ?_⟩
  have e1 : mdK (Nat.add Go.Rsf.LT c) = kd := by show Nat.mod (Nat.mod (Nat.add Go.Rsf.LT c) Go.Rsf.LT) 8 = kd; rw [hm]; exact hk
  have e2 : mdX (Nat.add Go.Rsf.LT c) = x := by show Nat.mod (Nat.div (Nat.mod (Nat.add Go.Rsf.LT c) Go.Rsf.LT) 8) 256 = x; rw [hm]; exact hx
  have e3 : mdY (Nat.add Go.Rsf.LT c) = y := by show Nat.div (Nat.mod (Nat.add Go.Rsf.LT c) Go.Rsf.LT) 2048 = y; rw [hm]; exact hy
  rw [e1, e2, e3]; exact h
theorem ifB_true {α : Type} {b : Bool} {x y : α} (h : b = true) : ifB b x y = x := by rw [h]; rfl
theorem ifB_false {α : Type} {b : Bool} {x y : α} (h : b = false) : ifB b x y = y := by rw [h]; rfl
theorem ifB_lt {α : Type} {i n : Nat} {x y : α} : ifB (Nat.blt i n) x y = if i < n then x else y := by
  by_cases h : i < n
  · rw [if_pos h, ifB_true (show Nat.blt i n = true from Nat.ble_eq_true_of_le h)]
  · rw [if_neg h, ifB_false (by cases hb : Nat.blt i n with | false => rfl | true => exact absurd (Nat.le_of_ble_eq_true hb) h)]
theorem ifB_le {α : Type} {i n : Nat} {x y : α} : ifB (Nat.ble i n) x y = if i ≤ n then x else y := by
  by_cases h : i ≤ n
  · rw [if_pos h, ifB_true (Nat.ble_eq_true_of_le h)]
  · rw [if_neg h, ifB_false (by cases hb : Nat.ble i n with | false => rfl | true => exact absurd (Nat.le_of_ble_eq_true hb) h)]
theorem ifB_eq {α : Type} {i n : Nat} {x y : α} : ifB (Nat.beq i n) x y = if i = n then x else y := by
  by_cases h : i = n
  · rw [if_pos h, ifB_true (by rw [h]; exact Nat.beq_refl _)]
  · rw [if_neg h, ifB_false (by cases hb : Nat.beq i n with | false => rfl | true => exact absurd (Nat.eq_of_beq_eq_true hb) h)]
end Go.Rsf
namespace Go.Rsf
open Go.RowKit
set_option linter.unusedVariables false
set_option linter.unusedSimpArgs false
/-- What the tasks want, and which bits are set. -/
structure Flg (n : Nat) (wt : Nat → Nat) (b : Nat) (μ : Nat → Bool) : Prop where
  n15 : n ≤ 15
  b255 : b ≤ 255
  w255 : ∀ i, i < n → wt i ≤ 255
  met : ∀ i, μ i = true ↔ i < n ∧ (if i % 2 = 0 then Nat.land b (wt i) = wt i else Nat.land b (wt i) ≠ 0)
abbrev rhoV (n : Nat) (wt : Nat → Nat) (b : Nat) (μ β : Nat → Bool) (gl : Option Nat) (mem : Nat → Option Obj) : Rho := ⟨vals n wt b μ β, gl, mem⟩
section
variable {n : Nat} {wt : Nat → Nat} {b : Nat} {μ β : Nat → Bool} {gl : Option Nat} {mem : Nat → Option Obj} (H : Flg n wt b μ)
include H
theorem Flg.far {i : Nat} (h : n ≤ i) : μ i = false := by
  cases hm : μ i with
  | false => rfl
  | true => have := ((H.met i).1 hm).1; omega
theorem h_bits : Holds (rhoV n wt b μ β gl mem) 0 (iv3 0 255 0) := by
  have := H.b255
  refine holds0 ?_ ?_
  · show (0 : Int) ≤ ((b : Nat) : Int); omega
  · show ((b : Nat) : Int) ≤ 255; omega
theorem h_want {i : Nat} (hi : i < 16) : Holds (rhoV n wt b μ β gl mem) (16 + i) (iv3 0 255 0) := by
  have e : (rhoV n wt b μ β gl mem).val (16 + i) = _ := vals_want hi
  refine holds0 ?_ ?_
  · rw [e]; show (0 : Int) ≤ _; omega
  · rw [e]
    by_cases h : i < n
    · rw [if_pos h]; have := H.w255 i h; show _ ≤ (255 : Int); omega
    · rw [if_neg h]; show (0 : Int) ≤ 255; decide
theorem h_a {i : Nat} (hi : i < 16) : Holds (rhoV n wt b μ β gl mem) (32 + i) (iv3 0 255 (mdA n i)) := by
  have e : (rhoV n wt b μ β gl mem).val (32 + i) = _ := vals_a hi
  refine ⟨⟨?_, ?_⟩, ?_⟩
  · rw [e]; show (0 : Int) ≤ _; omega
  · rw [e]
    have h1 := Nat.and_le_left (n := b) (m := if i < n then wt i else 0)
    have h2 := H.b255
    show ((Nat.land b (if i < n then wt i else 0) : Nat) : Int) ≤ 255
    have h3 : Nat.land b (if i < n then wt i else 0) ≤ b := h1
    omega
  · show MdOK _ _ (mdA n i)
    unfold mdA
    rw [ifB_lt]
    by_cases h : i < n
    · rw [if_pos h]
      refine md_of (kd := 0) (x := 0) (y := 16 + i) (by omega) (by omega) (by omega) (by omega) (by omega) ?_
      show (rhoV n wt b μ β gl mem).val (32 + i) = Int.ofNat (Nat.land ((rhoV n wt b μ β gl mem).val 0).toNat ((rhoV n wt b μ β gl mem).val (16 + i)).toNat)
      rw [e, show (rhoV n wt b μ β gl mem).val (16 + i) = _ from vals_want hi]
      rfl
    · rw [if_neg h]; exact md_no _ _
theorem h_b {i : Nat} (hi : i < 16) : Holds (rhoV n wt b μ μ gl mem) (48 + i) (iv3 0 (ifB (Nat.blt i n) 1 0) (mdM n i)) := by
  have e : (rhoV n wt b μ μ gl mem).val (48 + i) = _ := vals_b hi
  refine ⟨⟨?_, ?_⟩, ?_⟩
  · rw [e]; show (0 : Int) ≤ _; split <;> decide
  · rw [e, ifB_lt]
    by_cases h : i < n
    · rw [if_pos h]; show _ ≤ (1 : Int); split <;> decide
    · rw [if_neg h, H.far (by omega)]; show (if false = true then (1 : Int) else 0) ≤ 0; decide
  · show MdOK _ _ (mdM n i)
    unfold mdM
    rw [ifB_lt]
    by_cases h : i < n
    · rw [if_pos h, ifB_eq]
      have ea : (rhoV n wt b μ μ gl mem).val (32 + i) = ((Nat.land b (wt i) : Nat) : Int) := by rw [show (rhoV n wt b μ μ gl mem).val (32 + i) = _ from vals_a hi, if_pos h]
      have ew : (rhoV n wt b μ μ gl mem).val (16 + i) = ((wt i : Nat) : Int) := by rw [show (rhoV n wt b μ μ gl mem).val (16 + i) = _ from vals_want hi, if_pos h]
      have hm := H.met i
      by_cases h2 : i % 2 = 0
      · rw [if_pos h2]
        rw [if_pos h2] at hm
        refine md_of (kd := 1) (x := 32 + i) (y := 16 + i) (by omega) (by omega) (by omega) (by omega) (by omega) ?_
        show (rhoV n wt b μ μ gl mem).val (48 + i) = if (rhoV n wt b μ μ gl mem).val (32 + i) = (rhoV n wt b μ μ gl mem).val (16 + i) then 1 else 0
        rw [e, ea, ew]
        by_cases q : μ i = true
        · rw [if_pos q, if_pos (by rw [(hm.1 q).2])]
        · rw [if_neg q, if_neg (fun x => q (hm.2 ⟨h, by omega⟩))]
      · rw [if_neg h2]
        rw [if_neg h2] at hm
        refine md_of (kd := 2) (x := 32 + i) (y := 0) (by omega) (by omega) (by omega) (by omega) (by omega) ?_
        show (rhoV n wt b μ μ gl mem).val (48 + i) = if (rhoV n wt b μ μ gl mem).val (32 + i) = 0 then 0 else 1
        rw [e, ea]
        by_cases q : μ i = true
        · have := (hm.1 q).2
          rw [if_pos q, if_neg (by omega)]
        · rw [if_neg q, if_pos]
          by_cases q2 : Nat.land b (wt i) = 0
          · rw [q2]; rfl
          · exact absurd (hm.2 ⟨h, q2⟩) q
    · rw [if_neg h]; exact md_no _ _
theorem h_lv {i : Nat} (hi : i < 16) : Holds (rhoV n wt b μ β gl mem) (64 + i) (iv3 0 255 0) := by
  have e : (rhoV n wt b μ β gl mem).val (64 + i) = _ := vals_lv hi
  have := H.b255
  refine holds0 ?_ ?_
  · rw [e]; show (0 : Int) ≤ _; split <;> omega
  · rw [e]; show _ ≤ (255 : Int); split <;> omega
omit H in
theorem h_W : Holds (rhoV n wt b μ β gl mem) 80 (iv3 32768 65535 (Nat.add Go.Rsf.LT (4 + 8 * 48))) := by
  have e : (rhoV n wt b μ β gl mem).val 80 = wd β 15 + 32768 := rfl
  obtain ⟨w1, w2⟩ := wd_bounds β 15
  refine ⟨⟨?_, ?_⟩, ?_⟩
  · rw [e]; show (32768 : Int) ≤ _; omega
  · rw [e]; show _ ≤ (65535 : Int); omega
  · refine md_of (kd := 4) (x := 48) (y := 0) (by decide) (by decide) (by decide) (by decide) (by decide) ⟨fun q hq => ?_, ?_⟩
    · rw [show (rhoV n wt b μ β gl mem).val (48 + q) = _ from vals_b (by omega)]
      split
      · exact .inr rfl
      · exact .inl rfl
    · rw [e]
      have key : ∀ q, q ≤ 15 → wordV (rhoV n wt b μ β gl mem) 48 q = wd β q := by
        intro q
        induction q with
        | zero => intro _; rfl
        | succ q ih =>
          intro hq
          unfold wordV wd
          rw [ih (by omega), show (rhoV n wt b μ β gl mem).val (48 + q) = _ from vals_b (by omega)]
      rw [key 15 (Nat.le_refl _)]
theorem h_M0 {i : Nat} (hi : i < 16) : Holds (rhoV n wt b μ β gl mem) (96 + i) (iv3 0 15 0) := by
  have e : (rhoV n wt b μ β gl mem).val (96 + i) = _ := vals_M hi
  have h1 := atN_le μ i n
  have := H.n15
  refine holds0 ?_ ?_
  · rw [e]; show (0 : Int) ≤ _; omega
  · rw [e]; show _ ≤ (15 : Int); omega
theorem h_U0 {i : Nat} (hi : i < 16) : Holds (rhoV n wt b μ β gl mem) (112 + i) (iv3 0 15 0) := by
  have e : (rhoV n wt b μ β gl mem).val (112 + i) = _ := vals_U hi
  have h1 := atN_le (fun j => !μ j) i n
  have := H.n15
  refine holds0 ?_ ?_
  · rw [e]; show (0 : Int) ≤ _; omega
  · rw [e]; show _ ≤ (15 : Int); omega
theorem h_C0 : Holds (rhoV n wt b μ β gl mem) 81 (iv3 0 15 0) := by
  have e : (rhoV n wt b μ β gl mem).val 81 = cn μ n := rfl
  have h1 := cn_le μ n
  have := H.n15
  refine holds0 ?_ ?_
  · rw [e]; show (0 : Int) ≤ _; omega
  · rw [e]; show _ ≤ (15 : Int); omega
/-- Ahead of the law. -/
theorem ivB_ok : IvOK (rhoV n wt b μ μ gl mem) (ivAll ⟨iv3 0 255 0, fun i => iv3 0 255 0, fun i => iv3 0 255 (mdA n i), fun i => iv3 0 (ifB (Nat.blt i n) 1 0) (mdM n i), fun i => iv3 0 255 (Nat.add Go.Rsf.LT (3 + 8 * (48 + i))), iv3 32768 65535 (Nat.add Go.Rsf.LT (4 + 8 * 48)), iv3 0 15 0, fun _ => iv3 0 15 0, fun _ => iv3 0 15 0⟩) := by
  refine ivAll_ok (h_bits H) (fun i hi => vals_z (by omega) (by omega)) (fun i hi => h_want H hi) (fun i hi => h_a H hi) (fun i hi => h_b H hi) (fun i hi => ?_) h_W (h_C0 H) (fun i hi => vals_z2 hi) (fun i hi => h_M0 H hi) (fun i hi => h_U0 H hi)
  obtain ⟨h1, _⟩ := h_lv (β := μ) (gl := gl) (mem := mem) H hi
  refine ⟨h1, md_of (kd := 3) (x := 48 + i) (y := 0) (by omega) (by omega) (by omega) (by omega) (by omega) ?_⟩
  intro q
  rw [show (rhoV n wt b μ μ gl mem).val (48 + i) = _ from vals_b hi] at q
  rw [show (rhoV n wt b μ μ gl mem).val (64 + i) = _ from vals_lv hi]
  by_cases hm : μ i = true
  · rw [if_pos hm]; rfl
  · rw [if_neg hm] at q; cases q
/-- In the loop of Raise. -/
theorem ivR_ok (hw1 : ∀ i, i < n → 1 ≤ wt i) {j : Nat} (hj : j ≤ n) : IvOK (rhoV n wt b μ μ gl mem) (ivAll (ivR n j (cn (fun i => !μ i) j))) := by
  have h15 := H.n15
  have hsum := cn_sum μ j
  refine ivAll_ok (h_bits H) (fun i hi => vals_z (by omega) (by omega)) (fun i hi => ?_) (fun i hi => h_a H hi) (fun i hi => ?_) (fun i hi => h_lv H hi) ?_ ?_ (fun i hi => vals_z2 hi) (fun i hi => ?_) (fun i hi => ?_)
  · show Holds _ _ (iv3 (ifB (Nat.blt i n) 1 0) 255 0)
    rw [ifB_lt]
    by_cases h : i < n
    · rw [if_pos h]
      have e : (rhoV n wt b μ μ gl mem).val (16 + i) = _ := vals_want hi
      rw [if_pos h] at e
      have h1 := hw1 i h
      have h2 := H.w255 i h
      refine holds0 ?_ ?_
      · rw [e]; omega
      · rw [e]; omega
    · rw [if_neg h]; exact h_want H hi
  · obtain ⟨⟨h1, h2⟩, h3⟩ := h_b (gl := gl) (mem := mem) H hi
    refine ⟨⟨h1, ?_⟩, h3⟩
    show _ ≤ (1 : Int)
    rw [show (rhoV n wt b μ μ gl mem).val (48 + i) = _ from vals_b hi]
    split <;> decide
  · obtain ⟨⟨h1, h2⟩, _⟩ := h_W (β := μ) (gl := gl) (mem := mem)
    have h1 : (32768 : Int) ≤ (rhoV n wt b μ μ gl mem).val 80 := h1
    exact holds0 (by show (0 : Int) ≤ (rhoV n wt b μ μ gl mem).val 80; omega) h2
  · show Holds _ _ (ifB (Nat.beq j n) _ _)
    rw [ifB_eq]
    by_cases h : j = n
    · subst h
      rw [if_pos rfl]
      have e : (rhoV j wt b μ μ gl mem).val 81 = cn μ j := rfl
      refine holds0 ?_ ?_
      · rw [e]; omega
      · rw [e]; omega
    · rw [if_neg h]; exact h_C0 H
  · show Holds _ _ (ifB (Nat.blt i (j - cn (fun i => !μ i) j)) _ _)
    rw [ifB_lt]
    by_cases h : i < j - cn (fun i => !μ i) j
    · rw [if_pos h]
      obtain ⟨q, q1, q2, q3⟩ := cn_hit (μ := μ) (k := i) (n := j) (by omega)
      have e : (rhoV n wt b μ μ gl mem).val (96 + i) = _ := vals_M hi
      have hit := atN_hit (n := n) q2 (by omega)
      rw [q3] at hit
      refine holds0 ?_ ?_
      · rw [e, hit]; omega
      · rw [e, hit]; omega
    · rw [if_neg h]; exact h_M0 H hi
  · show Holds _ _ (ifB (Nat.blt i (cn (fun i => !μ i) j)) _ _)
    rw [ifB_lt]
    by_cases h : i < cn (fun i => !μ i) j
    · rw [if_pos h]
      obtain ⟨q, q1, q2, q3⟩ := cn_hit (μ := fun i => !μ i) (k := i) (n := j) h
      have e : (rhoV n wt b μ μ gl mem).val (112 + i) = _ := vals_U hi
      have hit := atN_hit (μ := fun i => !μ i) (n := n) q2 (by omega)
      rw [q3] at hit
      refine holds0 ?_ ?_
      · rw [e, hit]; omega
      · rw [e, hit]; omega
    · rw [if_neg h]; exact h_U0 H hi
/-- Which are told, when k are. -/
def told (μ : Nat → Bool) (k : Nat) (i : Nat) : Bool := μ i && decide (cn μ i < k)
omit H in
theorem told_all (m : Nat) (h : ∀ i, μ i = true → cn μ i < m) : told μ m = μ := by
  funext i
  unfold told
  cases hm : μ i with
  | false => rfl
  | true => simp [h i hm]
theorem told_n : told μ (cn μ n) = μ := told_all _ fun i hi => cn_step hi ((H.met i).1 hi).1
omit H in
theorem told_zero : told μ 0 = fun _ => false := by
  funext i; unfold told; simp
/-- In the loop that tells them. -/
theorem ivF_ok {k t' : Nat} (hk : k ≤ cn μ n) (ht : (k < cn μ n ∧ t' = atN μ k n) ∨ (k = cn μ n ∧ t' = 16)) : IvOK (rhoV n wt b μ (told μ k) gl mem) (ivAll (ivF k t')) := by
  have h15 := H.n15
  have hb0 : ∀ i, i < 16 → ¬ i + 1 < t' → told μ k i = false := by
    intro i hi hlt
    rcases ht with ⟨h1, h2⟩ | ⟨h1, h2⟩
    · obtain ⟨q, q1, q2, q3⟩ := cn_hit h1
      have hit := atN_hit (n := n) q2 q1
      rw [q3, ← h2] at hit
      unfold told
      cases hm : μ i with
      | false => rfl
      | true =>
        have : cn μ q ≤ cn μ i := cn_mono μ (by omega)
        have : ¬ cn μ i < k := by omega
        simp [this]
    · unfold told
      rw [H.far (i := i) (by omega)]; rfl
  refine ivAll_ok (h_bits H) (fun i hi => vals_z (by omega) (by omega)) (fun i hi => h_want H hi) (fun i hi => ?_) (fun i hi => ?_) (fun i hi => h_lv H hi) ?_ (h_C0 H) (fun i hi => vals_z2 hi) (fun i hi => ?_) (fun i hi => h_U0 H hi)
  · obtain ⟨h1, _⟩ := h_a (β := told μ k) (gl := gl) (mem := mem) H hi
    exact ⟨h1, md_no _ _⟩
  · show Holds _ _ (iv3 0 (ifB (Nat.blt (i + 1) t') 1 0) 0)
    rw [ifB_lt]
    have e : (rhoV n wt b μ (told μ k) gl mem).val (48 + i) = _ := vals_b hi
    by_cases h : i + 1 < t'
    · rw [if_pos h]
      refine holds0 ?_ ?_
      · rw [e]; split <;> decide
      · rw [e]; split <;> decide
    · rw [if_neg h]
      rw [hb0 i hi h] at e
      refine holds0 ?_ ?_
      · rw [e]; decide
      · rw [e]; decide
  · obtain ⟨⟨h1, h2⟩, h3⟩ := h_W (β := told μ k) (gl := gl) (mem := mem)
    have h1 : (32768 : Int) ≤ (rhoV n wt b μ (told μ k) gl mem).val 80 := h1
    exact ⟨⟨by show (0 : Int) ≤ (rhoV n wt b μ (told μ k) gl mem).val 80; omega, h2⟩, h3⟩
  · show Holds _ _ (ifB (Nat.beq i k) (ifB (Nat.ble t' 15) (iv3 t' t' 0) (iv3 0 15 0)) (iv3 0 15 0))
    rw [ifB_eq, ifB_le]
    by_cases h : i = k
    · subst h
      rw [if_pos rfl]
      by_cases h2 : t' ≤ 15
      · rw [if_pos h2]
        rcases ht with ⟨h3, h4⟩ | ⟨h3, h4⟩
        · have e : (rhoV n wt b μ (told μ i) gl mem).val (96 + i) = _ := vals_M hi
          rw [← h4] at e
          exact holds0 (by rw [e]; exact Int.le_refl _) (by rw [e]; exact Int.le_refl _)
        · omega
      · rw [if_neg h2]; exact h_M0 H hi
    · rw [if_neg h]; exact h_M0 H hi
end
end Go.Rsf
namespace Go.Rsf
open Go.RowKit
set_option linter.unusedVariables false
set_option linter.unusedSimpArgs false
theorem sgAt_cons (x : Nat × Line) (l : Sg) (s : Nat) : sgAt (x :: l) s = if x.1 = s then x.2 else sgAt l s := by
  show @Bool.rec (fun _ => Line) (sgAt l s) x.2 (Nat.beq x.1 s) = _
  by_cases h : x.1 = s
  · rw [if_pos h, show Nat.beq x.1 s = true by rw [h]; exact Nat.beq_refl _]
  · rw [if_neg h, show Nat.beq x.1 s = false by cases hb : Nat.beq x.1 s with | false => rfl | true => exact absurd (Nat.eq_of_beq_eq_true hb) h]
theorem sgAt_nil (s : Nat) : sgAt [] s = (1, s, 0) := rfl
theorem line_id (ρ : Rho) (s : Nat) : Line.at ρ (1, s, 0) = ρ.val s := by
  show (1 : Int) * ρ.val s + 0 = _
  rw [Int.one_mul, Int.add_zero]
theorem line_c (ρ : Rho) (s : Nat) (c : Int) : Line.at ρ (0, s, c) = c := by
  show (0 : Int) * ρ.val s + c = _
  rw [Int.zero_mul, Int.zero_add]
theorem rhoIs_nil (ρ : Rho) : RhoIs ρ ρ [] := fun s => by rw [sgAt_nil, line_id]
theorem rhoIs_one {ρ : Rho} {q : Nat} {c : Int} (h : ρ.val q = c) : RhoIs ρ ρ [(q, (0, 0, c))] := fun s => by
  rw [sgAt_cons, sgAt_nil]
  by_cases e : q = s
  · rw [if_pos e, line_c, ← e]; exact h
  · rw [if_neg e, line_id]
section
variable {P : Program} {n : Nat} {wt : Nat → Nat} {b : Nat} {μ : Nat → Bool} {gl : Option Nat} {mem : Nat → Option Obj}
theorem sg0_at : ∀ (q s : Nat), q ≤ 15 → sgAt (sg0 q) s = if 48 ≤ s ∧ s < 48 + q then (0, 0, 0) else if 64 ≤ s ∧ s < 64 + q then (0, 0, 0) else if s = 80 then (0, 0, 32768) else (1, s, 0)
  | 0, s, _ => by
    show sgAt [(80, ((0 : Int), 0, (32768 : Int)))] s = _
    rw [sgAt_cons, sgAt_nil, if_neg (show ¬ (48 ≤ s ∧ s < 48 + 0) by omega), if_neg (show ¬ (64 ≤ s ∧ s < 64 + 0) by omega)]
    by_cases h : s = 80
    · rw [if_pos h.symm, if_pos h]
    · rw [if_neg (fun e => h e.symm), if_neg h]
  | q + 1, s, hq => by
    show sgAt ((48 + q, ((0 : Int), 0, (0 : Int))) :: (64 + q, ((0 : Int), 0, (0 : Int))) :: sg0 q) s = _
    rw [sgAt_cons, sgAt_cons, sg0_at q s (by omega)]
    show (if 48 + q = s then ((0 : Int), 0, (0 : Int)) else if 64 + q = s then ((0 : Int), 0, (0 : Int)) else _) = _
    by_cases h1 : 48 + q = s
    · rw [if_pos h1, if_pos (show 48 ≤ s ∧ s < 48 + (q + 1) by omega)]
    · rw [if_neg h1]
      by_cases h2 : 64 + q = s
      · rw [if_pos h2, if_neg (show ¬ (48 ≤ s ∧ s < 48 + (q + 1)) by omega), if_pos (show 64 ≤ s ∧ s < 64 + (q + 1) by omega)]
      · rw [if_neg h2]
        by_cases h3 : 48 ≤ s ∧ s < 48 + q
        · rw [if_pos h3, if_pos (show 48 ≤ s ∧ s < 48 + (q + 1) by omega)]
        · rw [if_neg h3, if_neg (show ¬ (48 ≤ s ∧ s < 48 + (q + 1)) by omega)]
          by_cases h4 : 64 ≤ s ∧ s < 64 + q
          · rw [if_pos h4, if_pos (show 64 ≤ s ∧ s < 64 + (q + 1) by omega)]
          · rw [if_neg h4, if_neg (show ¬ (64 ≤ s ∧ s < 64 + (q + 1)) by omega)]
theorem rhoIs_none (H : Flg n wt b μ) : RhoIs (rhoV n wt b μ μ gl mem) (rhoV n wt b μ (told μ 0) gl mem) (sg0 15) := by
  have h15 := H.n15
  intro s
  rw [sg0_at 15 s (Nat.le_refl _)]
  by_cases h1 : 48 ≤ s ∧ s < 48 + 15
  · rw [if_pos h1, line_c]
    have e : s = 48 + (s - 48) := by omega
    rw [e, show (rhoV n wt b μ (told μ 0) gl mem).val (48 + (s - 48)) = _ from vals_b (by omega), told_zero]; rfl
  · rw [if_neg h1]
    by_cases h2 : 64 ≤ s ∧ s < 64 + 15
    · rw [if_pos h2, line_c]
      have e : s = 64 + (s - 64) := by omega
      rw [e, show (rhoV n wt b μ (told μ 0) gl mem).val (64 + (s - 64)) = _ from vals_lv (by omega), told_zero]; rfl
    · rw [if_neg h2]
      by_cases h3 : s = 80
      · rw [if_pos h3, line_c, h3]
        show wd (told μ 0) 15 + 32768 = 32768
        rw [told_zero, wd_none]; rfl
      · rw [if_neg h3, line_id]
        refine vals_same (fun i hi e => ?_) (fun i hi e => ?_) h3
        · have : i = 15 := by omega
          subst this
          rw [told_zero, H.far (by omega)]
        · have : i = 15 := by omega
          subst this
          rw [told_zero, H.far (by omega)]
theorem rhoIs_next (H : Flg n wt b μ) {k i : Nat} (hm : μ i = true) (hk : cn μ i = k) : RhoIs (rhoV n wt b μ (told μ k) gl mem) (rhoV n wt b μ (told μ (k + 1)) gl mem) (sg1 (i + 1)) := by
  have h15 := H.n15
  have hin := ((H.met i).1 hm).1
  have hold : told μ k i = false := by unfold told; rw [hm, hk]; simp
  have hnew : ∀ j, told μ (k + 1) j = if j = i then true else told μ k j := by
    intro j
    by_cases e : j = i
    · subst e; rw [if_pos rfl]; unfold told; rw [hm, hk]; simp
    · rw [if_neg e]
      unfold told
      cases hj : μ j with
      | false => rfl
      | true =>
        have hne : cn μ j ≠ k := fun q => e (cn_inj hj hm (q.trans hk.symm))
        have : decide (cn μ j < k + 1) = decide (cn μ j < k) := decide_eq_decide.2 (by omega)
        rw [this]
  intro s
  show _ = Line.at _ (sgAt [(47 + (i + 1), ((0 : Int), 0, (1 : Int))), (63 + (i + 1), ((1 : Int), 0, (0 : Int))), (80, ((1 : Int), 80, Int.ofNat (2 ^ (i + 1 - 1))))] s)
  rw [sgAt_cons, sgAt_cons, sgAt_cons, sgAt_nil]
  show _ = Line.at _ (if 47 + (i + 1) = s then ((0 : Int), 0, (1 : Int)) else if 63 + (i + 1) = s then ((1 : Int), 0, (0 : Int)) else if 80 = s then ((1 : Int), 80, Int.ofNat (2 ^ (i + 1 - 1))) else _)
  by_cases h1 : 47 + (i + 1) = s
  · rw [if_pos h1, line_c, ← h1]
    have e : 47 + (i + 1) = 48 + i := by omega
    rw [e, show (rhoV n wt b μ (told μ (k + 1)) gl mem).val (48 + i) = _ from vals_b (by omega), hnew i, if_pos rfl]; rfl
  · rw [if_neg h1]
    by_cases h2 : 63 + (i + 1) = s
    · rw [if_pos h2, line_id, ← h2]
      have e : 63 + (i + 1) = 64 + i := by omega
      rw [e, show (rhoV n wt b μ (told μ (k + 1)) gl mem).val (64 + i) = _ from vals_lv (by omega), hnew i, if_pos rfl]; rfl
    · rw [if_neg h2]
      by_cases h3 : 80 = s
      · rw [if_pos h3, ← h3]
        show wd (told μ (k + 1)) 15 + 32768 = 1 * (wd (told μ k) 15 + 32768) + ((2 ^ (i + 1 - 1) : Nat) : Int)
        rw [wd_add hold hnew 15, if_pos (by omega), Nat.add_sub_cancel]
        push_cast
        omega
      · rw [if_neg h3, line_id]
        refine vals_same (fun j hj e => ?_) (fun j hj e => ?_) (fun e => h3 e.symm)
        · rw [hnew j, if_neg (by omega)]
        · rw [hnew j, if_neg (by omega)]
end
end Go.Rsf
