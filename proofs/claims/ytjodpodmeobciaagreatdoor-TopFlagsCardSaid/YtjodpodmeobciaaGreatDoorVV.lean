/- An executor over a program's operations: operations in any order that their bonds allow: the invariant. Conditions: none. -/
import Derived.Test.YtjodpodmeobciaaGreatDoorVT
namespace Go.Rsf
open Go.RowKit
set_option linter.unusedVariables false
set_option linter.unusedSimpArgs false

/-- Which kinds may stand without a bond, the first of them ahead in the text. -/
def OkP (tn : Ts) : Kd → Kd → Prop
  | .w, _ => True
  | _, .w => True
  | .r _, .r _ => True
  | .r _, .a => True
  | .a, .r _ => True
  | .a, .a => True
  | .r (some b), .s a => ∀ p q off off', evX a tn = some (.v (.one (.ptr p off))) → evX b tn = some (.v (.one (.ptr q off'))) → p ≠ q
  | .s a, .r (some b) => ∀ p q off off', evX a tn = some (.v (.one (.ptr p off))) → evX b tn = some (.v (.one (.ptr q off'))) → p ≠ q
  | .q, .r _ => True
  | .r _, .q => True
  | .q, .a => True
  | _, _ => False
structure Ctx (P : Program) (ρ : Rho) (m0 : Nat) (ops : Array Oper) (n : Nat) (os : Nat → Oper) (xs : Nat → XO) (T : Nat → Ts) (S : Nat → St) (bef : Nat → Nat → Prop) : Prop where
  st : ∀ i, i < n → Step P ρ (os i) (xs i) (T i) (S i) (T (i + 1)) (S (i + 1))
  gd : ∀ i, i < n → gB ops (os i).guard (xs i).g = true
  ds : ∀ i, i < n → dB m0 (os i).dst (xs i).d = true
  num : Num (S 0)
  hU : ∀ i j p, i < n → j < n → p ∈ usesG (xs j) → (xs i).d = some p → (i < j ∧ bef i j) ∨ (j < i ∧ bef j i) ∨ i = j
  hA : ∀ i j p, i < n → j < n → p ∈ adX (xs j) → (xs i).d = some p → i < j
  hD : ∀ i j p, i < n → j < n → (xs i).d = some p → (xs j).d = some p → i = j
  hC : ∀ i j, i < j → j < n → ¬ bef i j → OkP (T n) (clsX (xs i).op) (clsX (xs j).op)
namespace Ctx
variable {P : Program} {ρ : Rho} {m0 : Nat} {ops : Array Oper} {n : Nat} {os : Nat → Oper} {xs : Nat → XO} {T : Nat → Ts} {S : Nat → St} {bef : Nat → Nat → Prop}
theorem numAt (C : Ctx P ρ m0 ops n os xs T S bef) : ∀ i, i ≤ n → Num (S i)
  | 0, _ => C.num
  | i + 1, h => (C.st i h).1.num
theorem cnt_le (C : Ctx P ρ m0 ops n os xs T S bef) {i : Nat} : ∀ {j : Nat}, i ≤ j → j ≤ n → (S i).cnt ≤ (S j).cnt
  | 0, h, _ => by have : i = 0 := by omega
                  subst this; exact Nat.le_refl _
  | j + 1, h, hn => by
    by_cases e : i = j + 1
    · subst e; exact Nat.le_refl _
    · exact Nat.le_trans (C.cnt_le (by omega) (by omega)) (C.st j hn).1.cnt
theorem wlo (C : Ctx P ρ m0 ops n os xs T S bef) : ∀ i, i ≤ n → (S i).wlo = (S 0).wlo
  | 0, _ => rfl
  | i + 1, h => (C.st i h).1.wlo.trans (C.wlo i (by omega))
theorem tstep (C : Ctx P ρ m0 ops n os xs T S bef) {i : Nat} (h : i < n) : ∃ v, T (i + 1) = setD (xs i).d v (T i) := by
  rcases (C.st i h).2 with ⟨_, v, e, _⟩ | ⟨_, e, _⟩
  · exact ⟨v, e⟩
  · exact ⟨_, e⟩
theorem tget (C : Ctx P ρ m0 ops n os xs T S bef) {i : Nat} {p : Pth} : ∀ {k : Nat}, i ≤ k → k ≤ n → (∀ j, i ≤ j → j < k → (xs j).d ≠ some p) → (T k).get p = (T i).get p
  | 0, h, _, _ => by have : i = 0 := by omega
                     subst this; rfl
  | k + 1, h, hn, hd => by
    by_cases e : i = k + 1
    · subst e; rfl
    · obtain ⟨v, hv⟩ := C.tstep (i := k) hn
      rw [hv, ← C.tget (k := k) (by omega) (by omega) fun j h1 h2 => hd j h1 (by omega)]
      have hk := hd k (by omega) (by omega)
      cases hx : (xs k).d with
      | none => rfl
      | some q =>
        show ((T k).set q v).get p = _
        rw [Tr.get_set, if_neg]
        intro e2; subst e2; exact hk hx
/-- An address is, behind them all, what it was ahead of it. -/
theorem tuse (C : Ctx P ρ m0 ops n os xs T S bef) {i : Nat} {p : Pth} (h : i < n) (hp : p ∈ adX (xs i)) : (T n).get p = (T i).get p :=
  C.tget (Nat.le_of_lt h) (Nat.le_refl _) fun j h1 h2 e => by have := C.hA j i p h2 h hp e; omega
theorem tdst (C : Ctx P ρ m0 ops n os xs T S bef) {i : Nat} {p : Pth} (h : i < n) (hp : (xs i).d = some p) : (T n).get p = (T (i + 1)).get p :=
  C.tget h (Nat.le_refl _) fun j h1 h2 e => by have := C.hD j i p h2 h e hp; omega
open Classical in
/-- The heap behind some of the operations. -/
noncomputable def HL (S : Nat → St) (L : Nat → Bool) : Nat → Pth → Option Blk
  | 0 => (S 0).h
  | k + 1 => fun id => if L k = true ∧ (S (k + 1)).h id ≠ (S k).h id then (S (k + 1)).h id else HL S L k id
theorem HL_agree {L L' : Nat → Bool} {id : Pth} : ∀ {k : Nat}, (∀ j, j < k → L j ≠ L' j → (S (j + 1)).h id = (S j).h id) → HL S L k id = HL S L' k id
  | 0, _ => rfl
  | k + 1, h => by
    have ih := HL_agree (k := k) fun j hj => h j (by omega)
    unfold HL
    by_cases e : (S (k + 1)).h id = (S k).h id
    · rw [if_neg (fun q => q.2 e), if_neg (fun q => q.2 e)]; exact ih
    · have hl : L k = L' k := Classical.byContradiction fun q => e (h k (by omega) q)
      rw [hl]
      split
      · rfl
      · exact ih
theorem HL_all {L : Nat → Bool} {id : Pth} : ∀ {k : Nat}, (∀ j, j < k → L j = true) → HL S L k id = (S k).h id
  | 0, _ => rfl
  | k + 1, h => by
    unfold HL
    by_cases e : (S (k + 1)).h id = (S k).h id
    · rw [if_neg (fun q => q.2 e), HL_all fun j hj => h j (by omega)]; exact e.symm
    · rw [if_pos ⟨h k (by omega), e⟩]
theorem HL_none {L : Nat → Bool} {id : Pth} {i : Nat} : ∀ {k : Nat}, i ≤ k → (∀ j, i ≤ j → j < k → L j = false) → HL S L k id = HL S L i id
  | 0, h, _ => by have : i = 0 := by omega
                  subst this; rfl
  | k + 1, h, hl => by
    by_cases e : i = k + 1
    · subst e; rfl
    · conv => lhs; unfold HL
      rw [if_neg (fun q => by rw [hl k (by omega) (by omega)] at q; cases q.1), HL_none (k := k) (by omega) fun j h1 h2 => hl j h1 (by omega)]
/-- The first i operations. -/
theorem HL_below (i : Nat) {id : Pth} {k : Nat} (h : i ≤ k) : HL S (fun j => decide (j < i)) k id = (S i).h id := by
  rw [HL_none h (fun j h1 _ => by simp; omega), HL_all (fun j hj => by simp [hj])]
/-- A block is new with an operation. -/
def New (S : Nat → St) (i : Nat) (id : Pth) : Prop := (S i).cnt ≤ id.nat ∧ id.nat < (S (i + 1)).cnt
/-- What an operation may change, by its kind. -/
theorem chg (C : Ctx P ρ m0 ops n os xs T S bef) {i : Nat} (h : i < n) {id : Pth} (hc : (S (i + 1)).h id ≠ (S i).h id) :
    match clsX (xs i).op with
    | .w => False
    | .r _ => False
    | .a => New S i id
    | .s a => (∀ p, p ∈ uA a → p ∈ adX (xs i)) → ∃ off, evX a (T n) = some (.v (.one (.ptr id off)))
    | .e => True
    | .q => New S i id := by
  rcases (C.st i h).2 with ⟨hw, v, ht, ho⟩ | ⟨_, _, e⟩
  · cases hk : clsX (xs i).op with
    | w =>
      rw [hk] at ho
      obtain ⟨⟨iv, e⟩, _⟩ := ho
      rw [e, setIv_eq] at hc
      exact hc rfl
    | r a => rw [hk] at ho; exact hc (by rw [ho.1])
    | a =>
      rw [hk] at ho
      obtain ⟨bk, e, _⟩ := ho
      rw [e, St.alloc_h] at hc
      by_cases q : (S i).next = id
      · have hn := (C.numAt i (by omega)).next
        rw [q] at hn
        refine ⟨by omega, ?_⟩
        rw [e]; show id.nat < (S i).cnt + 1
        omega
      · exact absurd (if_neg q) hc
    | s a =>
      rw [hk] at ho
      obtain ⟨p, off, B, bk, hx, e, _⟩ := ho
      rw [e, St.put_h] at hc
      by_cases q : p = id
      · subst q
        intro hu
        refine ⟨off, ?_⟩
        cases a with
        | c v => exact hx
        | t q =>
          have hx2 : (keepT (T i) (usesX (xs i).op)).get q = some (.v (.one (.ptr p off))) := hx
          rw [keepT_get] at hx2
          split at hx2
          · show (T n).get q = _
            rw [C.tuse h (hu q (by simp [uA])), hx2]
          · cases hx2
      · exact absurd (if_neg q) hc
    | e => trivial
    | q =>
      rw [hk] at ho
      obtain ⟨f, vs, s1, _, _, e1, e2⟩ := ho
      rw [e2] at hc
      split at hc
      · rename_i hh; exact ⟨hh.1, by rw [← e1]; exact hh.2⟩
      · exact absurd rfl hc
  · rw [e] at hc; exact absurd rfl hc
end Ctx
end Go.Rsf
