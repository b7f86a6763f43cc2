/- An executor over a program's operations: a region whose order is drawn: its check, and what it does. Conditions: none. -/
import Derived.Test.YtjodpodmeobciaaGreatDoorVW
namespace Go.Rsf
open Go.RowKit
set_option linter.unusedVariables false
set_option linter.unusedSimpArgs false

/-! ### Bonds -/
inductive Bf (ops : Array Oper) : Nat → Nat → Prop
  | dir {j : Nat} {o : Oper} {e : Edge} (ho : ops[j]? = some o) (he : e ∈ o.after.toList) (hb : Region.binds .any e = true) : Bf ops e.on j
  | far {i j : Nat} {o : Oper} {e : Edge} (h : Bf ops i e.on) (ho : ops[j]? = some o) (he : e ∈ o.after.toList) (hb : Region.binds .any e = true) : Bf ops i j
def Closed (ops : Array Oper) (L : Nat → Bool) : Prop := ∀ j o e, L j = true → ops[j]? = some o → e ∈ o.after.toList → Region.binds .any e = true → L e.on = true
theorem Closed.bf {ops : Array Oper} {L : Nat → Bool} (hc : Closed ops L) {i j : Nat} (h : Bf ops i j) : L j = true → L i = true := by
  induction h with
  | dir ho he hb => exact fun hj => hc _ _ _ hj ho he hb
  | far h ho he hb ih => exact fun hj => ih (hc _ _ _ hj ho he hb)
noncomputable def bit (m i : Nat) : Bool := Nat.beq (Nat.land (Nat.shiftRight m i) 1) 1
theorem bit_eq (m i : Nat) : bit m i = m.testBit i := by
  unfold bit
  rw [Nat.testBit]
  have : Nat.land (Nat.shiftRight m i) 1 = 1 &&& (m >>> i) := by
    show (m >>> i) &&& 1 = _
    exact Nat.and_comm _ _
  rw [this]
  have h2 : 1 &&& (m >>> i) = 0 ∨ 1 &&& (m >>> i) = 1 := by
    rw [Nat.one_and_eq_mod_two]; omega
  rcases h2 with h | h <;> rw [h] <;> rfl
/-- The bonds of one more operation. -/
noncomputable def maskOf (acc : List Nat) : List Edge → Nat
  | [] => 0
  | e :: l => @Bool.rec (fun _ => Nat) (maskOf acc l) (Nat.lor (Nat.lor (Nat.pow 2 e.on) (acc.getD e.on 0)) (maskOf acc l)) (Region.binds .any e)
theorem maskOf_true {ops : Array Oper} {acc : List Nat} {j : Nat} {o : Oper} (ho : ops[j]? = some o) (hacc : ∀ k i, bit (acc.getD k 0) i = true → Bf ops i k) : ∀ {l : List Edge}, (∀ e ∈ l, e ∈ o.after.toList) → ∀ i, bit (maskOf acc l) i = true → Bf ops i j
  | [], _, i, h => by simp [maskOf, bit_eq] at h
  | e :: l, hl, i, h => by
    have ih := maskOf_true ho hacc (l := l) fun x hx => hl x (List.mem_cons_of_mem _ hx)
    unfold maskOf at h
    cases hb : Region.binds .any e with
    | false => rw [hb] at h; exact ih i h
    | true =>
      rw [hb] at h
      have h : bit (Nat.lor (Nat.lor (Nat.pow 2 e.on) (acc.getD e.on 0)) (maskOf acc l)) i = true := h
      rw [bit_eq] at h
      have h2 : ((2 ^ e.on ||| acc.getD e.on 0) ||| maskOf acc l).testBit i = true := h
      rw [Nat.testBit_or, Nat.testBit_or, Bool.or_eq_true, Bool.or_eq_true] at h2
      rcases h2 with (h2 | h2) | h2
      · rw [Nat.testBit_two_pow] at h2
        have := of_decide_eq_true h2
        subst this
        exact .dir ho (hl e (List.mem_cons_self ..)) hb
      · exact .far (hacc _ _ (by rw [bit_eq]; exact h2)) ho (hl e (List.mem_cons_self ..)) hb
      · exact ih i (by rw [bit_eq]; exact h2)
noncomputable def masksOf (acc : List Nat) : List Oper → List Nat
  | [] => acc
  | o :: l => @Nat.rec (fun _ => List Nat) (masksOf (acc ++ [0]) l) (fun m _ => masksOf (acc ++ [Nat.succ m]) l) (maskOf acc o.after.toList)
theorem masksOf_cons (acc : List Nat) (o : Oper) (l : List Oper) : masksOf acc (o :: l) = masksOf (acc ++ [maskOf acc o.after.toList]) l := by
  show @Nat.rec (fun _ => List Nat) (masksOf (acc ++ [0]) l) (fun m _ => masksOf (acc ++ [Nat.succ m]) l) (maskOf acc o.after.toList) = _
  cases maskOf acc o.after.toList <;> rfl
theorem masksOf_true {ops : Array Oper} : ∀ {l : List Oper} {acc : List Nat}, (∀ j, l[j]? = ops[acc.length + j]?) → (∀ k i, bit (acc.getD k 0) i = true → Bf ops i k) → ∀ k i, bit ((masksOf acc l).getD k 0) i = true → Bf ops i k
  | [], acc, _, h => h
  | o :: l, acc, hl, h => by
    rw [masksOf_cons]
    have ho : ops[acc.length]? = some o := by have := hl 0; simpa using this.symm
    refine masksOf_true (fun j => ?_) fun k i hb => ?_
    · have := hl (j + 1)
      simp only [List.getElem?_cons_succ] at this
      rw [this]; congr 1; simp; omega
    · by_cases hk : k < acc.length
      · rw [List.getD_eq_getElem?_getD, List.getElem?_append_left hk, ← List.getD_eq_getElem?_getD] at hb; exact h k i hb
      · by_cases he : k = acc.length
        · subst he
          have e : (acc ++ [maskOf acc o.after.toList]).getD acc.length 0 = maskOf acc o.after.toList := by simp [List.getD_eq_getElem?_getD]
          rw [e] at hb
          exact maskOf_true ho h (fun e he => he) i hb
        · have e : (acc ++ [maskOf acc o.after.toList]).getD k 0 = 0 := by
            rw [List.getD_eq_getElem?_getD, List.getElem?_eq_none (by simp; omega)]; rfl
          rw [e] at hb
          simp [bit_eq] at hb

/-! ### The check -/
noncomputable def pthB : Pth → Pth → Bool
  | .e, .e => true
  | .z p, .z q => pthB p q
  | .s p, .s q => pthB p q
  | _, _ => false
theorem pthB_true : ∀ {p q : Pth}, pthB p q = true → p = q
  | .e, .e, _ => rfl
  | .z p, .z q, h => by rw [pthB_true (p := p) (q := q) h]
  | .s p, .s q, h => by rw [pthB_true (p := p) (q := q) h]
  | .e, .z q, h => by cases h
  | .e, .s q, h => by cases h
  | .z p, .e, h => by cases h
  | .z p, .s q, h => by cases h
  | .s p, .e, h => by cases h
  | .s p, .z q, h => by cases h
theorem pthB_self : ∀ p : Pth, pthB p p = true
  | .e => rfl
  | .z p => pthB_self p
  | .s p => pthB_self p
noncomputable def memP (p : Pth) : List Pth → Bool
  | [] => false
  | q :: l => pthB p q || memP p l
theorem memP_true {p : Pth} : ∀ {l : List Pth}, p ∈ l → memP p l = true
  | q :: l, h => by
    cases h with
    | head => simp [memP, pthB_self]
    | tail _ h => simp [memP, memP_true h]
noncomputable def xaEq : XA → XA → Bool
  | .t p, .t q => pthB p q
  | .c (.v (.one (.ptr p o))), .c (.v (.one (.ptr q o'))) => pthB p q && Nat.beq o o'
  | _, _ => false
theorem xaEq_true {a b : XA} (h : xaEq a b = true) : a = b := by
  unfold xaEq at h
  split at h
  · rw [pthB_true h]
  · rw [Bool.and_eq_true] at h
    rw [pthB_true h.1, Nat.eq_of_beq_eq_true h.2]
  · cases h
noncomputable def memQ (a b : XA) : List (XA × XA) → Bool
  | [] => false
  | q :: l => (xaEq q.1 a && xaEq q.2 b) || memQ a b l
theorem memQ_true {a b : XA} : ∀ {l : List (XA × XA)}, memQ a b l = true → (a, b) ∈ l
  | [], h => by cases h
  | q :: l, h => by
    simp only [memQ, Bool.or_eq_true, Bool.and_eq_true] at h
    rcases h with ⟨h1, h2⟩ | h
    · obtain ⟨c, d⟩ := q
      have e1 := xaEq_true h1
      have e2 := xaEq_true h2
      simp only at e1 e2
      subst e1; subst e2
      exact List.mem_cons_self ..
    · exact List.mem_cons_of_mem _ (memQ_true h)
noncomputable def okB (pairs : List (XA × XA)) : Kd → Kd → Bool
  | .w, _ => true
  | _, .w => true
  | .r _, .r _ => true
  | .r _, .a => true
  | .a, .r _ => true
  | .a, .a => true
  | .r (some b), .s a => memQ a b pairs
  | .s a, .r (some b) => memQ a b pairs
  | .q, .r _ => true
  | .r _, .q => true
  | .q, .a => true
  | _, _ => false
def Apart (tn : Ts) (pairs : List (XA × XA)) : Prop := ∀ a b, (a, b) ∈ pairs → ∀ p q off off', evX a tn = some (.v (.one (.ptr p off))) → evX b tn = some (.v (.one (.ptr q off'))) → p ≠ q
theorem okB_true {tn : Ts} {pairs : List (XA × XA)} (ha : Apart tn pairs) {x y : Kd} (h : okB pairs x y = true) : OkP tn x y := by
  unfold okB at h
  split at h <;> first
    | trivial
    | (cases h; done)
    | exact ha _ _ (memQ_true h)
    | (simp only [OkP]; done)
    | (simp only [OkP]; split <;> trivial)
noncomputable def dNe : Option Pth → Option Pth → Bool
  | some p, some q => !pthB p q
  | _, _ => true
noncomputable def dIn (d : Option Pth) (l : List Pth) : Bool := match d with | some p => memP p l | none => false
/-- Two operations, the first of them ahead in the text, and the bonds of the second. -/
noncomputable def pairB (pairs : List (XA × XA)) (m i : Nat) (x y : XO) : Bool :=
  dNe x.d y.d && (!dIn y.d (usesG x) || (bit m i && !dIn y.d (adX x))) && (bit m i || (!dIn x.d (usesG y) && okB pairs (clsX x.op) (clsX y.op)))
noncomputable def prevB (pairs : List (XA × XA)) (m : Nat) (y : XO) : List (Nat × XO) → Bool
  | [] => true
  | p :: l => pairB pairs m p.1 p.2 y && prevB pairs m y l
noncomputable def edgesB (j : Nat) : List Edge → Bool
  | [] => true
  | e :: l => (!Region.binds .any e || Nat.blt e.on j) && edgesB j l
noncomputable def orderB (pairs : List (XA × XA)) (masks : List Nat) : Nat → List (Nat × XO) → List Oper → List XO → Bool
  | _, _, [], [] => true
  | j, prev, o :: l, x :: r => edgesB j o.after.toList && !dIn x.d (adX x) && prevB pairs (masks.getD j 0) x prev && orderB pairs masks (Nat.succ j) ((j, x) :: prev) l r
  | _, _, _, _ => false
theorem edgesB_true {j : Nat} : ∀ {l : List Edge}, edgesB j l = true → ∀ e ∈ l, Region.binds .any e = true → e.on < j
  | e :: l, h, x, hx, hb => by
    simp only [edgesB, Bool.and_eq_true] at h
    cases hx with
    | head =>
      have := h.1
      rw [hb] at this
      have := Nat.le_of_ble_eq_true (show Nat.ble (Nat.succ e.on) j = true from this)
      omega
    | tail _ hx => exact edgesB_true h.2 x hx hb
theorem prevB_true {pairs : List (XA × XA)} {m : Nat} {y : XO} : ∀ {l : List (Nat × XO)}, prevB pairs m y l = true → ∀ i x, (i, x) ∈ l → pairB pairs m i x y = true
  | [], _, i, x, hx => by cases hx
  | p :: l, h, i, x, hx => by
    simp only [prevB, Bool.and_eq_true] at h
    cases hx with
    | head => exact h.1
    | tail _ hx => exact prevB_true h.2 i x hx
theorem orderB_true {pairs : List (XA × XA)} {masks : List Nat} : ∀ {l : List Oper} {r : List XO} {j : Nat} {prev : List (Nat × XO)}, orderB pairs masks j prev l r = true →
    ∀ k o y, l[k]? = some o → r[k]? = some y → (∀ e ∈ o.after.toList, Region.binds .any e = true → e.on < j + k) ∧ dIn y.d (adX y) = false ∧ (∀ i x, (i, x) ∈ prev → pairB pairs (masks.getD (j + k) 0) i x y = true) ∧
      ∀ i x, i < k → r[i]? = some x → pairB pairs (masks.getD (j + k) 0) (j + i) x y = true
  | [], _, j, prev, h, k, o, y, ho, hy => by simp at ho
  | _ :: _, [], j, prev, h, k, o, y, ho, hy => by simp at hy
  | o' :: l, x' :: r, j, prev, h, k, o, y, ho, hy => by
    simp only [orderB, Bool.and_eq_true] at h
    obtain ⟨⟨⟨h1, h2⟩, h3⟩, h4⟩ := h
    cases k with
    | zero =>
      simp only [List.getElem?_cons_zero, Option.some.injEq] at ho hy
      subst ho; subst hy
      exact ⟨edgesB_true h1, by simpa using h2, prevB_true h3, fun i x hi => by omega⟩
    | succ k =>
      obtain ⟨g1, g2, g3, g4⟩ := orderB_true h4 k o y (by simpa using ho) (by simpa using hy)
      have e : j.succ + k = j + (k + 1) := by omega
      rw [e] at g1 g3 g4
      refine ⟨g1, g2, fun i x hx => g3 i x (List.mem_cons_of_mem _ hx), fun i x hi hx => ?_⟩
      cases i with
      | zero =>
        simp only [List.getElem?_cons_zero, Option.some.injEq] at hx
        subst hx
        exact g3 j _ (List.mem_cons_self ..)
      | succ i =>
        have := g4 i x (by omega) (by simpa using hx)
        have e2 : j.succ + i = j + (i + 1) := by omega
        rw [e2] at this; exact this
theorem dIn_false {d : Option Pth} {l : List Pth} (h : dIn d l = false) {p : Pth} (hd : d = some p) : p ∉ l := by
  intro hm
  subst hd
  have h : memP p l = false := h
  rw [memP_true hm] at h; cases h
theorem neK_true : ∀ (p q : Pth) (r : Bool), neK p q r = true → p ≠ q ∧ r = true
  | .e, .e, r, h => by cases h
  | .e, .z q, r, h => ⟨fun e => (by cases e), h⟩
  | .e, .s q, r, h => ⟨fun e => (by cases e), h⟩
  | .z p, .e, r, h => ⟨fun e => (by cases e), h⟩
  | .s p, .e, r, h => ⟨fun e => (by cases e), h⟩
  | .z p, .s q, r, h => ⟨fun e => (by cases e), h⟩
  | .s p, .z q, r, h => ⟨fun e => (by cases e), h⟩
  | .z p, .z q, r, h => by
    have ih := neK_true p q r h
    exact ⟨fun e => (by injection e with e; exact ih.1 e), ih.2⟩
  | .s p, .s q, r, h => by
    have ih := neK_true p q r h
    exact ⟨fun e => (by injection e with e; exact ih.1 e), ih.2⟩
theorem pairsK_true {t : Ts} : ∀ {l : List (XA × XA)} {r : Bool}, pairsK l t r = true → r = true ∧ Apart t l
  | [], r, h => ⟨h, fun a b hm => by cases hm⟩
  | x :: l, r, h => by
    have h0 : ev1K x.1 t (fun a => isPtr a fun p _ => ev1K x.2 t fun b => isPtr b fun q _ => neK p q (pairsK l t r)) = true := h
    unfold ev1K at h0
    rw [evK_eq] at h0
    cases e1 : evX x.1 t with
    | none => rw [e1] at h0; cases h0
    | some v =>
      rw [e1] at h0
      obtain ⟨c, rfl, h1⟩ := isOne_true h0
      obtain ⟨p, off, rfl, h2⟩ := isPtr_true h1
      rw [evK_eq] at h2
      cases e2 : evX x.2 t with
      | none => rw [e2] at h2; cases h2
      | some v =>
        rw [e2] at h2
        obtain ⟨c, rfl, h3⟩ := isOne_true h2
        obtain ⟨q, off', rfl, h4⟩ := isPtr_true h3
        obtain ⟨n1, h5⟩ := neK_true p q _ h4
        obtain ⟨hr, hA⟩ := pairsK_true h5
        refine ⟨hr, fun a b hm p' q' o o' ha hb => ?_⟩
        cases hm with
        | head => rw [e1] at ha; rw [e2] at hb; cases ha; cases hb; exact n1
        | tail _ hm => exact hA a b hm p' q' o o' ha hb
end Go.Rsf
