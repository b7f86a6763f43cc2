/- An executor over a program's operations: operations in a row. Conditions: none. -/
import Derived.Test.YtjodpodmeobciaaGreatDoorVR
namespace Go.Rsf
open Go.RowKit
set_option linter.unusedVariables false
set_option linter.unusedSimpArgs false
variable {P : Program} {ρ : Rho} {g : Bool} {o : Oper} {t : Ts} {s : St}

noncomputable def gB (ops : Array Oper) : Option (Nat × Bool) → Option (Pth × Bool) → Bool
  | none, none => true
  | some (j, b), some (p, b') => (b == b') && (match ops[j]? with | some oj => (match oj.dst with | some d => pnB p d | none => false) | none => false)
  | _, _ => false
noncomputable def dB (m : Nat) : Option Nat → Option Pth → Bool
  | none, none => true
  | some d, some p => pnB p d && Nat.blt d m
  | _, _ => false
theorem gB_true {ops : Array Oper} {a : Option (Nat × Bool)} {b : Option (Pth × Bool)} (h : gB ops a b = true) : (a = none ∧ b = none) ∨ ∃ j w p oj, a = some (j, w) ∧ b = some (p, w) ∧ ops[j]? = some oj ∧ oj.dst = some p.nat := by
  unfold gB at h
  split at h
  · exact .inl ⟨rfl, rfl⟩
  · rename_i j b p b'
    rw [Bool.and_eq_true] at h
    have e := eq_of_beq h.1
    subst e
    have h2 := h.2
    split at h2
    · rename_i oj hoj
      split at h2
      · rename_i d hd
        exact .inr ⟨j, b, p, oj, rfl, rfl, hoj, by rw [hd, pnB_nat h2]⟩
      · cases h2
    · cases h2
  · cases h
theorem dB_true {m : Nat} {a : Option Nat} {b : Option Pth} (h : dB m a b = true) : (a = none ∧ b = none) ∨ ∃ p, a = some p.nat ∧ b = some p ∧ p.nat < m := by
  unfold dB at h
  split at h
  · exact .inl ⟨rfl, rfl⟩
  · rename_i d p
    rw [Bool.and_eq_true] at h
    have e := pnB_nat h.1
    have e2 := h.2
    subst e
    exact .inr ⟨p, rfl, rfl, by have := Nat.le_of_ble_eq_true e2; omega⟩
  · cases h
noncomputable def chkXO (P : Program) (g : Bool) (m : Nat) (ops : Array Oper) (o : Oper) (x : XO) : Bool := gB ops o.guard x.g && dB m o.dst x.d && chkOp P g o x.op
/-- Is an operation wanted? -/
def Want (x : XO) (t : Ts) (b : Bool) : Prop := (x.g = none ∧ b = true) ∨ (∃ p w c, x.g = some (p, w) ∧ t.get p = some (.v (.one (.bool c))) ∧ b = (c == w)) ∨ ∃ p w, x.g = some (p, w) ∧ t.get p = some (.tup []) ∧ b = false
theorem wantK_true {x : XO} {yes no : Bool} (h : wantK x.g t yes no = true) : (Want x t true ∧ yes = true) ∨ (Want x t false ∧ no = true) := by
  cases hg : x.g with
  | none => rw [hg] at h; exact .inl ⟨.inl ⟨hg, rfl⟩, h⟩
  | some pw =>
    obtain ⟨p, w⟩ := pw
    rw [hg] at h
    obtain ⟨v, hv, h1⟩ := getK_true (show getK p t (fun v => wantV v w yes no) = true from h)
    cases v with
    | unk => cases h1
    | inS _ _ _ => cases h1
    | inP _ _ => cases h1
    | tup l =>
      cases l with
      | nil => exact .inr ⟨.inr (.inr ⟨p, w, hg, hv, rfl⟩), h1⟩
      | cons _ _ => cases h1
    | v cc =>
      obtain ⟨c, e, h2⟩ := isOne_true (show isOne (.v cc) (fun x => isBoo x fun b => @Bool.rec (fun _ => Bool) (@Bool.rec (fun _ => Bool) yes no w) (@Bool.rec (fun _ => Bool) no yes w) b) = true from h1)
      obtain ⟨b, rfl, h3⟩ := isBoo_true h2
      rw [e] at hv
      cases b <;> cases w <;> first
        | exact .inl ⟨.inr (.inl ⟨p, _, _, hg, hv, rfl⟩), h3⟩
        | exact .inr ⟨.inr (.inl ⟨p, _, _, hg, hv, rfl⟩), h3⟩
theorem want_eq {ops : Array Oper} {x : XO} {m : Nat} {ν : Nu} {a : Act} {b : Bool} (hg : gB ops o.guard x.g = true) (mt : MT m ν ρ t a) (h : Want x t b) : Region.wanted o (yielded ops a.tmps) = b := by
  rcases gB_true hg with ⟨e1, e2⟩ | ⟨j, w, p, oj, e1, e2, h1, h2⟩
  · rcases h with ⟨_, rfl⟩ | ⟨p, w, c, h3, _⟩ | ⟨p, w, h3, _⟩
    · simp [Region.wanted, e1]
    · rw [e2] at h3; cases h3
    · rw [e2] at h3; cases h3
  · rcases h with ⟨h3, _⟩ | ⟨p', w', c, h3, h4, rfl⟩ | ⟨p', w', h3, h4, rfl⟩
    · rw [e2] at h3; cases h3
    · rw [e2] at h3; cases h3
      obtain ⟨u, hu, ru⟩ := mt.2.1 _ _ h4
      have e : u = .bool c := ru
      subst e
      simp [Region.wanted, e1, yielded, h1, h2, hu]
    · rw [e2] at h3; cases h3
      obtain ⟨u, hu, ru⟩ := mt.2.1 _ _ h4
      obtain ⟨vs, hv, hr⟩ := ru
      cases vs with
      | cons _ _ => exact hr.elim
      | nil =>
        subst hv
        simp [Region.wanted, e1, yielded, h1, h2, hu]
theorem undef_ok {ν : Nu} : AR ν ρ (.tup []) undef := ⟨[], rfl, trivial⟩
/-- The knowledge behind an operation. -/
noncomputable def setD (d : Option Pth) (v : AV) (t : Ts) : Ts := match d with | some p => t.set p v | none => t
theorem setDK_eq (d : Option Pth) (v : AV) (t : Ts) (k : Ts → Bool) : setDK d v t k = k (setD d v t) := by
  cases d with
  | none => rfl
  | some p => exact setK_eq p t v k
theorem MT.setD {m m0 : Nat} {ν : Nu} {a : Act} {d : Option Pth} {od : Option Nat} {v : AV} {u : Value} (mt : MT m ν ρ t a) (hd : dB m0 od d = true) (hm : m0 ≤ m) (hv : AR ν ρ v u) : MT m ν ρ (setD d v t) (a.put od u) := by
  rcases dB_true hd with ⟨rfl, rfl⟩ | ⟨p, rfl, rfl, h⟩
  · exact mt
  · exact mt.put hv (Nat.lt_of_lt_of_le h hm)
theorem put_defers (a : Act) (d : Option Nat) (u : Value) : (a.put d u).defers = a.defers := by cases d <;> rfl
/-- WHAT ONE OPERATION OF A REGION DOES. -/
noncomputable def DT (P : Program) (ρ : Rho) (m0 : Nat) (ops : Array Oper) (o : Oper) (t : Ts) (s : St) (t' : Ts) (s' : St) : Prop :=
  ∀ {Q : Exit → Act → World → Prop} {next : Act → World → Prop} {m n0 : Nat} {w0 : World} {ν : Nu} {a : Act} {w : World}, m0 ≤ m → MT m ν ρ t a → a.defers = [] → MW n0 w0 ν ρ s.h s.wlo w → Unm ν s.cnt s'.cnt →
    (∀ a' ν' w', Ext ν ν' s.cnt s'.cnt → MT m ν' ρ t' a' → a'.defers = [] → MW n0 w0 ν' ρ s'.h s'.wlo w' → next a' w') →
    if Region.wanted o (yielded ops a.tmps) then o.wp P a w next Q else next (a.put o.dst undef) w
theorem do_sound (hg : g = ρ.gl.isSome) {ck : CK} (hck : CKOK P ρ ck) {m0 : Nat} {ops : Array Oper} {x : XO} (hc : chkXO P g m0 ops o x = true) {k : KTS} (hn : Num s) (hi : IvOK ρ s.iv) (h : doK ck x t s k = true) :
    ∃ t' s', k t' s' = true ∧ Pure ρ s s' ∧ DT P ρ m0 ops o t s t' s' := by
  have h' : doF ck x.g x.d x.op t s k = true := by cases x; exact h
  simp only [chkXO, Bool.and_eq_true] at hc
  obtain ⟨⟨c1, c2⟩, c3⟩ := hc
  rcases wantK_true h' with ⟨hw, h1⟩ | ⟨hw, h1⟩
  · obtain ⟨v, s', hk, hp, ho⟩ := op_sound hg hck c3 hn hi h1
    rw [setDK_eq] at hk
    refine ⟨_, s', hk, hp, ?_⟩
    intro Q next m n0 w0 ν a w hm mt hd mw un hnext
    rw [want_eq c1 mt hw]
    refine ho.ot hp.wlo hn mt mw un fun u ν' w' he hu hm' => hnext _ ν' w' he ?_ (by rw [put_defers]; exact hd) hm'
    exact (mt.mono he.le).setD c2 hm hu
  · rw [setDK_eq] at h1
    refine ⟨_, s, h1, Pure.refl hn hi, ?_⟩
    intro Q next m n0 w0 ν a w hm mt hd mw un hnext
    rw [want_eq c1 mt hw]
    exact hnext _ ν w (Ext.refl _ _ _) (mt.setD c2 hm undef_ok) (by rw [put_defers]; exact hd) mw
noncomputable def chkOps (P : Program) (g : Bool) (m : Nat) (ops : Array Oper) : List Oper → List XO → Bool
  | [], [] => true
  | o :: l, x :: r => chkXO P g m ops o x && chkOps P g m ops l r
  | _, _ => false
noncomputable def exOf : Ex → Exit | .normal => .normal | .exit i => .exit i | .ret => .ret
/-- WHAT A PIECE OF CODE DOES. -/
noncomputable def CTr (P : Program) (ρ : Rho) (m0 : Nat) (W : (Exit → Act → World → Prop) → Act → World → Prop) (t : Ts) (s : St) (e : Ex) (t' : Ts) (s' : St) : Prop :=
  ∀ {Q : Exit → Act → World → Prop} {m n0 : Nat} {w0 : World} {ν : Nu} {a : Act} {w : World}, m0 ≤ m → MT m ν ρ t a → a.defers = [] → MW n0 w0 ν ρ s.h s.wlo w → Unm ν s.cnt s'.cnt →
    (∀ a' ν' w', Ext ν ν' s.cnt s'.cnt → MT m ν' ρ t' a' → a'.defers = [] → MW n0 w0 ν' ρ s'.h s'.wlo w' → Q (exOf e) a' w') → W Q a w
theorem ops_sound (hg : g = ρ.gl.isSome) {ck : CK} (hck : CKOK P ρ ck) {m0 : Nat} {ops : Array Oper} : ∀ {l : List Oper} {xs : List XO} {i : Nat} {t : Ts} {s : St} {k : KTS}, (∀ j, l[j]? = ops[i + j]?) → chkOps P g m0 ops l xs = true → Num s → IvOK ρ s.iv →
    opsK ck xs t s k = true → ∃ t' s', k t' s' = true ∧ Pure ρ s s' ∧ CTr P ρ m0 (fun Q a w => wpOps P ops Q (List.range' i l.length) a w) t s .normal t' s'
  | [], [], i, t, s, k, hl, hc, hn, hi, h => by
    refine ⟨t, s, h, Pure.refl hn hi, ?_⟩
    intro Q m n0 w0 ν a w hm mt hd mw un hnext
    exact hnext a ν w (Ext.refl _ _ _) mt hd mw
  | [], _ :: _, i, t, s, k, hl, hc, hn, hi, h => by cases hc
  | _ :: _, [], i, t, s, k, hl, hc, hn, hi, h => by cases hc
  | o :: l, x :: xs, i, t, s, k, hl, hc, hn, hi, h => by
    simp only [chkOps, Bool.and_eq_true] at hc
    obtain ⟨t1, s1, h1, p1, d1⟩ := do_sound hg hck hc.1 hn hi (show doK ck x t s (fun t s => opsK ck xs t s k) = true from h)
    obtain ⟨t2, s2, h2, p2, d2⟩ := ops_sound hg hck (i := i + 1) (fun j => by have := hl (j + 1); simp only [List.getElem?_cons_succ] at this; rw [this]; congr 1; omega) hc.2 p1.num p1.iv h1
    refine ⟨t2, s2, h2, p1.trans p2, ?_⟩
    intro Q m n0 w0 ν a w hm mt hd mw un hnext
    have ho : ops[i]? = some o := by have := hl 0; simpa using this.symm
    have hc1 := p1.cnt
    have hc2 := p2.cnt
    show wpOps P ops Q (i :: List.range' (i + 1) l.length) a w
    rw [wpOps_cons]
    have key := d1 (Q := Q) (next := wpOps P ops Q (List.range' (i + 1) l.length)) hm mt hd mw (un.mono (Nat.le_refl _) hc2) fun a1 ν1 w1 e1 mt1 hd1 mw1 =>
      d2 hm mt1 hd1 mw1 ((un.mono hc1 (Nat.le_refl _)).ext e1 (Nat.le_refl _)) fun a2 ν2 w2 e2 mt2 hd2 mw2 => hnext a2 ν2 w2 (e1.trans e2 hc1 hc2) mt2 hd2 mw2
    unfold wpOp
    rw [ho]
    simp only
    split
    · rename_i hw; rw [if_pos hw] at key; exact .inl key
    · rename_i hw; rw [if_neg hw] at key; exact key
theorem region_sound (hg : g = ρ.gl.isSome) {ck : CK} (hck : CKOK P ρ ck) {m0 id : Nat} {ops : Array Oper} {xs : List XO} {k : KX} (hc : chkOps P g m0 ops ops.toList xs = true) (hn : Num s) (hi : IvOK ρ s.iv) (h : regF ck xs t s k = true) :
    ∃ e t' s', k e t' s' = true ∧ Pure ρ s s' ∧ CTr P ρ m0 (fun Q a w => (Code.region id ops false).wp P Q a w) t s e t' s' := by
  obtain ⟨t', s', hk, hp, ht⟩ := ops_sound hg hck (i := 0) (fun j => by simp) hc hn hi h
  refine ⟨.normal, t', s', hk, hp, ?_⟩
  intro Q m n0 w0 ν a w hm mt hd mw un hnext
  refine wp_region ?_
  have := ht hm mt hd mw un hnext
  simpa [List.range_eq_range'] using this
end Go.Rsf
