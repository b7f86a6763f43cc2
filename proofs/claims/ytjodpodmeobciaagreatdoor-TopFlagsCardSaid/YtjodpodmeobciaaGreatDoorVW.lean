/- An executor over a program's operations: operations in any order that their bonds allow. Conditions: none. -/
import Derived.Test.YtjodpodmeobciaaGreatDoorVV
namespace Go.Rsf
open Go.RowKit
set_option linter.unusedVariables false
set_option linter.unusedSimpArgs false
set_option linter.unusedSectionVars false
namespace Ctx
variable {P : Program} {ρ : Rho} {m0 : Nat} {ops : Array Oper} {n : Nat} {os : Nat → Oper} {xs : Nat → XO} {T : Nat → Ts} {S : Nat → St} {bef : Nat → Nat → Prop}

/-- What is known behind some of the operations. -/
def MTL (ρ : Rho) (n : Nat) (xs : Nat → XO) (T : Nat → Ts) (L : Nat → Bool) (m : Nat) (ν : Nu) (a : Act) : Prop :=
  a.tmps.size = m ∧ ((∀ p v, (T n).get p = some v → (∀ j, j < n → L j = false → (xs j).d ≠ some p) → ∃ u, a.tmps[p.nat]? = some u ∧ AR ν ρ v u) ∧
    ∀ p v, (T 0).get p = some v → (∀ j, j < n → L j = true → (xs j).d ≠ some p) → ∃ u, a.tmps[p.nat]? = some u ∧ AR ν ρ v u) ∧ ∀ k, ρ.gl = some k → ν .e = some (0, k)
structure Inv (ρ : Rho) (n : Nat) (xs : Nat → XO) (T : Nat → Ts) (S : Nat → St) (ν0 : Nu) (n0 : Nat) (w0 : World) (m : Nat) (L : Nat → Bool) (ν : Nu) (a : Act) (w : World) : Prop where
  ext : Ext ν0 ν (S 0).cnt (S n).cnt
  unm : ∀ i, i < n → L i = false → Unm ν (S i).cnt (S (i + 1)).cnt
  mt : MTL ρ n xs T L m ν a
  dfr : a.defers = []
  mw : MW n0 w0 ν ρ (HL S L n) (S 0).wlo w
def add (L : Nat → Bool) (i : Nat) : Nat → Bool := fun j => if j = i then true else L j
theorem add_same (L : Nat → Bool) (i : Nat) : add L i i = true := if_pos rfl
theorem add_ne {L : Nat → Bool} {i j : Nat} (h : j ≠ i) : add L i j = L j := if_neg h
variable {ν0 : Nu} {n0 : Nat} {w0 : World} {m : Nat} {L : Nat → Bool} {ν : Nu} {a : Act} {w : World}
theorem keep_mt (C : Ctx P ρ m0 ops n os xs T S bef) {i : Nat} (h : i < n) (hL : L i = false) (hp : ∀ j, bef j i → L j = true) (hcl : ∀ j k, L k = true → bef j k → L j = true) {l : List Pth} (hl : ∀ p, p ∈ l → p ∈ usesG (xs i)) (mt : MTL ρ n xs T L m ν a) : MT m ν ρ (keepT (T i) l) a := by
  refine ⟨mt.1, fun p v hv => ?_, mt.2.2⟩
  rw [keepT_get] at hv
  split at hv
  · rename_i hm
    by_cases hw : ∃ j, j < n ∧ (xs j).d = some p
    · obtain ⟨j, hj, hd⟩ := hw
      have late : ¬ j < i → L j = false → ∃ u, a.tmps[p.nat]? = some u ∧ AR ν ρ v u := by
        intro hji hLj
        refine mt.2.1.2 p v ?_ fun k hk hLk hd2 => ?_
        · rw [← C.tget (i := 0) (k := i) (Nat.zero_le _) (Nat.le_of_lt h) fun k _ hk hd2 => ?_]
          · exact hv
          · have := C.hD k j p (by omega) hj hd2 hd
            omega
        · have := C.hD k j p hk hj hd2 hd
          subst this
          rw [hLj] at hLk; cases hLk
      rcases C.hU j i p hj h (hl p hm) hd with ⟨h1, h2⟩ | ⟨h1, h2⟩ | h1
      · refine mt.2.1.1 p v ?_ fun k hk hLk hd2 => ?_
        · rw [C.tget (i := i) (k := n) (Nat.le_of_lt h) (Nat.le_refl _) fun k hk1 hk2 hd2 => ?_]
          · exact hv
          · have := C.hD k j p hk2 hj hd2 hd
            omega
        · have := C.hD k j p hk hj hd2 hd
          subst this
          rw [hp k h2] at hLk; cases hLk
      · refine late (by omega) ?_
        cases hb : L j with
        | false => rfl
        | true => rw [hcl i j hb h2] at hL; cases hL
      · subst h1; exact late (by omega) hL
    · refine mt.2.1.1 p v ?_ fun k hk _ hd2 => hw ⟨k, hk, hd2⟩
      rw [C.tget (i := i) (k := n) (Nat.le_of_lt h) (Nat.le_refl _) fun k _ hk2 hd2 => hw ⟨k, hk2, hd2⟩]
      exact hv
  · cases hv
/-- A further operation is done. -/
theorem Inv.next (C : Ctx P ρ m0 ops n os xs T S bef) (I : Inv ρ n xs T S ν0 n0 w0 m L ν a w) (hm : m0 ≤ m) {i : Nat} (h : i < n) (hL : L i = false) {v : AV} {u : Value} {ν' : Nu} {w' : World} (ht : T (i + 1) = setD (xs i).d v (T i))
    (he : Ext ν ν' (S i).cnt (S (i + 1)).cnt) (hu : AR ν' ρ v u) (hw : MW n0 w0 ν' ρ (HL S (add L i) n) (S 0).wlo w') : Inv ρ n xs T S ν0 n0 w0 m (add L i) ν' (a.put (os i).dst u) w' := by
  have c1 := C.cnt_le (i := 0) (j := i) (Nat.zero_le _) (Nat.le_of_lt h)
  have c2 := C.cnt_le (i := i + 1) (j := n) h (Nat.le_refl _)
  have c3 := (C.st i h).1.cnt
  refine ⟨⟨I.ext.le.trans he.le, fun id hn => (he.same id (by omega)).trans (I.ext.same id hn)⟩, ?_, ?_, by rw [put_defers]; exact I.dfr, hw⟩
  · intro j hj hLj
    have hne : j ≠ i := fun e => by subst e; rw [add_same] at hLj; cases hLj
    rw [add_ne hne] at hLj
    intro id h1 h2
    refine (he.same id ?_).trans (I.unm j hj hLj id h1 h2)
    by_cases hlt : j < i
    · have := C.cnt_le (i := j + 1) (j := i) hlt (Nat.le_of_lt h); omega
    · have := C.cnt_le (i := i + 1) (j := j) (by omega) (Nat.le_of_lt hj); omega
  · refine ⟨by cases hd : (os i).dst <;> simp [Act.put, I.mt.1], ⟨fun p v2 hv hno => ?_, fun p v2 hv hno => ?_⟩, fun k hk => he.le _ _ (I.mt.2.2 k hk)⟩
    rotate_left
    · obtain ⟨y, hy, ry⟩ := I.mt.2.1.2 p v2 hv fun j hj hLj hd => hno j hj (by unfold add; split; rfl; exact hLj) hd
      have hdi := hno i h (add_same L i)
      rcases dB_true (C.ds i h) with ⟨e1, e2⟩ | ⟨q, e1, e2, hq⟩
      · rw [e1]; exact ⟨y, hy, ry.mono he.le⟩
      · rw [e1]
        have hne : q.nat ≠ p.nat := fun e3 => hdi (by rw [e2, Pth.nat_inj e3])
        exact ⟨y, by simp [Act.put, Array.getElem?_setIfInBounds_ne hne, hy], ry.mono he.le⟩
    rcases dB_true (C.ds i h) with ⟨e1, e2⟩ | ⟨q, e1, e2, hq⟩
    · rw [e1]
      obtain ⟨y, hy, ry⟩ := I.mt.2.1.1 p v2 hv fun j hj hLj hd => by
        by_cases e : j = i
        · subst e; rw [e2] at hd; cases hd
        · exact hno j hj (by rw [add_ne e]; exact hLj) hd
      exact ⟨y, hy, ry.mono he.le⟩
    · rw [e1]
      by_cases e : q = p
      · subst e
        rw [C.tdst h e2, ht, e2] at hv
        have hv2 : ((T i).set q v).get q = some v2 := hv
        rw [Tr.get_set, if_pos rfl] at hv2
        cases hv2
        refine ⟨u, ?_, hu⟩
        have : q.nat < a.tmps.size := by rw [I.mt.1]; omega
        simp [Act.put, this]
      · obtain ⟨y, hy, ry⟩ := I.mt.2.1.1 p v2 hv fun j hj hLj hd => by
          by_cases e3 : j = i
          · subst e3; rw [e2] at hd; cases hd; exact e rfl
          · exact hno j hj (by rw [add_ne e3]; exact hLj) hd
        have hne : q.nat ≠ p.nat := fun e3 => e (Pth.nat_inj e3)
        exact ⟨y, by simp [Act.put, Array.getElem?_setIfInBounds_ne hne, hy], ry.mono he.le⟩
/-- The operations that stand without a bond to one that may be done now. -/
theorem free (C : Ctx P ρ m0 ops n os xs T S bef) {i j : Nat} (h : i < n) (hj : j < n) (hL : L i = false) (hp : ∀ j, bef j i → L j = true) (hcl : ∀ j k, L k = true → bef j k → L j = true) (hd : L j ≠ decide (j < i)) :
    j = i ∨ (j < i ∧ L j = false ∧ OkP (T n) (clsX (xs j).op) (clsX (xs i).op)) ∨ (i < j ∧ L j = true ∧ OkP (T n) (clsX (xs i).op) (clsX (xs j).op)) := by
  by_cases e : j = i
  · exact .inl e
  · by_cases hlt : j < i
    · have hf : L j = false := by
        cases hb : L j with
        | false => rfl
        | true => rw [hb] at hd; simp [hlt] at hd
      refine .inr (.inl ⟨hlt, hf, C.hC j i hlt h fun hb => ?_⟩)
      rw [hp j hb] at hf; cases hf
    · have ht : L j = true := by
        cases hb : L j with
        | true => rfl
        | false => rw [hb] at hd; simp [hlt] at hd
      refine .inr (.inr ⟨by omega, ht, C.hC i j (by omega) hj fun hb => ?_⟩)
      rw [hcl i j ht hb] at hL; cases hL
theorem uA_uses {x : XO} {a : XA} (h : clsX x.op = .s a ∨ clsX x.op = .r (some a)) : ∀ p, p ∈ uA a → p ∈ adX x := by
  intro p hp
  unfold adX
  rcases h with h | h <;> (rw [h]; exact hp)
/-- An address that is looked at, behind them all. -/
theorem ev_final (C : Ctx P ρ m0 ops n os xs T S bef) {i : Nat} (h : i < n) {b : XA} (hu : ∀ p, p ∈ uA b → p ∈ adX (xs i)) {v : AV} (e : evX b (keepT (T i) (usesX (xs i).op)) = some v) : evX b (T n) = some v := by
  cases b with
  | c v => exact e
  | t q =>
    have e2 : (keepT (T i) (usesX (xs i).op)).get q = some v := e
    rw [keepT_get] at e2
    split at e2
    · show (T n).get q = _
      rw [C.tuse h (hu q (by simp [uA])), e2]
    · cases e2
section
variable (C : Ctx P ρ m0 ops n os xs T S bef) {i : Nat} (h : i < n) (hL : L i = false) (hp : ∀ j, bef j i → L j = true) (hcl : ∀ j k, L k = true → bef j k → L j = true)
include C h hL hp hcl
/-- A block that is read is as it was in the text's order. -/
theorem heap_read {ad : Option XA} (hk : clsX (xs i).op = .r ad) {p : Pth} {B : Blk} {y : Nat × Nat} (hB : (S i).heap.get p = some B) (hν : ν p = some y) (unm : ∀ i, i < n → L i = false → Unm ν (S i).cnt (S (i + 1)).cnt)
    (had : ∀ x, ad = some x → ∃ off, evX x (T n) = some (.v (.one (.ptr p off)))) : HL S L n p = some B := by
  have e : HL S L n p = HL S (fun j => decide (j < i)) n p := by
    refine HL_agree fun j hj hd => Classical.byContradiction fun hc => ?_
    have hch := C.chg hj hc
    have hlt : p.nat < (S i).cnt := ((C.numAt i (Nat.le_of_lt h)).no p B hB).1
    have new : New S j p → False := by
      intro hn
      by_cases hji : j < i
      · have hf : L j = false := by
          cases hb : L j with
          | false => rfl
          | true => rw [hb] at hd; simp [hji] at hd
        have := unm j hj hf p hn.1 hn.2
        rw [hν] at this; cases this
      · have := C.cnt_le (i := i) (j := j) (by omega) (Nat.le_of_lt hj)
        have := hn.1
        omega
    rcases C.free h hj hL hp hcl hd with e | ⟨hlt, hf, ok⟩ | ⟨hlt, hf, ok⟩
    · subst e; rw [hk] at hch; exact hch
    · rw [hk] at ok
      cases hkj : clsX (xs j).op with
      | w => rw [hkj] at hch; exact hch
      | r _ => rw [hkj] at hch; exact hch
      | a => rw [hkj] at hch; exact new hch
      | q => rw [hkj] at hch; exact new hch
      | e => rw [hkj] at ok; cases ad <;> exact ok
      | s b =>
        rw [hkj] at ok hch
        cases ad with
        | none => exact ok
        | some x =>
          obtain ⟨off, hx⟩ := had x rfl
          obtain ⟨off', hx'⟩ := hch (uA_uses (.inl hkj))
          exact ok p p off' off hx' hx rfl
    · rw [hk] at ok
      cases hkj : clsX (xs j).op with
      | w => rw [hkj] at hch; exact hch
      | r _ => rw [hkj] at hch; exact hch
      | a => rw [hkj] at hch; exact new hch
      | q => rw [hkj] at hch; exact new hch
      | e => rw [hkj] at ok; cases ad <;> exact ok
      | s b =>
        rw [hkj] at ok hch
        cases ad with
        | none => exact ok
        | some x =>
          obtain ⟨off, hx⟩ := had x rfl
          obtain ⟨off', hx'⟩ := hch (uA_uses (.inl hkj))
          exact ok p p off' off hx' hx rfl
  rw [e, HL_below i (Nat.le_of_lt h)]; exact hB
/-- What an operation without effect leaves. -/
theorem heap_same (he : (S (i + 1)).h = (S i).h) : HL S (add L i) n = HL S L n := by
  funext id
  refine HL_agree fun j hj hd => ?_
  by_cases e : j = i
  · subst e; rw [he]
  · rw [add_ne e] at hd; exact absurd rfl hd
/-- Ahead of an operation that does anything: the heap is the text's. -/
theorem heap_full (hk : clsX (xs i).op = .e ∨ ∃ b, clsX (xs i).op = .s b) : HL S L n = (S i).h ∧ HL S (add L i) n = (S (i + 1)).h := by
  have key : ∀ j, j < n → j ≠ i → L j ≠ decide (j < i) → (S (j + 1)).h = (S j).h := by
    intro j hj hne hd
    have kinds : clsX (xs j).op = .w ∨ ∃ y, clsX (xs j).op = .r y := by
      rcases C.free h hj hL hp hcl hd with e | ⟨_, _, ok⟩ | ⟨_, _, ok⟩
      · exact absurd e hne
      · cases hkj : clsX (xs j).op with
        | w => exact .inl rfl
        | r y => exact .inr ⟨y, rfl⟩
        | a => rw [hkj] at ok; rcases hk with hk | ⟨b, hk⟩ <;> (rw [hk] at ok; exact ok.elim)
        | s y => rw [hkj] at ok; rcases hk with hk | ⟨b, hk⟩ <;> (rw [hk] at ok; exact ok.elim)
        | e => rw [hkj] at ok; rcases hk with hk | ⟨b, hk⟩ <;> (rw [hk] at ok; exact ok.elim)
        | q => rw [hkj] at ok; rcases hk with hk | ⟨b, hk⟩ <;> (rw [hk] at ok; exact ok.elim)
      · cases hkj : clsX (xs j).op with
        | w => exact .inl rfl
        | r y => exact .inr ⟨y, rfl⟩
        | a => rw [hkj] at ok; rcases hk with hk | ⟨b, hk⟩ <;> (rw [hk] at ok; exact ok.elim)
        | s y => rw [hkj] at ok; rcases hk with hk | ⟨b, hk⟩ <;> (rw [hk] at ok; exact ok.elim)
        | e => rw [hkj] at ok; rcases hk with hk | ⟨b, hk⟩ <;> (rw [hk] at ok; exact ok.elim)
        | q => rw [hkj] at ok; rcases hk with hk | ⟨b, hk⟩ <;> (rw [hk] at ok; exact ok.elim)
    funext id
    refine Classical.byContradiction fun hc => ?_
    have hch := C.chg hj hc
    rcases kinds with k | ⟨y, k⟩ <;> (rw [k] at hch; exact hch)
  constructor
  · funext id
    rw [← HL_below (S := S) i (id := id) (Nat.le_of_lt h)]
    refine HL_agree fun j hj hd => ?_
    by_cases e : j = i
    · subst e; rw [hL] at hd; simp at hd
    · rw [key j hj e hd]
  · funext id
    rw [← HL_below (S := S) (i + 1) (id := id) h]
    refine HL_agree fun j hj hd => ?_
    by_cases e : j = i
    · subst e; rw [add_same] at hd; simp at hd
    · rw [add_ne e] at hd
      have : decide (j < i + 1) = decide (j < i) := by
        by_cases q : j < i
        · simp [q, show j < i + 1 by omega]
        · simp [q, show ¬ j < i + 1 by omega]
      rw [this] at hd
      rw [key j hj e hd]
/-- Where a block is new with an operation that makes blocks, nothing else is. -/
theorem heap_new (hk : clsX (xs i).op = .a ∨ clsX (xs i).op = .q) {id : Pth} (hn : New S i id) : HL S L n id = none ∧ HL S (add L i) n id = (S (i + 1)).h id := by
  have low : ∀ j, j ≤ i → (S j).h id = none := by
    intro j hj
    cases e : (S j).h id with
    | none => rfl
    | some B =>
      have h1 := ((C.numAt j (by omega)).no id B e).1
      have h2 := C.cnt_le (i := j) (j := i) hj (Nat.le_of_lt h)
      have h3 := hn.1
      omega
  have key : ∀ j, j < n → j ≠ i → L j ≠ decide (j < i) → (S (j + 1)).h id = (S j).h id := by
    intro j hj hne hd
    rcases C.free h hj hL hp hcl hd with e | ⟨hlt, _, ok⟩ | ⟨hlt, _, ok⟩
    · exact absurd e hne
    · rw [low (j + 1) hlt, low j (by omega)]
    · refine Classical.byContradiction fun hc => ?_
      have hch := C.chg hj hc
      have new : New S j id → False := by
        intro hn'
        have h1 := C.cnt_le (i := i + 1) (j := j) hlt (Nat.le_of_lt hj)
        have h2 := hn.2
        have h3 := hn'.1
        omega
      cases hkj : clsX (xs j).op with
      | w => rw [hkj] at hch; exact hch
      | r _ => rw [hkj] at hch; exact hch
      | a => rw [hkj] at hch; exact new hch
      | q => rw [hkj] at hch; exact new hch
      | e => rw [hkj] at ok; rcases hk with hk | hk <;> (rw [hk] at ok; exact ok)
      | s b => rw [hkj] at ok; rcases hk with hk | hk <;> (rw [hk] at ok; exact ok)
  constructor
  · rw [← low i (Nat.le_refl _), ← HL_below (S := S) i (id := id) (Nat.le_of_lt h)]
    refine HL_agree fun j hj hd => ?_
    by_cases e : j = i
    · subst e; rw [hL] at hd; simp at hd
    · exact key j hj e hd
  · rw [← HL_below (S := S) (i + 1) (id := id) h]
    refine HL_agree fun j hj hd => ?_
    by_cases e : j = i
    · subst e; rw [add_same] at hd; simp at hd
    · rw [add_ne e] at hd
      have : decide (j < i + 1) = decide (j < i) := by
        by_cases q : j < i
        · simp [q, show j < i + 1 by omega]
        · simp [q, show ¬ j < i + 1 by omega]
      rw [this] at hd
      exact key j hj e hd
theorem heap_old {id : Pth} (hs : (S (i + 1)).h id = (S i).h id) : HL S (add L i) n id = HL S L n id := by
  refine HL_agree fun j hj hd => ?_
  by_cases e : j = i
  · subst e; exact hs
  · rw [add_ne e] at hd; exact absurd rfl hd
/-- What was there ahead of a quiet call is there. -/
theorem heap_quiet (hk : clsX (xs i).op = .q) {id : Pth} {B : Blk} (hB : (S i).h id = some B) : HL S L n id = some B := by
  rw [← hB, ← HL_below (S := S) i (id := id) (Nat.le_of_lt h)]
  refine HL_agree fun j hj hd => ?_
  have hlt : id.nat < (S i).cnt := ((C.numAt i (Nat.le_of_lt h)).no id B hB).1
  rcases C.free h hj hL hp hcl hd with e | ⟨hji, _, ok⟩ | ⟨hji, _, ok⟩
  · subst e; rw [hL] at hd; simp at hd
  · refine Classical.byContradiction fun hc => ?_
    have hch := C.chg hj hc
    rw [hk] at ok
    cases hkj : clsX (xs j).op with
    | w => rw [hkj] at hch; exact hch
    | r _ => rw [hkj] at hch; exact hch
    | a => rw [hkj] at ok; exact ok
    | q => rw [hkj] at ok; exact ok
    | e => rw [hkj] at ok; exact ok
    | s b => rw [hkj] at ok; exact ok
  · refine Classical.byContradiction fun hc => ?_
    have hch := C.chg hj hc
    rw [hk] at ok
    cases hkj : clsX (xs j).op with
    | w => rw [hkj] at hch; exact hch
    | r _ => rw [hkj] at hch; exact hch
    | a =>
      rw [hkj] at hch
      have h1 := C.cnt_le (i := i) (j := j) (by omega) (Nat.le_of_lt hj)
      have h2 : (S j).cnt ≤ id.nat := hch.1
      omega
    | q => rw [hkj] at ok; exact ok
    | e => rw [hkj] at ok; exact ok
    | s b => rw [hkj] at ok; exact ok
/-- ONE OPERATION THAT MAY BE DONE NOW IS DONE. -/
theorem one (I : Inv ρ n xs T S ν0 n0 w0 m L ν a w) (hm : m0 ≤ m) {Q : Exit → Act → World → Prop} {next : Act → World → Prop} (hnx : ∀ ν' a' w', Inv ρ n xs T S ν0 n0 w0 m (add L i) ν' a' w' → next a' w') :
    if Region.wanted (os i) (yielded ops a.tmps) then (os i).wp P a w next Q else next (a.put (os i).dst undef) w := by
  have hst := C.st i h
  have mtG : MT m ν ρ (keepT (T i) (usesG (xs i))) a := C.keep_mt h hL hp hcl (fun _ hq => hq) I.mt
  have mtX : MT m ν ρ (keepT (T i) (usesX (xs i).op)) a := C.keep_mt h hL hp hcl (fun _ hq => List.mem_append_right _ hq) I.mt
  have want : ∀ b, Want (xs i) (T i) b → Region.wanted (os i) (yielded ops a.tmps) = b := by
    intro b hw
    refine want_eq (t := keepT (T i) (usesG (xs i))) (C.gd i h) mtG ?_
    rcases hw with hw | ⟨p, w, c, h1, h2, h3⟩ | ⟨p, w, h1, h2, h3⟩
    · exact .inl hw
    · refine .inr (.inl ⟨p, w, c, h1, ?_, h3⟩)
      have hm2 : p ∈ usesG (xs i) := List.mem_append_left _ (by rw [h1]; exact List.mem_singleton.2 rfl)
      rw [keepT_get, if_pos hm2]; exact h2
    · refine .inr (.inr ⟨p, w, h1, ?_, h3⟩)
      have hm2 : p ∈ usesG (xs i) := List.mem_append_left _ (by rw [h1]; exact List.mem_singleton.2 rfl)
      rw [keepT_get, if_pos hm2]; exact h2
  have hwl : (S i).wlo = (S 0).wlo := C.wlo i (Nat.le_of_lt h)
  have hwl1 : (S (i + 1)).wlo = (S 0).wlo := C.wlo (i + 1) h
  rcases hst.2 with ⟨hw, v, ht, ho⟩ | ⟨hw, ht, hs⟩
  · rw [want true hw, if_pos rfl]
    have pure1 : ∀ {u : Value}, (S (i + 1)).h = (S i).h → AR ν ρ v u → (execOp a.eval (os i)).run P w = .ok (.value u) w → (os i).wp P a w next Q := by
      intro u hs hu hr
      refine wp_value hr (hnx ν _ w (I.next C hm h hL ht (Ext.refl _ _ _) hu ?_))
      rw [C.heap_same h hL hp hcl hs]; exact I.mw
    cases hk : clsX (xs i).op with
    | w =>
      rw [hk] at ho
      obtain ⟨u, hu, hr⟩ := ho.2 mtX
      obtain ⟨⟨iv, e⟩, _⟩ := ho
      exact pure1 (by rw [e, setIv_eq]) hu (hr w)
    | r ad =>
      rw [hk] at ho
      obtain ⟨hs, ho | ho | ⟨p, B, hB, hr, had⟩⟩ := ho
      · obtain ⟨u, hu, hr⟩ := ho mtX
        exact pure1 (by rw [hs]) hu (hr w)
      · obtain ⟨u, hu, hr⟩ := ho mtX w fun b ob hb => (I.mw.mem b ob hb).2
        exact pure1 (by rw [hs]) hu hr
      · obtain ⟨y, hy⟩ := hr.1 mtX
        have hHL := C.heap_read h hL hp hcl hk hB hy I.unm fun x hx => by
          obtain ⟨off, he⟩ := had x hx
          exact ⟨off, C.ev_final h (uA_uses (.inr (by rw [hk, hx]))) he⟩
        obtain ⟨b, nn, h1, h2, h3⟩ := I.mw.blk p B hHL
        obtain ⟨u, hu, hrun⟩ := hr.2 mtX b nn w h1 h3
        exact pure1 (by rw [hs]) hu hrun
    | a =>
      rw [hk] at ho
      obtain ⟨bk, hs, ho⟩ := ho
      obtain ⟨nn, ob, u, hbr, hv, hr⟩ := ho mtX
      have hnx2 := (C.numAt i (Nat.le_of_lt h)).next
      have hc1 : (S (i + 1)).cnt = (S i).cnt + 1 := by rw [hs]; rfl
      have hnew : New S i (S i).next := ⟨by omega, by omega⟩
      have hν : ν (S i).next = none := I.unm i h hL _ (by omega) (by omega)
      refine wp_value (hr w) (hnx (fun p => if p = (S i).next then some (w.heap.size, nn) else ν p) _ _ (I.next C hm h hL ht ?_ (hv _ _ (if_pos rfl)) ?_))
      · rw [hc1]; exact ext_new (C.numAt i (Nat.le_of_lt h)) _ hν
      · have := I.mw.alloc (no := (S i).cnt) hν hbr
        have e : HL S (add L i) n = fun p => if (S i).next = p then some ⟨(S i).cnt, bk⟩ else HL S L n p := by
          funext p
          by_cases q : (S i).next = p
          · subst q
            rw [(C.heap_new h hL hp hcl (.inl hk) hnew).2, if_pos rfl, hs, St.alloc_h]
            exact if_pos rfl
          · rw [if_neg q]
            refine C.heap_old h hL hp hcl ?_
            rw [hs, St.alloc_h]
            exact if_neg q
        rw [e]; exact this
    | s b =>
      have hot : OT P ρ (os i) (keepT (T i) (usesX (xs i).op)) (S i) v (S (i + 1)) := ho.ot hst.1.wlo (C.numAt i (Nat.le_of_lt h))
      obtain ⟨e1, e2⟩ := C.heap_full h hL hp hcl (.inr ⟨b, hk⟩)
      refine hot mtX (by rw [hwl, ← e1]; exact I.mw) (I.unm i h hL) fun u ν' w' he hu hm' => hnx ν' _ w' (I.next C hm h hL ht he hu ?_)
      rw [e2, ← hwl1]; exact hm'
    | e =>
      have hot : OT P ρ (os i) (keepT (T i) (usesX (xs i).op)) (S i) v (S (i + 1)) := ho.ot hst.1.wlo (C.numAt i (Nat.le_of_lt h))
      obtain ⟨e1, e2⟩ := C.heap_full h hL hp hcl (.inl hk)
      refine hot mtX (by rw [hwl, ← e1]; exact I.mw) (I.unm i h hL) fun u ν' w' he hu hm' => hnx ν' _ w' (I.next C hm h hL ht he hu ?_)
      rw [e2, ← hwl1]; exact hm'
    | q =>
      rw [hk] at ho
      obtain ⟨f, vs, s1, hr, hq, hc, hh⟩ := ho
      obtain ⟨vals, hrel, hrun⟩ := hr mtX
      refine wp_enter (hrun w) (R := fun e w' => ∃ u, e = .returned u ∧ next (a.put (os i).dst u) w') (hq hrel mtX.2.2 I.mw (hc ▸ I.unm i h hL) (fun id B hB => C.heap_quiet h hL hp hcl hk hB) (h' := HL S (add L i) n) (fun id B e => ?_) (fun id B e => ?_) fun u ν' w' he hu hm' => ?_) fun e w' h => h
      · have hnn : ¬ New S i id := fun hn => by
          rw [(C.heap_new h hL hp hcl (.inr hk) hn).1] at e; cases e
        rw [C.heap_old h hL hp hcl (by rw [hh, if_neg (fun q => hnn ⟨q.1, hc ▸ q.2⟩)])]; exact e
      · by_cases hn : New S i id
        · refine .inr ⟨hn.1, by rw [hc]; exact hn.2, ?_⟩
          rw [(C.heap_new h hL hp hcl (.inr hk) hn).2, hh, if_pos ⟨hn.1, by rw [hc]; exact hn.2⟩] at e
          exact e
        · refine .inl ⟨fun q => hn ⟨q.1, hc ▸ q.2⟩, ?_⟩
          rw [C.heap_old h hL hp hcl (by rw [hh, if_neg (fun q => hn ⟨q.1, hc ▸ q.2⟩)])] at e; exact e
      · exact ⟨u, rfl, hnx ν' _ w' (I.next C hm h hL ht (hc ▸ he) hu hm')⟩
  · rw [want false hw, if_neg (by simp)]
    refine hnx ν _ w (I.next C hm h hL ht (Ext.refl _ _ _) undef_ok ?_)
    rw [C.heap_same h hL hp hcl (by rw [hs])]; exact I.mw
end
end Ctx
end Go.Rsf
