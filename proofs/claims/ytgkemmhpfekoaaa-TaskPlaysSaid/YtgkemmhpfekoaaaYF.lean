/- An executor over a program's operations: a state that another one stands for (patterns of loops). Conditions: none. -/
import Derived.Test.YtgkemmhpfekoaaaYD
namespace Go.Rse
open Go.RowKit
set_option linter.unusedVariables false
set_option linter.unusedSimpArgs false

/-- Where a pattern's symbol is told: by a slot's number (v = a * symbol + c); as the rest of the symbol ahead of it; by a number behind a slot's address; by the length of a row that came in; nowhere: it is new. -/
inductive Src where
  | sl (p : Pth) (a c : Int)
  | rest
  | hp (p : Pth) (offs : List Nat) (a c : Int)
  | ln (p : Pth)
  | free
/-- A slot that is a row that came in: symbol e is its number at symbol i's place (i + 1: its length); where md is not nought, symbol e + 1 is e's rest by md. -/
structure El where
  p : Pth
  kd : IntKind
  i : Nat
  e : Nat
  md : Nat
/-- A state that a loop comes back to: its slots, its blocks (the first is the table), its symbols, and where each symbol is told. -/
structure Pat where
  tl : List (Pth × AV)
  hl : List Bk
  iv : List Iv
  src : List Src
  el : Option El
abbrev Maps := Tr Pth × Tr Pth
abbrev Line := Int × Nat × Int
def Line.at (ρ : Rho) (l : Line) : Int := l.1 * ρ.val l.2.1 + l.2.2
noncomputable section
/-- A number's line. -/
def lineOf : AV → Option Line
  | .v (.one (.int _ n)) => some (0, 0, n)
  | .v (.one (.lin _ a s c)) => some (a, s, c)
  | _ => none
def divB (a b : Int) : Bool := ieqB (Int.tmod a b) 0
/-- The symbol that a slot's number tells. -/
def solve (l : Line) (a c : Int) : Option Line :=
  if !ieqB a 0 && divB l.1 a && divB (l.2.2 - c) a then some (Int.tdiv l.1 a, l.2.1, Int.tdiv (l.2.2 - c) a) else none
/-- The cell behind an address. -/
def pathC (s : St) : Cell → List Nat → Option Cell
  | c, [] => some c
  | c, off :: l =>
    match (match c with | .ptr id o => some (id, o) | .sl id o _ _ => some (id, o) | .slU id o _ _ => some (id, o) | _ => none) with
    | none => none
    | some q => match s.heap.get q.1 with
      | none => none
      | some B => match B.k with
        | .row _ cs => (match cs[q.2 + off]? with | some c => pathC s c l | none => none)
        | _ => none
def lineC (c : Cell) : Option Line := lineOf (.v (.one c))
def source1 (s : St) (t : Ts) (prev : Option Line) : Src → Option (Option Line)
  | .free => some none
  | .rest => match prev with
    | some q => if ieqB q.1 1 && ieqB q.2.2 0 then some (some (1, q.2.1 + 1, 0)) else none
    | none => none
  | .sl p a c => match t.get p with
    | none => none
    | some v => match lineOf v with
      | none => none
      | some q => (solve q a c).map some
  | .hp p offs a c => match t.get p with
    | some (.v (.one x)) => (match pathC s x offs with
      | none => none
      | some y => match lineC y with
        | none => none
        | some q => (solve q a c).map some)
    | _ => none
  | .ln p => match t.get p with
    | some (.inS len _ _) => (lineC len).map some
    | _ => none
def sources (s : St) (t : Ts) : Option Line → List Src → Option (List (Option Line))
  | _, [] => some []
  | prev, x :: l => match source1 s t prev x with
    | none => none
    | some r => match sources s t r l with
      | none => none
      | some rs => some (r :: rs)
def pthE : Pth → Pth → Bool
  | .e, .e => true
  | .z p, .z q => pthE p q
  | .s p, .s q => pthE p q
  | _, _ => false
def idM (n : Nat) (id id' : Pth) (m : Maps) : Option Maps :=
  if Nat.blt id.nat n then
    match m.1.get id with
    | some x => if pthE x id' then some m else none
    | none => match m.2.get id' with
      | some _ => none
      | none => some (m.1.set id id', m.2.set id' id)
  else none
def ptrsM (n : Nat) : List (Pth × Nat) → List (Pth × Nat) → Maps → Option Maps
  | [], [], m => some m
  | x :: l, y :: r, m => if Nat.beq x.2 y.2 then (match idM n x.1 y.1 m with | some m => ptrsM n l r m | none => none) else none
  | _, _, _ => none
/-- Is a line the same as a symbol's, put in? -/
def sameLine (σ : List (Option Line)) (a : Int) (s : Nat) (c : Int) (l : Line) : Bool :=
  match σ[s]? with
  | none => false
  | some none => false
  | some (some q) => ieqB (a * q.2.2 + c) l.2.2 && ((ieqB (a * q.1) 0 && ieqB l.1 0) || (ieqB (a * q.1) l.1 && Nat.beq q.2.1 l.2.1))
def cellM (σ : List (Option Line)) (n : Nat) : Cell → Cell → Maps → Option Maps
  | .any, _, m => some m
  | .int k a, .int k' b, m => if kindB k k' && ieqB a b then some m else none
  | .lin k a s c, .int k' b, m => if kindB k k' && sameLine σ a s c (0, 0, b) then some m else none
  | .lin k a s c, .lin k' a' s' c', m => if kindB k k' && sameLine σ a s c (a', s', c') then some m else none
  | .bool a, .bool b, m => if a == b then some m else none
  | .str a, .str b, m => if strB a b then some m else none
  | .nilp, .nilp, m => some m
  | .nils, .nils, m => some m
  | .nilf, .nilf, m => some m
  | .nilm, .nilm, m => some m
  | .sl0, .sl0, m => some m
  | .ptr id o, .ptr id' o', m => if Nat.beq o o' then idM n id id' m else none
  | .sl id o l c, .sl id' o' l' c', m => if Nat.beq o o' && Nat.beq l l' && Nat.beq c c' then idM n id id' m else none
  | .slU id o l z, .slU id' o' l' z', m => if Nat.beq o o' && Nat.beq l l' && Nat.beq z z' then idM n id id' m else none
  | .map id, .map id', m => idM n id id' m
  | .fn f x y, .fn f' x' y', m => if Nat.beq f f' then (match ptrsM n x x' m with | some m => ptrsM n y y' m | none => none) else none
  | _, _, _ => none
def cellsM (σ : List (Option Line)) (n : Nat) : List Cell → List Cell → Maps → Option Maps
  | [], [], m => some m
  | x :: l, y :: r, m => (match cellM σ n x y m with | some m => cellsM σ n l r m | none => none)
  | _, _, _ => none
def compM (σ : List (Option Line)) (n : Nat) : Comp → Comp → Maps → Option Maps
  | .one a, .one b, m => cellM σ n a b m
  | .agg a, .agg b, m => cellsM σ n a b m
  | _, _, _ => none
def compsM (σ : List (Option Line)) (n : Nat) : List Comp → List Comp → Maps → Option Maps
  | [], [], m => some m
  | x :: l, y :: r, m => (match compM σ n x y m with | some m => compsM σ n l r m | none => none)
  | _, _, _ => none
def avM (σ : List (Option Line)) (n : Nat) : AV → AV → Maps → Option Maps
  | .unk, _, m => some m
  | .v a, .v b, m => compM σ n a b m
  | .tup a, .tup b, m => compsM σ n a b m
  | _, _, _ => none
def tempsM (σ : List (Option Line)) (n : Nat) (t : Ts) : List (Pth × AV) → Maps → Option Maps
  | [], m => some m
  | x :: l, m => match t.get x.1 with
    | none => none
    | some v => match avM σ n x.2 v m with
      | none => none
      | some m => tempsM σ n t l m
def bkM (σ : List (Option Line)) (n : Nat) : Bk → Bk → Maps → Option Maps
  | .dead, _, m => some m
  | .row op l, .row op' l', m => if op == op' then cellsM σ n l l' m else none
  | .tab l, .tab l', m => cellsM σ n l l' m
  | _, _, _ => none
def isDeadB : Bk → Bool | .dead => true | _ => false
/-- The blocks, in their order: each is spoken of by then. -/
def blocksM (σ : List (Option Line)) (n : Nat) (s : St) : Nat → List Bk → Maps → Option Maps
  | _, [], m => some m
  | i, b :: l, m => match m.1.get (keyF i) with
    | none => none
    | some id' => match s.heap.get id' with
      | none => none
      | some B =>
        if !isDeadB B.k && (Nat.beq i 0 || Nat.ble s.wlo B.no) then
          (match bkM σ n b B.k m with
          | none => none
          | some m => blocksM σ n s (i + 1) l m)
        else none
/-- A new symbol: any number of its kind; its rest. -/
def freeB (el : Option El) (i : Nat) (x : Iv) : Bool :=
  match el with
  | none => false
  | some E => (Nat.beq i E.e && Nat.beq x.md 0 && ileB x.lo (kmin E.kd) && ileB (kmax E.kd) x.hi) ||
    (Nat.beq i (E.e + 1) && Nat.blt 0 E.md && Nat.beq x.md E.md && !Nat.beq E.md LT && ileB x.lo 0 && ileB (Int.ofNat E.md) (x.hi + 1) && ileB 0 (kmin E.kd))
/-- Do the symbols lie where the pattern has them? -/
def ivM (cur : List Iv) (el : Option El) (σ : List (Option Line)) : Nat → List Iv → Bool
  | _, [] => true
  | i, x :: l => (match σ[i]? with
    | none => false
    | some none => freeB el i x
    | some (some q) =>
      (if ieqB q.1 0 then ileB x.lo q.2.2 && ileB q.2.2 x.hi else
        match cur[q.2.1]? with
        | none => false
        | some y => ileB x.lo (q.1 * y.lo + q.2.2) && ileB (q.1 * y.lo + q.2.2) x.hi && ileB x.lo (q.1 * y.hi + q.2.2) && ileB (q.1 * y.hi + q.2.2) x.hi &&
          (Nat.beq x.md 0 || (!Nat.beq x.md LT && ieqB q.1 1 && ieqB q.2.2 0 && Nat.beq x.md y.md && (match i, σ[i - 1]? with
            | _ + 1, some (some r) => ieqB r.1 1 && ieqB r.2.2 0 && Nat.beq (r.2.1 + 1) q.2.1
            | _, _ => false)))) && (Nat.beq x.md 0 || !ieqB q.1 0)) && ivM cur el σ (i + 1) l
def freeAt (σ : List (Option Line)) (i : Nat) : Bool := match σ[i]? with | some none => true | _ => false
def toldAt (σ : List (Option Line)) (i : Nat) : Bool := match σ[i]? with | some (some _) => true | _ => false
/-- The row that came in is in its slot. -/
def elB (t : Ts) (σ : List (Option Line)) : Option El → Bool
  | none => true
  | some E => match t.get E.p with
    | some (.inS len kd _) => kindB E.kd kd && freeAt σ E.e && toldAt σ E.i && (match len with
      | .int k n => kindB .i64 k && sameLine σ 1 (E.i + 1) 0 (0, 0, n)
      | .lin k a s c => kindB .i64 k && sameLine σ 1 (E.i + 1) 0 (a, s, c)
      | _ => false)
    | _ => false
def entB (t : Ts) (s : St) (p : Pat) : Bool :=
  match sources s t none p.src with
  | none => false
  | some σ => Nat.beq σ.length p.iv.length && ivM s.iv p.el σ 0 p.iv && elB t σ p.el &&
    (match tempsM σ p.hl.length t p.tl (.leaf .e, .leaf .e) with
    | none => false
    | some m => match blocksM σ p.hl.length s 0 p.hl m with
      | none => false
      | some _ => true)
end

/-! ### What the check shows -/
theorem pthE_true : ∀ {p q : Pth}, pthE p q = true → p = q
  | .e, .e, _ => rfl
  | .z p, .z q, h => by rw [pthE_true (p := p) (q := q) h]
  | .s p, .s q, h => by rw [pthE_true (p := p) (q := q) h]
  | .e, .z q, h => by cases h
  | .e, .s q, h => by cases h
  | .z p, .e, h => by cases h
  | .z p, .s q, h => by cases h
  | .s p, .e, h => by cases h
  | .s p, .z q, h => by cases h
/-- The two maps go there and back. -/
def Inv2 (m : Maps) : Prop := ∀ a b, m.1.get a = some b → m.2.get b = some a
def Le2 (m m' : Maps) : Prop := ∀ a b, m.1.get a = some b → m'.1.get a = some b
theorem Le2.refl (m : Maps) : Le2 m m := fun _ _ h => h
theorem Le2.trans {a b c : Maps} (h : Le2 a b) (k : Le2 b c) : Le2 a c := fun x y e => k x y (h x y e)
def nuOf (n : Nat) (m : Maps) (ν : Nu) : Nu := fun id => if id.nat < n then (m.1.get id).bind ν else none
theorem idM_true {n : Nat} {id id' : Pth} {m m' : Maps} (h : idM n id id' m = some m') (hi : Inv2 m) : Inv2 m' ∧ Le2 m m' ∧ m'.1.get id = some id' ∧ id.nat < n := by
  unfold idM at h
  split at h
  · rename_i hn
    have hn : id.nat < n := Nat.le_of_ble_eq_true hn
    split at h
    · rename_i x hx
      split at h
      · rename_i he
        cases h
        exact ⟨hi, Le2.refl _, by rw [hx, pthE_true he], hn⟩
      · cases h
    · rename_i hx
      split at h
      · cases h
      · rename_i hy
        cases h
        refine ⟨fun a b hab => ?_, fun a b hab => ?_, Tr.get_set_same _ _ _, hn⟩
        · show (m.2.set id' id).get b = some a
          have hab : (m.1.set id id').get a = some b := hab
          rw [Tr.get_set] at hab ⊢
          split at hab
          · rename_i e; cases hab; rw [if_pos rfl, e]
          · have hb := hi a b hab
            rw [if_neg]
            · exact hb
            · intro e; subst e; rw [hy] at hb; cases hb
        · show (m.1.set id id').get a = some b
          rw [Tr.get_set]
          split
          · rename_i e; subst e; rw [hx] at hab; cases hab
          · exact hab
  · cases h
theorem nuOf_get {n : Nat} {m mf : Maps} {ν : Nu} {id id' : Pth} {y : Nat × Nat} (h : m.1.get id = some id') (hl : Le2 m mf) (hn : id.nat < n) (hy : ν id' = some y) : nuOf n mf ν id = some y := by
  unfold nuOf
  rw [if_pos hn, hl _ _ h]; exact hy
/-- .. of the symbols: what they are then. -/
def RhoIs (ρ ρ' : Rho) (σ : List (Option Line)) : Prop := ∀ i q, σ[i]? = some (some q) → ρ'.val i = Line.at ρ q
theorem sameLine_true {ρ ρ' : Rho} {σ : List (Option Line)} (hr : RhoIs ρ ρ' σ) {a : Int} {s : Nat} {c : Int} {l : Line} (h : sameLine σ a s c l = true) : a * ρ'.val s + c = Line.at ρ l := by
  unfold sameLine at h
  split at h
  · cases h
  · cases h
  · rename_i q hq
    simp only [Bool.and_eq_true, Bool.or_eq_true] at h
    obtain ⟨h1, h2⟩ := h
    rw [ieqB_eq] at h1
    have h1 := of_decide_eq_true h1
    rw [hr s q hq]
    unfold Line.at
    have e : a * (q.1 * ρ.val q.2.1 + q.2.2) + c = (a * q.1) * ρ.val q.2.1 + (a * q.2.2 + c) := by
      rw [Int.mul_add, Int.mul_assoc, Int.add_assoc]
    rw [e, h1]
    rcases h2 with ⟨h3, h4⟩ | ⟨h3, h4⟩
    · rw [ieqB_eq] at h3 h4
      rw [of_decide_eq_true h3, of_decide_eq_true h4]; simp
    · rw [ieqB_eq] at h3
      rw [of_decide_eq_true h3, Nat.eq_of_beq_eq_true h4]
section
variable {ρ ρ' : Rho} {σ : List (Option Line)} {n : Nat}
theorem ptrsM_true : ∀ {x y : List (Pth × Nat)} {m m' : Maps}, ptrsM n x y m = some m' → Inv2 m → Inv2 m' ∧ Le2 m m' ∧ ∀ mf (ν : Nu) vs, Le2 m' mf → Rel (PR ν) y vs → Rel (PR (nuOf n mf ν)) x vs
  | [], [], m, m', h, hi => by cases h; exact ⟨hi, Le2.refl _, fun mf ν vs _ r => by cases vs with | nil => trivial | cons _ _ => exact r.elim⟩
  | [], _ :: _, m, m', h, hi => by cases h
  | _ :: _, [], m, m', h, hi => by cases h
  | x :: l, y :: r, m, m', h, hi => by
    unfold ptrsM at h
    split at h
    · rename_i he
      split at h
      · rename_i m1 h1
        obtain ⟨i1, l1, g1, n1⟩ := idM_true h1 hi
        obtain ⟨i2, l2, g2⟩ := ptrsM_true h i1
        refine ⟨i2, l1.trans l2, fun mf ν vs hl rr => ?_⟩
        cases vs with
        | nil => exact rr.elim
        | cons v vs =>
          obtain ⟨⟨b, k, e1, e2⟩, r2⟩ := rr
          exact ⟨⟨b, k, nuOf_get g1 (l2.trans hl) n1 e1, by rw [e2, Nat.eq_of_beq_eq_true he]⟩, g2 mf ν vs hl r2⟩
      · cases h
    · cases h
theorem cellM_true (hr : RhoIs ρ ρ' σ) {x y : Cell} {m m' : Maps} (h : cellM σ n x y m = some m') (hi : Inv2 m) : Inv2 m' ∧ Le2 m m' ∧ ∀ mf (ν : Nu) v, Le2 m' mf → CR ν ρ y v → CR (nuOf n mf ν) ρ' x v := by
  unfold cellM at h
  split at h
  · cases h; exact ⟨hi, Le2.refl _, fun mf ν v _ r => r.oneCell⟩
  · split at h
    · rename_i hc
      cases h
      rw [Bool.and_eq_true] at hc
      refine ⟨hi, Le2.refl _, fun mf ν v _ r => ?_⟩
      have e1 := kindB_true hc.1
      have e2 := hc.2
      rw [ieqB_eq] at e2
      have e2 := of_decide_eq_true e2
      subst e1; subst e2; exact r
    · cases h
  · split at h
    · rename_i hc
      cases h
      rw [Bool.and_eq_true] at hc
      refine ⟨hi, Le2.refl _, fun mf ν v _ r => ?_⟩
      have e1 := kindB_true hc.1
      have e2 := sameLine_true hr hc.2
      subst e1
      show v = .int _ _
      rw [e2, show v = _ from r]
      simp [Line.at]
    · cases h
  · split at h
    · rename_i hc
      cases h
      rw [Bool.and_eq_true] at hc
      refine ⟨hi, Le2.refl _, fun mf ν v _ r => ?_⟩
      have e1 := kindB_true hc.1
      have e2 := sameLine_true hr hc.2
      subst e1
      show v = .int _ _
      rw [e2]; exact r
    · cases h
  · split at h
    · rename_i hc
      cases h
      exact ⟨hi, Le2.refl _, fun mf ν v _ r => by rw [eq_of_beq hc]; exact r⟩
    · cases h
  · split at h
    · rename_i hc
      cases h
      rw [strB_eq] at hc
      exact ⟨hi, Le2.refl _, fun mf ν v _ r => by rw [of_decide_eq_true hc]; exact r⟩
    · cases h
  · cases h; exact ⟨hi, Le2.refl _, fun mf ν v _ r => r⟩
  · cases h; exact ⟨hi, Le2.refl _, fun mf ν v _ r => r⟩
  · cases h; exact ⟨hi, Le2.refl _, fun mf ν v _ r => r⟩
  · cases h; exact ⟨hi, Le2.refl _, fun mf ν v _ r => r⟩
  · cases h; exact ⟨hi, Le2.refl _, fun mf ν v _ r => r⟩
  · split at h
    · rename_i hc
      obtain ⟨i1, l1, g1, n1⟩ := idM_true h hi
      refine ⟨i1, l1, fun mf ν v hl r => ?_⟩
      obtain ⟨b, k, e1, e2⟩ := r
      exact ⟨b, k, nuOf_get g1 hl n1 e1, by rw [e2, Nat.eq_of_beq_eq_true hc]⟩
    · cases h
  · split at h
    · rename_i hc
      simp only [Bool.and_eq_true] at hc
      obtain ⟨i1, l1, g1, n1⟩ := idM_true h hi
      refine ⟨i1, l1, fun mf ν v hl r => ?_⟩
      obtain ⟨b, k, e1, e3, e2⟩ := r
      rw [Nat.eq_of_beq_eq_true hc.1.1, Nat.eq_of_beq_eq_true hc.1.2, Nat.eq_of_beq_eq_true hc.2]
      exact ⟨b, k, nuOf_get g1 hl n1 e1, e3, e2⟩
    · cases h
  · split at h
    · rename_i hc
      simp only [Bool.and_eq_true] at hc
      obtain ⟨i1, l1, g1, n1⟩ := idM_true h hi
      refine ⟨i1, l1, fun mf ν v hl r => ?_⟩
      obtain ⟨b, k, c, e1, e3, e4, e2⟩ := r
      rw [Nat.eq_of_beq_eq_true hc.1.1, Nat.eq_of_beq_eq_true hc.1.2, Nat.eq_of_beq_eq_true hc.2]
      exact ⟨b, k, c, nuOf_get g1 hl n1 e1, e3, e4, e2⟩
    · cases h
  · obtain ⟨i1, l1, g1, n1⟩ := idM_true h hi
    refine ⟨i1, l1, fun mf ν v hl r => ?_⟩
    obtain ⟨b, k, e1, e2⟩ := r
    exact ⟨b, k, nuOf_get g1 hl n1 e1, e2⟩
  · split at h
    · rename_i hc
      split at h
      · rename_i m1 h1
        obtain ⟨i1, l1, g1⟩ := ptrsM_true h1 hi
        obtain ⟨i2, l2, g2⟩ := ptrsM_true h i1
        refine ⟨i2, l1.trans l2, fun mf ν v hl r => ?_⟩
        obtain ⟨a, b, e, r1, r2⟩ := r
        exact ⟨a, b, by rw [e, Nat.eq_of_beq_eq_true hc], g1 mf ν a (l2.trans hl) r1, g2 mf ν b hl r2⟩
      · cases h
    · cases h
  · cases h
theorem cellsM_true (hr : RhoIs ρ ρ' σ) : ∀ {x y : List Cell} {m m' : Maps}, cellsM σ n x y m = some m' → Inv2 m → Inv2 m' ∧ Le2 m m' ∧ x.length = y.length ∧
    (∀ mf (ν : Nu), Le2 m' mf → ∀ (i : Nat) a v, x[i]? = some a → (∀ b, y[i]? = some b → CR ν ρ b v) → CR (nuOf n mf ν) ρ' a v)
  | [], [], m, m', h, hi => by cases h; exact ⟨hi, Le2.refl _, rfl, fun mf ν _ i a v ha => by simp at ha⟩
  | [], _ :: _, m, m', h, hi => by cases h
  | _ :: _, [], m, m', h, hi => by cases h
  | x :: l, y :: r, m, m', h, hi => by
    unfold cellsM at h
    split at h
    · rename_i m1 h1
      obtain ⟨i1, l1, g1⟩ := cellM_true hr h1 hi
      obtain ⟨i2, l2, e2, g2⟩ := cellsM_true hr h i1
      refine ⟨i2, l1.trans l2, by simp [e2], fun mf ν hl i a v ha hb => ?_⟩
      cases i with
      | zero =>
        simp only [List.getElem?_cons_zero, Option.some.injEq] at ha
        subst ha
        exact g1 mf ν v (l2.trans hl) (hb y rfl)
      | succ i => exact g2 mf ν hl i a v (by simpa using ha) fun b hb' => hb b (by simpa using hb')
    · cases h
theorem rel_of_cells {mf : Maps} {ν : Nu} {x y : List Cell} {vs : List Value} (hl : x.length = y.length) (g : ∀ (i : Nat) a v, x[i]? = some a → (∀ b, y[i]? = some b → CR ν ρ b v) → CR (nuOf n mf ν) ρ' a v) (r : Rel (CR ν ρ) y vs) : Rel (CR (nuOf n mf ν) ρ') x vs := by
  refine Rel.of_nth (by rw [hl, r.length]) fun i a v ha hv => g i a v ha fun b hb => ?_
  obtain ⟨v', hv', rv⟩ := r.nth hb
  rw [hv] at hv'; cases hv'; exact rv
theorem compM_true (hr : RhoIs ρ ρ' σ) {x y : Comp} {m m' : Maps} (h : compM σ n x y m = some m') (hi : Inv2 m) : Inv2 m' ∧ Le2 m m' ∧ ∀ mf (ν : Nu) v, Le2 m' mf → CompR ν ρ y v → CompR (nuOf n mf ν) ρ' x v := by
  unfold compM at h
  split at h
  · exact cellM_true hr h hi
  · obtain ⟨i1, l1, e1, g1⟩ := cellsM_true hr h hi
    refine ⟨i1, l1, fun mf ν v hl r => ?_⟩
    obtain ⟨vs, e, rr⟩ := r
    exact ⟨vs, e, rel_of_cells e1 (g1 mf ν hl) rr⟩
  · cases h
theorem compsM_true (hr : RhoIs ρ ρ' σ) : ∀ {x y : List Comp} {m m' : Maps}, compsM σ n x y m = some m' → Inv2 m → Inv2 m' ∧ Le2 m m' ∧ ∀ mf (ν : Nu) vs, Le2 m' mf → Rel (CompR ν ρ) y vs → Rel (CompR (nuOf n mf ν) ρ') x vs
  | [], [], m, m', h, hi => by cases h; exact ⟨hi, Le2.refl _, fun mf ν vs _ r => by cases vs with | nil => trivial | cons _ _ => exact r.elim⟩
  | [], _ :: _, m, m', h, hi => by cases h
  | _ :: _, [], m, m', h, hi => by cases h
  | x :: l, y :: r, m, m', h, hi => by
    unfold compsM at h
    split at h
    · rename_i m1 h1
      obtain ⟨i1, l1, g1⟩ := compM_true hr h1 hi
      obtain ⟨i2, l2, g2⟩ := compsM_true hr h i1
      refine ⟨i2, l1.trans l2, fun mf ν vs hl rr => ?_⟩
      cases vs with
      | nil => exact rr.elim
      | cons v vs => exact ⟨g1 mf ν v (l2.trans hl) rr.1, g2 mf ν vs hl rr.2⟩
    · cases h
theorem avM_true (hr : RhoIs ρ ρ' σ) {x y : AV} {m m' : Maps} (h : avM σ n x y m = some m') (hi : Inv2 m) : Inv2 m' ∧ Le2 m m' ∧ ∀ mf (ν : Nu) v, Le2 m' mf → AR ν ρ y v → AR (nuOf n mf ν) ρ' x v := by
  unfold avM at h
  split at h
  · cases h; exact ⟨hi, Le2.refl _, fun _ _ _ _ _ => trivial⟩
  · exact compM_true hr h hi
  · obtain ⟨i1, l1, g1⟩ := compsM_true hr h hi
    refine ⟨i1, l1, fun mf ν v hl r => ?_⟩
    obtain ⟨vs, e, rr⟩ := r
    exact ⟨vs, e, g1 mf ν vs hl rr⟩
  · cases h
theorem tempsM_true (hr : RhoIs ρ ρ' σ) {t : Ts} : ∀ {l : List (Pth × AV)} {m m' : Maps}, tempsM σ n t l m = some m' → Inv2 m → Inv2 m' ∧ Le2 m m' ∧
    ∀ p v, (p, v) ∈ l → ∃ u, t.get p = some u ∧ ∀ mf (ν : Nu) w, Le2 m' mf → AR ν ρ u w → AR (nuOf n mf ν) ρ' v w
  | [], m, m', h, hi => by cases h; exact ⟨hi, Le2.refl _, fun p v hm => by cases hm⟩
  | x :: l, m, m', h, hi => by
    unfold tempsM at h
    split at h
    · cases h
    · rename_i u hu
      split at h
      · cases h
      · rename_i m1 h1
        obtain ⟨i1, l1, g1⟩ := avM_true hr h1 hi
        obtain ⟨i2, l2, g2⟩ := tempsM_true hr h i1
        refine ⟨i2, l1.trans l2, fun p v hm => ?_⟩
        cases hm with
        | head => exact ⟨u, hu, fun mf ν w hl r => g1 mf ν w (l2.trans hl) r⟩
        | tail _ hm => exact g2 p v hm
theorem bkM_true (hr : RhoIs ρ ρ' σ) {x y : Bk} {m m' : Maps} (h : bkM σ n x y m = some m') (hi : Inv2 m) : Inv2 m' ∧ Le2 m m' ∧ ∀ mf (ν : Nu) k o, Le2 m' mf → BR ν ρ k o y → BR (nuOf n mf ν) ρ' k o x := by
  unfold bkM at h
  split at h
  · cases h; exact ⟨hi, Le2.refl _, fun _ _ _ _ _ _ => trivial⟩
  · split at h
    · rename_i he
      obtain ⟨i1, l1, e1, g1⟩ := cellsM_true hr h hi
      refine ⟨i1, l1, fun mf ν k o hl r => ?_⟩
      obtain ⟨c, e, h1, h2, h3, h4, h5⟩ := r
      refine ⟨c, e, h1, h2, by omega, fun ho => by rw [e1]; exact h4 (by rw [← eq_of_beq he]; exact ho), fun i a ha => ?_⟩
      have hlt : i < _ := (List.getElem?_eq_some_iff.1 ha).1
      have hb : _ := List.getElem?_eq_getElem (l := _) (show i < _ from e1 ▸ hlt)
      obtain ⟨v, hv, rv⟩ := h5 i _ hb
      exact ⟨v, hv, g1 mf ν hl i a v ha fun b hb' => by rw [hb] at hb'; cases hb'; exact rv⟩
    · cases h
  · obtain ⟨i1, l1, e1, g1⟩ := cellsM_true hr h hi
    refine ⟨i1, l1, fun mf ν k o hl r => ?_⟩
    obtain ⟨c, e, fz, h1, h2, h3, h5⟩ := r
    refine ⟨c, e, fz, h1, h2, by omega, fun i a ha => ?_⟩
    have hlt : i < _ := (List.getElem?_eq_some_iff.1 ha).1
    have hb : _ := List.getElem?_eq_getElem (l := _) (show i < _ from e1 ▸ hlt)
    obtain ⟨v, hv, rv⟩ := h5 i _ hb
    exact ⟨v, hv, g1 mf ν hl i a v ha fun b hb' => by rw [hb] at hb'; cases hb'; exact rv⟩
  · cases h
theorem blocksM_true (hr : RhoIs ρ ρ' σ) {s : St} : ∀ {l : List Bk} {i : Nat} {m m' : Maps}, blocksM σ n s i l m = some m' → Inv2 m → Inv2 m' ∧ Le2 m m' ∧
    ∀ (j : Nat) b, l[j]? = some b → ∃ id' B, m'.1.get (keyF (i + j)) = some id' ∧ s.heap.get id' = some B ∧ B.k ≠ .dead ∧ (i + j = 0 ∨ s.wlo ≤ B.no) ∧ ∀ mf (ν : Nu) k o, Le2 m' mf → BR ν ρ k o B.k → BR (nuOf n mf ν) ρ' k o b
  | [], i, m, m', h, hi => by cases h; exact ⟨hi, Le2.refl _, fun j b hb => by simp at hb⟩
  | b :: l, i, m, m', h, hi => by
    unfold blocksM at h
    split at h
    · cases h
    · rename_i id' hid
      split at h
      · cases h
      · rename_i B hB
        split at h
        · rename_i hc
          simp only [Bool.and_eq_true, Bool.or_eq_true] at hc
          split at h
          · cases h
          · rename_i m1 h1
            obtain ⟨i1, l1, g1⟩ := bkM_true hr h1 hi
            obtain ⟨i2, l2, g2⟩ := blocksM_true hr h i1
            refine ⟨i2, l1.trans l2, fun j c hcj => ?_⟩
            cases j with
            | zero =>
              simp only [List.getElem?_cons_zero, Option.some.injEq] at hcj
              subst hcj
              refine ⟨id', B, l2 _ _ (l1 _ _ hid), hB, fun e => (by rw [e] at hc; cases hc.1), ?_, fun mf ν k o hl r => g1 mf ν k o (l2.trans hl) r⟩
              rcases hc.2 with h0 | h0
              · exact .inl (Nat.eq_of_beq_eq_true h0)
              · exact .inr (Nat.le_of_ble_eq_true h0)
            | succ j =>
              have := g2 j c (by simpa using hcj)
              rw [show i + 1 + j = i + (j + 1) by omega] at this
              exact this
        · cases h
end
end Go.Rse
