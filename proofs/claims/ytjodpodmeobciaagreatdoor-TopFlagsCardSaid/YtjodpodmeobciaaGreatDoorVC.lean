/- An executor over a program's operations: how its values and its heap stand to the model's. Conditions: none. -/
import Derived.Test.YtjodpodmeobciaaGreatDoorVB
import Derived.Laws.Sem
namespace Go.Rsf
open Go.RowKit
set_option linter.unusedVariables false

/-- Which block an id stands for, and how many cells it has. -/
abbrev Nu := Pth → Option (Nat × Nat)
/-- What the symbols stand for; how many cells the program's first variable has, if it is spoken of. -/
structure Rho where
  val : Nat → Int
  gl : Option Nat
  mem : Nat → Option Obj
def PR (ν : Nu) (x : Pth × Nat) (v : Value) : Prop := ∃ b n, ν x.1 = some (b, n) ∧ v = .pointer (some ⟨b, x.2, none⟩)
def Rel {α β : Type} (R : α → β → Prop) : List α → List β → Prop
  | [], [] => True
  | x :: xs, y :: ys => R x y ∧ Rel R xs ys
  | _, _ => False
def CR (ν : Nu) (ρ : Rho) : Cell → Value → Prop
  | .any, v => v.oneCell' = true
  | .int k n, v => v = .int k n
  | .lin k a s c, v => v = .int k (a * ρ.val s + c)
  | .bool b, v => v = .bool b
  | .str l, v => ∃ s : ByteArray, v = .string s ∧ s.data.toList.map UInt8.toNat = l
  | .nilp, v => v = .pointer none
  | .ptr id off, v => ∃ b n, ν id = some (b, n) ∧ v = .pointer (some ⟨b, off, none⟩)
  | .nils, v => v = .slice none 0 0
  | .sl id off len cap, v => ∃ b n, ν id = some (b, n) ∧ len ≤ cap ∧ v = .slice (some ⟨b, off, none⟩) len cap
  | .slU id off len sz, v => ∃ b n c, ν id = some (b, n) ∧ off + c * sz = n ∧ len ≤ c ∧ v = .slice (some ⟨b, off, none⟩) len c
  | .sl0, v => ∃ a c, v = .slice a 0 c
  | .nilf, v => v = .nilFunc
  | .fn f x y, v => ∃ l m : List Value, v = .func (.func f) l.toArray m.toArray ∧ Rel (PR ν) x l ∧ Rel (PR ν) y m
  | .nilm, v => v = .map none
  | .map id, v => ∃ b n, ν id = some (b, n) ∧ v = .map (some b)
  | .slL id off sy sz, v => ∃ b n c len : Nat, ν id = some (b, n) ∧ off + c * sz = n ∧ len ≤ c ∧ (len : Int) = ρ.val sy ∧ v = .slice (some ⟨b, off, none⟩) len c
def CompR (ν : Nu) (ρ : Rho) : Comp → Value → Prop
  | .one c, v => CR ν ρ c v
  | .agg l, v => ∃ vs : List Value, v = .agg vs.toArray ∧ Rel (CR ν ρ) l vs
/-- A row that came in: its numbers stand in a block that nothing writes. -/
def InAt (ρ : Rho) (kd : IntKind) (a : Option Addr) (n : Nat) (f : Nat → Int) : Prop :=
  (∀ j, j < n → (Lit.int kd (f j)).wf = true) ∧ (0 < n → ∃ b o c ty fz, a = some ⟨b, o, none⟩ ∧ ρ.mem b = some (.cells c ty fz) ∧ ∀ j, j < n → c[o + j]? = some (.int kd (f j)))
def InMd (ρ : Rho) (n : Nat) (f : Nat → Int) : InM → Prop
  | .all base => ∀ j, j < n → f j = ρ.val (base + j)
  | .one i e => ∀ j : Nat, j < n → (j : Int) = ρ.val i → f j = ρ.val e
def AR (ν : Nu) (ρ : Rho) : AV → Value → Prop
  | .unk, _ => True
  | .v c, v => CompR ν ρ c v
  | .tup l, v => ∃ vs : List Value, v = .tuple vs.toArray ∧ Rel (CompR ν ρ) l vs
  | .inS len kd m, v => ∃ a n cap f, v = .slice a n cap ∧ CR ν ρ len (.int .i64 (n : Int)) ∧ InAt ρ kd a n f ∧ InMd ρ n f m
  | .inP kd e, v => ∃ b o c ty fz, v = .pointer (some ⟨b, o, none⟩) ∧ ρ.mem b = some (.cells c ty fz) ∧ c[o]? = some (.int kd (ρ.val e))
def Nu.le (ν ν' : Nu) : Prop := ∀ p x, ν p = some x → ν' p = some x
theorem Nu.le.refl (ν : Nu) : Nu.le ν ν := fun _ _ h => h
theorem Nu.le.trans {a b c : Nu} (h : Nu.le a b) (k : Nu.le b c) : Nu.le a c := fun p x e => k p x (h p x e)
theorem Rel.imp {α β : Type} {R S : α → β → Prop} (h : ∀ x y, R x y → S x y) : ∀ {l : List α} {m : List β}, Rel R l m → Rel S l m
  | [], [], _ => trivial
  | [], _ :: _, r => r.elim
  | _ :: _, [], r => r.elim
  | _ :: _, _ :: _, r => ⟨h _ _ r.1, Rel.imp h r.2⟩
theorem Rel.length {α β : Type} {R : α → β → Prop} : ∀ {l : List α} {m : List β}, Rel R l m → l.length = m.length
  | [], [], _ => rfl
  | [], _ :: _, r => r.elim
  | _ :: _, [], r => r.elim
  | _ :: _, _ :: _, r => by simp [Rel.length r.2]
theorem Rel.nth {α β : Type} {R : α → β → Prop} : ∀ {l : List α} {m : List β}, Rel R l m → ∀ {i : Nat} {x : α}, l[i]? = some x → ∃ y, m[i]? = some y ∧ R x y
  | [], [], _, i, x, h => by simp at h
  | [], _ :: _, r, _, _, _ => r.elim
  | _ :: _, [], r, _, _, _ => r.elim
  | a :: l, b :: m, r, 0, x, h => by simp at h; subst h; exact ⟨b, by simp, r.1⟩
  | a :: l, b :: m, r, i + 1, x, h => by
    obtain ⟨y, h1, h2⟩ := Rel.nth r.2 (i := i) (x := x) (by simpa using h)
    exact ⟨y, by simpa using h1, h2⟩
theorem Rel.of_nth {α β : Type} {R : α → β → Prop} : ∀ {l : List α} {m : List β}, l.length = m.length → (∀ (i : Nat) x y, l[i]? = some x → m[i]? = some y → R x y) → Rel R l m
  | [], [], _, _ => trivial
  | [], _ :: _, h, _ => by simp at h
  | _ :: _, [], h, _ => by simp at h
  | a :: l, b :: m, h, r => ⟨r 0 a b rfl rfl, Rel.of_nth (by simpa using h) fun i x y hx hy => r (i + 1) x y (by simpa using hx) (by simpa using hy)⟩
theorem Rel.append {α β : Type} {R : α → β → Prop} : ∀ {l : List α} {m : List β} {l' : List α} {m' : List β}, Rel R l m → Rel R l' m' → Rel R (l ++ l') (m ++ m')
  | [], [], _, _, _, r => r
  | [], _ :: _, _, _, r, _ => r.elim
  | _ :: _, [], _, _, r, _ => r.elim
  | _ :: _, _ :: _, _, _, r, r' => ⟨r.1, Rel.append r.2 r'⟩
theorem Rel.drop {α β : Type} {R : α → β → Prop} : ∀ {l : List α} {m : List β} (n : Nat), Rel R l m → Rel R (l.drop n) (m.drop n)
  | [], [], n, _ => by simp [Rel]
  | [], _ :: _, _, r => r.elim
  | _ :: _, [], _, r => r.elim
  | a :: l, b :: m, 0, r => r
  | a :: l, b :: m, n + 1, r => by simpa using Rel.drop n r.2
theorem Rel.take {α β : Type} {R : α → β → Prop} : ∀ {l : List α} {m : List β} (n : Nat), Rel R l m → Rel R (l.take n) (m.take n)
  | [], [], n, _ => by simp [Rel]
  | [], _ :: _, _, r => r.elim
  | _ :: _, [], _, r => r.elim
  | a :: l, b :: m, 0, r => trivial
  | a :: l, b :: m, n + 1, r => ⟨r.1, Rel.take n r.2⟩
theorem PR.mono {ν ν' : Nu} (h : Nu.le ν ν') {x : Pth × Nat} {v : Value} : PR ν x v → PR ν' x v := fun ⟨b, n, e, hv⟩ => ⟨b, n, h _ _ e, hv⟩
theorem CR.mono {ν ν' : Nu} {ρ : Rho} (h : Nu.le ν ν') : ∀ {c : Cell} {v : Value}, CR ν ρ c v → CR ν' ρ c v := by
  intro c v r
  cases c <;> simp only [CR] at r ⊢ <;> first
    | exact r
    | (obtain ⟨b, n, e, hv⟩ := r; exact ⟨b, n, h _ _ e, hv⟩)
    | (obtain ⟨b, n, c, e, hv⟩ := r; exact ⟨b, n, c, h _ _ e, hv⟩)
    | (obtain ⟨b, n, c, len, e, hv⟩ := r; exact ⟨b, n, c, len, h _ _ e, hv⟩)
    | (obtain ⟨l, m, hv, h1, h2⟩ := r; exact ⟨l, m, hv, h1.imp fun _ _ => PR.mono h, h2.imp fun _ _ => PR.mono h⟩)
theorem CompR.mono {ν ν' : Nu} {ρ : Rho} (h : Nu.le ν ν') : ∀ {c : Comp} {v : Value}, CompR ν ρ c v → CompR ν' ρ c v
  | .one _, _, r => CR.mono h r
  | .agg _, _, ⟨vs, hv, r⟩ => ⟨vs, hv, r.imp fun _ _ => CR.mono h⟩
theorem AR.mono {ν ν' : Nu} {ρ : Rho} (h : Nu.le ν ν') : ∀ {c : AV} {v : Value}, AR ν ρ c v → AR ν' ρ c v
  | .unk, _, _ => trivial
  | .v _, _, r => CompR.mono h r
  | .tup _, _, ⟨vs, hv, r⟩ => ⟨vs, hv, r.imp fun _ _ => CompR.mono h⟩
  | .inS _ _ _, _, ⟨a, n, cap, f, h1, h2, h3⟩ => ⟨a, n, cap, f, h1, h2.mono h, h3⟩
  | .inP _ _, _, r => r
theorem CR.oneCell {ν : Nu} {ρ : Rho} : ∀ {c : Cell} {v : Value}, CR ν ρ c v → v.oneCell' = true := by
  intro c v r
  cases c <;> simp only [CR] at r <;> first
    | exact r
    | (subst r; rfl)
    | (obtain ⟨s, rfl, _⟩ := r; rfl)
    | (obtain ⟨b, n, e, rfl⟩ := r; rfl)
    | (obtain ⟨b, n, e, _, rfl⟩ := r; rfl)
    | (obtain ⟨b, n, c, e, _, _, rfl⟩ := r; rfl)
    | (obtain ⟨b, n, c, len, e, _, _, _, rfl⟩ := r; rfl)
    | (obtain ⟨a, c, rfl⟩ := r; rfl)
    | (obtain ⟨l, m, rfl, _, _⟩ := r; rfl)
theorem cells_of_one {v : Value} (h : v.oneCell' = true) : v.cells = #[v] := by cases v <;> first | rfl | simp [Value.oneCell'] at h
/-- A part's cells. -/
theorem CompR.cells {ν : Nu} {ρ : Rho} : ∀ {c : Comp} {v : Value}, CompR ν ρ c v → Rel (CR ν ρ) c.cells v.cells.toList
  | .one c, v, r => by rw [cells_of_one (CR.oneCell r)]; exact ⟨r, trivial⟩
  | .agg l, v, ⟨vs, hv, r⟩ => by subst hv; exact r
theorem Rel.oneCell {ν : Nu} {ρ : Rho} : ∀ {l : List Cell} {vs : List Value}, Rel (CR ν ρ) l vs → ∀ v ∈ vs, v.oneCell' = true
  | [], [], _, v, h => by cases h
  | [], _ :: _, r, _, _ => r.elim
  | _ :: _, [], r, _, _ => r.elim
  | _ :: _, _ :: _, r, v, h => by
    cases h with
    | head => exact CR.oneCell r.1
    | tail _ h => exact Rel.oneCell r.2 v h

/-! ### The heap -/
/-- All keys are numbers. -/
def KeysI (l : List MapEntry) : Prop := ∀ e ∈ l, ∃ q, e.key = .int .i64 q
/-- The first entry of a number. -/
def FirstE (l : List MapEntry) (n : Int) (j : Nat) (e : MapEntry) : Prop := l[j]? = some e ∧ e.key = .int .i64 n ∧ ∀ i, i < j → ∀ f, l[i]? = some f → f.key ≠ .int .i64 n
/-- A map has these entries, others perhaps too. -/
def HasE (ν : Nu) (ρ : Rho) (es : List (Int × Comp)) (l : List MapEntry) : Prop := ∀ x ∈ es, ∃ j e, FirstE l x.1 j e ∧ CompR ν ρ x.2 e.val
def BR (ν : Nu) (ρ : Rho) (n : Nat) (o : Option Obj) : Bk → Prop
  | .row op l => ∃ (c : Array Value) (e : TypeId), o = some (.cells c e) ∧ c.size = n ∧ l.length ≤ n ∧ (op = false → l.length = n) ∧ ∀ (i : Nat) x, l[i]? = some x → ∃ v, c[i]? = some v ∧ CR ν ρ x v
  | .map es => ∃ (l : Array MapEntry) (clock : Nat), o = some (.map l clock) ∧ KeysI l.toList ∧ HasE ν ρ es l.toList
  | .dead => True
  | .tab l => ∃ (c : Array Value) (e : TypeId) (fz : Nat × Nat), o = some (.cells c e fz) ∧ c.size = n ∧ l.length = n ∧ ∀ (i : Nat) x, l[i]? = some x → ∃ v, c[i]? = some v ∧ CR ν ρ x v
theorem BR.mono {ν ν' : Nu} {ρ : Rho} {n : Nat} {o : Option Obj} (h : Nu.le ν ν') : ∀ {b : Bk}, BR ν ρ n o b → BR ν' ρ n o b
  | .row op l, ⟨c, e, h1, h2, h3, h4, h5⟩ => ⟨c, e, h1, h2, h3, h4, fun i x hx => let ⟨v, hv, r⟩ := h5 i x hx; ⟨v, hv, r.mono h⟩⟩
  | .map es, ⟨l, clock, h1, h3, h2⟩ => ⟨l, clock, h1, h3, fun x hx => let ⟨j, e, q, r⟩ := h2 x hx; ⟨j, e, q, r.mono h⟩⟩
  | .dead, _ => trivial
  | .tab l, ⟨c, e, f, h1, h2, h3, h5⟩ => ⟨c, e, f, h1, h2, h3, fun i x hx => let ⟨v, hv, r⟩ := h5 i x hx; ⟨v, hv, r.mono h⟩⟩
structure MW (n0 : Nat) (w0 : World) (ν : Nu) (ρ : Rho) (h : Pth → Option Blk) (wlo : Nat) (w : World) : Prop where
  below : Below n0 w0 w
  le : n0 ≤ w.heap.size
  blk : ∀ id B, h id = some B → ∃ b n, ν id = some (b, n) ∧ b < w.heap.size ∧ BR ν ρ n w.heap[b]? B.k
  inj : ∀ id id' B B' b n n', h id = some B → h id' = some B' → B.k ≠ .dead → B'.k ≠ .dead → ν id = some (b, n) → ν id' = some (b, n') → id = id'
  own : ∀ id B b n, h id = some B → B.k ≠ .dead → ν id = some (b, n) → wlo ≤ B.no → n0 ≤ b
  mem : ∀ b o, ρ.mem b = some o → b < n0 ∧ w.heap[b]? = some o
def MT (m : Nat) (ν : Nu) (ρ : Rho) (t : Ts) (a : Act) : Prop :=
  a.tmps.size = m ∧ (∀ p v, t.get p = some v → ∃ u, a.tmps[p.nat]? = some u ∧ AR ν ρ v u) ∧ ∀ n, ρ.gl = some n → ν .e = some (0, n)
structure Num (s : St) : Prop where
  next : s.next.nat = s.cnt
  no : ∀ id B, s.heap.get id = some B → id.nat < s.cnt ∧ B.no = id.nat
/-- How a symbol is made of others: the bits that two have in common (0); 1 if two are the same (1), if one is not nought (2); another one, if a third is 1 (3); the word of the fifteen bits from one on, and bit 15 (4). -/
def wordV (ρ : Rho) (x : Nat) : Nat → Int
  | 0 => 0
  | q + 1 => wordV ρ x q + 2 ^ q * ρ.val (x + q)
def DfOK (ρ : Rho) (i x y : Nat) : Nat → Prop
  | 0 => ρ.val i = Int.ofNat (Nat.land (ρ.val x).toNat (ρ.val y).toNat)
  | 1 => ρ.val i = if ρ.val x = ρ.val y then 1 else 0
  | 2 => ρ.val i = if ρ.val x = 0 then 0 else 1
  | 3 => ρ.val x = 1 → ρ.val i = ρ.val y
  | 4 => (∀ q, q < 15 → ρ.val (x + q) = 0 ∨ ρ.val (x + q) = 1) ∧ ρ.val i = wordV ρ x 15 + 32768
  | _ => True
abbrev mdK (md : Nat) : Nat := Nat.mod (Nat.mod md LT) 8
abbrev mdX (md : Nat) : Nat := Nat.mod (Nat.div (Nat.mod md LT) 8) 256
abbrev mdY (md : Nat) : Nat := Nat.div (Nat.mod md LT) 2048
/-- A symbol is the rest of the one ahead of it, or smaller than the next one; or made of others. -/
def MdOK (ρ : Rho) (i md : Nat) : Prop := (0 < md → md < LT → ∃ j, i = j + 1 ∧ ρ.val i = Int.tmod (ρ.val j) md) ∧ (md = LT → ρ.val i < ρ.val (i + 1)) ∧ (LT < md → DfOK ρ i (mdX md) (mdY md) (mdK md))
def IvOK (ρ : Rho) (iv : List Iv) : Prop := ∀ (i : Nat) x, iv[i]? = some x → (x.lo ≤ ρ.val i ∧ ρ.val i ≤ x.hi) ∧ MdOK ρ i x.md
theorem md_no (ρ : Rho) (i : Nat) : MdOK ρ i 0 := by
  refine ⟨fun h => absurd h (Nat.lt_irrefl 0), fun h => ?_, fun h => absurd h (Nat.not_lt_zero _)⟩
  have : (0 : Nat) ≠ LT := by decide
  exact absurd h this
theorem md_rest {ρ : Rho} {i md : Nat} (hn : md < LT) (h : ρ.val (i + 1) = Int.tmod (ρ.val i) md) : MdOK ρ (i + 1) md := by
  constructor
  · exact fun _ _ => ⟨i, rfl, h⟩
  constructor
  · intro e
    exact absurd e (Nat.ne_of_lt hn)
  · intro e
    exact (Nat.lt_irrefl md (Nat.lt_trans hn e)).elim
def Unm (ν : Nu) (c c' : Nat) : Prop := ∀ id : Pth, c ≤ id.nat → id.nat < c' → ν id = none
structure Ext (ν ν' : Nu) (c c' : Nat) : Prop where
  le : Nu.le ν ν'
  same : ∀ id : Pth, ¬(c ≤ id.nat ∧ id.nat < c') → ν' id = ν id
theorem Ext.refl (ν : Nu) (c c' : Nat) : Ext ν ν c c' := ⟨Nu.le.refl ν, fun _ _ => rfl⟩
theorem Ext.trans {a b c : Nu} {i j k : Nat} (h : Ext a b i j) (h' : Ext b c j k) (hij : i ≤ j) (hjk : j ≤ k) : Ext a c i k :=
  ⟨h.le.trans h'.le, fun id hn => (h'.same id (by omega)).trans (h.same id (by omega))⟩
theorem Unm.mono {ν : Nu} {c c' d d' : Nat} (h : Unm ν c c') (h1 : c ≤ d) (h2 : d' ≤ c') : Unm ν d d' := fun id a b => h id (by omega) (by omega)
theorem Unm.ext {ν ν' : Nu} {c c' d d' : Nat} (h : Unm ν d d') (he : Ext ν ν' c c') (hd : c' ≤ d) : Unm ν' d d' := fun id a b => (he.same id (by omega)).trans (h id a b)
structure Pure (ρ : Rho) (s s' : St) : Prop where
  cnt : s.cnt ≤ s'.cnt
  wlo : s'.wlo = s.wlo
  num : Num s'
  iv : IvOK ρ s'.iv
theorem Pure.refl {ρ : Rho} {s : St} (h : Num s) (hi : IvOK ρ s.iv) : Pure ρ s s := ⟨Nat.le_refl _, rfl, h, hi⟩
theorem Pure.trans {ρ : Rho} {a b c : St} (h : Pure ρ a b) (k : Pure ρ b c) : Pure ρ a c := ⟨Nat.le_trans h.cnt k.cnt, k.wlo.trans h.wlo, k.num, k.iv⟩
abbrev St.h (s : St) : Pth → Option Blk := fun p => s.heap.get p
theorem MT.mono {m : Nat} {ν ν' : Nu} {ρ : Rho} {t : Ts} {a : Act} (h : Nu.le ν ν') (r : MT m ν ρ t a) : MT m ν' ρ t a :=
  ⟨r.1, fun p v hp => let ⟨u, hu, ru⟩ := r.2.1 p v hp; ⟨u, hu, ru.mono h⟩, fun n hn => h _ _ (r.2.2 n hn)⟩
theorem MT.put {m : Nat} {ν : Nu} {ρ : Rho} {t : Ts} {a : Act} (r : MT m ν ρ t a) {v : AV} {u : Value} (hv : AR ν ρ v u) {p : Pth} (hp : p.nat < m) : MT m ν ρ (t.set p v) (a.put (some p.nat) u) := by
  refine ⟨by simp [Act.put, r.1], fun q x hq => ?_, r.2.2⟩
  rw [Tr.get_set] at hq
  by_cases h : p = q
  · subst h
    rw [if_pos rfl] at hq
    cases hq
    exact ⟨u, by simp [Act.put, r.1, hp], hv⟩
  · rw [if_neg h] at hq
    obtain ⟨y, hy, ry⟩ := r.2.1 q x hq
    have hne : p.nat ≠ q.nat := fun e => h (Pth.nat_inj e)
    exact ⟨y, by simp [Act.put, Array.getElem?_setIfInBounds_ne hne, hy], ry⟩
/-- Fewer blocks are known. -/
theorem MW.weaken {n0 : Nat} {w0 : World} {ν : Nu} {ρ : Rho} {h h' : Pth → Option Blk} {wlo : Nat} {w : World} (r : MW n0 w0 ν ρ h wlo w) (hh : ∀ id B, h' id = some B → h id = some B) : MW n0 w0 ν ρ h' wlo w :=
  ⟨r.below, r.le, fun id B e => r.blk id B (hh id B e), fun id id' B B' b n n' e e' => r.inj id id' B B' b n n' (hh _ _ e) (hh _ _ e'), fun id B b n e => r.own id B b n (hh _ _ e), r.mem⟩
/-- A new block. -/
theorem MW.alloc {n0 : Nat} {w0 : World} {ν : Nu} {ρ : Rho} {h : Pth → Option Blk} {wlo : Nat} {w : World} (r : MW n0 w0 ν ρ h wlo w) {id : Pth} {no : Nat} {k : Bk} {o : Obj} {n : Nat}
    (hid : ν id = none) (hb : BR ν ρ n (some o) k) :
    MW n0 w0 (fun p => if p = id then some (w.heap.size, n) else ν p) ρ (fun p => if id = p then some ⟨no, k⟩ else h p) wlo (w.alloc o) := by
  have hle : Nu.le ν (fun p => if p = id then some (w.heap.size, n) else ν p) := fun p x e => by
    show (if p = id then _ else ν p) = _
    by_cases hp : p = id
    · subst hp; rw [hid] at e; cases e
    · rw [if_neg hp]; exact e
  have hsz : (w.alloc o).heap.size = w.heap.size + 1 := by simp
  have hnew : (w.alloc o).heap[w.heap.size]? = some o := heap_alloc_new w o
  refine ⟨r.below.alloc r.le o, by rw [hsz]; have := r.le; omega, ?_, ?_, ?_, fun b o' hb' => ⟨(r.mem b o' hb').1, by have := (r.mem b o' hb').1; have := r.le; rw [Below.heap_alloc w o b (by omega)]; exact (r.mem b o' hb').2⟩⟩
  · intro p B e
    by_cases hp : id = p
    · subst hp
      rw [if_pos rfl] at e; cases e
      exact ⟨w.heap.size, n, by simp, by omega, by rw [hnew]; exact hb.mono hle⟩
    · rw [if_neg hp] at e
      obtain ⟨b, m, h1, h2, h3⟩ := r.blk p B e
      exact ⟨b, m, by simp [Ne.symm hp, h1], by omega, by rw [Below.heap_alloc w o b h2]; exact h3.mono hle⟩
  · intro p q B B' b x y e e' hd hd' hx hy
    by_cases hp : id = p <;> by_cases hq : id = q
    · exact hp ▸ hq
    · rw [if_neg hq] at e'
      obtain ⟨b', m, h1, h2, _⟩ := r.blk q B' e'
      simp only [hp.symm, if_true] at hx
      simp only [Ne.symm hq, if_false] at hy
      rw [h1] at hy; cases hx; cases hy; omega
    · rw [if_neg hp] at e
      obtain ⟨b', m, h1, h2, _⟩ := r.blk p B e
      simp only [hq.symm, if_true] at hy
      simp only [Ne.symm hp, if_false] at hx
      rw [h1] at hx; cases hx; cases hy; omega
    · rw [if_neg hp] at e; rw [if_neg hq] at e'
      simp only [Ne.symm hp, if_false] at hx
      simp only [Ne.symm hq, if_false] at hy
      exact r.inj p q B B' b x y e e' hd hd' hx hy
  · intro p B b x e hd hx hw
    by_cases hp : id = p
    · simp only [hp.symm, if_true] at hx
      cases hx; exact r.le
    · rw [if_neg hp] at e
      simp only [Ne.symm hp, if_false] at hx
      exact r.own p B b x e hd hx hw
/-- A block that is known is written. -/
theorem MW.write {n0 : Nat} {w0 : World} {ν : Nu} {ρ : Rho} {h : Pth → Option Blk} {wlo : Nat} {w : World} (r : MW n0 w0 ν ρ h wlo w) {id : Pth} {B : Blk} {b n : Nat} {k : Bk} {o : Obj}
    (hB : h id = some B) (hd : B.k ≠ .dead) (hν : ν id = some (b, n)) (hw : wlo ≤ B.no) (hb : BR ν ρ n (some o) k) :
    MW n0 w0 ν ρ (fun p => if id = p then some ⟨B.no, k⟩ else h p) wlo { w with heap := w.heap.setIfInBounds b o } := by
  obtain ⟨b', n', h1, h2, h3⟩ := r.blk id B hB
  rw [hν] at h1; cases h1
  have hown := r.own id B b n hB hd hν hw
  refine ⟨⟨r.below.os, r.below.tape, r.below.output, by simpa using r.below.size, fun i hi => ?_⟩, by simpa using r.le, ?_, ?_, ?_, fun b' o' hb' => ⟨(r.mem b' o' hb').1, by rw [← (r.mem b' o' hb').2]; exact Array.getElem?_setIfInBounds_ne (by have := (r.mem b' o' hb').1; omega)⟩⟩
  · rw [← r.below.block i hi]
    exact Array.getElem?_setIfInBounds_ne (by omega)
  · intro p C e
    by_cases hp : id = p
    · subst hp
      rw [if_pos rfl] at e; cases e
      exact ⟨b, n, hν, by simpa using h2, by simp [h2]; exact hb⟩
    · rw [if_neg hp] at e
      obtain ⟨c, m, h4, h5, h6⟩ := r.blk p C e
      refine ⟨c, m, h4, by simpa using h5, ?_⟩
      by_cases hC : C.k = .dead
      · rw [hC]; trivial
      · have hne : b ≠ c := fun e' => hp (r.inj id p B C b n m hB e hd hC hν (e' ▸ h4))
        show BR ν ρ m (w.heap.setIfInBounds b o)[c]? C.k
        rw [Array.getElem?_setIfInBounds_ne hne]; exact h6
  · intro p q C C' c x y e e' hd1 hd2 hx hy
    by_cases hp : id = p <;> by_cases hq : id = q
    · exact hp ▸ hq
    · rw [if_neg hq] at e'
      subst hp
      exact r.inj id q B C' c x y hB e' hd hd2 hx hy
    · rw [if_neg hp] at e
      subst hq
      exact r.inj p id C B c x y e hB hd1 hd hx hy
    · rw [if_neg hp] at e; rw [if_neg hq] at e'
      exact r.inj p q C C' c x y e e' hd1 hd2 hx hy
  · intro p C c x e hd1 hx hw1
    by_cases hp : id = p
    · subst hp
      rw [hν] at hx; cases hx; exact hown
    · rw [if_neg hp] at e
      exact r.own p C c x e hd1 hx hw1
/-- A block is no more spoken of. -/
theorem MW.kill {n0 : Nat} {w0 : World} {ν : Nu} {ρ : Rho} {h : Pth → Option Blk} {wlo : Nat} {w : World} (r : MW n0 w0 ν ρ h wlo w) {id : Pth} {B : Blk} (hB : h id = some B) :
    MW n0 w0 ν ρ (fun p => if id = p then some ⟨B.no, .dead⟩ else h p) wlo w := by
  refine ⟨r.below, r.le, ?_, ?_, ?_, r.mem⟩
  · intro p C e
    by_cases hp : id = p
    · subst hp
      rw [if_pos rfl] at e; cases e
      obtain ⟨b, n, h1, h2, _⟩ := r.blk id B hB
      exact ⟨b, n, h1, h2, trivial⟩
    · rw [if_neg hp] at e; exact r.blk p C e
  · intro p q C C' c x y e e' hd1 hd2 hx hy
    by_cases hp : id = p
    · rw [if_pos hp] at e; cases e; exact absurd rfl hd1
    · by_cases hq : id = q
      · rw [if_pos hq] at e'; cases e'; exact absurd rfl hd2
      · rw [if_neg hp] at e; rw [if_neg hq] at e'
        exact r.inj p q C C' c x y e e' hd1 hd2 hx hy
  · intro p C c x e hd1 hx hw1
    by_cases hp : id = p
    · rw [if_pos hp] at e; cases e; exact absurd rfl hd1
    · rw [if_neg hp] at e; exact r.own p C c x e hd1 hx hw1
end Go.Rsf
