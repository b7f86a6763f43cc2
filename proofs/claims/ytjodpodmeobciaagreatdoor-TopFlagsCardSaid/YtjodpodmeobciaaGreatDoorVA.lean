/- An executor over a program's operations, with a heap of blocks that are known up to their numbers: its words, and what each of its helpers computes. Conditions: none. -/
import Derived.Below
import Derived.Orders
namespace Go.Rsf
set_option linter.unusedVariables false

/-! ### Keys, tries -/
inductive Pth where | e | z (p : Pth) | s (p : Pth)
  deriving DecidableEq
namespace Pth
def nat : Pth → Nat | .e => 0 | .z p => 2 * p.nat + 1 | .s p => 2 * p.nat + 2
theorem nat_inj : ∀ {p q : Pth}, p.nat = q.nat → p = q
  | .e, .e, _ => rfl
  | .e, .z q, h => by simp [nat] at h
  | .e, .s q, h => by simp [nat] at h
  | .z p, .e, h => by simp [nat] at h
  | .s p, .e, h => by simp [nat] at h
  | .z p, .z q, h => by simp only [nat] at h; rw [nat_inj (p := p) (q := q) (by omega)]
  | .s p, .s q, h => by simp only [nat] at h; rw [nat_inj (p := p) (q := q) (by omega)]
  | .z p, .s q, h => by simp only [nat] at h; omega
  | .s p, .z q, h => by simp only [nat] at h; omega
def succ : Pth → Pth | .e => .z .e | .z p => .s p | .s p => .z p.succ
theorem nat_succ : ∀ p : Pth, p.succ.nat = p.nat + 1
  | .e => rfl
  | .z p => by simp [succ, nat]
  | .s p => by simp only [succ, nat, nat_succ p]; omega
end Pth
inductive Tr (α : Type) where
  | nil | leaf (v : α) | node (l r : Tr α) | vnode (v : α) (l r : Tr α)
namespace Tr
variable {α : Type}
def val : Tr α → Option α | .nil => none | .leaf v => some v | .node _ _ => none | .vnode v _ _ => some v
def left : Tr α → Tr α | .nil => .nil | .leaf _ => .nil | .node l _ => l | .vnode _ l _ => l
def right : Tr α → Tr α | .nil => .nil | .leaf _ => .nil | .node _ r => r | .vnode _ _ r => r
def get : Pth → Tr α → Option α
  | .e, t => t.val
  | .z p, t => get p t.left
  | .s p, t => get p t.right
def setV (x : α) : Tr α → Tr α | .nil => .leaf x | .leaf _ => .leaf x | .node l r => .vnode x l r | .vnode _ l r => .vnode x l r
def setL (l : Tr α) : Tr α → Tr α | .nil => .node l .nil | .leaf v => .vnode v l .nil | .node _ r => .node l r | .vnode v _ r => .vnode v l r
def setR (r : Tr α) : Tr α → Tr α | .nil => .node .nil r | .leaf v => .vnode v .nil r | .node l _ => .node l r | .vnode v l _ => .vnode v l r
def set : Pth → α → Tr α → Tr α
  | .e, x, t => t.setV x
  | .z p, x, t => setL (set p x t.left) t
  | .s p, x, t => setR (set p x t.right) t
@[simp] theorem left_setL (l t : Tr α) : (setL l t).left = l := by cases t <;> rfl
@[simp] theorem right_setR (r t : Tr α) : (setR r t).right = r := by cases t <;> rfl
@[simp] theorem right_setL (l t : Tr α) : (setL l t).right = t.right := by cases t <;> rfl
@[simp] theorem left_setR (r t : Tr α) : (setR r t).left = t.left := by cases t <;> rfl
@[simp] theorem val_setL (l t : Tr α) : (setL l t).val = t.val := by cases t <;> rfl
@[simp] theorem val_setR (r t : Tr α) : (setR r t).val = t.val := by cases t <;> rfl
@[simp] theorem left_setV (x : α) (t : Tr α) : (setV x t).left = t.left := by cases t <;> rfl
@[simp] theorem right_setV (x : α) (t : Tr α) : (setV x t).right = t.right := by cases t <;> rfl
@[simp] theorem val_setV (x : α) (t : Tr α) : (setV x t).val = some x := by cases t <;> rfl
theorem get_nil : ∀ p, (Tr.nil : Tr α).get p = none
  | .e => by simp [get, val]
  | .z p => by simp [get, left, get_nil p]
  | .s p => by simp [get, right, get_nil p]
theorem get_set_same : ∀ (p : Pth) (x : α) (t : Tr α), (t.set p x).get p = some x
  | .e, x, t => by simp [get, set]
  | .z p, x, t => by simp [get, set, get_set_same p]
  | .s p, x, t => by simp [get, set, get_set_same p]
theorem get_set_ne : ∀ (p q : Pth) (x : α) (t : Tr α), p ≠ q → (t.set p x).get q = t.get q
  | .e, .e, _, _, h => absurd rfl h
  | .e, .z q, x, t, _ => by simp [get, set]
  | .e, .s q, x, t, _ => by simp [get, set]
  | .z p, .e, x, t, _ => by simp [get, set]
  | .s p, .e, x, t, _ => by simp [get, set]
  | .z p, .z q, x, t, h => by simp only [get, set, left_setL]; exact get_set_ne p q x _ (fun e => h (e ▸ rfl))
  | .s p, .s q, x, t, h => by simp only [get, set, right_setR]; exact get_set_ne p q x _ (fun e => h (e ▸ rfl))
  | .z p, .s q, x, t, _ => by simp [get, set]
  | .s p, .z q, x, t, _ => by simp [get, set]
theorem get_set (p q : Pth) (x : α) (t : Tr α) : (t.set p x).get q = if p = q then some x else t.get q := by
  by_cases h : p = q
  · subst h; rw [if_pos rfl]; exact get_set_same p x t
  · rw [if_neg h]; exact get_set_ne p q x t h
end Tr
noncomputable section
def getK {α : Type} (p : Pth) : Tr α → (α → Bool) → Bool :=
  @Pth.rec (fun _ => Tr α → (α → Bool) → Bool)
    (fun t => @Tr.rec α (fun _ => (α → Bool) → Bool) (fun _ => false) (fun v k => k v) (fun _ _ _ _ _ => false) (fun v _ _ _ _ k => k v) t)
    (fun _ ih t => @Tr.rec α (fun _ => (Tr α → (α → Bool) → Bool) → (α → Bool) → Bool) (fun _ _ => false) (fun _ _ _ => false) (fun l _ _ _ ih => ih l) (fun _ l _ _ _ ih => ih l) t ih)
    (fun _ ih t => @Tr.rec α (fun _ => (Tr α → (α → Bool) → Bool) → (α → Bool) → Bool) (fun _ _ => false) (fun _ _ _ => false) (fun _ r _ _ ih => ih r) (fun _ _ r _ _ ih => ih r) t ih) p
def setK {α : Type} (p : Pth) : Tr α → α → (Tr α → Bool) → Bool :=
  @Pth.rec (fun _ => Tr α → α → (Tr α → Bool) → Bool)
    (fun t => @Tr.rec α (fun _ => α → (Tr α → Bool) → Bool) (fun x k => k (.leaf x)) (fun _ x k => k (.leaf x)) (fun l r _ _ x k => k (.vnode x l r)) (fun _ l r _ _ x k => k (.vnode x l r)) t)
    (fun _ ih t => @Tr.rec α (fun _ => (Tr α → α → (Tr α → Bool) → Bool) → α → (Tr α → Bool) → Bool) (fun ih x k => ih .nil x fun l => k (.node l .nil)) (fun v ih x k => ih .nil x fun l => k (.vnode v l .nil)) (fun l r _ _ ih x k => ih l x fun l => k (.node l r)) (fun v l r _ _ ih x k => ih l x fun l => k (.vnode v l r)) t ih)
    (fun _ ih t => @Tr.rec α (fun _ => (Tr α → α → (Tr α → Bool) → Bool) → α → (Tr α → Bool) → Bool) (fun ih x k => ih .nil x fun r => k (.node .nil r)) (fun v ih x k => ih .nil x fun r => k (.vnode v .nil r)) (fun l r _ _ ih x k => ih r x fun r => k (.node l r)) (fun v l r _ _ ih x k => ih r x fun r => k (.vnode v l r)) t ih) p
theorem getK_eq {α : Type} : ∀ (p : Pth) (t : Tr α) (k : α → Bool), getK p t k = match t.get p with | some v => k v | none => false
  | .e, t, k => by cases t <;> simp [Tr.get, Tr.val] <;> rfl
  | .z p, .nil, k => by simp [Tr.get, Tr.left, Tr.get_nil]; rfl
  | .z p, .leaf v, k => by simp [Tr.get, Tr.left, Tr.get_nil]; rfl
  | .z p, .node l r, k => by simp only [Tr.get, Tr.left]; exact getK_eq p l k
  | .z p, .vnode v l r, k => by simp only [Tr.get, Tr.left]; exact getK_eq p l k
  | .s p, .nil, k => by simp [Tr.get, Tr.right, Tr.get_nil]; rfl
  | .s p, .leaf v, k => by simp [Tr.get, Tr.right, Tr.get_nil]; rfl
  | .s p, .node l r, k => by simp only [Tr.get, Tr.right]; exact getK_eq p r k
  | .s p, .vnode v l r, k => by simp only [Tr.get, Tr.right]; exact getK_eq p r k
theorem setK_eq {α : Type} : ∀ (p : Pth) (t : Tr α) (x : α) (k : Tr α → Bool), setK p t x k = k (t.set p x)
  | .e, t, x, k => by cases t <;> simp [Tr.set, Tr.setV] <;> rfl
  | .z p, .nil, x, k => by simp only [Tr.set, Tr.left, Tr.setL]; exact setK_eq p _ x _
  | .z p, .leaf v, x, k => by simp only [Tr.set, Tr.left, Tr.setL]; exact setK_eq p _ x _
  | .z p, .node l r, x, k => by simp only [Tr.set, Tr.left, Tr.setL]; exact setK_eq p l x _
  | .z p, .vnode v l r, x, k => by simp only [Tr.set, Tr.left, Tr.setL]; exact setK_eq p l x _
  | .s p, .nil, x, k => by simp only [Tr.set, Tr.right, Tr.setR]; exact setK_eq p _ x _
  | .s p, .leaf v, x, k => by simp only [Tr.set, Tr.right, Tr.setR]; exact setK_eq p _ x _
  | .s p, .node l r, x, k => by simp only [Tr.set, Tr.right, Tr.setR]; exact setK_eq p r x _
  | .s p, .vnode v l r, x, k => by simp only [Tr.set, Tr.right, Tr.setR]; exact setK_eq p r x _
theorem getK_true {α : Type} {p : Pth} {t : Tr α} {k : α → Bool} (h : getK p t k = true) : ∃ v, t.get p = some v ∧ k v = true := by
  rw [getK_eq] at h
  cases hg : t.get p with
  | none => rw [hg] at h; cases h
  | some v => rw [hg] at h; exact ⟨v, rfl, h⟩

/-! ### Numbers, forced -/
def natK (n : Nat) : (Nat → Bool) → Bool := @Nat.rec (fun _ => (Nat → Bool) → Bool) (fun k => k 0) (fun m _ k => k (Nat.succ m)) n
def intK (n : Int) : (Int → Bool) → Bool := @Int.rec (fun _ => (Int → Bool) → Bool) (fun m k => natK m fun m => k (Int.ofNat m)) (fun m k => natK m fun m => k (Int.negSucc m)) n
def boolK (b : Bool) : (Bool → Bool) → Bool := @Bool.rec (fun _ => (Bool → Bool) → Bool) (fun k => k false) (fun k => k true) b
def guardK (b : Bool) (r : Bool) : Bool := @Bool.rec (fun _ => Bool → Bool) (fun _ => false) (fun r => r) b r
theorem natK_eq (n : Nat) (k : Nat → Bool) : natK n k = k n := by cases n <;> rfl
theorem intK_eq (n : Int) (k : Int → Bool) : intK n k = k n := by cases n <;> exact natK_eq _ _
theorem boolK_eq (b : Bool) (k : Bool → Bool) : boolK b k = k b := by cases b <;> rfl
theorem guardK_eq (b r : Bool) : guardK b r = (b && r) := by cases b <;> rfl

/-! ### Values -/
inductive Cell where
  | any
  | int (k : IntKind) (n : Int)
  | lin (k : IntKind) (a : Int) (s : Nat) (c : Int)
  | bool (b : Bool)
  | str (s : List Nat)
  | nilp
  | ptr (id : Pth) (off : Nat)
  | nils
  | sl (id : Pth) (off len cap : Nat)
  | slU (id : Pth) (off len sz : Nat)
  | sl0
  | nilf
  | fn (f : Nat) (first captured : List (Pth × Nat))
  | nilm
  | map (id : Pth)
  | slL (id : Pth) (off s sz : Nat)
inductive Comp where
  | one (c : Cell)
  | agg (l : List Cell)
/-- Which symbols are the numbers of a row that came in: all of them, from one on; or the one at a symbol's place. -/
inductive InM where
  | all (base : Nat)
  | one (i e : Nat)
inductive AV where
  | unk
  | v (c : Comp)
  | tup (l : List Comp)
  | inS (len : Cell) (kd : IntKind) (m : InM)
  | inP (kd : IntKind) (e : Nat)
inductive Bk where
  | row (op : Bool) (cells : List Cell)
  | map (es : List (Int × Comp))
  | dead
  | tab (cells : List Cell)
structure Blk where
  no : Nat
  k : Bk
/-- Between which numbers a symbol lies; what it is the rest by, of the symbol ahead of it. -/
structure Iv where
  lo : Int
  hi : Int
  md : Nat
/-- .. or, told by this number, that it is smaller than the next symbol. -/
def LT : Nat := 18446744073709551616
structure St where
  heap : Tr Blk
  next : Pth
  cnt : Nat
  wlo : Nat
  iv : List Iv
abbrev Ts := Tr AV
abbrev KV := AV → Bool
abbrev KVS := AV → St → Bool
abbrev KTS := Ts → St → Bool
inductive Ex where
  | normal
  | exit (id : Nat)
  | ret
abbrev KX := Ex → Ts → St → Bool

/-! ### Taking values apart -/
def isOne : AV → (Cell → Bool) → Bool := @AV.rec (fun _ => (Cell → Bool) → Bool) (fun _ => false) (fun c => @Comp.rec (fun _ => (Cell → Bool) → Bool) (fun x k => k x) (fun _ _ => false) c) (fun _ _ => false) (fun _ _ _ _ => false) (fun _ _ _ => false)
def isAggK : AV → (List Cell → Bool) → Bool := @AV.rec (fun _ => (List Cell → Bool) → Bool) (fun _ => false) (fun c => @Comp.rec (fun _ => (List Cell → Bool) → Bool) (fun _ _ => false) (fun l k => k l) c) (fun _ _ => false) (fun _ _ _ _ => false) (fun _ _ _ => false)
def isComp : AV → (Comp → Bool) → Bool := @AV.rec (fun _ => (Comp → Bool) → Bool) (fun _ => false) (fun c k => k c) (fun _ _ => false) (fun _ _ _ _ => false) (fun _ _ _ => false)
def isTup : AV → (List Comp → Bool) → Bool := @AV.rec (fun _ => (List Comp → Bool) → Bool) (fun _ => false) (fun _ _ => false) (fun l k => k l) (fun _ _ _ _ => false) (fun _ _ _ => false)
/-- A row that came in, or something else. -/
def inK (v : AV) (f : Cell → IntKind → InM → Bool) (r : Bool) : Bool := @AV.rec (fun _ => (Cell → IntKind → InM → Bool) → Bool → Bool) (fun _ r => r) (fun _ _ r => r) (fun _ _ r => r) (fun l kd m f _ => f l kd m) (fun _ _ _ r => r) v f r
/-- An address in a row that came in, or something else. -/
def inPK (v : AV) (f : IntKind → Nat → Bool) (r : Bool) : Bool := @AV.rec (fun _ => (IntKind → Nat → Bool) → Bool → Bool) (fun _ r => r) (fun _ _ r => r) (fun _ _ r => r) (fun _ _ _ _ r => r) (fun kd e f _ => f kd e) v f r
theorem inK_true {v : AV} {f : Cell → IntKind → InM → Bool} {r : Bool} (h : inK v f r = true) : (∃ l kd m, v = .inS l kd m ∧ f l kd m = true) ∨ r = true := by
  cases v <;> first | exact .inl ⟨_, _, _, rfl, h⟩ | exact .inr h
theorem inPK_true {v : AV} {f : IntKind → Nat → Bool} {r : Bool} (h : inPK v f r = true) : (∃ kd e, v = .inP kd e ∧ f kd e = true) ∨ r = true := by
  cases v <;> first | exact .inl ⟨_, _, rfl, h⟩ | exact .inr h
def Comp.cells : Comp → List Cell := @Comp.rec (fun _ => List Cell) (fun x => [x]) (fun l => l)
theorem isOne_true {v : AV} {k : Cell → Bool} (h : isOne v k = true) : ∃ x, v = .v (.one x) ∧ k x = true := by
  cases v with
  | unk => cases h
  | v c => cases c with
    | one x => exact ⟨x, rfl, h⟩
    | agg l => cases h
  | tup l => cases h
  | inS _ _ _ => cases h
  | inP _ _ => cases h
theorem isAggK_true {v : AV} {k : List Cell → Bool} (h : isAggK v k = true) : ∃ x, v = .v (.agg x) ∧ k x = true := by
  cases v with
  | unk => cases h
  | v c => cases c with
    | one x => cases h
    | agg l => exact ⟨l, rfl, h⟩
  | tup l => cases h
  | inS _ _ _ => cases h
  | inP _ _ => cases h
theorem isComp_true {v : AV} {k : Comp → Bool} (h : isComp v k = true) : ∃ x, v = .v x ∧ k x = true := by
  cases v with
  | unk => cases h
  | v c => exact ⟨c, rfl, h⟩
  | tup l => cases h
  | inS _ _ _ => cases h
  | inP _ _ => cases h
theorem isTup_true {v : AV} {k : List Comp → Bool} (h : isTup v k = true) : ∃ x, v = .tup x ∧ k x = true := by
  cases v with
  | unk => cases h
  | v c => cases h
  | tup l => exact ⟨l, rfl, h⟩
  | inS _ _ _ => cases h
  | inP _ _ => cases h
/-- A pointer that is none. -/
def isPtr : Cell → (Pth → Nat → Bool) → Bool :=
  @Cell.rec (fun _ => (Pth → Nat → Bool) → Bool) (fun _ => false) (fun _ _ _ => false) (fun _ _ _ _ _ => false) (fun _ _ => false) (fun _ _ => false) (fun _ => false) (fun id off k => k id off) (fun _ => false) (fun _ _ _ _ _ => false) (fun _ _ _ _ _ => false) (fun _ => false) (fun _ => false) (fun _ _ _ _ => false) (fun _ => false) (fun _ _ => false) (fun _ _ _ _ _ => false)
def isInt : Cell → (IntKind → Int → Bool) → Bool :=
  @Cell.rec (fun _ => (IntKind → Int → Bool) → Bool) (fun _ => false) (fun k n f => f k n) (fun _ _ _ _ _ => false) (fun _ _ => false) (fun _ _ => false) (fun _ => false) (fun _ _ _ => false) (fun _ => false) (fun _ _ _ _ _ => false) (fun _ _ _ _ _ => false) (fun _ => false) (fun _ => false) (fun _ _ _ _ => false) (fun _ => false) (fun _ _ => false) (fun _ _ _ _ _ => false)
def isBoo : Cell → (Bool → Bool) → Bool :=
  @Cell.rec (fun _ => (Bool → Bool) → Bool) (fun _ => false) (fun _ _ _ => false) (fun _ _ _ _ _ => false) (fun b k => k b) (fun _ _ => false) (fun _ => false) (fun _ _ _ => false) (fun _ => false) (fun _ _ _ _ _ => false) (fun _ _ _ _ _ => false) (fun _ => false) (fun _ => false) (fun _ _ _ _ => false) (fun _ => false) (fun _ _ => false) (fun _ _ _ _ _ => false)
/-- A number: known, or a line in a symbol. -/
def numK : Cell → (IntKind → Int → Bool) → (IntKind → Int → Nat → Int → Bool) → Bool :=
  @Cell.rec (fun _ => (IntKind → Int → Bool) → (IntKind → Int → Nat → Int → Bool) → Bool) (fun _ _ => false) (fun k n f _ => f k n) (fun k a s c _ g => g k a s c) (fun _ _ _ => false) (fun _ _ _ => false) (fun _ _ => false) (fun _ _ _ _ => false) (fun _ _ => false) (fun _ _ _ _ _ _ => false) (fun _ _ _ _ _ _ => false) (fun _ _ => false) (fun _ _ => false) (fun _ _ _ _ _ => false) (fun _ _ => false) (fun _ _ _ => false) (fun _ _ _ _ _ _ => false)
theorem numK_true {x : Cell} {f : IntKind → Int → Bool} {g : IntKind → Int → Nat → Int → Bool} (h : numK x f g = true) : (∃ kd n, x = .int kd n ∧ f kd n = true) ∨ ∃ kd a s c, x = .lin kd a s c ∧ g kd a s c = true := by
  cases x <;> first | exact .inl ⟨_, _, rfl, h⟩ | exact .inr ⟨_, _, _, _, rfl, h⟩ | cases h
theorem isPtr_true {x : Cell} {k : Pth → Nat → Bool} (h : isPtr x k = true) : ∃ id off, x = .ptr id off ∧ k id off = true := by
  cases x <;> first | exact ⟨_, _, rfl, h⟩ | cases h
theorem isInt_true {x : Cell} {k : IntKind → Int → Bool} (h : isInt x k = true) : ∃ kd n, x = .int kd n ∧ k kd n = true := by
  cases x <;> first | exact ⟨_, _, rfl, h⟩ | cases h
theorem isBoo_true {x : Cell} {k : Bool → Bool} (h : isBoo x k = true) : ∃ b, x = .bool b ∧ k b = true := by
  cases x <;> first | exact ⟨_, rfl, h⟩ | cases h

/-! ### Rows of cells -/
/-- The cell at a place. -/
def nthK : List Cell → Nat → (Cell → Bool) → Bool :=
  @List.rec Cell (fun _ => Nat → (Cell → Bool) → Bool) (fun _ _ => false)
    (fun x _ ih n => @Nat.rec (fun _ => Cell → (Nat → (Cell → Bool) → Bool) → (Cell → Bool) → Bool) (fun x _ k => k x) (fun m _ _ ih k => ih m k) n x ih)
/-- The first n cells of a row. -/
def takeK (n : Nat) : List Cell → (List Cell → Bool) → Bool :=
  @Nat.rec (fun _ => List Cell → (List Cell → Bool) → Bool) (fun _ k => k [])
    (fun _ ih l => @List.rec Cell (fun _ => (List Cell → (List Cell → Bool) → Bool) → (List Cell → Bool) → Bool) (fun _ _ => false) (fun x xs _ ih k => ih xs fun l => k (x :: l)) l ih) n
def dropK : List Cell → Nat → (List Cell → Bool) → Bool :=
  @List.rec Cell (fun _ => Nat → (List Cell → Bool) → Bool) (fun n => @Nat.rec (fun _ => (List Cell → Bool) → Bool) (fun k => k []) (fun _ _ _ => false) n)
    (fun x xs ih n => @Nat.rec (fun _ => Cell → List Cell → (Nat → (List Cell → Bool) → Bool) → (List Cell → Bool) → Bool) (fun x xs _ k => k (x :: xs)) (fun m _ _ _ ih k => ih m k) n x xs ih)
/-- cs laid over the beginning of a row. -/
def overK (cs : List Cell) : List Cell → (List Cell → Bool) → Bool :=
  @List.rec Cell (fun _ => List Cell → (List Cell → Bool) → Bool) (fun l k => k l)
    (fun c _ ih l => @List.rec Cell (fun _ => Cell → (List Cell → (List Cell → Bool) → Bool) → (List Cell → Bool) → Bool) (fun _ _ _ => false) (fun _ xs _ c ih k => ih xs fun l => k (c :: l)) l c ih) cs
def putK : List Cell → Nat → List Cell → (List Cell → Bool) → Bool :=
  @List.rec Cell (fun _ => Nat → List Cell → (List Cell → Bool) → Bool) (fun n cs k => @Nat.rec (fun _ => List Cell → (List Cell → Bool) → Bool) (fun cs k => overK cs [] k) (fun _ _ _ _ => false) n cs k)
    (fun x xs ih n => @Nat.rec (fun _ => Cell → List Cell → (Nat → List Cell → (List Cell → Bool) → Bool) → List Cell → (List Cell → Bool) → Bool) (fun x xs _ cs k => overK cs (x :: xs) k) (fun m _ x _ ih cs k => ih m cs fun l => k (x :: l)) n x xs ih)
def appK : List Cell → List Cell → (List Cell → Bool) → Bool :=
  @List.rec Cell (fun _ => List Cell → (List Cell → Bool) → Bool) (fun l k => k l) (fun x _ ih l k => ih l fun r => k (x :: r))
theorem nthK_true : ∀ {l : List Cell} {n : Nat} {k : Cell → Bool}, nthK l n k = true → ∃ x, l[n]? = some x ∧ k x = true
  | [], n, k, h => by cases h
  | x :: l, 0, k, h => ⟨x, rfl, h⟩
  | x :: l, n + 1, k, h => by
    obtain ⟨y, h1, h2⟩ := nthK_true (l := l) (n := n) (k := k) h
    exact ⟨y, by simpa using h1, h2⟩
theorem takeK_true : ∀ {n : Nat} {l : List Cell} {k : List Cell → Bool}, takeK n l k = true → n ≤ l.length ∧ k (l.take n) = true
  | 0, l, k, h => ⟨Nat.zero_le _, by simpa using (show k [] = true from h)⟩
  | n + 1, [], k, h => by cases h
  | n + 1, x :: l, k, h => by
    obtain ⟨h1, h2⟩ := takeK_true (n := n) (l := l) (k := fun l => k (x :: l)) h
    exact ⟨by simp; omega, by simpa using h2⟩
theorem dropK_true : ∀ {l : List Cell} {n : Nat} {k : List Cell → Bool}, dropK l n k = true → n ≤ l.length ∧ k (l.drop n) = true
  | [], 0, k, h => ⟨Nat.zero_le _, h⟩
  | [], n + 1, k, h => by cases h
  | x :: l, 0, k, h => ⟨Nat.zero_le _, h⟩
  | x :: l, n + 1, k, h => by
    obtain ⟨h1, h2⟩ := dropK_true (l := l) (n := n) (k := k) h
    exact ⟨by simp; omega, by simpa using h2⟩
/-- cs laid over a row, from a place on. -/
def over (l : List Cell) (n : Nat) (cs : List Cell) : List Cell := l.take n ++ cs ++ l.drop (n + cs.length)
theorem overK_true : ∀ {cs l : List Cell} {k : List Cell → Bool}, overK cs l k = true → cs.length ≤ l.length ∧ k (cs ++ l.drop cs.length) = true
  | [], l, k, h => ⟨Nat.zero_le _, by simpa using (show k l = true from h)⟩
  | c :: cs, [], k, h => by cases h
  | c :: cs, x :: l, k, h => by
    obtain ⟨h1, h2⟩ := overK_true (cs := cs) (l := l) (k := fun l => k (c :: l)) h
    exact ⟨by simp; omega, by simpa using h2⟩
theorem putK_true : ∀ {l : List Cell} {n : Nat} {cs : List Cell} {k : List Cell → Bool}, putK l n cs k = true → n + cs.length ≤ l.length ∧ k (over l n cs) = true
  | [], 0, cs, k, h => by
    obtain ⟨h1, h2⟩ := overK_true (cs := cs) (l := []) (k := k) h
    exact ⟨by simpa using h1, by simpa [over] using h2⟩
  | [], n + 1, cs, k, h => by cases h
  | x :: l, 0, cs, k, h => by
    obtain ⟨h1, h2⟩ := overK_true (cs := cs) (l := x :: l) (k := k) h
    exact ⟨by simpa using h1, by simpa [over] using h2⟩
  | x :: l, n + 1, cs, k, h => by
    obtain ⟨h1, h2⟩ := putK_true (l := l) (n := n) (cs := cs) (k := fun l => k (x :: l)) h
    refine ⟨by simp; omega, ?_⟩
    have : over (x :: l) (n + 1) cs = x :: over l n cs := by simp [over, Nat.add_right_comm]
    rw [this]; exact h2
theorem appK_eq : ∀ (l r : List Cell) (k : List Cell → Bool), appK l r k = k (l ++ r)
  | [], r, k => rfl
  | x :: l, r, k => appK_eq l r (fun r => k (x :: r))
end
end Go.Rsf
