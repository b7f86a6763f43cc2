/- An executor over a program's operations: a state that another one stands for, its symbols told anew. Conditions: none. -/
import Derived.Test.YtjodpodmeobciaaGreatDoorUC
namespace Go.Rsf
open Go.RowKit
set_option linter.unusedVariables false
set_option linter.unusedSimpArgs false
/-- A line in a symbol: its factor, the symbol, what is added. -/
abbrev Line := Int × Nat × Int
def Line.at (ρ : Rho) (l : Line) : Int := l.1 * ρ.val l.2.1 + l.2.2
/-- Which line each symbol of the one state is in the other: those that are told, the others themselves. -/
abbrev Sg := List (Nat × Line)
/-- Which block of the other state a block is, if it is told. -/
abbrev Ren := Tr Pth
noncomputable section
def sgAt (sg : Sg) (s : Nat) : Line := @List.rec (Nat × Line) (fun _ => Line) (Int.ofNat 1, s, Int.ofNat 0) (fun x _ ih => @Bool.rec (fun _ => Line) ih x.2 (Nat.beq x.1 s)) sg
def pthE (p q : Pth) : Bool :=
  @Pth.rec (fun _ => Pth → Bool) (fun q => @Pth.rec (fun _ => Bool) true (fun _ _ => false) (fun _ _ => false) q)
    (fun _ ih q => @Pth.rec (fun _ => (Pth → Bool) → Bool) (fun _ => false) (fun q _ ih => ih q) (fun _ _ _ => false) q ih)
    (fun _ ih q => @Pth.rec (fun _ => (Pth → Bool) → Bool) (fun _ => false) (fun _ _ _ => false) (fun q _ ih => ih q) q ih) p q
/-- A line of symbols told is this line. -/
def lineE (sg : Sg) (a : Int) (s : Nat) (c : Int) (l : Line) : Bool :=
  intK (Int.mul a (sgAt sg s).1) fun x => intK (Int.add (Int.mul a (sgAt sg s).2.2) c) fun z => guardK (ieqB x l.1) (guardK (ieqB z l.2.2) (Bool.or (ieqB x (Int.ofNat 0)) (Nat.beq (sgAt sg s).2.1 l.2.1)))
def optT (r : Ren) (p : Pth) : Option Pth := r.get p
/-- Is a block of the one state this block of the other? -/
def idE (r : Ren) (cnt : Nat) (p q : Pth) : Bool := @Option.rec Pth (fun _ => Bool) (guardK (pthE p q) (Nat.blt p.nat cnt)) (fun x => pthE x q) (r.get p)
def ptrsE (r : Ren) (cnt : Nat) : List (Pth × Nat) → List (Pth × Nat) → Bool
  | [], [] => true
  | x :: l, y :: m => Nat.beq x.2 y.2 && (idE r cnt x.1 y.1 && ptrsE r cnt l m)
  | _, _ => false
def natsE : List Nat → List Nat → Bool
  | [], [] => true
  | x :: l, y :: m => Nat.beq x y && natsE l m
  | _, _ => false
def cellE (sg : Sg) (r : Ren) (cnt : Nat) : Cell → Cell → Bool
  | .any, .any => true
  | .int k n, .int k' n' => kindB k k' && ieqB n n'
  | .lin k a s c, .int k' n => kindB k k' && lineE sg a s c (Int.ofNat 0, 0, n)
  | .lin k a s c, .lin k' b t d => kindB k k' && lineE sg a s c (b, t, d)
  | .bool b, .bool b' => b == b'
  | .str l, .str m => natsE l m
  | .nilp, .nilp => true
  | .ptr p o, .ptr q o' => Nat.beq o o' && idE r cnt p q
  | .nils, .nils => true
  | .sl p o l c, .sl q o' l' c' => (Nat.beq o o' && Nat.beq l l') && (Nat.beq c c' && idE r cnt p q)
  | .slU p o l c, .slU q o' l' c' => (Nat.beq o o' && Nat.beq l l') && (Nat.beq c c' && idE r cnt p q)
  | .slL p o s c, .slU q o' l' c' => (Nat.beq o o' && lineE sg (Int.ofNat 1) s (Int.ofNat 0) (Int.ofNat 0, 0, Int.ofNat l')) && (Nat.beq c c' && idE r cnt p q)
  | .slL p o s c, .slL q o' s' c' => (Nat.beq o o' && lineE sg (Int.ofNat 1) s (Int.ofNat 0) (Int.ofNat 1, s', Int.ofNat 0)) && (Nat.beq c c' && idE r cnt p q)
  | .sl0, .sl0 => true
  | .nilf, .nilf => true
  | .fn f x y, .fn f' x' y' => Nat.beq f f' && (ptrsE r cnt x x' && ptrsE r cnt y y')
  | .nilm, .nilm => true
  | .map p, .map q => idE r cnt p q
  | _, _ => false
/-- .. the same, by recursors. -/
def cellQ (sg : Sg) (r : Ren) (cnt : Nat) (x y : Cell) : Bool :=
  @Cell.rec (fun _ => Cell → Bool)
    (fun y => @Cell.rec (fun _ => Bool) (true) (fun _ _ => false) (fun _ _ _ _ => false) (fun _ => false) (fun _ => false) false (fun _ _ => false) false (fun _ _ _ _ => false) (fun _ _ _ _ => false) false false (fun _ _ _ => false) false (fun _ => false) (fun _ _ _ _ => false) y)
    (fun k n y => @Cell.rec (fun _ => Bool) false (fun k2 n2 => guardK (kindB k k2) (ieqB n n2)) (fun _ _ _ _ => false) (fun _ => false) (fun _ => false) false (fun _ _ => false) false (fun _ _ _ _ => false) (fun _ _ _ _ => false) false false (fun _ _ _ => false) false (fun _ => false) (fun _ _ _ _ => false) y)
    (fun k a s c y => @Cell.rec (fun _ => Bool) false (fun k2 n2 => guardK (kindB k k2) (lineE sg a s c (Int.ofNat 0, 0, n2))) (fun k2 b t d => guardK (kindB k k2) (lineE sg a s c (b, t, d))) (fun _ => false) (fun _ => false) false (fun _ _ => false) false (fun _ _ _ _ => false) (fun _ _ _ _ => false) false false (fun _ _ _ => false) false (fun _ => false) (fun _ _ _ _ => false) y)
    (fun b y => @Cell.rec (fun _ => Bool) false (fun _ _ => false) (fun _ _ _ _ => false) (fun b2 => @Bool.rec (fun _ => Bool) (Bool.not b2) b2 b) (fun _ => false) false (fun _ _ => false) false (fun _ _ _ _ => false) (fun _ _ _ _ => false) false false (fun _ _ _ => false) false (fun _ => false) (fun _ _ _ _ => false) y)
    (fun l y => @Cell.rec (fun _ => Bool) false (fun _ _ => false) (fun _ _ _ _ => false) (fun _ => false) (fun m => natsE l m) false (fun _ _ => false) false (fun _ _ _ _ => false) (fun _ _ _ _ => false) false false (fun _ _ _ => false) false (fun _ => false) (fun _ _ _ _ => false) y)
    (fun y => @Cell.rec (fun _ => Bool) false (fun _ _ => false) (fun _ _ _ _ => false) (fun _ => false) (fun _ => false) (true) (fun _ _ => false) false (fun _ _ _ _ => false) (fun _ _ _ _ => false) false false (fun _ _ _ => false) false (fun _ => false) (fun _ _ _ _ => false) y)
    (fun p o y => @Cell.rec (fun _ => Bool) false (fun _ _ => false) (fun _ _ _ _ => false) (fun _ => false) (fun _ => false) false (fun q o2 => guardK (Nat.beq o o2) (idE r cnt p q)) false (fun _ _ _ _ => false) (fun _ _ _ _ => false) false false (fun _ _ _ => false) false (fun _ => false) (fun _ _ _ _ => false) y)
    (fun y => @Cell.rec (fun _ => Bool) false (fun _ _ => false) (fun _ _ _ _ => false) (fun _ => false) (fun _ => false) false (fun _ _ => false) (true) (fun _ _ _ _ => false) (fun _ _ _ _ => false) false false (fun _ _ _ => false) false (fun _ => false) (fun _ _ _ _ => false) y)
    (fun p o l c y => @Cell.rec (fun _ => Bool) false (fun _ _ => false) (fun _ _ _ _ => false) (fun _ => false) (fun _ => false) false (fun _ _ => false) false (fun q o2 l2 c2 => guardK (guardK (Nat.beq o o2) (Nat.beq l l2)) (guardK (Nat.beq c c2) (idE r cnt p q))) (fun _ _ _ _ => false) false false (fun _ _ _ => false) false (fun _ => false) (fun _ _ _ _ => false) y)
    (fun p o l c y => @Cell.rec (fun _ => Bool) false (fun _ _ => false) (fun _ _ _ _ => false) (fun _ => false) (fun _ => false) false (fun _ _ => false) false (fun _ _ _ _ => false) (fun q o2 l2 c2 => guardK (guardK (Nat.beq o o2) (Nat.beq l l2)) (guardK (Nat.beq c c2) (idE r cnt p q))) false false (fun _ _ _ => false) false (fun _ => false) (fun _ _ _ _ => false) y)
    (fun y => @Cell.rec (fun _ => Bool) false (fun _ _ => false) (fun _ _ _ _ => false) (fun _ => false) (fun _ => false) false (fun _ _ => false) false (fun _ _ _ _ => false) (fun _ _ _ _ => false) (true) false (fun _ _ _ => false) false (fun _ => false) (fun _ _ _ _ => false) y)
    (fun y => @Cell.rec (fun _ => Bool) false (fun _ _ => false) (fun _ _ _ _ => false) (fun _ => false) (fun _ => false) false (fun _ _ => false) false (fun _ _ _ _ => false) (fun _ _ _ _ => false) false (true) (fun _ _ _ => false) false (fun _ => false) (fun _ _ _ _ => false) y)
    (fun f a b y => @Cell.rec (fun _ => Bool) false (fun _ _ => false) (fun _ _ _ _ => false) (fun _ => false) (fun _ => false) false (fun _ _ => false) false (fun _ _ _ _ => false) (fun _ _ _ _ => false) false false (fun f2 a2 b2 => guardK (Nat.beq f f2) (guardK (ptrsE r cnt a a2) (ptrsE r cnt b b2))) false (fun _ => false) (fun _ _ _ _ => false) y)
    (fun y => @Cell.rec (fun _ => Bool) false (fun _ _ => false) (fun _ _ _ _ => false) (fun _ => false) (fun _ => false) false (fun _ _ => false) false (fun _ _ _ _ => false) (fun _ _ _ _ => false) false false (fun _ _ _ => false) (true) (fun _ => false) (fun _ _ _ _ => false) y)
    (fun p y => @Cell.rec (fun _ => Bool) false (fun _ _ => false) (fun _ _ _ _ => false) (fun _ => false) (fun _ => false) false (fun _ _ => false) false (fun _ _ _ _ => false) (fun _ _ _ _ => false) false false (fun _ _ _ => false) false (fun q => idE r cnt p q) (fun _ _ _ _ => false) y)
    (fun p o s c y => @Cell.rec (fun _ => Bool) false (fun _ _ => false) (fun _ _ _ _ => false) (fun _ => false) (fun _ => false) false (fun _ _ => false) false (fun _ _ _ _ => false) (fun q o2 l2 c2 => guardK (guardK (Nat.beq o o2) (lineE sg (Int.ofNat 1) s (Int.ofNat 0) (Int.ofNat 0, 0, Int.ofNat l2))) (guardK (Nat.beq c c2) (idE r cnt p q))) false false (fun _ _ _ => false) false (fun _ => false) (fun q o2 s2 c2 => guardK (guardK (Nat.beq o o2) (lineE sg (Int.ofNat 1) s (Int.ofNat 0) (Int.ofNat 1, s2, Int.ofNat 0))) (guardK (Nat.beq c c2) (idE r cnt p q))) y) x y
theorem cellQ_eq (sg : Sg) (r : Ren) (cnt : Nat) (x y : Cell) : cellQ sg r cnt x y = cellE sg r cnt x y := by
  cases x <;> cases y <;> first
    | rfl
    | exact guardK_eq _ _
    | (rename_i b c; cases b <;> cases c <;> rfl)
    | (simp only [cellQ, cellE, guardK_eq])
def cellsE (sg : Sg) (r : Ren) (cnt : Nat) : List Cell → List Cell → Bool :=
  @List.rec Cell (fun _ => List Cell → Bool) (fun m => @List.rec Cell (fun _ => Bool) true (fun _ _ _ => false) m)
    (fun x _ ih m => @List.rec Cell (fun _ => (List Cell → Bool) → Bool) (fun _ => false) (fun y m _ ih => guardK (cellQ sg r cnt x y) (ih m)) m ih)
/-- .. of a row of which more may be known. -/
def cellsP (sg : Sg) (r : Ren) (cnt : Nat) : List Cell → List Cell → Bool :=
  @List.rec Cell (fun _ => List Cell → Bool) (fun _ => true)
    (fun x _ ih m => @List.rec Cell (fun _ => (List Cell → Bool) → Bool) (fun _ => false) (fun y m _ ih => guardK (cellQ sg r cnt x y) (ih m)) m ih)
theorem cellsE_cons {sg : Sg} {r : Ren} {cnt : Nat} {x y : Cell} {l m : List Cell} (h : cellsE sg r cnt (x :: l) (y :: m) = true) : cellE sg r cnt x y = true ∧ cellsE sg r cnt l m = true := by
  have h : guardK (cellQ sg r cnt x y) (cellsE sg r cnt l m) = true := h
  rw [cellQ_eq] at h
  exact guardK_true h
theorem cellsP_cons {sg : Sg} {r : Ren} {cnt : Nat} {x y : Cell} {l m : List Cell} (h : cellsP sg r cnt (x :: l) (y :: m) = true) : cellE sg r cnt x y = true ∧ cellsP sg r cnt l m = true := by
  have h : guardK (cellQ sg r cnt x y) (cellsP sg r cnt l m) = true := h
  rw [cellQ_eq] at h
  exact guardK_true h
def compE (sg : Sg) (r : Ren) (cnt : Nat) : Comp → Comp → Bool
  | .one x, .one y => cellE sg r cnt x y
  | .agg x, .agg y => cellsE sg r cnt x y
  | _, _ => false
def compsE (sg : Sg) (r : Ren) (cnt : Nat) : List Comp → List Comp → Bool
  | [], [] => true
  | x :: l, y :: m => compE sg r cnt x y && compsE sg r cnt l m
  | _, _ => false
def noSg (sg : Sg) : Bool := @List.rec (Nat × Line) (fun _ => Bool) true (fun _ _ _ => false) sg
def inME : InM → InM → Bool
  | .all b, .all b' => Nat.beq b b'
  | .one i e, .one i' e' => Nat.beq i i' && Nat.beq e e'
  | _, _ => false
def avE (sg : Sg) (r : Ren) (cnt : Nat) : AV → AV → Bool
  | .unk, _ => true
  | .v x, .v y => compE sg r cnt x y
  | .tup x, .tup y => compsE sg r cnt x y
  | .inS l k m, .inS l' k' m' => (noSg sg && cellE sg r cnt l l') && (kindB k k' && inME m m')
  | _, _ => false
/-- An entry is among those of a map. -/
def entE (sg : Sg) (r : Ren) (cnt : Nat) (x : Int × Comp) : List (Int × Comp) → Bool
  | [] => false
  | y :: l => (ieqB x.1 y.1 && compE sg r cnt x.2 y.2) || entE sg r cnt x l
def entsE (sg : Sg) (r : Ren) (cnt : Nat) (m : List (Int × Comp)) : List (Int × Comp) → Bool
  | [] => true
  | x :: l => entE sg r cnt x m && entsE sg r cnt m l
def bkE (sg : Sg) (r : Ren) (cnt : Nat) : Bk → Bk → Bool
  | .dead, _ => true
  | .row true l, .row _ m => cellsP sg r cnt l m
  | .row false l, .row false m => cellsE sg r cnt l m
  | .map l, .map m => entsE sg r cnt m l
  | .tab l, .tab m => cellsE sg r cnt l m
  | _, _ => false
def liveB : Bk → Bool | .dead => false | _ => true
/-- Is this block none, or dead, or told anew? -/
def freeE (r : Ren) (ph : Tr Blk) (q : Pth) : Bool := @Option.rec Blk (fun _ => Bool) true (fun B => Bool.or (Bool.not (liveB B.k)) (@Option.rec Pth (fun _ => Bool) false (fun _ => true) (r.get q))) (ph.get q)
/-- A block of the pattern, at a key, against the other state. -/
def blkE (sg : Sg) (r : Ren) (cnt wlo : Nat) (h : Tr Blk) (B : Blk) (num : Nat) (rv : Option Pth) (sv : Option Blk) : Bool :=
  guardK (Nat.beq B.no num) (guardK (Nat.blt num cnt)
    (@Option.rec Pth (fun _ => Bool) (@Option.rec Blk (fun _ => Bool) false (fun C => bkE sg r cnt B.k C.k) sv) (fun q => @Option.rec Blk (fun _ => Bool) false (fun C => guardK (Nat.ble wlo C.no) (bkE sg r cnt B.k C.k)) (h.get q)) rv))
/-- All blocks of the pattern: at a key's number (its factor, and what is added). -/
def heapN (sg : Sg) (r0 : Ren) (cnt wlo : Nat) (h : Tr Blk) (a b : Nat → Nat → Ren → Tr Blk → Bool) (mu ad : Nat) (r : Ren) (t : Tr Blk) : Bool :=
  natK (Nat.mul 2 mu) fun m2 => natK (Nat.add ad mu) fun a1 => natK (Nat.add ad m2) fun a2 => guardK (a m2 a1 r.left t.left) (b m2 a2 r.right t.right)
def heapE (sg : Sg) (r0 : Ren) (cnt wlo : Nat) (h : Tr Blk) (pt : Tr Blk) : Nat → Nat → Ren → Tr Blk → Bool :=
  @Tr.rec Blk (fun _ => Nat → Nat → Ren → Tr Blk → Bool) (fun _ _ _ _ => true) (fun B _ ad r t => blkE sg r0 cnt wlo h B ad r.val t.val)
    (fun _ _ a b mu ad r t => heapN sg r0 cnt wlo h a b mu ad r t)
    (fun B _ _ a b mu ad r t => guardK (blkE sg r0 cnt wlo h B ad r.val t.val) (heapN sg r0 cnt wlo h a b mu ad r t)) pt
def tempE (sg : Sg) (r : Ren) (cnt : Nat) (v : AV) (o : Option AV) : Bool := @Option.rec AV (fun _ => Bool) false (fun u => avE sg r cnt v u) o
def tempsE (sg : Sg) (r : Ren) (cnt : Nat) (pt : Ts) : Ts → Bool :=
  @Tr.rec AV (fun _ => Ts → Bool) (fun _ => true) (fun v t => tempE sg r cnt v t.val) (fun _ _ a b t => guardK (a t.left) (b t.right)) (fun v _ _ a b t => guardK (tempE sg r cnt v t.val) (guardK (a t.left) (b t.right))) pt
def memSnd (p : Pth) : List (Pth × Pth) → Bool
  | [] => false
  | x :: l => pthE p x.2 || memSnd p l
/-- The blocks told anew: above those that stay, apart from each other and from those that stay. -/
def rensE (base cnt : Nat) (r : Ren) (ph : Tr Blk) : List (Pth × Pth) → Bool
  | [] => true
  | x :: l => (Nat.ble base x.1.nat && (Nat.blt x.1.nat cnt && !memSnd x.2 l)) && (freeE r ph x.2 && rensE base cnt r ph l)
def renT : List (Pth × Pth) → Ren
  | [] => .nil
  | x :: l => (renT l).set x.1 x.2
def renK (l : List (Pth × Pth)) : (Ren → Bool) → Bool := @List.rec (Pth × Pth) (fun _ => (Ren → Bool) → Bool) (fun k => k .nil) (fun x _ ih k => ih fun r => setK x.1 r x.2 k) l
/-- A STATE STANDS FOR ANOTHER ONE. -/
def matB (base : Nat) (rl : List (Pth × Pth)) (sg : Sg) (tp : Ts) (sp : St) (t : Ts) (s : St) : Bool :=
  (Nat.ble base sp.cnt && (Nat.blt 0 base && (Nat.beq sp.wlo s.wlo && Nat.beq sp.next.nat sp.cnt))) && renK rl fun r => rensE base sp.cnt r sp.heap rl && (tempsE sg r sp.cnt tp t && heapE sg r sp.cnt s.wlo s.heap sp.heap 1 0 r s.heap)
end
/-! ### What the check shows -/
theorem pthE_true : ∀ {p q : Pth}, pthE p q = true → p = q
  | .e, .e, _ => rfl
  | .z p, .z q, h => by rw [pthE_true (p := p) (q := q) h]
  | .s p, .s q, h => by rw [pthE_true (p := p) (q := q) h]
  | .e, .z q, h => by cases h
  | .e, .s q, h => by cases h
  | .z p, .e, h => by cases h
  | .z p, .s q, h => by cases h
  | .s p, .e, h => by cases h
  | .s p, .z q, h => by cases h
def RhoIs (ρ ρ' : Rho) (sg : Sg) : Prop := ∀ s, ρ'.val s = Line.at ρ (sgAt sg s)
theorem lineE_true {ρ ρ' : Rho} {sg : Sg} (hr : RhoIs ρ ρ' sg) {a : Int} {s : Nat} {c : Int} {l : Line} (h : lineE sg a s c l = true) : a * ρ'.val s + c = Line.at ρ l := by
  have h1 := intK_true (intK_true h)
  obtain ⟨h2, h3⟩ := guardK_true h1
  obtain ⟨h4, h5⟩ := guardK_true h3
  rw [ieqB_eq] at h2 h4
  have h2 : a * (sgAt sg s).1 = l.1 := of_decide_eq_true h2
  have h4 : a * (sgAt sg s).2.2 + c = l.2.2 := of_decide_eq_true h4
  rw [hr s]
  unfold Line.at
  have e : a * ((sgAt sg s).1 * ρ.val (sgAt sg s).2.1 + (sgAt sg s).2.2) + c = (a * (sgAt sg s).1) * ρ.val (sgAt sg s).2.1 + (a * (sgAt sg s).2.2 + c) := by
    rw [Int.mul_add, Int.mul_assoc, Int.add_assoc]
  rw [e, h2, h4]
  have h5 : (ieqB (a * (sgAt sg s).1) 0 || Nat.beq (sgAt sg s).2.1 l.2.1) = true := h5
  rw [Bool.or_eq_true, ieqB_eq] at h5
  rcases h5 with h5 | h5
  · have h5 := of_decide_eq_true h5
    rw [h2] at h5; rw [h5]; simp
  · rw [Nat.eq_of_beq_eq_true h5]
/-- Which block of the world a block of the pattern is. -/
def nuR (r : Ren) (cnt N : Nat) (ν : Nu) : Nu := fun p => match r.get p with | some q => ν q | none => if p.nat < cnt ∨ N ≤ p.nat then ν p else none
section
variable {ρ ρ' : Rho} {sg : Sg} {r : Ren} {cnt N : Nat} {ν : Nu}
theorem idE_true {p q : Pth} {x : Nat × Nat} (h : idE r cnt p q = true) (hq : ν q = some x) : nuR r cnt N ν p = some x := by
  unfold idE at h
  unfold nuR
  cases hr : r.get p with
  | none =>
    rw [hr] at h
    obtain ⟨h1, h2⟩ := guardK_true h
    have e := pthE_true h1
    subst e
    have h2 : p.nat < cnt := Nat.le_of_ble_eq_true h2
    simp only [h2, true_or, if_true]
    exact hq
  | some y =>
    rw [hr] at h
    have e := pthE_true h
    subst e
    exact hq
theorem ptrsE_true : ∀ {x y : List (Pth × Nat)} {vs : List Value}, ptrsE r cnt x y = true → Rel (PR ν) y vs → Rel (PR (nuR r cnt N ν)) x vs
  | [], [], vs, h, hr => by cases vs with | nil => trivial | cons _ _ => exact hr.elim
  | [], _ :: _, vs, h, hr => by cases h
  | _ :: _, [], vs, h, hr => by cases h
  | x :: l, y :: m, vs, h, hr => by
    unfold ptrsE at h
    simp only [Bool.and_eq_true] at h
    cases vs with
    | nil => exact hr.elim
    | cons v vs =>
      obtain ⟨⟨b, k, e1, e2⟩, r2⟩ := hr
      exact ⟨⟨b, k, idE_true h.2.1 e1, by rw [e2, Nat.eq_of_beq_eq_true h.1]⟩, ptrsE_true h.2.2 r2⟩
theorem natsE_true : ∀ {x y : List Nat}, natsE x y = true → x = y
  | [], [], _ => rfl
  | [], _ :: _, h => by cases h
  | _ :: _, [], h => by cases h
  | x :: l, y :: m, h => by
    unfold natsE at h
    rw [Bool.and_eq_true] at h
    rw [Nat.eq_of_beq_eq_true h.1, natsE_true h.2]
theorem cellE_true (hr : RhoIs ρ ρ' sg) {x y : Cell} {v : Value} (h : cellE sg r cnt x y = true) (q : CR ν ρ y v) : CR (nuR r cnt N ν) ρ' x v := by
  unfold cellE at h
  split at h
  · exact q
  · rw [Bool.and_eq_true, ieqB_eq] at h
    have e1 := kindB_true h.1
    have e2 := of_decide_eq_true h.2
    subst e1; subst e2; exact q
  · rw [Bool.and_eq_true] at h
    have e1 := kindB_true h.1
    have e2 := lineE_true hr h.2
    subst e1
    show v = .int _ _
    rw [e2, show v = _ from q]
    simp [Line.at]
  · rw [Bool.and_eq_true] at h
    have e1 := kindB_true h.1
    have e2 := lineE_true hr h.2
    subst e1
    show v = .int _ _
    rw [e2]; exact q
  · have e := eq_of_beq h
    subst e; exact q
  · have e := natsE_true h
    subst e; exact q
  · exact q
  · simp only [Bool.and_eq_true] at h
    obtain ⟨b, k, e1, e2⟩ := q
    exact ⟨b, k, idE_true h.2 e1, by rw [e2, Nat.eq_of_beq_eq_true h.1]⟩
  · exact q
  · simp only [Bool.and_eq_true] at h
    obtain ⟨b, k, e1, e3, e2⟩ := q
    rw [Nat.eq_of_beq_eq_true h.1.1, Nat.eq_of_beq_eq_true h.1.2, Nat.eq_of_beq_eq_true h.2.1]
    exact ⟨b, k, idE_true h.2.2 e1, e3, e2⟩
  · simp only [Bool.and_eq_true] at h
    obtain ⟨b, k, c, e1, e3, e4, e2⟩ := q
    rw [Nat.eq_of_beq_eq_true h.1.1, Nat.eq_of_beq_eq_true h.1.2, Nat.eq_of_beq_eq_true h.2.1]
    exact ⟨b, k, c, idE_true h.2.2 e1, e3, e4, e2⟩
  · simp only [Bool.and_eq_true] at h
    obtain ⟨b, k, c, e1, e3, e4, e2⟩ := q
    rw [Nat.eq_of_beq_eq_true h.1.1, Nat.eq_of_beq_eq_true h.2.1]
    have e5 := lineE_true hr h.1.2
    refine ⟨b, k, c, _, idE_true h.2.2 e1, e3, e4, ?_, e2⟩
    have e5 : 1 * ρ'.val _ + 0 = Line.at ρ (0, 0, Int.ofNat _) := e5
    simp [Line.at] at e5
    exact e5.symm
  · simp only [Bool.and_eq_true] at h
    obtain ⟨b, k, c, len, e1, e3, e4, e6, e2⟩ := q
    rw [Nat.eq_of_beq_eq_true h.1.1, Nat.eq_of_beq_eq_true h.2.1]
    have e5 := lineE_true hr h.1.2
    refine ⟨b, k, c, len, idE_true h.2.2 e1, e3, e4, ?_, e2⟩
    have e5 : 1 * ρ'.val _ + 0 = Line.at ρ (1, _, 0) := e5
    simp [Line.at] at e5
    rw [e5]; exact e6
  · exact q
  · exact q
  · simp only [Bool.and_eq_true] at h
    obtain ⟨a, b, e, r1, r2⟩ := q
    exact ⟨a, b, by rw [e, Nat.eq_of_beq_eq_true h.1], ptrsE_true h.2.1 r1, ptrsE_true h.2.2 r2⟩
  · exact q
  · obtain ⟨b, k, e1, e2⟩ := q
    exact ⟨b, k, idE_true h e1, e2⟩
  · cases h
theorem cellsE_true (hr : RhoIs ρ ρ' sg) : ∀ {x y : List Cell} {vs : List Value}, cellsE sg r cnt x y = true → Rel (CR ν ρ) y vs → Rel (CR (nuR r cnt N ν) ρ') x vs
  | [], [], vs, h, q => by cases vs with | nil => trivial | cons _ _ => exact q.elim
  | [], _ :: _, vs, h, q => by cases h
  | _ :: _, [], vs, h, q => by cases h
  | x :: l, y :: m, vs, h, q => by
    replace h := cellsE_cons h
    cases vs with
    | nil => exact q.elim
    | cons v vs => exact ⟨cellE_true hr h.1 q.1, cellsE_true hr h.2 q.2⟩
theorem cellsE_len : ∀ {x y : List Cell}, cellsE sg r cnt x y = true → x.length = y.length
  | [], [], h => rfl
  | [], _ :: _, h => by cases h
  | _ :: _, [], h => by cases h
  | x :: l, y :: m, h => by
    replace h := cellsE_cons h
    simp [cellsE_len h.2]
theorem cellsP_len : ∀ {x y : List Cell}, cellsP sg r cnt x y = true → x.length ≤ y.length
  | [], y, h => Nat.zero_le _
  | _ :: _, [], h => by cases h
  | x :: l, y :: m, h => by
    replace h := cellsP_cons h
    have := cellsP_len h.2
    simp; omega
theorem cellsE_nth (hr : RhoIs ρ ρ' sg) : ∀ {x y : List Cell}, cellsE sg r cnt x y = true → ∀ {i : Nat} {a : Cell}, x[i]? = some a → ∃ b, y[i]? = some b ∧ ∀ v, CR ν ρ b v → CR (nuR r cnt N ν) ρ' a v
  | [], [], h, i, a, ha => by simp at ha
  | [], _ :: _, h, _, _, _ => by cases h
  | _ :: _, [], h, _, _, _ => by cases h
  | x :: l, y :: m, h, 0, a, ha => by
    replace h := cellsE_cons h
    simp at ha; subst ha
    exact ⟨y, rfl, fun v q => cellE_true hr h.1 q⟩
  | x :: l, y :: m, h, i + 1, a, ha => by
    replace h := cellsE_cons h
    obtain ⟨b, h1, h2⟩ := cellsE_nth hr h.2 (i := i) (a := a) (by simpa using ha)
    exact ⟨b, by simpa using h1, h2⟩
theorem cellsP_nth (hr : RhoIs ρ ρ' sg) : ∀ {x y : List Cell}, cellsP sg r cnt x y = true → ∀ {i : Nat} {a : Cell}, x[i]? = some a → ∃ b, y[i]? = some b ∧ ∀ v, CR ν ρ b v → CR (nuR r cnt N ν) ρ' a v
  | [], _, h, i, a, ha => by simp at ha
  | _ :: _, [], h, _, _, _ => by cases h
  | x :: l, y :: m, h, 0, a, ha => by
    replace h := cellsP_cons h
    simp at ha; subst ha
    exact ⟨y, rfl, fun v q => cellE_true hr h.1 q⟩
  | x :: l, y :: m, h, i + 1, a, ha => by
    replace h := cellsP_cons h
    obtain ⟨b, h1, h2⟩ := cellsP_nth hr h.2 (i := i) (a := a) (by simpa using ha)
    exact ⟨b, by simpa using h1, h2⟩
theorem compE_true (hr : RhoIs ρ ρ' sg) {x y : Comp} {v : Value} (h : compE sg r cnt x y = true) (q : CompR ν ρ y v) : CompR (nuR r cnt N ν) ρ' x v := by
  unfold compE at h
  split at h
  · exact cellE_true hr h q
  · obtain ⟨vs, e, rr⟩ := q
    exact ⟨vs, e, cellsE_true hr h rr⟩
  · cases h
theorem compsE_true (hr : RhoIs ρ ρ' sg) : ∀ {x y : List Comp} {vs : List Value}, compsE sg r cnt x y = true → Rel (CompR ν ρ) y vs → Rel (CompR (nuR r cnt N ν) ρ') x vs
  | [], [], vs, h, q => by cases vs with | nil => trivial | cons _ _ => exact q.elim
  | [], _ :: _, vs, h, q => by cases h
  | _ :: _, [], vs, h, q => by cases h
  | x :: l, y :: m, vs, h, q => by
    unfold compsE at h
    rw [Bool.and_eq_true] at h
    cases vs with
    | nil => exact q.elim
    | cons v vs => exact ⟨compE_true hr h.1 q.1, compsE_true hr h.2 q.2⟩
theorem noSg_true {sg : Sg} (h : noSg sg = true) : sg = [] := by cases sg with | nil => rfl | cons _ _ => cases h
theorem rho_same (hr : RhoIs ρ ρ' []) : ∀ s, ρ'.val s = ρ.val s := fun s => by
  have := hr s
  rw [this]
  show (1 : Int) * ρ.val s + 0 = ρ.val s
  simp
theorem inME_true {x y : InM} (h : inME x y = true) : x = y := by
  unfold inME at h
  split at h
  · rw [Nat.eq_of_beq_eq_true h]
  · rw [Bool.and_eq_true] at h
    rw [Nat.eq_of_beq_eq_true h.1, Nat.eq_of_beq_eq_true h.2]
  · cases h
theorem inMd_same (hs : ∀ s, ρ'.val s = ρ.val s) {n : Nat} {f : Nat → Int} : ∀ {m : InM}, InMd ρ n f m → InMd ρ' n f m
  | .all base, h => fun j hj => by rw [hs]; exact h j hj
  | .one i e, h => fun j hj hi => by rw [hs]; rw [hs] at hi; exact h j hj hi
theorem avE_true (hr : RhoIs ρ ρ' sg) (hm : ρ'.mem = ρ.mem) {x y : AV} {v : Value} (h : avE sg r cnt x y = true) (q : AR ν ρ y v) : AR (nuR r cnt N ν) ρ' x v := by
  unfold avE at h
  split at h
  · trivial
  · exact compE_true hr h q
  · obtain ⟨vs, e, rr⟩ := q
    exact ⟨vs, e, compsE_true hr h rr⟩
  · simp only [Bool.and_eq_true] at h
    have e0 := noSg_true h.1.1
    subst e0
    have e1 := kindB_true h.2.1
    have e2 := inME_true h.2.2
    subst e1; subst e2
    have hs := rho_same hr
    obtain ⟨a, n, cap, f, e, hl, hin, hmd⟩ := q
    refine ⟨a, n, cap, f, e, cellE_true hr h.1.2 hl, ⟨hin.1, fun h0 => ?_⟩, ?_⟩
    · obtain ⟨b, o, c, ty, fz, g1, g2, g3⟩ := hin.2 h0
      exact ⟨b, o, c, ty, fz, g1, by rw [hm]; exact g2, g3⟩
    · exact inMd_same hs hmd
  · cases h
theorem entE_true (hr : RhoIs ρ ρ' sg) {x : Int × Comp} : ∀ {m : List (Int × Comp)}, entE sg r cnt x m = true → ∃ y ∈ m, y.1 = x.1 ∧ ∀ v, CompR ν ρ y.2 v → CompR (nuR r cnt N ν) ρ' x.2 v
  | [], h => by cases h
  | y :: l, h => by
    unfold entE at h
    simp only [Bool.or_eq_true, Bool.and_eq_true, ieqB_eq] at h
    rcases h with ⟨h1, h2⟩ | h
    · exact ⟨y, List.mem_cons_self .., (of_decide_eq_true h1).symm, fun v q => compE_true hr h2 q⟩
    · obtain ⟨z, h1, h2⟩ := entE_true hr h
      exact ⟨z, List.mem_cons_of_mem _ h1, h2⟩
theorem entsE_true (hr : RhoIs ρ ρ' sg) {m : List (Int × Comp)} : ∀ {l : List (Int × Comp)}, entsE sg r cnt m l = true → ∀ x ∈ l, ∃ y ∈ m, y.1 = x.1 ∧ ∀ v, CompR ν ρ y.2 v → CompR (nuR r cnt N ν) ρ' x.2 v
  | [], h, x, hx => by cases hx
  | z :: l, h, x, hx => by
    unfold entsE at h
    rw [Bool.and_eq_true] at h
    rcases List.mem_cons.1 hx with hx | hx
    · subst hx; exact entE_true hr h.1
    · exact entsE_true hr h.2 x hx
theorem bkE_true (hr : RhoIs ρ ρ' sg) {x y : Bk} {k : Nat} {o : Option Obj} (h : bkE sg r cnt x y = true) (q : BR ν ρ k o y) : BR (nuR r cnt N ν) ρ' k o x := by
  unfold bkE at h
  split at h
  · trivial
  · obtain ⟨c, e, h1, h2, h3, h4, h5⟩ := q
    have hl := cellsP_len h
    refine ⟨c, e, h1, h2, by omega, (fun e => by cases e), fun i a ha => ?_⟩
    obtain ⟨b, hb, hb2⟩ := cellsP_nth (ν := ν) (N := N) hr h ha
    obtain ⟨v, hv, rv⟩ := h5 i b hb
    exact ⟨v, hv, hb2 v rv⟩
  · obtain ⟨c, e, h1, h2, h3, h4, h5⟩ := q
    have hl := cellsE_len h
    refine ⟨c, e, h1, h2, by omega, fun _ => by rw [hl]; exact h4 rfl, fun i a ha => ?_⟩
    obtain ⟨b, hb, hb2⟩ := cellsE_nth (ν := ν) (N := N) hr h ha
    obtain ⟨v, hv, rv⟩ := h5 i b hb
    exact ⟨v, hv, hb2 v rv⟩
  · obtain ⟨l, clock, h1, h2, h3⟩ := q
    refine ⟨l, clock, h1, h2, fun x hx => ?_⟩
    obtain ⟨y, hy, e, hc⟩ := entsE_true (ν := ν) (N := N) hr h x hx
    obtain ⟨j, en, hf, hcr⟩ := h3 y hy
    exact ⟨j, en, by rw [← e]; exact hf, hc _ hcr⟩
  · obtain ⟨c, e, fz, h1, h2, h3, h5⟩ := q
    have hl := cellsE_len h
    refine ⟨c, e, fz, h1, h2, by omega, fun i a ha => ?_⟩
    obtain ⟨b, hb, hb2⟩ := cellsE_nth (ν := ν) (N := N) hr h ha
    obtain ⟨v, hv, rv⟩ := h5 i b hb
    exact ⟨v, hv, hb2 v rv⟩
  · cases h
theorem bkE_live {x y : Bk} (h : bkE sg r cnt x y = true) (hx : x ≠ .dead) : y ≠ .dead := by
  intro e
  subst e
  cases x with
  | dead => exact hx rfl
  | row b l => cases b <;> cases h
  | map l => cases h
  | tab l => cases h
theorem blkE_true {wlo : Nat} {h : Tr Blk} {B : Blk} {num : Nat} {rv : Option Pth} {sv : Option Blk} (q : blkE sg r cnt wlo h B num rv sv = true) : B.no = num ∧ num < cnt ∧
    ((rv = none ∧ ∃ C, sv = some C ∧ bkE sg r cnt B.k C.k = true) ∨ ∃ p C, rv = some p ∧ h.get p = some C ∧ wlo ≤ C.no ∧ bkE sg r cnt B.k C.k = true) := by
  obtain ⟨h1, h2⟩ := guardK_true q
  obtain ⟨h3, h4⟩ := guardK_true h2
  refine ⟨Nat.eq_of_beq_eq_true h1, Nat.le_of_ble_eq_true h3, ?_⟩
  cases rv with
  | none =>
    cases sv with
    | none => cases h4
    | some C => exact .inl ⟨rfl, C, rfl, h4⟩
  | some p =>
    have h4 : @Option.rec Blk (fun _ => Bool) false (fun C => guardK (Nat.ble wlo C.no) (bkE sg r cnt B.k C.k)) (h.get p) = true := h4
    cases hp : h.get p with
    | none => rw [hp] at h4; cases h4
    | some C =>
      rw [hp] at h4
      obtain ⟨h5, h6⟩ := guardK_true h4
      exact .inr ⟨p, C, rfl, hp, Nat.le_of_ble_eq_true h5, h6⟩
theorem get_left {α : Type} (t : Tr α) (p : Pth) : t.left.get p = t.get (.z p) := by cases t <;> rfl
theorem get_right {α : Type} (t : Tr α) (p : Pth) : t.right.get p = t.get (.s p) := by cases t <;> rfl
theorem get_val {α : Type} (t : Tr α) : t.val = t.get .e := by cases t <;> rfl
theorem heapN_true {wlo : Nat} {h : Tr Blk} {a b : Nat → Nat → Ren → Tr Blk → Bool} {mu ad : Nat} {rr : Ren} {t : Tr Blk} (q : heapN sg r cnt wlo h a b mu ad rr t = true) : a (2 * mu) (ad + mu) rr.left t.left = true ∧ b (2 * mu) (ad + 2 * mu) rr.right t.right = true :=
  guardK_true (natK_true (natK_true (natK_true q)))
theorem num_z (mu ad : Nat) (p : Pth) : 2 * mu * p.nat + (ad + mu) = mu * (Pth.z p).nat + ad := by
  show 2 * mu * p.nat + (ad + mu) = mu * (2 * p.nat + 1) + ad
  rw [Nat.mul_add, Nat.mul_comm 2 mu, Nat.mul_assoc]; omega
theorem num_s (mu ad : Nat) (p : Pth) : 2 * mu * p.nat + (ad + 2 * mu) = mu * (Pth.s p).nat + ad := by
  show 2 * mu * p.nat + (ad + 2 * mu) = mu * (2 * p.nat + 2) + ad
  rw [Nat.mul_add, Nat.mul_comm 2 mu, Nat.mul_assoc]; omega
theorem heapE_true {wlo : Nat} {h : Tr Blk} : ∀ {pt : Tr Blk} {mu ad : Nat} {rr : Ren} {t : Tr Blk}, heapE sg r cnt wlo h pt mu ad rr t = true → ∀ {p : Pth} {B : Blk}, pt.get p = some B → blkE sg r cnt wlo h B (mu * p.nat + ad) (rr.get p) (t.get p) = true
  | .nil, mu, ad, rr, t, q, p, B, hp => by rw [Tr.get_nil] at hp; cases hp
  | .leaf C, mu, ad, rr, t, q, .e, B, hp => by
    have e := Option.some.inj hp
    subst e
    have q : blkE sg r cnt wlo h C ad rr.val t.val = true := q
    rw [get_val, get_val] at q
    simpa [Pth.nat] using q
  | .leaf C, mu, ad, rr, t, q, .z p, B, hp => by rw [show (Tr.leaf C).get (.z p) = Tr.nil.get p from rfl, Tr.get_nil] at hp; cases hp
  | .leaf C, mu, ad, rr, t, q, .s p, B, hp => by rw [show (Tr.leaf C).get (.s p) = Tr.nil.get p from rfl, Tr.get_nil] at hp; cases hp
  | .node a b, mu, ad, rr, t, q, .e, B, hp => by cases hp
  | .node a b, mu, ad, rr, t, q, .z p, B, hp => by
    have q := heapN_true (show heapN sg r cnt wlo h (heapE sg r cnt wlo h a) (heapE sg r cnt wlo h b) mu ad rr t = true from q)
    have := heapE_true q.1 (p := p) (B := B) hp
    rw [get_left, get_left, num_z] at this
    exact this
  | .node a b, mu, ad, rr, t, q, .s p, B, hp => by
    have q := heapN_true (show heapN sg r cnt wlo h (heapE sg r cnt wlo h a) (heapE sg r cnt wlo h b) mu ad rr t = true from q)
    have := heapE_true q.2 (p := p) (B := B) hp
    rw [get_right, get_right, num_s] at this
    exact this
  | .vnode C a b, mu, ad, rr, t, q, .e, B, hp => by
    have e := Option.some.inj hp
    subst e
    have q := (guardK_true (show guardK (blkE sg r cnt wlo h C ad rr.val t.val) (heapN sg r cnt wlo h (heapE sg r cnt wlo h a) (heapE sg r cnt wlo h b) mu ad rr t) = true from q)).1
    rw [get_val, get_val] at q
    simpa [Pth.nat] using q
  | .vnode C a b, mu, ad, rr, t, q, .z p, B, hp => by
    have q := heapN_true (guardK_true (show guardK (blkE sg r cnt wlo h C ad rr.val t.val) (heapN sg r cnt wlo h (heapE sg r cnt wlo h a) (heapE sg r cnt wlo h b) mu ad rr t) = true from q)).2
    have := heapE_true q.1 (p := p) (B := B) hp
    rw [get_left, get_left, num_z] at this
    exact this
  | .vnode C a b, mu, ad, rr, t, q, .s p, B, hp => by
    have q := heapN_true (guardK_true (show guardK (blkE sg r cnt wlo h C ad rr.val t.val) (heapN sg r cnt wlo h (heapE sg r cnt wlo h a) (heapE sg r cnt wlo h b) mu ad rr t) = true from q)).2
    have := heapE_true q.2 (p := p) (B := B) hp
    rw [get_right, get_right, num_s] at this
    exact this
theorem tempE_true {v : AV} {o : Option AV} (h : tempE sg r cnt v o = true) : ∃ u, o = some u ∧ avE sg r cnt v u = true := by
  cases o with
  | none => cases h
  | some u => exact ⟨u, rfl, h⟩
theorem tempsE_true : ∀ {pt t : Ts}, tempsE sg r cnt pt t = true → ∀ {p : Pth} {v : AV}, pt.get p = some v → ∃ u, t.get p = some u ∧ avE sg r cnt v u = true
  | .nil, t, q, p, v, hp => by rw [Tr.get_nil] at hp; cases hp
  | .leaf c, t, q, .e, v, hp => by have e := Option.some.inj hp; subst e; have := tempE_true (show tempE sg r cnt c t.val = true from q); rw [get_val] at this; exact this
  | .leaf c, t, q, .z p, v, hp => by rw [show (Tr.leaf c).get (.z p) = Tr.nil.get p from rfl, Tr.get_nil] at hp; cases hp
  | .leaf c, t, q, .s p, v, hp => by rw [show (Tr.leaf c).get (.s p) = Tr.nil.get p from rfl, Tr.get_nil] at hp; cases hp
  | .node a b, t, q, .e, v, hp => by cases hp
  | .node a b, t, q, .z p, v, hp => by
    have q := guardK_true (show guardK (tempsE sg r cnt a t.left) (tempsE sg r cnt b t.right) = true from q)
    have := tempsE_true q.1 (p := p) (v := v) hp
    rw [get_left] at this; exact this
  | .node a b, t, q, .s p, v, hp => by
    have q := guardK_true (show guardK (tempsE sg r cnt a t.left) (tempsE sg r cnt b t.right) = true from q)
    have := tempsE_true q.2 (p := p) (v := v) hp
    rw [get_right] at this; exact this
  | .vnode c a b, t, q, .e, v, hp => by
    have e := Option.some.inj hp
    subst e
    have q := guardK_true (show guardK (tempE sg r cnt c t.val) (guardK (tempsE sg r cnt a t.left) (tempsE sg r cnt b t.right)) = true from q)
    have := tempE_true q.1
    rw [get_val] at this; exact this
  | .vnode c a b, t, q, .z p, v, hp => by
    have q0 := guardK_true (show guardK (tempE sg r cnt c t.val) (guardK (tempsE sg r cnt a t.left) (tempsE sg r cnt b t.right)) = true from q)
    have q : _ ∧ (_ ∧ _) := ⟨q0.1, guardK_true q0.2⟩
    have := tempsE_true q.2.1 (p := p) (v := v) hp
    rw [get_left] at this; exact this
  | .vnode c a b, t, q, .s p, v, hp => by
    have q0 := guardK_true (show guardK (tempE sg r cnt c t.val) (guardK (tempsE sg r cnt a t.left) (tempsE sg r cnt b t.right)) = true from q)
    have q : _ ∧ (_ ∧ _) := ⟨q0.1, guardK_true q0.2⟩
    have := tempsE_true q.2.2 (p := p) (v := v) hp
    rw [get_right] at this; exact this
end
theorem memSnd_true {p : Pth} : ∀ {l : List (Pth × Pth)}, memSnd p l = false → ∀ x ∈ l, x.2 ≠ p
  | [], h, x, hx => by cases hx
  | y :: l, h, x, hx => by
    unfold memSnd at h
    rw [Bool.or_eq_false_iff] at h
    rcases List.mem_cons.1 hx with hx | hx
    · subst hx
      intro e
      subst e
      rw [show pthE x.2 x.2 = true from pthE_refl _] at h
      cases h.1
    · exact memSnd_true h.2 x hx
where
  pthE_refl : ∀ p : Pth, pthE p p = true
    | .e => rfl
    | .z p => pthE_refl p
    | .s p => pthE_refl p
theorem renK_eq : ∀ (l : List (Pth × Pth)) (k : Ren → Bool), renK l k = k (renT l)
  | [], k => rfl
  | x :: l, k => by
    show renK l (fun r => setK x.1 r x.2 k) = _
    rw [renK_eq l, setK_eq]; rfl
theorem renT_get {p q : Pth} : ∀ {l : List (Pth × Pth)}, (renT l).get p = some q → (p, q) ∈ l
  | [], h => by rw [show renT [] = .nil from rfl, Tr.get_nil] at h; cases h
  | x :: l, h => by
    unfold renT at h
    rw [Tr.get_set] at h
    split at h
    · rename_i e
      cases h
      obtain ⟨a, b⟩ := x
      have e : a = p := e
      subst e
      exact List.mem_cons_self ..
    · exact List.mem_cons_of_mem _ (renT_get h)
theorem rensE_true {base cnt : Nat} {r : Ren} {ph : Tr Blk} : ∀ {l : List (Pth × Pth)}, rensE base cnt r ph l = true → (∀ x ∈ l, base ≤ x.1.nat ∧ x.1.nat < cnt ∧ freeE r ph x.2 = true) ∧ ∀ x ∈ l, ∀ y ∈ l, x.2 = y.2 → x.1 = y.1 ∨ x = y
  | [], h => ⟨(fun x hx => by cases hx), (fun x hx => by cases hx)⟩
  | z :: l, h => by
    unfold rensE at h
    simp only [Bool.and_eq_true, Bool.not_eq_true'] at h
    obtain ⟨⟨h1, h0, h2⟩, h3, h4⟩ := h
    obtain ⟨i1, i2⟩ := rensE_true h4
    have hm := memSnd_true h2
    refine ⟨fun x hx => ?_, fun x hx y hy e => ?_⟩
    · rcases List.mem_cons.1 hx with hx' | hx'
      · rw [hx']; exact ⟨Nat.le_of_ble_eq_true h1, Nat.le_of_ble_eq_true h0, h3⟩
      · exact i1 x hx'
    · rcases List.mem_cons.1 hx with hx' | hx' <;> rcases List.mem_cons.1 hy with hy' | hy'
      · exact .inr (hx'.trans hy'.symm)
      · rw [hx'] at e; exact absurd e.symm (hm y hy')
      · rw [hy'] at e; exact absurd e (hm x hx')
      · exact i2 x hx' y hy' e
theorem mat_num {base : Nat} {rl : List (Pth × Pth)} {sg : Sg} {tp t : Ts} {sp s : St} (h : matB base rl sg tp sp t s = true) : Num sp ∧ base ≤ sp.cnt ∧ sp.wlo = s.wlo := by
  unfold matB at h
  rw [renK_eq] at h
  simp only [Bool.and_eq_true] at h
  obtain ⟨⟨h1, h2, h3, h4⟩, h5, h6, h7⟩ := h
  refine ⟨⟨Nat.eq_of_beq_eq_true h4, fun p B hB => ?_⟩, Nat.le_of_ble_eq_true h1, Nat.eq_of_beq_eq_true h3⟩
  have hb := heapE_true h7 hB
  rw [Nat.one_mul, Nat.add_zero] at hb
  obtain ⟨e1, e2, _⟩ := blkE_true hb
  exact ⟨e2, e1⟩
/-- WHAT IS KNOWN, below a ceiling. -/
structure Kn (N m n0 : Nat) (w0 : World) (t : Ts) (s : St) (ρ : Rho) (ν : Nu) (a : Act) (w : World) : Prop where
  unm : ∀ id : Pth, s.cnt ≤ id.nat → id.nat < N → ν id = none
  mt : MT m ν ρ t a
  dfr : a.defers = []
  mw : MW n0 w0 ν ρ s.h s.wlo w
/-- A STATE THAT STANDS FOR ANOTHER ONE. -/
theorem mat_sound {base : Nat} {rl : List (Pth × Pth)} {sg : Sg} {tp t : Ts} {sp s : St} (h : matB base rl sg tp sp t s = true) {N m n0 : Nat} {w0 : World} {ρ ρ' : Rho} {ν : Nu} {a : Act} {w : World} (A : Kn N m n0 w0 t s ρ ν a w)
    (hs : Num s) (hN : sp.cnt ≤ N) (hr : RhoIs ρ ρ' sg) (hg : ρ'.gl = ρ.gl) (hm : ρ'.mem = ρ.mem) :
    ∃ ν', (∀ id : Pth, id.nat < base ∨ N ≤ id.nat → ν' id = ν id) ∧ Kn N m n0 w0 tp sp ρ' ν' a w := by
  unfold matB at h
  rw [renK_eq] at h
  simp only [Bool.and_eq_true] at h
  obtain ⟨⟨h1, h2, h3, h4⟩, h5, h6, h7⟩ := h
  have h1 : base ≤ sp.cnt := Nat.le_of_ble_eq_true h1
  have h2 : 0 < base := Nat.le_of_ble_eq_true h2
  have h3 := Nat.eq_of_beq_eq_true h3
  obtain ⟨r1, r2⟩ := rensE_true h5
  have rkey : ∀ {p q : Pth}, (renT rl).get p = some q → base ≤ p.nat ∧ p.nat < sp.cnt ∧ freeE (renT rl) sp.heap q = true := fun hq => r1 _ (renT_get hq)
  have rN : ∀ id : Pth, id.nat < base → (renT rl).get id = none := fun id hid => by
    cases hq : (renT rl).get id with
    | none => rfl
    | some q => have := (rkey hq).1; omega
  have hblk : ∀ {p : Pth} {B : Blk}, sp.heap.get p = some B → B.no = p.nat ∧ p.nat < sp.cnt ∧ ∃ (q : Pth) (C : Blk) (b k : Nat), s.heap.get q = some C ∧ bkE sg (renT rl) sp.cnt B.k C.k = true ∧ ν q = some (b, k) ∧ nuR (renT rl) sp.cnt N ν p = some (b, k) ∧ b < w.heap.size ∧ BR ν ρ k w.heap[b]? C.k ∧
      (((renT rl).get p = none ∧ q = p) ∨ ((renT rl).get p = some q ∧ s.wlo ≤ C.no)) := by
    intro p B hB
    have hb := heapE_true h7 hB
    rw [Nat.one_mul, Nat.add_zero] at hb
    obtain ⟨e1, e2, e3⟩ := blkE_true hb
    refine ⟨e1, e2, ?_⟩
    rcases e3 with ⟨f1, C, f2, f3⟩ | ⟨q, C, f1, f2, f4, f3⟩
    · obtain ⟨b, k, g1, g2, g3⟩ := A.mw.blk p C f2
      refine ⟨p, C, b, k, f2, f3, g1, ?_, g2, g3, .inl ⟨f1, rfl⟩⟩
      unfold nuR
      rw [f1]
      simp only [e2, true_or, if_true]
      exact g1
    · obtain ⟨b, k, g1, g2, g3⟩ := A.mw.blk q C f2
      refine ⟨q, C, b, k, f2, f3, g1, ?_, g2, g3, .inr ⟨f1, f4⟩⟩
      unfold nuR
      rw [f1]
      exact g1
  refine ⟨nuR (renT rl) sp.cnt N ν, fun id hid => ?_, ⟨fun id hid hlt => ?_, ⟨A.mt.1, fun p v hp => ?_, fun n hn => ?_⟩, A.dfr, ⟨A.mw.below, A.mw.le, fun p B hB => ?_, fun p p' B B' b n n' hB hB' hd hd' hv hv' => ?_, fun p B b n hB hd hv hw => ?_, fun b o hb => A.mw.mem b o (by rw [← hm]; exact hb)⟩⟩⟩
  · unfold nuR
    have hnone : (renT rl).get id = none := by
      rcases hid with hid | hid
      · exact rN id hid
      · cases hq : (renT rl).get id with
        | none => rfl
        | some q =>
          exfalso
          have := (rkey hq).2.1; omega
    rw [hnone]
    have : id.nat < sp.cnt ∨ N ≤ id.nat := by omega
    simp only [this, if_true]
  · have hnone : (renT rl).get id = none := by
      cases hq : (renT rl).get id with
      | none => rfl
      | some q =>
        exfalso
        have := (rkey hq).2.1; omega
    unfold nuR
    rw [hnone]
    have : ¬ (id.nat < sp.cnt ∨ N ≤ id.nat) := by omega
    simp only [this, if_false]
  · obtain ⟨u, hu, hav⟩ := tempsE_true h6 hp
    obtain ⟨y, hy, ry⟩ := A.mt.2.1 _ _ hu
    exact ⟨y, hy, avE_true hr hm hav ry⟩
  · have e1 := A.mt.2.2 n (by rw [← hg]; exact hn)
    have : nuR (renT rl) sp.cnt N ν .e = ν .e := by
      unfold nuR
      rw [rN .e h2]
      have : (Pth.e).nat < sp.cnt := by show 0 < sp.cnt; omega
      simp only [this, true_or, if_true]
    rw [this]; exact e1
  · obtain ⟨e1, e2, q, C, b, k, f1, f2, f3, f4, f5, f6, _⟩ := hblk hB
    exact ⟨b, k, f4, f5, bkE_true hr f2 f6⟩
  · obtain ⟨_, e2, q, C, b1, k1, f1, f2, f3, f4, f5, f6, f7⟩ := hblk hB
    obtain ⟨_, e2', q', C', b2, k2, f1', f2', f3', f4', f5', f6', f7'⟩ := hblk hB'
    rw [hv] at f4; cases f4
    rw [hv'] at f4'; cases f4'
    have e : q = q' := A.mw.inj q q' C C' _ _ _ f1 f1' (bkE_live f2 hd) (bkE_live f2' hd') f3 f3'
    subst e
    have clash : ∀ {x : Pth} {X : Blk}, sp.heap.get x = some X → X.k ≠ .dead → (renT rl).get x = none → freeE (renT rl) sp.heap x = true → False := by
      intro x X hX hXd hx hf
      unfold freeE at hf
      rw [hX, hx] at hf
      have hf : (!liveB X.k || false) = true := hf
      have : liveB X.k = true := by
        cases hk : X.k <;> first | rfl | exact absurd hk hXd
      rw [this] at hf; cases hf
    rcases f7 with ⟨g1, g2⟩ | ⟨g1, g2⟩ <;> rcases f7' with ⟨g1', g2'⟩ | ⟨g1', g2'⟩
    · rw [← g2, ← g2']
    · subst g2
      exact (clash hB hd g1 (rkey g1').2.2).elim
    · subst g2'
      exact (clash hB' hd' g1' (rkey g1).2.2).elim
    · rcases r2 _ (renT_get g1) _ (renT_get g1') rfl with x | x
      · exact x
      · exact (Prod.mk.inj x).1
  · obtain ⟨e1, e2, q, C, b1, k1, f1, f2, f3, f4, f5, f6, f7⟩ := hblk hB
    rw [hv] at f4; cases f4
    rcases f7 with ⟨g1, g2⟩ | ⟨g1, g2⟩
    · subst g2
      refine A.mw.own q C b n f1 (bkE_live f2 hd) f3 ?_
      have := (hs.no q C f1).2
      rw [this, ← h3, ← e1]; exact hw
    · exact A.mw.own q C b n f1 (bkE_live f2 hd) f3 g2
end Go.Rsf
