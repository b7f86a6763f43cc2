/- An executor over a program's operations: its operations, and how it carries them out. Conditions: none. -/
import Derived.Test.YtjodpodmeobciaaGreatDoorVA
namespace Go.Rsf
set_option linter.unusedVariables false

inductive XA where
  | t (p : Pth)
  | c (v : AV)
structure XP where
  off : Nat
  size : Nat
  x : XA
inductive AOp where | add | sub | mul | quo | rem | and | or | andNot
inductive COp where | eql | neq | lss | leq | gtr | geq
inductive EK where | b | s | p | l | f | m
inductive XOp where
  | mov (a : XA)
  | nck (a : XA)
  | pick (c a b : XA)
  | alloc (zs : List Cell)
  | box (a : XA)
  | build (zs : List Cell) (ps : List XP)
  | bsl (zs : List Cell) (n : Nat) (ps : List XP)
  | ld1 (a : XA)
  | ldn (a : XA) (n : Nat)
  | st (a v : XA) (n : Nat)
  | ar (op : AOp) (x y : XA)
  | sh (left : Bool) (x y : XA)
  | cmp (op : COp) (x y : XA)
  | eqv (ek : EK) (neg : Bool) (x y : XA)
  | not (x : XA)
  | neg (x : XA)
  | conv (k : IntKind) (x : XA)
  | mkf (f : Nat) (first cap : List XA)
  | fad (x : XA) (off : Nat)
  | fld1 (x : XA) (off : Nat)
  | fldn (x : XA) (off n : Nat)
  | ixa (x i : XA) (len size : Nat)
  | ixs (x i : XA) (size : Nat)
  | sla (x : XA) (lo hi mx : Option XA) (n size : Nat)
  | sls (x : XA) (lo hi mx : Option XA) (size : Nat)
  | ext (x : XA) (i : Nat)
  | len (x : XA)
  | cap (x : XA)
  | app (s x : XA) (size : Nat)
  | cpy (d s : XA) (size : Nat)
  | clr (x : XA) (zs : List Cell)
  | mm (max : Bool) (x : XA) (xs : List XA)
  | mks (zs : List Cell) (l c : XA)
  | call (f : Nat) (p : Pth) (args : List XA) (quiet : Bool)
  | callv (x : XA) (args : List XA) (quiet : Bool)
  | no
  | mkm
  | eqg (neg : Bool) (ks : List Bool) (x y : XA)
  | mlk (m k : XA) (z : Comp) (ok : Bool)
  | mup (m k v : XA)
  | mdl (m k : XA)
structure XO where
  g : Option (Pth × Bool)
  d : Option Pth
  op : XOp
inductive XCode where
  | skip
  | region (ops : List XO)
  | draw (ops : List XO) (pairs : List (XA × XA))
  | seq (a b : XCode)
  | cond (c : XA) (a b : XCode)
  | block (id : Nat) (b : XCode)
  | loop (b : XCode)
  | exit (id : Nat)
  | ret
inductive XR where
  | t (p : Pth)
  | c1 (p : Pth)
  | cn (p : Pth) (n : Nat)
structure XFn where
  n : Nat
  body : XCode
  res : List XR
abbrev CK := Nat → Pth → List AV → St → KVS → Bool

noncomputable section
def evK : XA → Ts → KV → Bool := @XA.rec (fun _ => Ts → KV → Bool) (fun p t k => getK p t k) (fun v _ k => k v)
def ev1K (a : XA) (t : Ts) (k : Cell → Bool) : Bool := evK a t fun v => isOne v k
def evsK : List XA → Ts → (List AV → Bool) → Bool :=
  @List.rec XA (fun _ => Ts → (List AV → Bool) → Bool) (fun _ k => k []) (fun a _ ih t k => evK a t fun v => ih t fun l => k (v :: l))
def evPK : List XA → Ts → (List (Pth × Nat) → Bool) → Bool :=
  @List.rec XA (fun _ => Ts → (List (Pth × Nat) → Bool) → Bool) (fun _ k => k []) (fun a _ ih t k => ev1K a t fun x => isPtr x fun id off => ih t fun l => k ((id, off) :: l))
def succK : Pth → (Pth → Bool) → Bool := @Pth.rec (fun _ => (Pth → Bool) → Bool) (fun k => k (.z .e)) (fun p _ k => k (.s p)) (fun _ ih k => ih fun q => k (.z q))
def compK : Comp → (List Cell → Bool) → Bool := @Comp.rec (fun _ => (List Cell → Bool) → Bool) (fun x k => k [x]) (fun l k => k l)
def isRow : Bk → (Bool → List Cell → Bool) → Bool := @Bk.rec (fun _ => (Bool → List Cell → Bool) → Bool) (fun op l k => k op l) (fun _ _ => false) (fun _ => false) (fun _ _ => false)
/-- .. that may be read alone. -/
def isRd : Bk → (List Cell → Bool) → Bool := @Bk.rec (fun _ => (List Cell → Bool) → Bool) (fun _ l k => k l) (fun _ _ => false) (fun _ => false) (fun l k => k l)
def lenIs : List Cell → Nat → Bool → Bool :=
  @List.rec Cell (fun _ => Nat → Bool → Bool) (fun n r => @Nat.rec (fun _ => Bool → Bool) (fun r => r) (fun _ _ _ => false) n r)
    (fun _ _ ih n r => @Nat.rec (fun _ => (Nat → Bool → Bool) → Bool → Bool) (fun _ _ => false) (fun m _ ih r => ih m r) n ih r)
/-- A new block. -/
def newF (heap : Tr Blk) (next : Pth) (cnt wlo : Nat) (iv : List Iv) (b : Bk) (k : Pth → St → Bool) : Bool :=
  setK next heap ⟨cnt, b⟩ fun h => succK next fun nx => natK (Nat.succ cnt) fun c => k next ⟨h, nx, c, wlo, iv⟩
def newK (b : Bk) (s : St) (k : Pth → St → Bool) : Bool := @St.rec (fun _ => Bk → (Pth → St → Bool) → Bool) newF s b k
def rowF (id : Pth) (k : Nat → Bool → List Cell → Bool) (heap : Tr Blk) (next : Pth) (cnt wlo : Nat) (iv : List Iv) : Bool :=
  getK id heap fun B => isRow B.k fun op l => k B.no op l
/-- The cells of a block. -/
def rowK (id : Pth) (s : St) (k : Nat → Bool → List Cell → Bool) : Bool := @St.rec (fun _ => Bool) (rowF id k) s
def rdF (id : Pth) (k : List Cell → Bool) (heap : Tr Blk) (next : Pth) (cnt wlo : Nat) (iv : List Iv) : Bool :=
  getK id heap fun B => isRd B.k fun l => k l
/-- The cells of a block that is read. -/
def rdK (id : Pth) (s : St) (k : List Cell → Bool) : Bool := @St.rec (fun _ => Bool) (rdF id k) s
def putF (id : Pth) (b : Bk) (no : Nat) (k : St → Bool) (heap : Tr Blk) (next : Pth) (cnt wlo : Nat) (iv : List Iv) : Bool :=
  guardK (Nat.ble wlo no) (setK id heap ⟨no, b⟩ fun h => k ⟨h, next, cnt, wlo, iv⟩)
/-- A block of the call's own is given other cells. -/
def putBK (id : Pth) (no : Nat) (b : Bk) (s : St) (k : St → Bool) : Bool := @St.rec (fun _ => Bool) (putF id b no k) s
/-- cs is laid over a row's cells. -/
def storeK (id : Pth) (off : Nat) (cs : List Cell) (s : St) (k : St → Bool) : Bool :=
  rowK id s fun no op l => putK l off cs fun l' => putBK id no (.row op l') s k
def loadK (id : Pth) (off n : Nat) (s : St) (k : List Cell → Bool) : Bool :=
  rowK id s fun _ _ l => dropK l off fun r => takeK n r k
def partsK : List XP → Ts → List Cell → (List Cell → Bool) → Bool :=
  @List.rec XP (fun _ => Ts → List Cell → (List Cell → Bool) → Bool) (fun _ acc k => k acc)
    (fun p _ ih t acc k => evK p.x t fun v => isComp v fun c => compK c fun cs => lenIs cs p.size (putK acc p.off cs fun acc => ih t acc k))

/-! ### Numbers -/
def kindB (a b : IntKind) : Bool :=
  @IntKind.rec (fun _ => Bool) (@IntKind.rec (fun _ => Bool) true false false false false false false false b) (@IntKind.rec (fun _ => Bool) false true false false false false false false b)
    (@IntKind.rec (fun _ => Bool) false false true false false false false false b) (@IntKind.rec (fun _ => Bool) false false false true false false false false b)
    (@IntKind.rec (fun _ => Bool) false false false false true false false false b) (@IntKind.rec (fun _ => Bool) false false false false false true false false b)
    (@IntKind.rec (fun _ => Bool) false false false false false false true false b) (@IntKind.rec (fun _ => Bool) false false false false false false false true b) a
def ileB (a b : Int) : Bool :=
  @Int.rec (fun _ => Int → Bool) (fun m b => @Int.rec (fun _ => Bool) (fun n => Nat.ble m n) (fun _ => false) b) (fun m b => @Int.rec (fun _ => Bool) (fun _ => true) (fun n => Nat.ble n m) b) a b
def ieqB (a b : Int) : Bool :=
  @Int.rec (fun _ => Int → Bool) (fun m b => @Int.rec (fun _ => Bool) (fun n => Nat.beq m n) (fun _ => false) b) (fun m b => @Int.rec (fun _ => Bool) (fun _ => false) (fun n => Nat.beq n m) b) a b
/-- The greatest and the least of a kind. -/
def kmax (k : IntKind) : Int := @IntKind.rec (fun _ => Int) (Int.ofNat 127) (Int.ofNat 32767) (Int.ofNat 2147483647) (Int.ofNat 9223372036854775807) (Int.ofNat 255) (Int.ofNat 65535) (Int.ofNat 4294967295) (Int.ofNat 18446744073709551615) k
def kmin (k : IntKind) : Int := @IntKind.rec (fun _ => Int) (Int.negSucc 127) (Int.negSucc 32767) (Int.negSucc 2147483647) (Int.negSucc 9223372036854775807) (Int.ofNat 0) (Int.ofNat 0) (Int.ofNat 0) (Int.ofNat 0) k
def inB (k : IntKind) (n : Int) : Bool := @Bool.rec (fun _ => Bool) false (ileB n (kmax k)) (ileB (kmin k) n)
def wrapK (k : IntKind) (n : Int) (f : Int → Bool) : Bool := intK n fun n => @Bool.rec (fun _ => Bool) (intK (k.wrap n) f) (f n) (inB k n)
/-- Bits of numbers that are not below nought. -/
def bitK (f : Nat → Nat → Nat) (k : IntKind) (a b : Int) (r : Int → Bool) : Bool :=
  @Int.rec (fun _ => Bool) (fun m => @Int.rec (fun _ => Bool) (fun n => guardK (inB k (Int.ofNat m)) (guardK (inB k (Int.ofNat n)) (natK (f m n) fun x => guardK (inB k (Int.ofNat x)) (r (Int.ofNat x))))) (fun _ => false) b) (fun _ => false) a
def notAnd (m n : Nat) : Nat := Nat.xor m (Nat.land m n)
def arithK (op : AOp) (k : IntKind) (a b : Int) (f : Int → Bool) : Bool :=
  @AOp.rec (fun _ => Bool) (wrapK k (Int.add a b) f) (wrapK k (Int.sub a b) f) (wrapK k (Int.mul a b) f)
    (@Bool.rec (fun _ => Bool) (wrapK k (Int.tdiv a b) f) false (ieqB b (Int.ofNat 0))) (@Bool.rec (fun _ => Bool) (intK (Int.tmod a b) f) false (ieqB b (Int.ofNat 0)))
    (bitK Nat.land k a b f) (bitK Nat.lor k a b f) (bitK notAnd k a b f) op
def cmpB (op : COp) (a b : Int) : Bool :=
  @COp.rec (fun _ => Bool) (ieqB a b) (Bool.not (ieqB a b)) (Bool.not (ileB b a)) (ileB a b) (Bool.not (ileB a b)) (ileB b a) op
def shlK (k : IntKind) (m n : Nat) (f : Int → Bool) : Bool := guardK (Nat.ble n k.bits) (wrapK k (Int.ofNat (Nat.mul m (Nat.pow 2 n))) f)
def shrK (k : IntKind) (m n : Nat) (f : Int → Bool) : Bool := guardK (Nat.ble n k.bits) (intK (Int.ofNat (Nat.div m (Nat.pow 2 n))) f)

/-! ### The operations -/
def movF (a : XA) (t : Ts) (s : St) (k : KVS) : Bool := evK a t fun v => k v s
/-- A pointer or a function that is none: no. -/
def someK : Cell → Bool → Bool :=
  @Cell.rec (fun _ => Bool → Bool) (fun _ => false) (fun _ _ _ => false) (fun _ _ _ _ _ => false) (fun _ _ => false) (fun _ _ => false) (fun _ => false) (fun _ _ r => r) (fun _ => false) (fun _ _ _ _ _ => false) (fun _ _ _ _ _ => false) (fun _ => false) (fun _ => false) (fun _ _ _ r => r) (fun _ => false) (fun _ _ => false) (fun _ _ _ _ _ => false)
def nckF (a : XA) (t : Ts) (s : St) (k : KVS) : Bool := evK a t fun v => isOne v fun x => someK x (k v s)
def pickF (c a b : XA) (t : Ts) (s : St) (k : KVS) : Bool := ev1K c t fun x => isBoo x fun y => @Bool.rec (fun _ => Bool) (evK b t fun v => k v s) (evK a t fun v => k v s) y
def allocF (zs : List Cell) (t : Ts) (s : St) (k : KVS) : Bool := newK (.row false zs) s fun id s => k (.v (.one (.ptr id 0))) s
def boxF (a : XA) (t : Ts) (s : St) (k : KVS) : Bool := evK a t fun v => isComp v fun c => compK c fun cs => newK (.row false cs) s fun id s => k (.v (.one (.ptr id 0))) s
def buildF (zs : List Cell) (ps : List XP) (t : Ts) (s : St) (k : KVS) : Bool := partsK ps t zs fun cs => k (.v (.agg cs)) s
def bslF (zs : List Cell) (n : Nat) (ps : List XP) (t : Ts) (s : St) (k : KVS) : Bool := partsK ps t zs fun cs => newK (.row false cs) s fun id s => k (.v (.one (.sl id 0 n n))) s
def nthIv : List Iv → Nat → (Iv → Bool) → Bool :=
  @List.rec Iv (fun _ => Nat → (Iv → Bool) → Bool) (fun _ _ => false)
    (fun x _ ih n => @Nat.rec (fun _ => Iv → (Nat → (Iv → Bool) → Bool) → (Iv → Bool) → Bool) (fun x _ k => k x) (fun m _ _ ih k => ih m k) n x ih)
/-- A number whose symbol is known is that number; so is a row's length. -/
def normK (iv : List Iv) (c : Cell) : (Cell → Bool) → Bool :=
  @Cell.rec (fun _ => (Cell → Bool) → Bool) (fun k => k .any) (fun kd n k => k (.int kd n))
    (fun kd a sy e k => nthIv iv sy fun x => @Bool.rec (fun _ => Bool) (k (.lin kd a sy e)) (intK (Int.add (Int.mul a x.lo) e) fun n => k (.int kd n)) (ieqB x.lo x.hi))
    (fun b k => k (.bool b)) (fun l k => k (.str l)) (fun k => k .nilp) (fun id off k => k (.ptr id off)) (fun k => k .nils) (fun id off len cap k => k (.sl id off len cap)) (fun id off len sz k => k (.slU id off len sz)) (fun k => k .sl0) (fun k => k .nilf)
    (fun f a b k => k (.fn f a b)) (fun k => k .nilm) (fun id k => k (.map id))
    (fun id off sy sz k => nthIv iv sy fun x => @Bool.rec (fun _ => Bool) (k (.slL id off sy sz)) (@Int.rec (fun _ => Bool) (fun n => k (.slU id off n sz)) (fun _ => false) x.lo) (ieqB x.lo x.hi)) c
def ld1F (a : XA) (t : Ts) (s : St) (k : KVS) : Bool :=
  evK a t fun v => inPK v (fun kd e => k (.v (.one (.lin kd (Int.ofNat 1) e (Int.ofNat 0)))) s) (isOne v fun x => isPtr x fun id off => rdK id s fun l => nthK l off fun c => normK s.iv c fun c => k (.v (.one c)) s)
def ldnF (a : XA) (n : Nat) (t : Ts) (s : St) (k : KVS) : Bool := ev1K a t fun x => isPtr x fun id off => loadK id off n s fun l => k (.v (.agg l)) s
def stF (a v : XA) (n : Nat) (t : Ts) (s : St) (k : KVS) : Bool :=
  ev1K a t fun x => isPtr x fun id off => evK v t fun v => isComp v fun c => compK c fun cs => lenIs cs n (storeK id off cs s fun s => k .unk s)
def setIvK : List Iv → Nat → Iv → (List Iv → Bool) → Bool :=
  @List.rec Iv (fun _ => Nat → Iv → (List Iv → Bool) → Bool) (fun _ _ _ => false)
    (fun x xs ih n => @Nat.rec (fun _ => Iv → List Iv → (Nat → Iv → (List Iv → Bool) → Bool) → Iv → (List Iv → Bool) → Bool) (fun _ xs _ y k => k (y :: xs)) (fun m _ x _ ih y k => ih m y fun l => k (x :: l)) n x xs ih)
def setIvF (iv : List Iv) (heap : Tr Blk) (next : Pth) (cnt wlo : Nat) (_iv : List Iv) : St := ⟨heap, next, cnt, wlo, iv⟩
def St.setIv (s : St) (iv : List Iv) : St := @St.rec (fun _ => St) (setIvF iv) s
/-- A line that stays within its kind. -/
def linK (iv : List Iv) (k : IntKind) (a : Int) (sy : Nat) (c : Int) (f : Cell → Bool) : Bool :=
  intK a fun a => intK c fun c => nthIv iv sy fun x => guardK (inB k (Int.add (Int.mul a x.lo) c)) (guardK (inB k (Int.add (Int.mul a x.hi) c)) (f (.lin k a sy c)))
/-- The rest of a line in a symbol, by a number that its factor is a multiple of; the rest of a symbol, which the next symbol is. -/
def remLin (iv : List Iv) (k : IntKind) (a : Int) (sy : Nat) (c n : Int) (f : Cell → Bool) : Bool :=
  @Bool.rec (fun _ => Bool)
    (nthIv iv sy fun x => guardK (ileB (Int.ofNat 0) x.lo) (@Int.rec (fun _ => Bool) (fun a => @Int.rec (fun _ => Bool) (fun c => @Int.rec (fun _ => Bool) (fun n => guardK (Nat.beq (Nat.mod a n) 0) (guardK (Nat.blt c n) (f (.int k (Int.ofNat c))))) (fun _ => false) n) (fun _ => false) c) (fun _ => false) a))
    (guardK (ieqB c (Int.ofNat 0)) (nthIv iv (Nat.succ sy) fun y => guardK (Nat.blt 0 y.md) (guardK (Nat.blt y.md LT) (guardK (ieqB n (Int.ofNat y.md)) (f (.lin k (Int.ofNat 1) (Nat.succ sy) (Int.ofNat 0)))))))
    (ieqB a (Int.ofNat 1))
/-- How a symbol is made: is it so? -/
def mdB (kd x y md : Nat) : Bool := Bool.and (Nat.blt LT md) (Bool.and (Nat.beq (Nat.mod (Nat.mod md LT) 8) kd) (Bool.and (Nat.beq (Nat.mod (Nat.div (Nat.mod md LT) 8) 256) x) (Nat.beq (Nat.div (Nat.mod md LT) 2048) y)))
def mdKB (kd md : Nat) : Bool := Bool.and (Nat.blt LT md) (Nat.beq (Nat.mod (Nat.mod md LT) 8) kd)
/-- The bit of a number that has one, from j on: it is not among those of the word. -/
def bitFind (iv : List Iv) (base : Nat) (n : Int) (r : Bool) : Nat → Bool :=
  @Nat.rec (fun _ => Bool) false (fun j ih => @Bool.rec (fun _ => Bool) ih (nthIv iv (Nat.add base j) fun x => guardK (ieqB x.lo (Int.ofNat 0)) (guardK (ieqB x.hi (Int.ofNat 0)) r)) (ieqB n (Int.ofNat (Nat.pow 2 j))))
/-- One bit more in a word. -/
def orBit (iv : List Iv) (k : IntKind) (a : Int) (sy : Nat) (c n : Int) (f : Cell → Bool) : Bool :=
  guardK (ieqB a (Int.ofNat 1)) (guardK (ieqB c (Int.ofNat 0)) (nthIv iv sy fun x => guardK (mdKB 4 x.md) (bitFind iv (Nat.mod (Nat.div (Nat.mod x.md LT) 8) 256) n (linK iv k (Int.ofNat 1) sy n f) 15)))
def linOp (op : AOp) (iv : List Iv) (k : IntKind) (a : Int) (sy : Nat) (c n : Int) (f : Cell → Bool) : Bool :=
  @AOp.rec (fun _ => Bool) (linK iv k a sy (Int.add c n) f) (linK iv k a sy (Int.sub c n) f) false false (remLin iv k a sy c n f) false (orBit iv k a sy c n f) false op
def intOp (op : AOp) (iv : List Iv) (k : IntKind) (m a : Int) (sy : Nat) (c : Int) (f : Cell → Bool) : Bool :=
  @AOp.rec (fun _ => Bool) (linK iv k a sy (Int.add m c) f) (linK iv k (Int.sub (Int.ofNat 0) a) sy (Int.sub m c) f) false false false (guardK (ieqB m (Int.ofNat 0)) (guardK (ieqB (kmin k) (Int.ofNat 0)) (linK iv k a sy c fun _ => f (.int k (Int.ofNat 0))))) (guardK (ieqB m (Int.ofNat 0)) (guardK (ieqB (kmin k) (Int.ofNat 0)) (linK iv k a sy c f))) false op
/-- The bits that two symbols have in common: the symbol that is made so. -/
def andSy (iv : List Iv) (k : IntKind) (a : Int) (sy : Nat) (c b : Int) (sz : Nat) (d : Int) (f : Cell → Bool) : Bool :=
  guardK (ieqB a (Int.ofNat 1)) (guardK (ieqB c (Int.ofNat 0)) (guardK (ieqB b (Int.ofNat 1)) (guardK (ieqB d (Int.ofNat 0)) (guardK (ieqB (kmin k) (Int.ofNat 0))
    (nthIv iv sy fun x => nthIv iv sz fun y => guardK (inB k x.lo) (guardK (inB k x.hi) (guardK (inB k y.lo) (guardK (inB k y.hi) (nthIv iv (Nat.add sz 16) fun z => guardK (mdB 0 sy sz z.md) (linK iv k (Int.ofNat 1) (Nat.add sz 16) (Int.ofNat 0) f))))))))))
/-- The least bit of a word: each that it may be. -/
def lowK (base : Nat) (k : List Iv → Int → Bool) : Nat → Nat → List Iv → Bool :=
  @Nat.rec (fun _ => Nat → List Iv → Bool) (fun _ iv => k iv (Int.ofNat 32768))
    (fun _ ih p iv => nthIv iv (Nat.add base p) fun x => guardK (@Bool.rec (fun _ => Bool) true (setIvK iv (Nat.add base p) ⟨Int.ofNat 1, Int.ofNat 1, x.md⟩ fun iv => natK (Nat.pow 2 p) fun n => k iv (Int.ofNat n)) (ileB (Int.ofNat 1) x.hi))
      (@Bool.rec (fun _ => Bool) true (setIvK iv (Nat.add base p) ⟨Int.ofNat 0, Int.ofNat 0, x.md⟩ fun iv => natK (Nat.succ p) fun p => ih p iv) (ileB x.lo (Int.ofNat 0))))
def andLow (s : St) (k : IntKind) (a : Int) (sy : Nat) (c b : Int) (d : Int) (f : KVS) : Bool :=
  guardK (kindB k .u64) (guardK (ieqB a (Int.ofNat 1)) (guardK (ieqB c (Int.ofNat 0)) (guardK (ieqB b (Int.negSucc 0)) (guardK (ieqB d (Int.ofNat 18446744073709551616)) (nthIv s.iv sy fun x => guardK (mdKB 4 x.md)
    (lowK (Nat.mod (Nat.div (Nat.mod x.md LT) 8) 256) (fun iv n => f (.v (.one (.int k n))) (s.setIv iv)) 15 0 s.iv))))))
def llOp (op : AOp) (s : St) (k : IntKind) (a : Int) (sy : Nat) (c b : Int) (sz : Nat) (d : Int) (f : KVS) : Bool :=
  @AOp.rec (fun _ => Bool) false false false false false (@Bool.rec (fun _ => Bool) (andSy s.iv k a sy c b sz d fun r => f (.v (.one r)) s) (andLow s k a sy c b d f) (Nat.beq sy sz)) false false op
def arF (op : AOp) (x y : XA) (t : Ts) (s : St) (k : KVS) : Bool :=
  ev1K x t fun a => ev1K y t fun b => numK a
    (fun ka m => numK b (fun kb n => guardK (kindB ka kb) (arithK op ka m n fun r => k (.v (.one (.int ka r))) s)) (fun kb a sy c => guardK (kindB ka kb) (intOp op s.iv ka m a sy c fun r => k (.v (.one r)) s)))
    (fun ka a sy c => numK b (fun kb n => guardK (kindB ka kb) (nthIv s.iv sy fun x => @Bool.rec (fun _ => Bool) (linOp op s.iv ka a sy c n fun r => k (.v (.one r)) s)
      (intK (Int.add (Int.mul a x.lo) c) fun m => arithK op ka m n fun r => k (.v (.one (.int ka r))) s) (ieqB x.lo x.hi)))
      fun kb b sz d => guardK (kindB ka kb) (llOp op s ka a sy c b sz d k))
def shF (left : Bool) (x y : XA) (t : Ts) (s : St) (k : KVS) : Bool :=
  ev1K x t fun a => ev1K y t fun b => isInt b fun kb n => numK a (fun ka m =>
    @Int.rec (fun _ => Bool) (fun m => @Int.rec (fun _ => Bool) (fun n => @Bool.rec (fun _ => Bool) (shrK ka m n fun r => k (.v (.one (.int ka r))) s) (shlK ka m n fun r => k (.v (.one (.int ka r))) s) left) (fun _ => false) n) (fun _ => false) m)
    (fun ka a sy c => guardK (ieqB n (Int.ofNat 0)) (linK s.iv ka a sy c fun r => k (.v (.one r)) s))
def iminB (a b : Int) : Int := @Bool.rec (fun _ => Int) b a (ileB a b)
def imaxB (a b : Int) : Int := @Bool.rec (fun _ => Int) a b (ileB a b)
/-- One side of a test of a symbol: between these numbers it lies then, if there are any. -/
def brK (s : St) (sy md : Nat) (k : KVS) (r : Bool) (lo hi : Int) : Bool :=
  intK lo fun lo => intK hi fun hi => @Bool.rec (fun _ => Bool) true (setIvK s.iv sy ⟨lo, hi, md⟩ fun iv => k (.v (.one (.bool r))) (s.setIv iv)) (ileB lo hi)
def ltF (s : St) (sy : Nat) (k : KVS) (x : Iv) (r r' : Bool) (b : Int) : Bool :=
  guardK (brK s sy x.md k r x.lo (iminB x.hi (Int.sub b (Int.ofNat 1)))) (brK s sy x.md k r' (imaxB x.lo b) x.hi)
def eqF (s : St) (sy : Nat) (k : KVS) (x : Iv) (r r' : Bool) (b : Int) : Bool :=
  guardK (brK s sy x.md k r' x.lo (iminB x.hi (Int.sub b (Int.ofNat 1)))) (guardK (brK s sy x.md k r (imaxB x.lo b) (iminB x.hi b)) (brK s sy x.md k r' (imaxB x.lo (Int.add b (Int.ofNat 1))) x.hi))
def forkK (op : COp) (s : St) (sy : Nat) (b : Int) (k : KVS) : Bool :=
  intK b fun b => nthIv s.iv sy fun x => @COp.rec (fun _ => Bool) (eqF s sy k x true false b) (eqF s sy k x false true b) (ltF s sy k x true false b) (ltF s sy k x true false (Int.add b (Int.ofNat 1))) (ltF s sy k x false true (Int.add b (Int.ofNat 1))) (ltF s sy k x false true b) op
def flipC (op : COp) : COp := @COp.rec (fun _ => COp) .eql .neq .gtr .geq .lss .leq op
/-- One side of a test of two symbols. -/
def br2K (s : St) (k : KVS) (r : Bool) (x : Nat) (mx : Nat) (lx hx : Int) (y : Nat) (my : Nat) (ly hy : Int) : Bool :=
  intK lx fun lx => intK hx fun hx => intK ly fun ly => intK hy fun hy => @Bool.rec (fun _ => Bool) true
    (@Bool.rec (fun _ => Bool) true (setIvK s.iv x ⟨lx, hx, mx⟩ fun iv => setIvK iv y ⟨ly, hy, my⟩ fun iv => k (.v (.one (.bool r))) (s.setIv iv)) (ileB ly hy)) (ileB lx hx)
/-- x + d lies not behind y. -/
def leK (s : St) (k : KVS) (r : Bool) (x : Nat) (X : Iv) (y : Nat) (Y : Iv) (d : Int) : Bool :=
  br2K s k r x (@Bool.rec (fun _ => Nat) X.md LT (Bool.and (Nat.beq X.md 0) (Bool.and (Nat.beq y (Nat.succ x)) (ieqB d (Int.ofNat 1))))) X.lo (iminB X.hi (Int.sub Y.hi d)) y Y.md (imaxB Y.lo (Int.add X.lo d)) Y.hi
/-- Two symbols held against each other: x + c and y + e. -/
def twoK (op : COp) (s : St) (x : Nat) (c : Int) (y : Nat) (e : Int) (k : KVS) : Bool :=
  nthIv s.iv x fun X => nthIv s.iv y fun Y => @COp.rec (fun _ => Bool)
    (guardK (k (.v (.one (.bool true))) s) (k (.v (.one (.bool false))) s)) (guardK (k (.v (.one (.bool true))) s) (k (.v (.one (.bool false))) s))
    (guardK (leK s k true x X y Y (Int.add (Int.sub c e) (Int.ofNat 1))) (leK s k false y Y x X (Int.sub e c)))
    (guardK (leK s k true x X y Y (Int.sub c e)) (leK s k false y Y x X (Int.add (Int.sub e c) (Int.ofNat 1))))
    (guardK (leK s k true y Y x X (Int.add (Int.sub e c) (Int.ofNat 1))) (leK s k false x X y Y (Int.sub c e)))
    (guardK (leK s k true y Y x X (Int.sub e c)) (leK s k false x X y Y (Int.add (Int.sub c e) (Int.ofNat 1)))) op
/-- A test that another symbol tells: r if it is 1, else r'. -/
def tellK (s : St) (sy : Nat) (k : KVS) (r r' : Bool) : Bool :=
  nthIv s.iv sy fun x => guardK (brK s sy x.md k r' x.lo (iminB x.hi (Int.ofNat 0))) (brK s sy x.md k r (imaxB x.lo (Int.ofNat 1)) x.hi)
def eqOnly (op : COp) (r : Bool → Bool) : Bool := @COp.rec (fun _ => Bool) (r true) (r false) false false false false op
def isEq (op : COp) : Bool := @COp.rec (fun _ => Bool) true true false false false false op
/-- Is a test of x against y told by the symbol 16 behind x? -/
def toldB (kd : Nat) (iv : List Iv) (op : COp) (c : Int) (x : Nat) (e : Int) (y : Nat) : Bool :=
  Bool.and (isEq op) (Bool.and (ieqB c (Int.ofNat 0)) (Bool.and (ieqB e (Int.ofNat 0)) (nthIv iv (Nat.add x 16) fun z => mdB kd x y z.md)))
/-- Is x the symbol y, for the symbol ahead of it is 1? -/
def sameB (iv : List Iv) (op : COp) (c : Int) (x : Nat) (e : Int) (y : Nat) : Bool :=
  Bool.and (isEq op) (Bool.and (ieqB c (Int.ofNat 0)) (Bool.and (ieqB e (Int.ofNat 0)) (nthIv iv x fun z => Bool.and (mdB 3 (Nat.sub x 16) y z.md) (nthIv iv (Nat.sub x 16) fun u => Bool.and (ieqB u.lo (Int.ofNat 1)) (ieqB u.hi (Int.ofNat 1))))))
def linlin1 (op : COp) (s : St) (a : Int) (x : Nat) (c : Int) (b : Int) (y : Nat) (e : Int) (k : KVS) : Bool :=
  @Bool.rec (fun _ => Bool)
    (guardK (ieqB a (Int.ofNat 1)) (guardK (ieqB b (Int.ofNat 1)) (guardK (Bool.not (Nat.beq x y)) (twoK op s x c y e k))))
    (boolK (cmpB op c e) fun r => k (.v (.one (.bool r))) s) (Bool.and (Nat.beq x y) (ieqB a b))
def linlin (op : COp) (s : St) (a : Int) (x : Nat) (c : Int) (b : Int) (y : Nat) (e : Int) (k : KVS) : Bool :=
  @Bool.rec (fun _ => Bool) (linlin1 op s a x c b y e k)
    (@Bool.rec (fun _ => Bool)
      (@Bool.rec (fun _ => Bool) (linlin1 op s a x c b y e k) (eqOnly op fun r => k (.v (.one (.bool r))) s) (sameB s.iv op c x e y))
      (eqOnly op fun r => tellK s (Nat.add x 16) k r (Bool.not r)) (toldB 1 s.iv op c x e y)) (Bool.and (ieqB a (Int.ofNat 1)) (ieqB b (Int.ofNat 1)))
/-- A symbol held against a number; it may be told by another symbol whether it is nought. -/
def fork0 (op : COp) (s : St) (sy : Nat) (b : Int) (k : KVS) : Bool :=
  @Bool.rec (fun _ => Bool) (forkK op s sy b k) (eqOnly op fun r => tellK s (Nat.add sy 16) k (Bool.not r) r) (toldB 2 s.iv op b sy (Int.ofNat 0) 0)
def cmpF (op : COp) (x y : XA) (t : Ts) (s : St) (k : KVS) : Bool :=
  ev1K x t fun a => ev1K y t fun b => numK a
    (fun ka m => numK b (fun kb n => guardK (kindB ka kb) (boolK (cmpB op m n) fun r => k (.v (.one (.bool r))) s))
      (fun kb a sy c => guardK (kindB ka kb) (guardK (ieqB a (Int.ofNat 1)) (forkK (flipC op) s sy (Int.sub m c) k))))
    (fun ka a sy c => numK b (fun kb n => guardK (kindB ka kb) (guardK (ieqB a (Int.ofNat 1)) (intK (Int.sub n c) fun d => fork0 op s sy d k)))
      (fun kb b sz e => guardK (kindB ka kb) (linlin op s a sy c b sz e k)))
/-! Is a pointer, a row, a function, a map none? -/
def noneP : Cell → (Bool → Bool) → Bool := @Cell.rec (fun _ => (Bool → Bool) → Bool) (fun _ => false) (fun _ _ _ => false) (fun _ _ _ _ _ => false) (fun _ _ => false) (fun _ _ => false) (fun k => k true) (fun _ _ k => k false) (fun _ => false) (fun _ _ _ _ _ => false) (fun _ _ _ _ _ => false) (fun _ => false) (fun _ => false) (fun _ _ _ _ => false) (fun _ => false) (fun _ _ => false) (fun _ _ _ _ _ => false)
def noneL : Cell → (Bool → Bool) → Bool := @Cell.rec (fun _ => (Bool → Bool) → Bool) (fun _ => false) (fun _ _ _ => false) (fun _ _ _ _ _ => false) (fun _ _ => false) (fun _ _ => false) (fun _ => false) (fun _ _ _ => false) (fun k => k true) (fun _ _ _ _ k => k false) (fun _ _ _ _ k => k false) (fun _ => false) (fun _ => false) (fun _ _ _ _ => false) (fun _ => false) (fun _ _ => false) (fun _ _ _ _ _ => false)
def noneF : Cell → (Bool → Bool) → Bool := @Cell.rec (fun _ => (Bool → Bool) → Bool) (fun _ => false) (fun _ _ _ => false) (fun _ _ _ _ _ => false) (fun _ _ => false) (fun _ _ => false) (fun _ => false) (fun _ _ _ => false) (fun _ => false) (fun _ _ _ _ _ => false) (fun _ _ _ _ _ => false) (fun _ => false) (fun k => k true) (fun _ _ _ k => k false) (fun _ => false) (fun _ _ => false) (fun _ _ _ _ _ => false)
def noneM : Cell → (Bool → Bool) → Bool := @Cell.rec (fun _ => (Bool → Bool) → Bool) (fun _ => false) (fun _ _ _ => false) (fun _ _ _ _ _ => false) (fun _ _ => false) (fun _ _ => false) (fun _ => false) (fun _ _ _ => false) (fun _ => false) (fun _ _ _ _ _ => false) (fun _ _ _ _ _ => false) (fun _ => false) (fun _ => false) (fun _ _ _ _ => false) (fun k => k true) (fun _ k => k false) (fun _ _ _ _ _ => false)
def eqN (no : Cell → (Bool → Bool) → Bool) (a b : Cell) (k : Bool → Bool) : Bool := no a fun x => no b fun y => @Bool.rec (fun _ => Bool) (@Bool.rec (fun _ => Bool) false (k false) y) (@Bool.rec (fun _ => Bool) (k false) (k true) y) x
def eqB (a b : Cell) (k : Bool → Bool) : Bool := isBoo a fun x => isBoo b fun y => @Bool.rec (fun _ => Bool) (@Bool.rec (fun _ => Bool) (k true) (k false) y) (@Bool.rec (fun _ => Bool) (k false) (k true) y) x
def isStr : Cell → (List Nat → Bool) → Bool :=
  @Cell.rec (fun _ => (List Nat → Bool) → Bool) (fun _ => false) (fun _ _ _ => false) (fun _ _ _ _ _ => false) (fun _ _ => false) (fun s k => k s) (fun _ => false) (fun _ _ _ => false) (fun _ => false) (fun _ _ _ _ _ => false) (fun _ _ _ _ _ => false) (fun _ => false) (fun _ => false) (fun _ _ _ _ => false) (fun _ => false) (fun _ _ => false) (fun _ _ _ _ _ => false)
def strB : List Nat → List Nat → Bool :=
  @List.rec Nat (fun _ => List Nat → Bool) (fun l => @List.rec Nat (fun _ => Bool) true (fun _ _ _ => false) l)
    (fun x _ ih l => @List.rec Nat (fun _ => (List Nat → Bool) → Bool) (fun _ => false) (fun y ys _ ih => @Bool.rec (fun _ => Bool) false (ih ys) (Nat.beq x y)) l ih)
def eqS (a b : Cell) (k : Bool → Bool) : Bool := isStr a fun x => isStr b fun y => boolK (strB x y) k
def eqK (ek : EK) (a b : Cell) (k : Bool → Bool) : Bool := @EK.rec (fun _ => Bool) (eqB a b k) (eqS a b k) (eqN noneP a b k) (eqN noneL a b k) (eqN noneF a b k) (eqN noneM a b k) ek
def eqvF (ek : EK) (neg : Bool) (x y : XA) (t : Ts) (s : St) (k : KVS) : Bool :=
  ev1K x t fun a => ev1K y t fun b => eqK ek a b fun r => boolK (@Bool.rec (fun _ => Bool) r (Bool.not r) neg) fun r => k (.v (.one (.bool r))) s
def notF (x : XA) (t : Ts) (s : St) (k : KVS) : Bool := ev1K x t fun a => isBoo a fun b => boolK (Bool.not b) fun b => k (.v (.one (.bool b))) s
def negF (x : XA) (t : Ts) (s : St) (k : KVS) : Bool := ev1K x t fun a => numK a (fun kd n => wrapK kd (Int.sub (Int.ofNat 0) n) fun r => k (.v (.one (.int kd r))) s) (fun kd a sy c => guardK (kindB kd .u64) (linK s.iv kd (Int.sub (Int.ofNat 0) a) sy (Int.sub (Int.ofNat 18446744073709551616) c) fun r => k (.v (.one r)) s))
def convF (kd : IntKind) (x : XA) (t : Ts) (s : St) (k : KVS) : Bool := ev1K x t fun a => numK a (fun _ n => wrapK kd n fun r => k (.v (.one (.int kd r))) s) (fun _ a sy c => linK s.iv kd a sy c fun r => k (.v (.one r)) s)
def mkmF (t : Ts) (s : St) (k : KVS) : Bool := newK (.map []) s fun id s => k (.v (.one (.map id))) s
def mkfF (f : Nat) (first cap : List XA) (t : Ts) (s : St) (k : KVS) : Bool := evPK first t fun l => evPK cap t fun m => k (.v (.one (.fn f l m))) s
def fadF (x : XA) (off : Nat) (t : Ts) (s : St) (k : KVS) : Bool := ev1K x t fun a => isPtr a fun id o => natK (Nat.add o off) fun o => k (.v (.one (.ptr id o))) s
def fld1F (x : XA) (off : Nat) (t : Ts) (s : St) (k : KVS) : Bool := evK x t fun v => isAggK v fun l => nthK l off fun c => normK s.iv c fun c => k (.v (.one c)) s
def fldnF (x : XA) (off n : Nat) (t : Ts) (s : St) (k : KVS) : Bool := evK x t fun v => isAggK v fun l => dropK l off fun l => takeK n l fun l => k (.v (.agg l)) s
/-- An index that is within. -/
def idxK (c : Cell) (len : Nat) (k : Nat → Bool) : Bool := isInt c fun _ i => @Int.rec (fun _ => Bool) (fun i => guardK (Nat.blt i len) (k i)) (fun _ => false) i
def ixaF (x i : XA) (len size : Nat) (t : Ts) (s : St) (k : KVS) : Bool :=
  ev1K x t fun a => isPtr a fun id o => ev1K i t fun b => idxK b len fun n => natK (Nat.add o (Nat.mul n size)) fun o => k (.v (.one (.ptr id o))) s
/-- A row that is taken apart: none; of a known room; of an unknown room; empty, of an unknown place. -/
def sliceK (c : Cell) (n : Bool) (sl : Pth → Nat → Nat → Nat → Bool) (u : Pth → Nat → Nat → Nat → Bool) (z : Bool) : Bool :=
  @Cell.rec (fun _ => Bool → (Pth → Nat → Nat → Nat → Bool) → (Pth → Nat → Nat → Nat → Bool) → Bool → Bool)
    (fun _ _ _ _ => false) (fun _ _ _ _ _ _ => false) (fun _ _ _ _ _ _ _ _ => false) (fun _ _ _ _ _ => false) (fun _ _ _ _ _ => false) (fun _ _ _ _ => false) (fun _ _ _ _ _ _ => false)
    (fun n _ _ _ => n) (fun id off len cap _ f _ _ => f id off len cap) (fun id off len sz _ _ f _ => f id off len sz) (fun _ _ _ z => z)
    (fun _ _ _ _ => false) (fun _ _ _ _ _ _ _ => false) (fun _ _ _ _ => false) (fun _ _ _ _ _ => false) (fun _ _ _ _ _ _ _ _ => false) c n sl u z
/-- What a number is at least. -/
def loK (iv : List Iv) (c : Cell) (f : Int → Bool) : Bool := numK c (fun _ n => f n) fun _ a sy c => guardK (ieqB a (Int.ofNat 1)) (nthIv iv sy fun x => intK (Int.add x.lo c) f)
/-- The symbol of an element of a row that came in. -/
def inAllK (iv : List Iv) (len : Cell) (base : Nat) (b : Cell) (f : Nat → Bool) : Bool :=
  isInt b fun _ i => @Int.rec (fun _ => Bool) (fun i => loK iv len fun lo => guardK (ileB (Int.ofNat (Nat.succ i)) lo) (natK (Nat.add base i) f)) (fun _ => false) i
def inOneK (iv : List Iv) (len : Cell) (i e : Nat) (b : Cell) (f : Nat → Bool) : Bool :=
  numK b (fun _ _ => false) fun _ a sy c => guardK (ieqB a (Int.ofNat 1)) (guardK (ieqB c (Int.ofNat 0)) (guardK (Nat.beq sy i) (nthIv iv i fun x => guardK (ileB (Int.ofNat 0) x.lo) (guardK (Nat.beq x.md LT)
    (numK len (fun _ _ => false) fun _ a2 sy2 c2 => guardK (ieqB a2 (Int.ofNat 1)) (guardK (ieqB c2 (Int.ofNat 0)) (guardK (Nat.beq sy2 (Nat.succ i)) (f e))))))))
def inIxK (iv : List Iv) (len : Cell) (m : InM) (b : Cell) (f : Nat → Bool) : Bool := @InM.rec (fun _ => Bool) (fun base => inAllK iv len base b f) (fun i e => inOneK iv len i e b f) m
def ixsF (x i : XA) (size : Nat) (t : Ts) (s : St) (k : KVS) : Bool :=
  evK x t fun v => inK v (fun len kd m => guardK (Nat.beq size 1) (ev1K i t fun b => inIxK s.iv len m b fun e => k (.inP kd e) s)) (isOne v fun a => ev1K i t fun b => sliceK a false (fun id off len _ => idxK b len fun n => natK (Nat.add off (Nat.mul n size)) fun o => k (.v (.one (.ptr id o))) s)
    (fun id off len _ => idxK b len fun n => natK (Nat.add off (Nat.mul n size)) fun o => k (.v (.one (.ptr id o))) s) false)
/-- A bound, if there is one. -/
def bndK (b : Option XA) (t : Ts) (none : Nat) (k : Nat → Bool) : Bool :=
  @Option.rec XA (fun _ => Bool) (k none) (fun a => ev1K a t fun c => isInt c fun _ i => @Int.rec (fun _ => Bool) (fun i => k i) (fun _ => false) i) b
/-- The part of a row of a known room. -/
def partF (id : Pth) (off size l h m cap : Nat) (s : St) (k : KVS) : Bool :=
  guardK (Nat.ble l h) (guardK (Nat.ble h m) (guardK (Nat.ble m cap)
    (@Bool.rec (fun _ => Bool) (natK (Nat.add off (Nat.mul l size)) fun o => natK (Nat.sub h l) fun n => natK (Nat.sub m l) fun c => k (.v (.one (.sl id o n c))) s)
      (natK (Nat.sub h l) fun n => natK (Nat.sub m l) fun c => k (.v (.one (.sl id off n c))) s) (Nat.beq m l))))
def slaF (x : XA) (lo hi mx : Option XA) (n size : Nat) (t : Ts) (s : St) (k : KVS) : Bool :=
  ev1K x t fun a => isPtr a fun id off => bndK lo t 0 fun l => bndK hi t n fun h => bndK mx t n fun m => partF id off size l h m n s k
def lenK : List Cell → (Nat → Bool) → Bool := @List.rec Cell (fun _ => (Nat → Bool) → Bool) (fun k => k 0) (fun _ _ ih k => ih fun n => natK (Nat.succ n) k)
/-- The part of a row of an unknown room, its new room not named. -/
def partU (id : Pth) (off sz l h len : Nat) (s : St) (k : KVS) : Bool :=
  guardK (Nat.ble l h) (rowK id s fun _ _ cs => lenK cs fun have_ => guardK (Bool.or (Nat.ble h len) (Nat.ble (Nat.add off (Nat.mul h sz)) have_))
    (@Bool.rec (fun _ => Bool) (guardK (Nat.beq l h) (k (.v (.one .sl0)) s))
      (natK (Nat.add off (Nat.mul l sz)) fun o => natK (Nat.sub h l) fun n => k (.v (.one (.slU id o n sz))) s)
      (Bool.or (Nat.beq l 0) (Bool.or (Nat.blt l h) (Nat.blt (Nat.add off (Nat.mul l sz)) have_)))))
/-- The part of a row of an unknown room, its new room named. -/
def partM (id : Pth) (off sz l h m : Nat) (s : St) (k : KVS) : Bool :=
  rowK id s fun _ _ cs => lenK cs fun have_ => guardK (Nat.ble (Nat.add off (Nat.mul m sz)) have_) (partF id off sz l h m m s k)
def isSome (o : Option XA) (yes no : Bool) : Bool := @Option.rec XA (fun _ => Bool → Bool → Bool) (fun _ n => n) (fun _ y _ => y) o yes no
def slsF (x : XA) (lo hi mx : Option XA) (size : Nat) (t : Ts) (s : St) (k : KVS) : Bool :=
  ev1K x t fun a => sliceK a
    (bndK lo t 0 fun l => bndK hi t 0 fun h => bndK mx t 0 fun m => guardK (Nat.beq l 0) (guardK (Nat.beq h 0) (guardK (Nat.beq m 0) (k (.v (.one .nils)) s))))
    (fun id off len cap => bndK lo t 0 fun l => bndK hi t len fun h => bndK mx t cap fun m => partF id off size l h m cap s k)
    (fun id off len sz => guardK (Nat.beq sz size) (bndK lo t 0 fun l => bndK hi t len fun h => isSome mx (bndK mx t 0 fun m => partM id off sz l h m s k) (partU id off sz l h len s k)))
    (isSome mx false (bndK lo t 0 fun l => bndK hi t 0 fun h => guardK (Nat.beq l 0) (guardK (Nat.beq h 0) (k (.v (.one .sl0)) s))))
def nthC : List Comp → Nat → (Comp → Bool) → Bool :=
  @List.rec Comp (fun _ => Nat → (Comp → Bool) → Bool) (fun _ _ => false)
    (fun x _ ih n => @Nat.rec (fun _ => Comp → (Nat → (Comp → Bool) → Bool) → (Comp → Bool) → Bool) (fun x _ k => k x) (fun m _ _ ih k => ih m k) n x ih)
def extF (x : XA) (i : Nat) (t : Ts) (s : St) (k : KVS) : Bool := evK x t fun v => isTup v fun l => nthC l i fun c => k (.v c) s
def lenF (x : XA) (t : Ts) (s : St) (k : KVS) : Bool :=
  evK x t fun v => inK v (fun len _ _ => k (.v (.one len)) s) (isOne v fun a => sliceK a (k (.v (.one (.int .i64 (Int.ofNat 0)))) s) (fun _ _ len _ => k (.v (.one (.int .i64 (Int.ofNat len)))) s) (fun _ _ len _ => k (.v (.one (.int .i64 (Int.ofNat len)))) s) (k (.v (.one (.int .i64 (Int.ofNat 0)))) s))
def capF (x : XA) (t : Ts) (s : St) (k : KVS) : Bool :=
  ev1K x t fun a => sliceK a (k (.v (.one (.int .i64 (Int.ofNat 0)))) s) (fun _ _ _ cap => k (.v (.one (.int .i64 (Int.ofNat cap)))) s) (fun _ _ _ _ => false) false
/-- The cells of a row, all of them: how many elements, and which cells. -/
def srcK (a : Cell) (size : Nat) (s : St) (k : Nat → List Cell → Bool) : Bool :=
  sliceK a (k 0 []) (fun id off len _ => @Nat.rec (fun _ => Bool) (k 0 []) (fun n _ => loadK id off (Nat.mul (Nat.succ n) size) s fun l => natK (Nat.succ n) fun n => k n l) len)
    (fun id off len _ => @Nat.rec (fun _ => Bool) (k 0 []) (fun n _ => loadK id off (Nat.mul (Nat.succ n) size) s fun l => natK (Nat.succ n) fun n => k n l) len) (k 0 [])
/-- A new row for what was there and what comes. -/
def growK (old new : List Cell) (need size : Nat) (s : St) (k : KVS) : Bool :=
  guardK (Nat.ble need 100000) (appK old new fun cs => newK (.row true cs) s fun id s => k (.v (.one (.slU id 0 need size))) s)
def app0 (v : AV) (a : Cell) (size : Nat) (n : Nat) (new : List Cell) (s : St) (k : KVS) : Bool :=
  sliceK a (growK [] new n size s k)
    (fun id off len cap => natK (Nat.add len n) fun need => @Bool.rec (fun _ => Bool)
      (loadK id off (Nat.mul len size) s fun old => growK old new need size s k)
      (guardK (Nat.beq off 0) (natK (Nat.mul len size) fun o => storeK id o new s fun s => k (.v (.one (.sl id 0 need cap))) s)) (Nat.ble need cap))
    (fun id off len sz => guardK (Nat.beq sz size) (guardK (Nat.beq off 0) (natK (Nat.add len n) fun need => rowK id s fun no _ cs => lenK cs fun have_ => @Bool.rec (fun _ => Bool)
      (takeK (Nat.mul len size) cs fun old => putBK id no .dead s fun s => growK old new need size s k)
      (natK (Nat.mul len size) fun o => storeK id o new s fun s => k (.v (.one (.slU id 0 need size))) s) (Nat.ble (Nat.mul need size) have_)))) false
def appF (x y : XA) (size : Nat) (t : Ts) (s : St) (k : KVS) : Bool :=
  evK x t fun v => isOne v fun a => ev1K y t fun b => srcK b size s fun n new => @Nat.rec (fun _ => Bool) (sliceK a (k v s) (fun _ _ _ _ => k v s) (fun _ _ _ _ => k v s) (k v s)) (fun m _ => app0 v a size (Nat.succ m) new s k) n
def lenC (a : Cell) (k : Nat → Bool) : Bool := sliceK a (k 0) (fun _ _ len _ => k len) (fun _ _ len _ => k len) (k 0)
def minK (a b : Nat) (k : Nat → Bool) : Bool := @Bool.rec (fun _ => Bool) (k b) (k a) (Nat.ble a b)
def cpyF (x y : XA) (size : Nat) (t : Ts) (s : St) (k : KVS) : Bool :=
  ev1K x t fun d => ev1K y t fun b => lenC d fun dl => lenC b fun bl => minK bl dl fun n => @Nat.rec (fun _ => Bool) (k (.v (.one (.int .i64 (Int.ofNat 0)))) s)
    (fun m _ => sliceK b false (fun id off _ _ => loadK id off (Nat.mul (Nat.succ m) size) s fun cs => sliceK d false (fun id off _ _ => storeK id off cs s fun s => k (.v (.one (.int .i64 (Int.ofNat (Nat.succ m))))) s) (fun id off _ _ => storeK id off cs s fun s => k (.v (.one (.int .i64 (Int.ofNat (Nat.succ m))))) s) false)
      (fun id off _ _ => loadK id off (Nat.mul (Nat.succ m) size) s fun cs => sliceK d false (fun id off _ _ => storeK id off cs s fun s => k (.v (.one (.int .i64 (Int.ofNat (Nat.succ m))))) s) (fun id off _ _ => storeK id off cs s fun s => k (.v (.one (.int .i64 (Int.ofNat (Nat.succ m))))) s) false) false) n
def repK (zs : List Cell) (n : Nat) (k : List Cell → Bool) : Bool := @Nat.rec (fun _ => (List Cell → Bool) → Bool) (fun k => k []) (fun _ ih k => ih fun l => appK zs l k) n k
def clrF (x : XA) (zs : List Cell) (t : Ts) (s : St) (k : KVS) : Bool :=
  ev1K x t fun a => sliceK a (k (.tup []) s) (fun id off len _ => @Nat.rec (fun _ => Bool) (k (.tup []) s) (fun m _ => repK zs (Nat.succ m) fun cs => storeK id off cs s fun s => k (.tup []) s) len)
    (fun id off len _ => @Nat.rec (fun _ => Bool) (k (.tup []) s) (fun m _ => repK zs (Nat.succ m) fun cs => storeK id off cs s fun s => k (.tup []) s) len) (k (.tup []) s)
def mm2 (mx : Bool) (a b : Int) : Bool := @Bool.rec (fun _ => Bool) (ileB a b) (ileB b a) mx
def mmsK (mx : Bool) : List XA → Ts → IntKind → Int → (Int → Bool) → Bool :=
  @List.rec XA (fun _ => Ts → IntKind → Int → (Int → Bool) → Bool) (fun _ _ a k => k a)
    (fun y _ ih t kd a k => ev1K y t fun c => isInt c fun _ b => @Bool.rec (fun _ => Bool) (ih t kd b k) (ih t kd a k) (mm2 mx a b))
def mmF (mx : Bool) (x : XA) (xs : List XA) (t : Ts) (s : St) (k : KVS) : Bool :=
  ev1K x t fun c => isInt c fun kd a => mmsK mx xs t kd a fun r => k (.v (.one (.int kd r))) s
def natOf (x : XA) (t : Ts) (k : Nat → Bool) : Bool := ev1K x t fun c => isInt c fun _ i => @Int.rec (fun _ => Bool) (fun n => k n) (fun _ => false) i
def mksF (zs : List Cell) (l c : XA) (t : Ts) (s : St) (k : KVS) : Bool :=
  natOf l t fun m => natOf c t fun n => guardK (Nat.ble m n) (guardK (Nat.ble n 100000) (repK zs n fun cs => newK (.row false cs) s fun id s => k (.v (.one (.sl id 0 m n))) s))
/-- n blocks, from p on, out of one heap into another. -/
def mergeK (src : Tr Blk) (n : Nat) : Pth → Tr Blk → (Tr Blk → Bool) → Bool :=
  @Nat.rec (fun _ => Pth → Tr Blk → (Tr Blk → Bool) → Bool) (fun _ dst k => k dst) (fun _ ih p dst k => getK p src fun B => setK p dst B fun dst => succK p fun p => ih p dst k) n
def lowM (v : AV) (k : KVS) (heap : Tr Blk) (next : Pth) (cnt wlo : Nat) (h : Tr Blk) (n : Pth) (c _wlo : Nat) (iv : List Iv) : Bool :=
  natK (Nat.sub c cnt) fun d => mergeK h d next heap fun h => k v ⟨h, n, c, wlo, iv⟩
/-- A call, quiet: what was there is only read. -/
def lowF (ck : St → KVS → Bool) (k : KVS) (heap : Tr Blk) (next : Pth) (cnt wlo : Nat) (iv : List Iv) : Bool :=
  ck ⟨heap, next, cnt, cnt, iv⟩ fun v s => @St.rec (fun _ => Bool) (lowM v k heap next cnt wlo) s
def quietK (ck : St → KVS → Bool) (quiet : Bool) (s : St) (k : KVS) : Bool := @Bool.rec (fun _ => Bool) (ck s k) (@St.rec (fun _ => Bool) (lowF ck k) s) quiet
def callF (ck : CK) (f : Nat) (p : Pth) (args : List XA) (quiet : Bool) (t : Ts) (s : St) (k : KVS) : Bool := evsK args t fun l => quietK (ck f p l) quiet s k
def isFn : Cell → (Nat → List (Pth × Nat) → List (Pth × Nat) → Bool) → Bool :=
  @Cell.rec (fun _ => (Nat → List (Pth × Nat) → List (Pth × Nat) → Bool) → Bool) (fun _ => false) (fun _ _ _ => false) (fun _ _ _ _ _ => false) (fun _ _ => false) (fun _ _ => false) (fun _ => false) (fun _ _ _ => false) (fun _ => false) (fun _ _ _ _ _ => false) (fun _ _ _ _ _ => false) (fun _ => false) (fun _ => false) (fun f a b k => k f a b) (fun _ => false) (fun _ _ => false) (fun _ _ _ _ _ => false)
def ptrsK : List (Pth × Nat) → List AV → (List AV → Bool) → Bool :=
  @List.rec (Pth × Nat) (fun _ => List AV → (List AV → Bool) → Bool) (fun l k => k l) (fun x _ ih l k => ih l fun l => k (.v (.one (.ptr x.1 x.2)) :: l))
def appAK : List AV → List AV → (List AV → Bool) → Bool := @List.rec AV (fun _ => List AV → (List AV → Bool) → Bool) (fun l k => k l) (fun x _ ih l k => ih l fun r => k (x :: r))
/-- The key of a number. -/
def keyF (n : Nat) : Pth := @Nat.rec (fun _ => Pth) .e (fun _ p => p.succ) n
def keyK (n : Nat) (k : Pth → Bool) : Bool := @Nat.rec (fun _ => (Pth → Bool) → Bool) (fun k => k .e) (fun _ ih k => ih fun p => succK p k) n k
def callvF (ck : CK) (x : XA) (args : List XA) (quiet : Bool) (t : Ts) (s : St) (k : KVS) : Bool :=
  ev1K x t fun a => isFn a fun f first cap => evsK args t fun l => ptrsK cap [] fun c => appAK l c fun l => ptrsK first l fun l => keyK f fun p => quietK (ck f p l) quiet s k
/-! Maps whose keys are numbers; values that are of several cells, held against each other. -/
/-- Are two numbers the same? -/
def sameIK (iv : List Iv) (a b : Cell) (k : Bool → Bool) : Bool :=
  numK a (fun ka m => numK b (fun kb n => guardK (kindB ka kb) (k (ieqB m n))) fun kb x sy c => guardK (kindB ka kb) (nthIv iv sy fun v => guardK (ieqB v.lo v.hi) (k (ieqB m (Int.add (Int.mul x v.lo) c)))))
    (fun ka x sy c => numK b (fun kb n => guardK (kindB ka kb) (nthIv iv sy fun v => guardK (ieqB v.lo v.hi) (k (ieqB (Int.add (Int.mul x v.lo) c) n))))
      fun kb y sz d => guardK (kindB ka kb) (guardK (Nat.beq sy sz) (guardK (ieqB x y) (k (ieqB c d)))))
/-- Are two truths? -/
def sameBK (a b : Cell) (k : Bool → Bool) : Bool := isBoo a fun x => isBoo b fun y => k (@Bool.rec (fun _ => Bool) (Bool.not y) y x)
def sameLK (iv : List Iv) : List Bool → List Cell → List Cell → (Bool → Bool) → Bool :=
  @List.rec Bool (fun _ => List Cell → List Cell → (Bool → Bool) → Bool) (fun _ _ k => k true)
    (fun q _ ih l r k => @List.rec Cell (fun _ => Bool) false (fun x xs _ => @List.rec Cell (fun _ => Bool) false (fun y ys _ =>
      @Bool.rec (fun _ => (Bool → Bool) → Bool) (sameBK x y) (sameIK iv x y) q fun b => @Bool.rec (fun _ => Bool) (k false) (ih xs ys k) b) r) l)
def eqgF (neg : Bool) (ks : List Bool) (x y : XA) (t : Ts) (s : St) (k : KVS) : Bool :=
  evK x t fun a => isAggK a fun l => evK y t fun b => isAggK b fun r => sameLK s.iv ks l r fun b => boolK (@Bool.rec (fun _ => Bool) b (Bool.not b) neg) fun b => k (.v (.one (.bool b))) s
def isMap : Bk → (List (Int × Comp) → Bool) → Bool := @Bk.rec (fun _ => (List (Int × Comp) → Bool) → Bool) (fun _ _ _ => false) (fun es k => k es) (fun _ => false) (fun _ _ => false)
def mapF (id : Pth) (k : Nat → List (Int × Comp) → Bool) (heap : Tr Blk) (next : Pth) (cnt wlo : Nat) (iv : List Iv) : Bool := getK id heap fun B => isMap B.k fun es => k B.no es
/-- The entries of a map. -/
def mapK (id : Pth) (s : St) (k : Nat → List (Int × Comp) → Bool) : Bool := @St.rec (fun _ => Bool) (mapF id k) s
def isMp : Cell → (Pth → Bool) → Bool := @Cell.rec (fun _ => (Pth → Bool) → Bool) (fun _ => false) (fun _ _ _ => false) (fun _ _ _ _ _ => false) (fun _ _ => false) (fun _ _ => false) (fun _ => false) (fun _ _ _ => false) (fun _ => false) (fun _ _ _ _ _ => false) (fun _ _ _ _ _ => false) (fun _ => false) (fun _ => false) (fun _ _ _ _ => false) (fun _ => false) (fun id k => k id) (fun _ _ _ _ _ => false)
/-- The entry of a number: its value, or none. -/
def findK (n : Int) (yes : Comp → Bool) (no : Bool) : List (Int × Comp) → Bool :=
  @List.rec (Int × Comp) (fun _ => Bool) no (fun x _ ih => @Bool.rec (fun _ => Bool) ih (yes x.2) (ieqB n x.1))
def delK (n : Int) : List (Int × Comp) → (List (Int × Comp) → Bool) → Bool :=
  @List.rec (Int × Comp) (fun _ => (List (Int × Comp) → Bool) → Bool) (fun k => k []) (fun x l ih k => @Bool.rec (fun _ => Bool) (ih fun l => k (x :: l)) (ih k) (ieqB n x.1))
def updK (n : Int) (c : Comp) (es : List (Int × Comp)) (k : List (Int × Comp) → Bool) : Bool := delK n es fun l => k ((n, c) :: l)
def mlkF (m kx : XA) (z : Comp) (ok : Bool) (t : Ts) (s : St) (k : KVS) : Bool :=
  ev1K m t fun a => isMp a fun id => ev1K kx t fun b => isInt b fun kd n => guardK (kindB kd .i64) (mapK id s fun _ es =>
    findK n (fun c => @Bool.rec (fun _ => Bool) (k (.v c) s) (k (.tup [c, .one (.bool true)]) s) ok) false es)
def mupF (m kx v : XA) (t : Ts) (s : St) (k : KVS) : Bool :=
  ev1K m t fun a => isMp a fun id => ev1K kx t fun b => isInt b fun kd n => guardK (kindB kd .i64) (evK v t fun v => isComp v fun c => mapK id s fun no es => updK n c es fun es => putBK id no (.map es) s fun s => k .unk s)
def mdlF (m kx : XA) (t : Ts) (s : St) (k : KVS) : Bool :=
  ev1K m t fun a => isMp a fun id => ev1K kx t fun b => isInt b fun kd n => guardK (kindB kd .i64) (mapK id s fun no es => delK n es fun es => putBK id no (.map es) s fun s => k .unk s)
def opK (ck : CK) (o : XOp) : Ts → St → KVS → Bool :=
  @XOp.rec (fun _ => Ts → St → KVS → Bool) movF nckF pickF allocF boxF buildF bslF ld1F ldnF stF arF shF cmpF eqvF notF negF convF mkfF fadF fld1F fldnF ixaF ixsF slaF slsF extF lenF capF appF cpyF clrF mmF mksF (callF ck) (callvF ck) (fun _ _ _ => false) mkmF eqgF mlkF mupF mdlF o

/-! ### Regions, code, calls -/
def setDK (d : Option Pth) (v : AV) (t : Ts) (k : Ts → Bool) : Bool := @Option.rec Pth (fun _ => Bool) (k t) (fun p => setK p t v k) d
/-- Is an operation wanted? One whose guard was itself not wanted is not. -/
def wantV (v : AV) (w yes no : Bool) : Bool :=
  @AV.rec (fun _ => Bool) false
    (fun c => isOne (.v c) fun x => isBoo x fun b => @Bool.rec (fun _ => Bool) (@Bool.rec (fun _ => Bool) yes no w) (@Bool.rec (fun _ => Bool) no yes w) b)
    (fun l => @List.rec Comp (fun _ => Bool) no (fun _ _ _ => false) l) (fun _ _ _ => false) (fun _ _ => false) v
def wantK (g : Option (Pth × Bool)) (t : Ts) (yes no : Bool) : Bool :=
  @Option.rec (Pth × Bool) (fun _ => Bool) yes (fun g => getK g.1 t fun v => wantV v g.2 yes no) g
def doF (ck : CK) (g : Option (Pth × Bool)) (d : Option Pth) (op : XOp) (t : Ts) (s : St) (k : KTS) : Bool :=
  wantK g t (opK ck op t s fun v s => setDK d v t fun t => k t s) (setDK d (.tup []) t fun t => k t s)
def doK (ck : CK) (o : XO) : Ts → St → KTS → Bool := @XO.rec (fun _ => Ts → St → KTS → Bool) (doF ck) o
def opsK (ck : CK) : List XO → Ts → St → KTS → Bool :=
  @List.rec XO (fun _ => Ts → St → KTS → Bool) (fun t s k => k t s) (fun o _ ih t s k => doK ck o t s fun t s => ih t s k)
/-- Do two addresses lie in blocks apart? -/
def neK (p q : Pth) (r : Bool) : Bool :=
  @Pth.rec (fun _ => Pth → Bool → Bool) (fun q r => @Pth.rec (fun _ => Bool → Bool) (fun _ => false) (fun _ _ r => r) (fun _ _ r => r) q r)
    (fun _ ih q r => @Pth.rec (fun _ => (Pth → Bool → Bool) → Bool → Bool) (fun _ r => r) (fun q _ ih r => ih q r) (fun _ _ _ r => r) q ih r)
    (fun _ ih q r => @Pth.rec (fun _ => (Pth → Bool → Bool) → Bool → Bool) (fun _ r => r) (fun _ _ _ r => r) (fun q _ ih r => ih q r) q ih r) p q r
def pairsK : List (XA × XA) → Ts → Bool → Bool :=
  @List.rec (XA × XA) (fun _ => Ts → Bool → Bool) (fun _ r => r) (fun x _ ih t r => ev1K x.1 t fun a => isPtr a fun p _ => ev1K x.2 t fun b => isPtr b fun q _ => neK p q (ih t r))
def exK (e : Ex) (n : Bool) (x : Nat → Bool) (r : Bool) : Bool := @Ex.rec (fun _ => Bool → (Nat → Bool) → Bool → Bool) (fun n _ _ => n) (fun i _ x _ => x i) (fun _ _ r => r) e n x r
abbrev XM := Ts → St → KX → Bool
def regF (ck : CK) (ops : List XO) (t : Ts) (s : St) (k : KX) : Bool := opsK ck ops t s fun t s => k .normal t s
def drawF (ck : CK) (ops : List XO) (pairs : List (XA × XA)) (t : Ts) (s : St) (k : KX) : Bool := opsK ck ops t s fun t s => pairsK pairs t (k .normal t s)
def seqF (_ _ : XCode) (a b : XM) (t : Ts) (s : St) (k : KX) : Bool := a t s fun e t s => exK e (b t s k) (fun i => k (.exit i) t s) (k .ret t s)
def condF (c : XA) (_ _ : XCode) (a b : XM) (t : Ts) (s : St) (k : KX) : Bool := ev1K c t fun x => isBoo x fun y => @Bool.rec (fun _ => XM → XM → Ts → St → KX → Bool) (fun _ b => b) (fun a _ => a) y a b t s k
def blockF (id : Nat) (_ : XCode) (a : XM) (t : Ts) (s : St) (k : KX) : Bool :=
  a t s fun e t s => exK e (k .normal t s) (fun i => @Bool.rec (fun _ => Bool) (k (.exit i) t s) (k .normal t s) (Nat.beq i id)) (k .ret t s)
def loopF (n : Nat) (_ : XCode) (a : XM) : XM :=
  @Nat.rec (fun _ => XM) (fun _ _ _ => false) (fun _ ih t s k => a t s fun e t s => exK e (ih t s k) (fun i => k (.exit i) t s) (k .ret t s)) n
def codeK (ck : CK) (n : Nat) (c : XCode) : XM :=
  @XCode.rec (fun _ => XM) (fun t s k => k .normal t s) (regF ck) (drawF ck) seqF condF blockF (loopF n) (fun i t s k => k (.exit i) t s) (fun t s k => k .ret t s) c
def argsK : List AV → Pth → Ts → (Ts → Bool) → Bool :=
  @List.rec AV (fun _ => Pth → Ts → (Ts → Bool) → Bool) (fun _ t k => k t) (fun v _ ih p t k => setK p t v fun t => succK p fun p => ih p t k)
def resK1 (r : XR) (t : Ts) (s : St) (k : Comp → Bool) : Bool :=
  @XR.rec (fun _ => Bool) (fun p => getK p t fun v => isComp v k) (fun p => getK p t fun v => isOne v fun x => isPtr x fun id off => rowK id s fun _ _ l => nthK l off fun c => k (.one c))
    (fun p n => getK p t fun v => isOne v fun x => isPtr x fun id off => loadK id off n s fun l => k (.agg l)) r
def ressK : List XR → Ts → St → (List Comp → Bool) → Bool :=
  @List.rec XR (fun _ => Ts → St → (List Comp → Bool) → Bool) (fun _ _ k => k []) (fun r _ ih t s k => resK1 r t s fun c => ih t s fun l => k (c :: l))
def oneRes (l : List Comp) (k : AV → Bool) : Bool :=
  @List.rec Comp (fun _ => Bool) (k (.tup [])) (fun c r _ => @List.rec Comp (fun _ => Bool) (k (.v c)) (fun d r' _ => k (.tup (c :: d :: r'))) r) l
def fnF (ck : CK) (loops : Nat) (l : List AV) (s : St) (k : KVS) (n : Nat) (body : XCode) (res : List XR) : Bool :=
  argsK l .e .nil fun t => codeK ck loops body t s fun e t s => exK e (ressK res t s fun l => oneRes l fun v => k v s) (fun _ => false) (ressK res t s fun l => oneRes l fun v => k v s)
def callN (F : Tr XFn) (loops : Nat) (fuel : Nat) : CK :=
  @Nat.rec (fun _ => CK) (fun _ _ _ _ _ => false) (fun _ ih f p l s k => getK p F fun fn => @XFn.rec (fun _ => Bool) (fnF ih loops l s k) fn) fuel
end
end Go.Rsf
