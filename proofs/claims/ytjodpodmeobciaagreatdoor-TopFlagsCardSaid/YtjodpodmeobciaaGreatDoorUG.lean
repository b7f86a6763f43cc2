/- The eventflag's kernel: its loops' families. Conditions: none. -/
import Derived.Test.YtjodpodmeobciaaGreatDoorUF
namespace Go.Rsf
open Go.RowKit
set_option linter.unusedVariables false
set_option linter.unusedSimpArgs false
noncomputable section
def q0 : Pth := .e
def q7 : Pth := (.z (.z (.z .e)))
def q31 : Pth := (.z (.z (.z (.z (.z .e)))))
def q32 : Pth := (.s (.z (.z (.z (.z .e)))))
def q33 : Pth := (.z (.s (.z (.z (.z .e)))))
def q65 : Pth := (.z (.s (.z (.z (.z (.z .e))))))
def q66 : Pth := (.s (.s (.z (.z (.z (.z .e))))))
def q67 : Pth := (.z (.z (.s (.z (.z (.z .e))))))
def q13 : Pth := (.z (.s (.s .e)))
def q1 : Pth := (.z .e)
def q4 : Pth := (.s (.z .e))
def p1022 : Pth := (.s (.s (.s (.s (.s (.s (.s (.s (.s .e)))))))))
def p1023 : Pth := (.z (.z (.z (.z (.z (.z (.z (.z (.z (.z .e))))))))))
def p3070 : Pth := (.s (.s (.s (.s (.s (.s (.s (.s (.s (.s (.z .e)))))))))))
def p3071 : Pth := (.z (.z (.z (.z (.z (.z (.z (.z (.z (.z (.s .e)))))))))))
def p9000 : Pth := (.s (.z (.z (.s (.z (.s (.z (.z (.s (.s (.z (.z (.z .e)))))))))))))
def nx11 : Pth := (.s (.s (.s (.s (.s (.s (.s (.s (.s (.s .e))))))))))
def nx12 : Pth := (.s (.s (.s (.s (.s (.s (.s (.s (.s (.s (.s .e)))))))))))
def nx13 : Pth := (.s (.s (.s (.s (.s (.s (.s (.s (.s (.s (.s (.s .e))))))))))))
def nx14 : Pth := (.s (.s (.s (.s (.s (.s (.s (.s (.s (.s (.s (.s (.s .e)))))))))))))
/-! ### Small words -/
def allK (n : Nat) (f : Nat → Bool) : Bool := @Nat.rec (fun _ => Bool) true (fun j ih => guardK ih (natK j f)) n
def cI (n : Nat) : Cell := .int .i64 (Int.ofNat n)
def cL (s : Nat) : Cell := .lin .i64 (Int.ofNat 1) s (Int.ofNat 0)
def rdC : List Cell → Nat → Cell := @List.rec Cell (fun _ => Nat → Cell) (fun _ => .any) (fun x _ ih n => @Nat.rec (fun _ => Cell) x (fun m _ => ih m) n)
def wrC : List Cell → Nat → Cell → List Cell := @List.rec Cell (fun _ => Nat → Cell → List Cell) (fun _ _ => []) (fun x l ih n c => @Nat.rec (fun _ => List Cell) (c :: l) (fun m _ => x :: ih m c) n)
def drC : Nat → List Cell → List Cell := @Nat.rec (fun _ => List Cell → List Cell) (fun l => l) (fun _ ih l => @List.rec Cell (fun _ => List Cell) [] (fun _ r _ => ih r) l)
def tkC : Nat → List Cell → List Cell := @Nat.rec (fun _ => List Cell → List Cell) (fun _ => []) (fun _ ih l => @List.rec Cell (fun _ => List Cell) [] (fun x r _ => x :: ih r) l)
def ctC : List Cell → List Cell → List Cell := @List.rec Cell (fun _ => List Cell → List Cell) (fun l => l) (fun x _ ih l => x :: ih l)
/-- f 0, .., f (n - 1), one behind the other. -/
def tbC (f : Nat → List Cell) : Nat → Nat → List Cell := @Nat.rec (fun _ => Nat → List Cell) (fun _ => []) (fun _ ih i => ctC (f i) (ih (Nat.succ i)))
def rdId : Cell → Pth | .ptr p _ => p | .sl p _ _ _ => p | .slU p _ _ _ => p | .slL p _ _ _ => p | .map p => p | _ => .e
def rdLen : Cell → Nat | .sl _ _ n _ => n | .slU _ _ n _ => n | _ => 0
def wrLen : Cell → Nat → Cell | .slU p o _ z, n => .slU p o n z | .sl p o _ c, n => .sl p o n c | c, _ => c
def rdRow (h : Tr Blk) (p : Pth) : List Cell := match h.get p with | some B => (match B.k with | .row _ l => l | _ => []) | none => []
def rdMap (h : Tr Blk) (p : Pth) : List (Int × Comp) := match h.get p with | some B => (match B.k with | .map l => l | _ => []) | none => []
def rdS (t : Ts) (p : Pth) : Cell := match t.get p with | some v => (match v with | .v c => (match c with | .one x => x | _ => .any) | _ => .any) | none => .any
def rdN : Cell → Nat | .int _ n => n.toNat | _ => 0
/-- Keys above a number. -/
def aboveE (j : Nat) : List (Int × Comp) → List (Int × Comp) | [] => [] | x :: l => @Bool.rec (fun _ => List (Int × Comp)) (aboveE j l) (x :: aboveE j l) (Bool.not (ileB x.1 (Int.ofNat j)))
/-! Values, forced. -/
def pthF (p : Pth) : (Pth → Bool) → Bool := @Pth.rec (fun _ => (Pth → Bool) → Bool) (fun k => k .e) (fun _ ih k => ih fun q => k (.z q)) (fun _ ih k => ih fun q => k (.s q)) p
def cellF (c : Cell) : (Cell → Bool) → Bool :=
  @Cell.rec (fun _ => (Cell → Bool) → Bool) (fun k => k .any) (fun kd n k => intK n fun n => k (.int kd n)) (fun kd a sy e k => intK a fun a => natK sy fun sy => intK e fun e => k (.lin kd a sy e))
    (fun b k => boolK b fun b => k (.bool b)) (fun l k => k (.str l)) (fun k => k .nilp) (fun id off k => k (.ptr id off)) (fun k => k .nils) (fun id off len cap k => natK len fun len => k (.sl id off len cap)) (fun id off len sz k => natK len fun len => k (.slU id off len sz)) (fun k => k .sl0) (fun k => k .nilf)
    (fun f a b k => k (.fn f a b)) (fun k => k .nilm) (fun id k => k (.map id)) (fun id off sy sz k => pthF id fun id => natK sy fun sy => k (.slL id off sy sz)) c
def cellsF (l : List Cell) : (List Cell → Bool) → Bool := @List.rec Cell (fun _ => (List Cell → Bool) → Bool) (fun k => k []) (fun x _ ih k => cellF x fun x => ih fun l => k (x :: l)) l
def entsF (l : List (Int × Comp)) : (List (Int × Comp) → Bool) → Bool := @List.rec (Int × Comp) (fun _ => (List (Int × Comp) → Bool) → Bool) (fun k => k []) (fun x _ ih k => ih fun l => k (x :: l)) l
def bkF (b : Bk) : (Bk → Bool) → Bool := @Bk.rec (fun _ => (Bk → Bool) → Bool) (fun op l k => cellsF l fun l => k (.row op l)) (fun es k => entsF es fun es => k (.map es)) (fun k => k .dead) (fun l k => cellsF l fun l => k (.tab l)) b
def prsF (l : List (Pth × Pth)) : (List (Pth × Pth) → Bool) → Bool := @List.rec (Pth × Pth) (fun _ => (List (Pth × Pth) → Bool) → Bool) (fun k => k []) (fun x _ ih k => pthF x.1 fun a => pthF x.2 fun b => ih fun l => k ((a, b) :: l)) l
def sgF (l : Sg) : (Sg → Bool) → Bool := @List.rec (Nat × Line) (fun _ => (Sg → Bool) → Bool) (fun k => k []) (fun x _ ih k => natK x.1 fun s => intK x.2.1 fun a => natK x.2.2.1 fun t => intK x.2.2.2 fun c => ih fun l => k ((s, a, t, c) :: l)) l
def ivE (x : Iv) (k : Iv → Bool) : Bool := @Iv.rec (fun _ => Bool) (fun lo hi md => intK lo fun lo => intK hi fun hi => natK md fun md => k ⟨lo, hi, md⟩) x
theorem pthF_eq : ∀ (p : Pth) (k : Pth → Bool), pthF p k = k p
  | .e, k => rfl
  | .z p, k => pthF_eq p _
  | .s p, k => pthF_eq p _
theorem cellF_eq (c : Cell) (k : Cell → Bool) : cellF c k = k c := by
  cases c <;> first
    | rfl
    | exact intK_eq _ _
    | exact boolK_eq _ _
    | exact natK_eq _ _
    | (show intK _ (fun a => natK _ fun sy => intK _ fun e => k (.lin _ a sy e)) = _; rw [intK_eq, natK_eq, intK_eq])
    | (show pthF _ (fun id => natK _ fun sy => k (.slL id _ sy _)) = _; rw [pthF_eq, natK_eq])
theorem cellsF_eq : ∀ (l : List Cell) (k : List Cell → Bool), cellsF l k = k l
  | [], k => rfl
  | x :: l, k => by show cellF x (fun x => cellsF l fun l => k (x :: l)) = _; rw [cellF_eq, cellsF_eq l]
theorem entsF_eq : ∀ (l : List (Int × Comp)) (k : List (Int × Comp) → Bool), entsF l k = k l
  | [], k => rfl
  | x :: l, k => by show entsF l (fun l => k (x :: l)) = _; rw [entsF_eq l]
theorem bkF_eq (b : Bk) (k : Bk → Bool) : bkF b k = k b := by
  cases b
  · exact cellsF_eq _ _
  · exact entsF_eq _ _
  · rfl
  · exact cellsF_eq _ _
theorem prsF_eq : ∀ (l : List (Pth × Pth)) (k : List (Pth × Pth) → Bool), prsF l k = k l
  | [], k => rfl
  | x :: l, k => by show pthF x.1 (fun a => pthF x.2 fun b => prsF l fun l => k ((a, b) :: l)) = _; rw [pthF_eq, pthF_eq, prsF_eq l]
theorem sgF_eq : ∀ (l : Sg) (k : Sg → Bool), sgF l k = k l
  | [], k => rfl
  | x :: l, k => by show natK x.1 (fun s => intK x.2.1 fun a => natK x.2.2.1 fun t => intK x.2.2.2 fun c => sgF l fun l => k ((s, a, t, c) :: l)) = _; rw [natK_eq, intK_eq, natK_eq, intK_eq, sgF_eq l]
theorem ivE_eq (x : Iv) (k : Iv → Bool) : ivE x k = k x := by
  cases x
  show intK _ (fun lo => intK _ fun hi => natK _ fun md => k ⟨lo, hi, md⟩) = _
  rw [intK_eq, intK_eq, natK_eq]
/-- .. against a state, what is told forced. -/
def matF (base : Nat) (rl : List (Pth × Pth)) (sg : Sg) (tp : Ts) (sp : St) (t : Ts) (s : St) : Bool := prsF rl fun rl => sgF sg fun sg => matB base rl sg tp sp t s
theorem matF_eq (base : Nat) (rl : List (Pth × Pth)) (sg : Sg) (tp : Ts) (sp : St) (t : Ts) (s : St) : matF base rl sg tp sp t s = matB base rl sg tp sp t s := by
  unfold matF; rw [prsF_eq, sgF_eq]
/-- Blocks laid anew. -/
def layK : List (Pth × Bk) → Tr Blk → (Tr Blk → Bool) → Bool :=
  @List.rec (Pth × Bk) (fun _ => Tr Blk → (Tr Blk → Bool) → Bool) (fun h k => k h) (fun x _ ih h k => pthF x.1 fun p => natK p.nat fun no => bkF x.2 fun b => setK p h ⟨no, b⟩ fun h => ih h k)
def layL : List (Pth × Bk) → Tr Blk → Tr Blk | [], h => h | x :: l, h => layL l (h.set x.1 ⟨x.1.nat, x.2⟩)
/-- Slots laid anew. -/
def putsK : List (Pth × AV) → Ts → (Ts → Bool) → Bool :=
  @List.rec (Pth × AV) (fun _ => Ts → (Ts → Bool) → Bool) (fun h k => k h) (fun x _ ih h k => setK x.1 h x.2 fun h => ih h k)
def putsL : List (Pth × AV) → Ts → Ts | [], h => h | x :: l, h => putsL l (h.set x.1 x.2)
theorem layK_spec : ∀ (l : List (Pth × Bk)) (h : Tr Blk) (k : Tr Blk → Bool), layK l h k = k (layL l h)
  | [], h, k => rfl
  | x :: l, h, k => by
    show pthF x.1 (fun p => natK p.nat fun no => bkF x.2 fun b => setK p h ⟨no, b⟩ fun h => layK l h k) = _
    rw [pthF_eq, natK_eq, bkF_eq, setK_eq, layK_spec l]; rfl
theorem putsK_spec : ∀ (l : List (Pth × AV)) (h : Ts) (k : Ts → Bool), putsK l h k = k (putsL l h)
  | [], h, k => rfl
  | x :: l, h, k => by
    show setK x.1 h x.2 (fun h => putsK l h k) = _
    rw [setK_eq, putsK_spec l]; rfl
theorem allK_true {f : Nat → Bool} : ∀ {n : Nat}, allK n f = true → ∀ i, i < n → f i = true
  | 0, h, i, hi => absurd hi (Nat.not_lt_zero _)
  | n + 1, h, i, hi => by
    obtain ⟨h1, h2⟩ := guardK_true (show guardK (allK n f) (natK n f) = true from h)
    by_cases e : i = n
    · subst e; exact natK_true h2
    · exact allK_true h1 i (by omega)
/-- Does a piece of code call a function? -/
def callsO (f : Nat) : XOp → Bool | .call g _ _ _ => Nat.beq g f | _ => false
def callsL (f : Nat) : List XO → Bool | [] => false | o :: l => Bool.or (callsO f o.op) (callsL f l)
def callsB (f : Nat) (c : XCode) : Bool :=
  @XCode.rec (fun _ => Bool) false (fun ops => callsL f ops) (fun ops _ => callsL f ops) (fun _ _ a b => Bool.or a b) (fun _ _ _ a b => Bool.or a b) (fun _ _ a => a) (fun _ a => a) (fun _ => false) false c
/-- Intervals of symbols: n of them, then others. -/
def seg (f : Nat → Iv) : Nat → Nat → List Iv → List Iv := @Nat.rec (fun _ => Nat → List Iv → List Iv) (fun _ r => r) (fun _ ih i r => f i :: ih (Nat.succ i) r)
def segK (f : Nat → Iv) : Nat → Nat → List Iv → (List Iv → Bool) → Bool := @Nat.rec (fun _ => Nat → List Iv → (List Iv → Bool) → Bool) (fun _ r k => k r) (fun _ ih i r k => natK (Nat.succ i) fun j => ih j r fun l => ivE (f i) fun x => k (x :: l))
theorem segK_eq (f : Nat → Iv) : ∀ (n i : Nat) (r : List Iv) (k : List Iv → Bool), segK f n i r k = k (seg f n i r)
  | 0, i, r, k => rfl
  | n + 1, i, r, k => by
    show natK (Nat.succ i) (fun j => segK f n j r fun l => ivE (f i) fun x => k (x :: l)) = _
    rw [natK_eq, segK_eq f n, ivE_eq]; rfl
structure IvT where
  bits : Iv
  want : Nat → Iv
  a : Nat → Iv
  b : Nat → Iv
  lv : Nat → Iv
  W : Iv
  C : Iv
  M : Nat → Iv
  U : Nat → Iv
def zIv (_ : Nat) : Iv := ⟨Int.ofNat 0, Int.ofNat 0, 0⟩
def ivAll (T : IvT) : List Iv := T.bits :: seg zIv 15 0 (seg T.want 16 0 (seg T.a 16 0 (seg T.b 16 0 (seg T.lv 16 0 (T.W :: T.C :: seg zIv 14 0 (seg T.M 16 0 (seg T.U 16 0 [])))))))
def ivAllK (T : IvT) (k : List Iv → Bool) : Bool :=
  segK T.U 16 0 [] fun l => segK T.M 16 0 l fun l => segK zIv 14 0 l fun l => ivE T.C fun C => ivE T.W fun W => segK T.lv 16 0 (W :: C :: l) fun l => segK T.b 16 0 l fun l => segK T.a 16 0 l fun l => segK T.want 16 0 l fun l => segK zIv 15 0 l fun l => ivE T.bits fun b => k (b :: l)
theorem ivAllK_eq (T : IvT) (k : List Iv → Bool) : ivAllK T k = k (ivAll T) := by
  unfold ivAllK
  rw [segK_eq, segK_eq, segK_eq, ivE_eq, ivE_eq, segK_eq, segK_eq, segK_eq, segK_eq, segK_eq, ivE_eq]; rfl
def iv3 (lo hi md : Nat) : Iv := ⟨Int.ofNat lo, Int.ofNat hi, md⟩
def ifB {α : Type} (b : Bool) (x y : α) : α := @Bool.rec (fun _ => α) y x b
/-- How the symbols of a task's bits, of its being met, are made. -/
def mdA (n i : Nat) : Nat := ifB (Nat.blt i n) (Nat.add Go.Rsf.LT (8 * (256 * (16 + i)))) 0
def mdM (n i : Nat) : Nat := ifB (Nat.blt i n) (ifB (Nat.beq (i % 2) 0) (Nat.add Go.Rsf.LT (1 + 8 * ((32 + i) + 256 * (16 + i)))) (Nat.add Go.Rsf.LT (2 + 8 * (32 + i)))) 0
/-! ### The eventflag's tasks that are woken -/
/-- The loop of Raise: behind j tasks, u of which wait on. -/
def ivR (n j u : Nat) : IvT :=
  ⟨iv3 0 255 0, fun i => iv3 (ifB (Nat.blt i n) 1 0) 255 0, fun i => iv3 0 255 (mdA n i), fun i => iv3 0 1 (mdM n i), fun i => iv3 0 255 0, iv3 0 65535 0, ifB (Nat.beq j n) (iv3 (n - u) (n - u) 0) (iv3 0 15 0),
    fun k => ifB (Nat.blt k (j - u)) (iv3 1 j 0) (iv3 0 15 0), fun k => ifB (Nat.blt k u) (iv3 1 j 0) (iv3 0 15 0)⟩
def updR (n : Nat) (t : Ts) (s : St) (j u : Nat) : List (Pth × Bk) :=
  let F := rdRow s.heap (rdId (rdS t q0))
  let Q := rdRow s.heap (rdId (rdC F 0))
  let A := rdRow s.heap (rdId (rdC Q 0))
  (rdId (rdC F 0), .row false (wrC Q 0 (wrLen (rdC Q 0) (u + (n - j))))) ::
  (rdId (rdC F 4), .map (aboveE j (rdMap s.heap (rdId (rdC F 4))))) ::
  (if n = 0 then [] else (rdId (rdC Q 0), .row true (ctC (tbC (fun k => [cL (112 + k), cL (112 + k)]) u 0) (ctC (tkC (2 * (n - j)) (drC (2 * j) A)) (tbC (fun _ => [cI 0, cI 0]) (j - u) 0)))) ::
  (if j = u then [] else [(s.next, .row true (tbC (fun k => [cL (96 + k), .lin .u32 (Int.ofNat 1) 0 (Int.ofNat 0)]) (j - u) 0))]))
def slR (s : St) (j u : Nat) : List (Pth × AV) := [(q33, .v (.one (cI j))), (q7, .v (.one (if j = u then .nils else .slU s.next 0 (j - u) 2)))]
def staRs (n : Nat) (t : Ts) (s : St) (j u : Nat) : St := ⟨layL (updR n t s j u) s.heap, s.next.succ, s.cnt + 1, s.wlo, ivAll (ivR n j u)⟩
def staRt (s : St) (t : Ts) (j u : Nat) : Ts := putsL (slR s j u) t
def staR (n : Nat) (t : Ts) (s : St) (j u : Nat) (k : Ts → St → Bool) : Bool :=
  putsK (slR s j u) t fun tp => layK (updR n t s j u) s.heap fun h => natK (s.cnt + 1) fun c => succK s.next fun nx => ivAllK (ivR n j u) fun iv => k tp ⟨h, nx, c, s.wlo, iv⟩
theorem staR_spec (n : Nat) (t : Ts) (s : St) (j u : Nat) (k : Ts → St → Bool) : staR n t s j u k = k (staRt s t j u) (staRs n t s j u) := by
  unfold staR
  rw [putsK_spec, layK_spec, natK_eq, succK_eq, ivAllK_eq]; rfl
def renR (s : St) (t1 : Ts) (m : Nat) : List (Pth × Pth) := if m = 0 then [] else [(s.next, rdId (rdS t1 q7))]
/-- Behind a round: the task's symbol tells whether it was woken. -/
def nxR (n : Nat) (t : Ts) (s : St) (j u : Nat) (t1 : Ts) (s1 : St) : Bool :=
  guardK (Nat.blt j n) (nthIv s1.iv (48 + j) fun y => @Bool.rec (fun _ => Bool)
    (guardK (ieqB y.hi (Int.ofNat 0)) (natK (j + 1) fun j' => natK (u + 1) fun u' => staR n t s j' u' fun tp sp => matF s.cnt (renR s t1 (j - u)) [(112 + u, (Int.ofNat 0, 0, Int.ofNat j'))] tp sp t1 s1))
    (natK (j + 1) fun j' => staR n t s j' u fun tp sp => matF s.cnt (renR s t1 (j' - u)) [(96 + (j - u), (Int.ofNat 0, 0, Int.ofNat j'))] tp sp t1 s1) (ieqB y.lo (Int.ofNat 1)))
/-! ### The tasks that are told -/
/-- The kernel's blocks, of the tasks 1 to n what their symbols tell; the rows' blocks are x0 and those behind. -/
def ivF (k t' : Nat) : IvT :=
  ⟨iv3 0 255 0, fun i => iv3 0 255 0, fun i => iv3 0 255 0, fun i => iv3 0 (ifB (Nat.blt (i + 1) t') 1 0) 0, fun i => iv3 0 255 0, iv3 0 65535 (Nat.add Go.Rsf.LT (4 + 8 * 48)), iv3 0 15 0,
    fun q => ifB (Nat.beq q k) (ifB (Nat.ble t' 15) (iv3 t' t' 0) (iv3 0 15 0)) (iv3 0 15 0), fun q => iv3 0 15 0⟩
def keyP (p : Pth) : Nat → Pth := @Nat.rec (fun _ => Pth) p (fun _ ih => ih.succ)
def updF (n : Nat) (kp : Pth) (h : Tr Blk) (x0 : Pth) : List (Pth × Bk) :=
  let K := rdRow h kp
  let U := rdRow h (rdId (rdC K 9))
  let R := rdRow h (rdId (rdC K 8))
  let unit := fun i => rdId (rdC U (i + 1))
  (rdId (rdC K 8), .row false (.lin .u64 (Int.ofNat 1) 80 (Int.ofNat 0) :: ctC (tkC 4 (drC 1 R)) (ctC (tbC (fun i => [.slL (keyP x0 i) 0 (48 + i) 1]) n 0) (ctC (tkC (17 - n) (drC (5 + n) R)) (ctC (tbC (fun i => [.lin .i64 (Int.ofNat (i + 1)) (48 + i) (Int.ofNat 0)]) n 0) (drC (22 + n) R)))))) ::
  @Nat.rec (fun _ => List (Pth × Bk)) [] (fun i ih =>
    (unit i, .row false (ctC (tkC 3 (rdRow h (unit i))) [.lin .i64 (Int.negSucc 3) (48 + i) (Int.ofNat 4), .lin .i64 (Int.negSucc 0) (48 + i) (Int.ofNat 1), cI 0, cI 0, cL (64 + i)])) ::
    (rdId (rdC (rdRow h (unit i)) 0), .row false (wrC (rdRow h (rdId (rdC (rdRow h (unit i)) 0))) 3 (.lin .i64 (Int.negSucc 1) (48 + i) (Int.ofNat 4)))) ::
    (rdId (rdC R (5 + i)), .dead) :: (keyP x0 i, .row true [.lin .i64 (Int.ofNat (i + 1)) (48 + i) (Int.ofNat 0)]) :: ih) n
def rensF (n : Nat) (kp : Pth) (h1 : Tr Blk) (x0 : Pth) : List (Pth × Pth) :=
  let R := rdRow h1 (rdId (rdC (rdRow h1 kp) 8))
  @Nat.rec (fun _ => List (Pth × Pth)) [] (fun i ih => (keyP x0 i, rdId (rdC R (5 + i))) :: ih) n
def staFs (n : Nat) (t : Ts) (s : St) (k t' : Nat) : St := ⟨layL (updF n (rdId (rdS t q0)) s.heap s.next) s.heap, keyP s.next n, s.cnt + n, s.wlo, ivAll (ivF k t')⟩
def staFt (t : Ts) (k : Nat) : Ts := putsL [(q67, .v (.one (cI k)))] t
def sg0 : Nat → Sg := @Nat.rec (fun _ => Sg) [(80, (Int.ofNat 0, 0, Int.ofNat 32768))] (fun i ih => (48 + i, (Int.ofNat 0, 0, Int.ofNat 0)) :: (64 + i, (Int.ofNat 0, 0, Int.ofNat 0)) :: ih)
def sg1 (t' : Nat) : Sg := [(47 + t', (Int.ofNat 0, 0, Int.ofNat 1)), (63 + t', (Int.ofNat 1, 0, Int.ofNat 0)), (80, (Int.ofNat 1, 80, Int.ofNat (2 ^ (t' - 1))))]
/-- The blocks and the numbering of the family's stations. -/
def layF (n : Nat) (t : Ts) (s : St) (f : Tr Blk → Pth → Nat → Bool) : Bool :=
  layK (updF n (rdId (rdS t q0)) s.heap s.next) s.heap fun h => pthF (keyP s.next n) fun nx => natK (s.cnt + n) fun c => f h nx c
theorem layF_eq (n : Nat) (t : Ts) (s : St) (f : Tr Blk → Pth → Nat → Bool) : layF n t s f = f (layL (updF n (rdId (rdS t q0)) s.heap s.next) s.heap) (keyP s.next n) (s.cnt + n) := by
  unfold layF; rw [layK_spec, pthF_eq, natK_eq]
def slF (t : Ts) (k : Nat) (f : Ts → Bool) : Bool := putsK [(q67, .v (.one (cI k)))] t f
theorem slF_eq (t : Ts) (k : Nat) (f : Ts → Bool) : slF t k f = f (staFt t k) := putsK_spec _ _ _
def nxF (n : Nat) (t : Ts) (s : St) (h : Tr Blk) (nx : Pth) (c : Nat) (k t' : Nat) (t1 : Ts) (s1 : St) : Bool :=
  natK (k + 1) fun k' => slF t k' fun tp => matF s.cnt (rensF n (rdId (rdS t q0)) s1.heap s.next) (sg1 t') tp ⟨h, nx, c, s.wlo, []⟩ t1 s1
/-! ### The call -/
/-- The kernel behind the call: the eventflag's blocks are spoken of no more. -/
def updS (n : Nat) (kp : Pth) (h : Tr Blk) (x0 : Pth) : List (Pth × Bk) :=
  let F := rdId (rdC (rdRow h (rdId (rdC (rdRow h kp) 1))) 0)
  let Q := rdId (rdC (rdRow h F) 0)
  (F, .dead) :: (Q, .dead) :: (rdId (rdC (rdRow h F) 4), .dead) :: (if n = 0 then updF n kp h x0 else (rdId (rdC (rdRow h Q) 0), .dead) :: updF n kp h x0)
def vOK : AV := .v (.agg [.int .i64 (Int.ofNat 0), .int .i64 (Int.ofNat 0)])
end
end Go.Rsf
