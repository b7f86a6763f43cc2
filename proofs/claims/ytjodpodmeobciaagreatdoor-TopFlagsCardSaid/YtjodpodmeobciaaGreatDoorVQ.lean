/- An executor over a program's operations: an operation of the program, held against the executor's: the check. Conditions: none. -/
import Derived.Test.YtjodpodmeobciaaGreatDoorVP
namespace Go.Rsf
open Go.RowKit
set_option linter.unusedVariables false
set_option linter.unusedSimpArgs false

noncomputable def isMove (o : Op) (f : Operand → Bool) : Bool := match o with | .move a0 => f a0 | _ => false
theorem isMove_true {o : Op} {f : Operand → Bool} (h : isMove o f = true) : ∃ a0, o = .move a0 ∧ f a0 = true := by cases o <;> first | exact ⟨_,  rfl, h⟩ | cases h
noncomputable def isAssign (o : Op) (f : Operand → Bool) : Bool := match o with | .assign a0 => f a0 | _ => false
theorem isAssign_true {o : Op} {f : Operand → Bool} (h : isAssign o f = true) : ∃ a0, o = .assign a0 ∧ f a0 = true := by cases o <;> first | exact ⟨_,  rfl, h⟩ | cases h
noncomputable def isPick (o : Op) (f : Operand → Operand → Operand → Bool) : Bool := match o with | .pick a0 a1 a2 => f a0 a1 a2 | _ => false
theorem isPick_true {o : Op} {f : Operand → Operand → Operand → Bool} (h : isPick o f = true) : ∃ a0 a1 a2, o = .pick a0 a1 a2 ∧ f a0 a1 a2 = true := by cases o <;> first | exact ⟨_, _, _,  rfl, h⟩ | cases h
noncomputable def isAlloc (o : Op) (f : TypeId → Bool) : Bool := match o with | .alloc a0 => f a0 | _ => false
theorem isAlloc_true {o : Op} {f : TypeId → Bool} (h : isAlloc o f = true) : ∃ a0, o = .alloc a0 ∧ f a0 = true := by cases o <;> first | exact ⟨_,  rfl, h⟩ | cases h
noncomputable def isBox (o : Op) (f : TypeId → Operand → Bool) : Bool := match o with | .box a0 a1 => f a0 a1 | _ => false
theorem isBox_true {o : Op} {f : TypeId → Operand → Bool} (h : isBox o f = true) : ∃ a0 a1, o = .box a0 a1 ∧ f a0 a1 = true := by cases o <;> first | exact ⟨_, _,  rfl, h⟩ | cases h
noncomputable def isBuild (o : Op) (f : TypeId → Array (Nat × Operand) → Bool) : Bool := match o with | .build a0 a1 => f a0 a1 | _ => false
theorem isBuild_true {o : Op} {f : TypeId → Array (Nat × Operand) → Bool} (h : isBuild o f = true) : ∃ a0 a1, o = .build a0 a1 ∧ f a0 a1 = true := by cases o <;> first | exact ⟨_, _,  rfl, h⟩ | cases h
noncomputable def isBuildSlice (o : Op) (f : TypeId → Nat → Array (Nat × Operand) → Bool) : Bool := match o with | .buildSlice a0 a1 a2 => f a0 a1 a2 | _ => false
theorem isBuildSlice_true {o : Op} {f : TypeId → Nat → Array (Nat × Operand) → Bool} (h : isBuildSlice o f = true) : ∃ a0 a1 a2, o = .buildSlice a0 a1 a2 ∧ f a0 a1 a2 = true := by cases o <;> first | exact ⟨_, _, _,  rfl, h⟩ | cases h
noncomputable def isLoad (o : Op) (f : TypeId → Operand → Bool) : Bool := match o with | .load a0 a1 => f a0 a1 | _ => false
theorem isLoad_true {o : Op} {f : TypeId → Operand → Bool} (h : isLoad o f = true) : ∃ a0 a1, o = .load a0 a1 ∧ f a0 a1 = true := by cases o <;> first | exact ⟨_, _,  rfl, h⟩ | cases h
noncomputable def isStore (o : Op) (f : TypeId → Operand → Operand → Bool) : Bool := match o with | .store a0 a1 a2 => f a0 a1 a2 | _ => false
theorem isStore_true {o : Op} {f : TypeId → Operand → Operand → Bool} (h : isStore o f = true) : ∃ a0 a1 a2, o = .store a0 a1 a2 ∧ f a0 a1 a2 = true := by cases o <;> first | exact ⟨_, _, _,  rfl, h⟩ | cases h
noncomputable def isNilCheck (o : Op) (f : Operand → Bool) : Bool := match o with | .nilCheck a0 => f a0 | _ => false
theorem isNilCheck_true {o : Op} {f : Operand → Bool} (h : isNilCheck o f = true) : ∃ a0, o = .nilCheck a0 ∧ f a0 = true := by cases o <;> first | exact ⟨_,  rfl, h⟩ | cases h
noncomputable def isBinOp (o : Op) (f : BinOp → TypeId → Operand → Operand → TypeId → Bool) : Bool := match o with | .binOp a0 a1 a2 a3 a4 => f a0 a1 a2 a3 a4 | _ => false
theorem isBinOp_true {o : Op} {f : BinOp → TypeId → Operand → Operand → TypeId → Bool} (h : isBinOp o f = true) : ∃ a0 a1 a2 a3 a4, o = .binOp a0 a1 a2 a3 a4 ∧ f a0 a1 a2 a3 a4 = true := by cases o <;> first | exact ⟨_, _, _, _, _,  rfl, h⟩ | cases h
noncomputable def isUnOp (o : Op) (f : UnOp → TypeId → Operand → Bool) : Bool := match o with | .unOp a0 a1 a2 => f a0 a1 a2 | _ => false
theorem isUnOp_true {o : Op} {f : UnOp → TypeId → Operand → Bool} (h : isUnOp o f = true) : ∃ a0 a1 a2, o = .unOp a0 a1 a2 ∧ f a0 a1 a2 = true := by cases o <;> first | exact ⟨_, _, _,  rfl, h⟩ | cases h
noncomputable def isConvert (o : Op) (f : TypeId → TypeId → Operand → Bool) : Bool := match o with | .convert a0 a1 a2 => f a0 a1 a2 | _ => false
theorem isConvert_true {o : Op} {f : TypeId → TypeId → Operand → Bool} (h : isConvert o f = true) : ∃ a0 a1 a2, o = .convert a0 a1 a2 ∧ f a0 a1 a2 = true := by cases o <;> first | exact ⟨_, _, _,  rfl, h⟩ | cases h
noncomputable def isMakeFunc (o : Op) (f : Fn → Array Operand → Array Operand → Bool) : Bool := match o with | .makeFunc a0 a1 a2 => f a0 a1 a2 | _ => false
theorem isMakeFunc_true {o : Op} {f : Fn → Array Operand → Array Operand → Bool} (h : isMakeFunc o f = true) : ∃ a0 a1 a2, o = .makeFunc a0 a1 a2 ∧ f a0 a1 a2 = true := by cases o <;> first | exact ⟨_, _, _,  rfl, h⟩ | cases h
noncomputable def isFieldAddr (o : Op) (f : TypeId → Operand → Nat → Bool) : Bool := match o with | .fieldAddr a0 a1 a2 => f a0 a1 a2 | _ => false
theorem isFieldAddr_true {o : Op} {f : TypeId → Operand → Nat → Bool} (h : isFieldAddr o f = true) : ∃ a0 a1 a2, o = .fieldAddr a0 a1 a2 ∧ f a0 a1 a2 = true := by cases o <;> first | exact ⟨_, _, _,  rfl, h⟩ | cases h
noncomputable def isField (o : Op) (f : TypeId → Operand → Nat → Bool) : Bool := match o with | .field a0 a1 a2 => f a0 a1 a2 | _ => false
theorem isField_true {o : Op} {f : TypeId → Operand → Nat → Bool} (h : isField o f = true) : ∃ a0 a1 a2, o = .field a0 a1 a2 ∧ f a0 a1 a2 = true := by cases o <;> first | exact ⟨_, _, _,  rfl, h⟩ | cases h
noncomputable def isIndexAddr (o : Op) (f : TypeId → Operand → Operand → Bool) : Bool := match o with | .indexAddr a0 a1 a2 => f a0 a1 a2 | _ => false
theorem isIndexAddr_true {o : Op} {f : TypeId → Operand → Operand → Bool} (h : isIndexAddr o f = true) : ∃ a0 a1 a2, o = .indexAddr a0 a1 a2 ∧ f a0 a1 a2 = true := by cases o <;> first | exact ⟨_, _, _,  rfl, h⟩ | cases h
noncomputable def isSlice (o : Op) (f : TypeId → Operand → Option Operand → Option Operand → Option Operand → Bool) : Bool := match o with | .slice a0 a1 a2 a3 a4 => f a0 a1 a2 a3 a4 | _ => false
theorem isSlice_true {o : Op} {f : TypeId → Operand → Option Operand → Option Operand → Option Operand → Bool} (h : isSlice o f = true) : ∃ a0 a1 a2 a3 a4, o = .slice a0 a1 a2 a3 a4 ∧ f a0 a1 a2 a3 a4 = true := by cases o <;> first | exact ⟨_, _, _, _, _,  rfl, h⟩ | cases h
noncomputable def isMakeSlice (o : Op) (f : TypeId → Operand → Operand → Bool) : Bool := match o with | .makeSlice a0 a1 a2 => f a0 a1 a2 | _ => false
theorem isMakeSlice_true {o : Op} {f : TypeId → Operand → Operand → Bool} (h : isMakeSlice o f = true) : ∃ a0 a1 a2, o = .makeSlice a0 a1 a2 ∧ f a0 a1 a2 = true := by cases o <;> first | exact ⟨_, _, _,  rfl, h⟩ | cases h
noncomputable def isExtract (o : Op) (f : Operand → Nat → Bool) : Bool := match o with | .extract a0 a1 => f a0 a1 | _ => false
theorem isExtract_true {o : Op} {f : Operand → Nat → Bool} (h : isExtract o f = true) : ∃ a0 a1, o = .extract a0 a1 ∧ f a0 a1 = true := by cases o <;> first | exact ⟨_, _,  rfl, h⟩ | cases h
noncomputable def isMakeMap (o : Op) (f : TypeId → Option Operand → Bool) : Bool := match o with | .makeMap a0 a1 => f a0 a1 | _ => false
theorem isMakeMap_true {o : Op} {f : TypeId → Option Operand → Bool} (h : isMakeMap o f = true) : ∃ a0 a1, o = .makeMap a0 a1 ∧ f a0 a1 = true := by cases o <;> first | exact ⟨_, _, rfl, h⟩ | cases h
noncomputable def isLookup (o : Op) (f : TypeId → Operand → Operand → Bool → Bool) : Bool := match o with | .lookup a0 a1 a2 a3 => f a0 a1 a2 a3 | _ => false
theorem isLookup_true {o : Op} {f : TypeId → Operand → Operand → Bool → Bool} (h : isLookup o f = true) : ∃ a0 a1 a2 a3, o = .lookup a0 a1 a2 a3 ∧ f a0 a1 a2 a3 = true := by cases o <;> first | exact ⟨_, _, _, _, rfl, h⟩ | cases h
noncomputable def isMapUpdate (o : Op) (f : TypeId → Operand → Operand → Operand → Bool) : Bool := match o with | .mapUpdate a0 a1 a2 a3 => f a0 a1 a2 a3 | _ => false
theorem isMapUpdate_true {o : Op} {f : TypeId → Operand → Operand → Operand → Bool} (h : isMapUpdate o f = true) : ∃ a0 a1 a2 a3, o = .mapUpdate a0 a1 a2 a3 ∧ f a0 a1 a2 a3 = true := by cases o <;> first | exact ⟨_, _, _, _, rfl, h⟩ | cases h
noncomputable def dMapI (P : Program) (f : TypeId → Bool) : TypeDesc → Bool | .map k e => tyUnd P k (dInt fun _ => true) && f e | _ => false
theorem dMapI_true {P : Program} {t : TypeId} {f : TypeId → Bool} (h : tyUnd P t (dMapI P f) = true) : ∃ k e kk, P.underlying t = some (.map k e) ∧ P.underlying k = some (.int kk) ∧ f e = true := by
  obtain ⟨d, hd, h1⟩ := tyUnd_true h
  cases d <;> first | (cases h1; done) | skip
  rename_i k e
  have h1 : (tyUnd P k (dInt fun _ => true) && f e) = true := h1
  rw [Bool.and_eq_true] at h1
  obtain ⟨d2, hd2, h2⟩ := tyUnd_true h1.1
  cases d2 <;> first | (cases h2; done) | skip
  exact ⟨_, _, _, hd, hd2, h1.2⟩
noncomputable def blDelete : Builtin → Bool | .delete => true | _ => false
theorem blDelete_true {b : Builtin} (h : blDelete b = true) : b = .delete := by cases b <;> first | rfl | cases h
noncomputable def isCall (o : Op) (f : Call → Bool) : Bool := match o with | .call a0 => f a0 | _ => false
theorem isCall_true {o : Op} {f : Call → Bool} (h : isCall o f = true) : ∃ a0, o = .call a0 ∧ f a0 = true := by cases o <;> first | exact ⟨_,  rfl, h⟩ | cases h
noncomputable def blLen : Builtin → Bool | .len => true | _ => false
theorem blLen_true {b : Builtin} (h : blLen b = true) : b = .len := by cases b <;> first | rfl | cases h
noncomputable def blCap : Builtin → Bool | .cap => true | _ => false
theorem blCap_true {b : Builtin} (h : blCap b = true) : b = .cap := by cases b <;> first | rfl | cases h
noncomputable def blAppend : Builtin → Bool | .append => true | _ => false
theorem blAppend_true {b : Builtin} (h : blAppend b = true) : b = .append := by cases b <;> first | rfl | cases h
noncomputable def blCopy : Builtin → Bool | .copy => true | _ => false
theorem blCopy_true {b : Builtin} (h : blCopy b = true) : b = .copy := by cases b <;> first | rfl | cases h
noncomputable def blClear : Builtin → Bool | .clear => true | _ => false
theorem blClear_true {b : Builtin} (h : blClear b = true) : b = .clear := by cases b <;> first | rfl | cases h
noncomputable def blMax : Builtin → Bool | .max => true | _ => false
theorem blMax_true {b : Builtin} (h : blMax b = true) : b = .max := by cases b <;> first | rfl | cases h
noncomputable def blMin : Builtin → Bool | .min => true | _ => false
theorem blMin_true {b : Builtin} (h : blMin b = true) : b = .min := by cases b <;> first | rfl | cases h
noncomputable def unNot : UnOp → Bool | .not => true | _ => false
theorem unNot_true {b : UnOp} (h : unNot b = true) : b = .not := by cases b <;> first | rfl | cases h
noncomputable def unNeg : UnOp → Bool | .neg => true | _ => false
theorem unNeg_true {b : UnOp} (h : unNeg b = true) : b = .neg := by cases b <;> first | rfl | cases h
noncomputable def isFunc (o : Operand) (f : FuncId → Bool) : Bool := match o with | .func a => f a | _ => false
theorem isFunc_true {o : Operand} {f : FuncId → Bool} (h : isFunc o f = true) : ∃ a, o = .func a ∧ f a = true := by cases o <;> first | exact ⟨_, rfl, h⟩ | cases h
noncomputable def isFnF (o : Fn) (f : FuncId → Bool) : Bool := match o with | .func a => f a | _ => false
theorem isFnF_true {o : Fn} {f : FuncId → Bool} (h : isFnF o f = true) : ∃ a, o = .func a ∧ f a = true := by cases o <;> first | exact ⟨_, rfl, h⟩ | cases h
noncomputable def isVal (o : Callee) (f : Operand → Bool) : Bool := match o with | .value a => f a | _ => false
theorem isVal_true {o : Callee} {f : Operand → Bool} (h : isVal o f = true) : ∃ a, o = .value a ∧ f a = true := by cases o <;> first | exact ⟨_, rfl, h⟩ | cases h
noncomputable def isBlt (o : Callee) (f : Builtin → Bool) : Bool := match o with | .builtin a => f a | _ => false
theorem isBlt_true {o : Callee} {f : Builtin → Bool} (h : isBlt o f = true) : ∃ a, o = .builtin a ∧ f a = true := by cases o <;> first | exact ⟨_, rfl, h⟩ | cases h
noncomputable def l1 {α : Type} (l : List α) (f : α → Bool) : Bool := match l with | [a] => f a | _ => false
noncomputable def l2 {α : Type} (l : List α) (f : α → α → Bool) : Bool := match l with | [a, b] => f a b | _ => false
noncomputable def lc {α : Type} (l : List α) (f : α → List α → Bool) : Bool := match l with | a :: r => f a r | _ => false
theorem l1_true {α : Type} {l : Array α} {f : α → Bool} (h : l1 l.toList f = true) : ∃ a, l = #[a] ∧ f a = true := by
  obtain ⟨l⟩ := l
  match l, h with | [a], h => exact ⟨a, rfl, h⟩
theorem l2_true {α : Type} {l : Array α} {f : α → α → Bool} (h : l2 l.toList f = true) : ∃ a b, l = #[a, b] ∧ f a b = true := by
  obtain ⟨l⟩ := l
  match l, h with | [a, b], h => exact ⟨a, b, rfl, h⟩
theorem lc_true {α : Type} {l : List α} {f : α → List α → Bool} (h : lc l f = true) : ∃ a b, l = a :: b ∧ f a b = true := by
  match l, h with | a :: b, h => exact ⟨a, b, rfl, h⟩
noncomputable def binA : AOp → BinOp → Bool
  | .add, .add => true | .sub, .sub => true | .mul, .mul => true | .quo, .quo => true | .rem, .rem => true | .and, .and => true | .or, .or => true | .andNot, .andNot => true | _, _ => false
theorem binA_true {a : AOp} {b : BinOp} (h : binA a b = true) : b = a.bin := by cases a <;> cases b <;> first | rfl | cases h
noncomputable def binC : COp → BinOp → Bool
  | .eql, .eql => true | .neq, .neq => true | .lss, .lss => true | .leq, .leq => true | .gtr, .gtr => true | .geq, .geq => true | _, _ => false
theorem binC_true {a : COp} {b : BinOp} (h : binC a b = true) : b = a.bin := by cases a <;> cases b <;> first | rfl | cases h
noncomputable def binS : Bool → BinOp → Bool | true, .shl => true | false, .shr => true | _, _ => false
theorem binS_true {a : Bool} {b : BinOp} (h : binS a b = true) : b = shBin a := by cases a <;> cases b <;> first | rfl | cases h
noncomputable def binE : Bool → BinOp → Bool | true, .neq => true | false, .eql => true | _, _ => false
theorem binE_true {a : Bool} {b : BinOp} (h : binE a b = true) : b = eqBin a := by cases a <;> cases b <;> first | rfl | cases h
noncomputable def blMM : Bool → Builtin → Bool | true, .max => true | false, .min => true | _, _ => false
theorem blMM_true {a : Bool} {b : Builtin} (h : blMM a b = true) : b = mmB a := by cases a <;> cases b <;> first | rfl | cases h
noncomputable def arrLen (P : Program) (n : Int) : TypeDesc → Bool
  | .array m _ => ieqB n (Int.ofNat m)
  | .pointer e => tyUnd P e (dArray fun m _ => ieqB n (Int.ofNat m))
  | _ => false
noncomputable def isIntA (a : XA) (f : IntKind → Int → Bool) : Bool := match a with | .c (.v (.one (.int k n))) => f k n | _ => false
theorem isIntA_true {a : XA} {f : IntKind → Int → Bool} (h : isIntA a f = true) : ∃ k n, a = .c (.v (.one (.int k n))) ∧ f k n = true := by
  unfold isIntA at h; split at h
  · exact ⟨_, _, rfl, h⟩
  · cases h
noncomputable def someB {α β : Type} (a : Option α) (b : Option β) : Bool := match a, b with | some _, none => false | _, _ => true
theorem someB_true {α β : Type} {a : Option α} {b : Option β} (h : someB a b = true) : a.isSome = true → b.isSome = true := by cases a <;> cases b <;> first | (intro _; rfl) | (intro e; cases e; done) | cases h
noncomputable def lenB (P : Program) (c : Call) (a : XA) : Bool :=
  isBlt c.callee fun b => blLen b && l1 c.args.toList fun _ => l1 c.argTypes.toList fun ty => isIntA a fun k n => kindB k .i64 && tyUnd P ty (arrLen P n)
noncomputable def bi (c : Call) (p : Builtin → Bool) (f : Operand → TypeId → Bool) : Bool := isBlt c.callee fun b => p b && l1 c.args.toList fun x => l1 c.argTypes.toList fun ty => f x ty
theorem bi_true {c : Call} {p : Builtin → Bool} {f : Operand → TypeId → Bool} (h : bi c p f = true) : ∃ b x ty, c.callee = .builtin b ∧ p b = true ∧ c.args = #[x] ∧ c.argTypes = #[ty] ∧ f x ty = true := by
  obtain ⟨b, hb, h1⟩ := isBlt_true h
  simp only [Bool.and_eq_true] at h1
  obtain ⟨x, hx, h2⟩ := l1_true h1.2
  obtain ⟨ty, ht, h3⟩ := l1_true h2
  exact ⟨b, x, ty, hb, h1.1, hx, ht, h3⟩
noncomputable def bi2 (c : Call) (p : Builtin → Bool) (f : Operand → Operand → TypeId → TypeId → Bool) : Bool := isBlt c.callee fun b => p b && l2 c.args.toList fun x y => l2 c.argTypes.toList fun ty ty' => f x y ty ty'
theorem bi2_true {c : Call} {p : Builtin → Bool} {f : Operand → Operand → TypeId → TypeId → Bool} (h : bi2 c p f = true) : ∃ b x y ty ty', c.callee = .builtin b ∧ p b = true ∧ c.args = #[x, y] ∧ c.argTypes = #[ty, ty'] ∧ f x y ty ty' = true := by
  obtain ⟨b, hb, h1⟩ := isBlt_true h
  simp only [Bool.and_eq_true] at h1
  obtain ⟨x, y, hx, h2⟩ := l2_true h1.2
  obtain ⟨ty, ty', ht, h3⟩ := l2_true h2
  exact ⟨b, x, y, ty, ty', hb, h1.1, hx, ht, h3⟩
/-- AN OPERATION OF THE PROGRAM IS THE EXECUTOR'S. -/
noncomputable def chkOp (P : Program) (g : Bool) (o : Oper) : XOp → Bool
  | .mov a => isMove o.op (fun x => xaB g x a) || isAssign o.op (fun x => xaB g x a) || isCall o.op (fun c => lenB P c a)
  | .nck a => isNilCheck o.op fun x => xaB g x a
  | .pick a b c => isPick o.op fun x y z => xaB g x a && xaB g y b && xaB g z c
  | .alloc zs => isAlloc o.op fun e => tyInfo P e fun i => zeroB i fun z => cellsB z.cells.toList zs
  | .box a => isBox o.op fun _ x => xaB g x a
  | .build zs xs => isBuild o.op fun ty ps => tyInfo P ty fun i => zeroB i fun z => cellsB z.cells.toList zs &&
      tyUnd P ty fun d => dStruct (fun fs => match placesOf P fs.toList with | some pl => xpsB g (pl[·]?) ps.toList xs | none => false) d || dArray (fun _ e => tyInfo P e fun ie => xpsB g (fun j => some (j * ie.size, ie.size)) ps.toList xs) d
  | .bsl zs n xs => isBuildSlice o.op fun ty m ps => Nat.beq m n && tySl P ty fun e i => zeroB i fun z => cellsB ((Array.range (n * i.size)).map (z.cells[· % z.cells.size]!)).toList zs && xpsB g (fun j => some (j * i.size, i.size)) ps.toList xs && Nat.ble (n * i.size) (2 ^ 24)
  | .ld1 a => isLoad o.op fun ty x => xaB g x a && aggB P ty false
  | .ldn a n => isLoad o.op fun ty x => xaB g x a && aggB P ty true && tyInfo P ty fun i => Nat.beq i.size n
  | .st a b n => isStore o.op fun ty x y => xaB g x a && xaB g y b && tyInfo P ty fun i => Nat.beq i.size n
  | .ar op a b => isBinOp o.op fun bo _ x y _ => binA op bo && xaB g x a && xaB g y b
  | .sh l a b => isBinOp o.op fun bo _ x y _ => binS l bo && xaB g x a && xaB g y b
  | .cmp op a b => isBinOp o.op fun bo _ x y _ => binC op bo && xaB g x a && xaB g y b
  | .eqv ek n a b => isBinOp o.op fun bo ty x y _ => binE n bo && xaB g x a && xaB g y b && tyUnd P ty fun d => ekD ek d
  | .not a => isUnOp o.op fun u _ x => unNot u && xaB g x a
  | .neg a => isUnOp o.op fun u _ x => unNeg u && xaB g x a
  | .conv k a => isConvert o.op fun s d x => xaB g x a && tyUnd P s (fun _ => true) && tyUnd P d (dInt fun k' => kindB k' k)
  | .mkf f a b => isMakeFunc o.op fun fn x y => isFnF fn (fun n => Nat.beq n f) && xasB g x.toList a && xasB g y.toList b
  | .fad a off => isFieldAddr o.op fun ty x n => xaB g x a && tyFd P ty n fun fd i => Nat.beq fd.offset off && !Nat.beq i.size 0
  | .fld1 a off => isField o.op fun ty x n => xaB g x a && tyFd P ty n fun fd _ => Nat.beq fd.offset off && aggB P fd.type false
  | .fldn a off m => isField o.op fun ty x n => xaB g x a && tyFd P ty n fun fd i => Nat.beq fd.offset off && Nat.beq i.size m && aggB P fd.type true
  | .ixa a b len sz => isIndexAddr o.op fun ty x y => xaB g x a && xaB g y b && tyAr P ty fun n _ i => Nat.beq n len && Nat.beq i.size sz
  | .ixs a b sz => isIndexAddr o.op fun ty x y => xaB g x a && xaB g y b && tySl P ty fun _ i => Nat.beq i.size sz
  | .sla a l h m n sz => isSlice o.op fun ty x lo hi mx => xaB g x a && oxaB g lo l && oxaB g hi h && oxaB g mx m && someB m h && tyAr P ty fun n' _ i => Nat.beq n' n && Nat.beq i.size sz
  | .sls a l h m sz => isSlice o.op fun ty x lo hi mx => xaB g x a && oxaB g lo l && oxaB g hi h && oxaB g mx m && someB m h && tySl P ty fun _ i => Nat.beq i.size sz && !Nat.beq i.size 0
  | .ext a n => isExtract o.op fun x i => xaB g x a && Nat.beq i n
  | .len a => isCall o.op fun c => bi c blLen fun x ty => xaB g x a && tyUnd P ty (dSlice fun _ => true)
  | .cap a => isCall o.op fun c => bi c blCap fun x ty => xaB g x a && tyUnd P ty (dSlice fun _ => true)
  | .app a b sz => isCall o.op fun c => bi2 c blAppend fun x y ty ty' => xaB g x a && xaB g y b && Nat.beq ty ty' && tySl P ty fun _ i => Nat.beq i.size sz && !Nat.beq i.size 0 && Nat.ble i.bytes 1073741824 && zeroB i fun z => Nat.beq z.cells.size i.size
  | .cpy a b sz => isCall o.op fun c => bi2 c blCopy fun x y ty _ => xaB g x a && xaB g y b && tySl P ty fun _ i => Nat.beq i.size sz
  | .clr a zs => isCall o.op fun c => bi c blClear fun x ty => xaB g x a && tySl P ty fun _ i => zeroB i fun z => cellsB z.cells.toList zs
  | .mm mx a as => isCall o.op fun c => isBlt c.callee fun b => blMM mx b && lc c.args.toList fun x xs => xaB g x a && xasB g xs as
  | .mks zs a b => isMakeSlice o.op fun ty x y => xaB g x a && xaB g y b && tySl P ty fun _ i => Nat.ble i.bytes 1073741824 && zeroB i fun z => cellsB z.cells.toList zs && Nat.beq z.cells.size i.size
  | .call f p as _ => isCall o.op fun c => isVal c.callee fun v => isFunc v (fun n => Nat.beq n f) && pnB p f && xasB g c.args.toList as
  | .no => true
  | .mkm => isMakeMap o.op fun _ r => r.isNone
  | .eqg n ks a b => isBinOp o.op fun bo ty x y _ => binE n bo && xaB g x a && xaB g y b && tyUnd P ty (dStruct fun _ => true) && !P.stoodInHeld ty && !P.eqGuardType P.depth ty && flatB P (P.fieldsOf ty).toList 0 ks
  | .mlk a b z ok => isLookup o.op fun ty x y ok' => (ok == ok') && xaB g x a && xaB g y b && tyUnd P ty (dMapI P fun et => tyInfo P et fun i => zeroB i fun v => avB v (.v z))
  | .mup a b c => isMapUpdate o.op fun ty x y v => xaB g x a && xaB g y b && xaB g v c && tyUnd P ty (dMapI P fun _ => true)
  | .mdl a b => isCall o.op fun c => bi2 c blDelete fun x y ty _ => xaB g x a && xaB g y b && tyUnd P ty (dMapI P fun _ => true)
  | .callv a as _ => isCall o.op fun c => isVal c.callee fun v => xaB g v a && xasB g c.args.toList as
end Go.Rsf
