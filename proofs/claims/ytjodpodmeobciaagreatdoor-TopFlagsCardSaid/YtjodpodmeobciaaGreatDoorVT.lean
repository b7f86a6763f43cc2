/- An executor over a program's operations: what an operation looks at; the steps of a row of operations. Conditions: none. -/
import Derived.Test.YtjodpodmeobciaaGreatDoorVS
namespace Go.Rsf
open Go.RowKit
set_option linter.unusedVariables false
set_option linter.unusedSimpArgs false
variable {P : Program} {ρ : Rho} {g : Bool} {o : Oper} {t : Ts} {s : St}

noncomputable def uA : XA → List Pth | .t p => [p] | .c _ => []
noncomputable def uAs : List XA → List Pth | [] => [] | a :: l => uA a ++ uAs l
noncomputable def uO : Option XA → List Pth | none => [] | some a => uA a
noncomputable def uP : List XP → List Pth | [] => [] | p :: l => uA p.x ++ uP l
/-- The slots that an operation looks at. -/
noncomputable def usesX : XOp → List Pth
  | .mov a => uA a
  | .nck a => uA a
  | .pick a b c => uA a ++ (uA b ++ uA c)
  | .alloc _ => []
  | .box a => uA a
  | .build _ ps => uP ps
  | .bsl _ _ ps => uP ps
  | .ld1 a => uA a
  | .ldn a _ => uA a
  | .st a b _ => uA a ++ uA b
  | .ar _ a b => uA a ++ uA b
  | .sh _ a b => uA a ++ uA b
  | .cmp _ a b => uA a ++ uA b
  | .eqv _ _ a b => uA a ++ uA b
  | .not a => uA a
  | .neg a => uA a
  | .conv _ a => uA a
  | .mkf _ a b => uAs a ++ uAs b
  | .fad a _ => uA a
  | .fld1 a _ => uA a
  | .fldn a _ _ => uA a
  | .ixa a b _ _ => uA a ++ uA b
  | .ixs a b _ => uA a ++ uA b
  | .sla a l h m _ _ => uA a ++ (uO l ++ (uO h ++ uO m))
  | .sls a l h m _ => uA a ++ (uO l ++ (uO h ++ uO m))
  | .ext a _ => uA a
  | .len a => uA a
  | .cap a => uA a
  | .app a b _ => uA a ++ uA b
  | .cpy a b _ => uA a ++ uA b
  | .clr a _ => uA a
  | .mm _ a as => uA a ++ uAs as
  | .mks _ a b => uA a ++ uA b
  | .call _ _ as _ => uAs as
  | .callv a as _ => uA a ++ uAs as
  | .no => []
  | .mkm => []
  | .eqg _ _ a b => uA a ++ uA b
  | .mlk a b _ _ => uA a ++ uA b
  | .mup a b c => uA a ++ (uA b ++ uA c)
  | .mdl a b => uA a ++ uA b
noncomputable def Ag (l : List Pth) (t t' : Ts) : Prop := ∀ p ∈ l, t.get p = t'.get p
theorem Ag.left {l m : List Pth} {t t' : Ts} (h : Ag (l ++ m) t t') : Ag l t t' := fun p hp => h p (List.mem_append_left _ hp)
theorem Ag.right {l m : List Pth} {t t' : Ts} (h : Ag (l ++ m) t t') : Ag m t t' := fun p hp => h p (List.mem_append_right _ hp)
theorem evX_ag {a : XA} {t t' : Ts} (h : Ag (uA a) t t') : evX a t = evX a t' := by
  cases a with
  | t p => exact h p (by simp [uA])
  | c v => rfl
theorem evK_ag {a : XA} {t t' : Ts} (h : Ag (uA a) t t') : evK a t = evK a t' := by
  funext k; rw [evK_eq, evK_eq, evX_ag h]
theorem ev1K_ag {a : XA} {t t' : Ts} (h : Ag (uA a) t t') : ev1K a t = ev1K a t' := by
  funext k; unfold ev1K; rw [evK_ag h]
theorem evsK_ag : ∀ {l : List XA} {t t' : Ts}, Ag (uAs l) t t' → evsK l t = evsK l t'
  | [], _, _, _ => rfl
  | a :: l, t, t', h => by
    funext k
    show evK a t (fun v => evsK l t fun l => k (v :: l)) = evK a t' (fun v => evsK l t' fun l => k (v :: l))
    rw [evK_ag h.left, evsK_ag h.right]
theorem evPK_ag : ∀ {l : List XA} {t t' : Ts}, Ag (uAs l) t t' → evPK l t = evPK l t'
  | [], _, _, _ => rfl
  | a :: l, t, t', h => by
    funext k
    show ev1K a t (fun x => isPtr x fun id off => evPK l t fun l => k ((id, off) :: l)) = ev1K a t' (fun x => isPtr x fun id off => evPK l t' fun l => k ((id, off) :: l))
    rw [ev1K_ag h.left, evPK_ag h.right]
theorem partsK_ag : ∀ {l : List XP} {t t' : Ts}, Ag (uP l) t t' → partsK l t = partsK l t'
  | [], _, _, _ => rfl
  | a :: l, t, t', h => by
    funext acc k
    show evK a.x t (fun v => isComp v fun c => compK c fun cs => lenIs cs a.size (putK acc a.off cs fun acc => partsK l t acc k)) = evK a.x t' (fun v => isComp v fun c => compK c fun cs => lenIs cs a.size (putK acc a.off cs fun acc => partsK l t' acc k))
    rw [evK_ag h.left, partsK_ag h.right]
theorem mmsK_ag {mx : Bool} : ∀ {l : List XA} {t t' : Ts}, Ag (uAs l) t t' → mmsK mx l t = mmsK mx l t'
  | [], _, _, _ => rfl
  | a :: l, t, t', h => by
    funext kd x k
    show ev1K a t (fun c => isInt c fun _ b => @Bool.rec (fun _ => Bool) (mmsK mx l t kd b k) (mmsK mx l t kd x k) (mm2 mx x b)) = ev1K a t' (fun c => isInt c fun _ b => @Bool.rec (fun _ => Bool) (mmsK mx l t' kd b k) (mmsK mx l t' kd x k) (mm2 mx x b))
    rw [ev1K_ag h.left, mmsK_ag h.right]
theorem bndK_ag {b : Option XA} {t t' : Ts} (h : Ag (uO b) t t') : bndK b t = bndK b t' := by
  cases b with
  | none => rfl
  | some a =>
    funext d k
    have e : ev1K a t = ev1K a t' := ev1K_ag h
    unfold bndK
    simp only [e]
theorem opK_ag {ck : CK} {x : XOp} {t t' : Ts} {k : KVS} (h : Ag (usesX x) t t') : opK ck x t s k = opK ck x t' s k := by
  cases x with
  | mov a => show movF a t s k = movF a t' s k; unfold movF; rw [evK_ag h]
  | nck a => show nckF a t s k = nckF a t' s k; unfold nckF; rw [evK_ag h]
  | pick a b c => show pickF a b c t s k = pickF a b c t' s k; unfold pickF; rw [ev1K_ag h.left, evK_ag h.right.left, evK_ag h.right.right]
  | alloc zs => rfl
  | box a => show boxF a t s k = boxF a t' s k; unfold boxF; rw [evK_ag h]
  | build zs ps => show buildF zs ps t s k = buildF zs ps t' s k; unfold buildF; rw [partsK_ag h]
  | bsl zs n ps => show bslF zs n ps t s k = bslF zs n ps t' s k; unfold bslF; rw [partsK_ag h]
  | ld1 a => show ld1F a t s k = ld1F a t' s k; unfold ld1F; rw [evK_ag h]
  | ldn a n => show ldnF a n t s k = ldnF a n t' s k; unfold ldnF; rw [ev1K_ag h]
  | st a b n => show stF a b n t s k = stF a b n t' s k; unfold stF; rw [ev1K_ag h.left, evK_ag h.right]
  | ar op a b => show arF op a b t s k = arF op a b t' s k; unfold arF; rw [ev1K_ag h.left, ev1K_ag h.right]
  | sh op a b => show shF op a b t s k = shF op a b t' s k; unfold shF; rw [ev1K_ag h.left, ev1K_ag h.right]
  | cmp op a b => show cmpF op a b t s k = cmpF op a b t' s k; unfold cmpF; rw [ev1K_ag h.left, ev1K_ag h.right]
  | eqv ek n a b => show eqvF ek n a b t s k = eqvF ek n a b t' s k; unfold eqvF; rw [ev1K_ag h.left, ev1K_ag h.right]
  | not a => show notF a t s k = notF a t' s k; unfold notF; rw [ev1K_ag h]
  | neg a => show negF a t s k = negF a t' s k; unfold negF; rw [ev1K_ag h]
  | conv kd a => show convF kd a t s k = convF kd a t' s k; unfold convF; rw [ev1K_ag h]
  | mkf f a b => show mkfF f a b t s k = mkfF f a b t' s k; unfold mkfF; rw [evPK_ag h.left, evPK_ag h.right]
  | fad a n => show fadF a n t s k = fadF a n t' s k; unfold fadF; rw [ev1K_ag h]
  | fld1 a n => show fld1F a n t s k = fld1F a n t' s k; unfold fld1F; rw [evK_ag h]
  | fldn a n m => show fldnF a n m t s k = fldnF a n m t' s k; unfold fldnF; rw [evK_ag h]
  | ixa a b n m => show ixaF a b n m t s k = ixaF a b n m t' s k; unfold ixaF; rw [ev1K_ag h.left, ev1K_ag h.right]
  | ixs a b n => show ixsF a b n t s k = ixsF a b n t' s k; unfold ixsF; rw [evK_ag h.left, ev1K_ag h.right]
  | sla a l hh m n z => show slaF a l hh m n z t s k = slaF a l hh m n z t' s k; unfold slaF; rw [ev1K_ag h.left, bndK_ag h.right.left, bndK_ag h.right.right.left, bndK_ag h.right.right.right]
  | sls a l hh m n => show slsF a l hh m n t s k = slsF a l hh m n t' s k; unfold slsF; rw [ev1K_ag h.left, bndK_ag h.right.left, bndK_ag h.right.right.left, bndK_ag h.right.right.right]
  | ext a n => show extF a n t s k = extF a n t' s k; unfold extF; rw [evK_ag h]
  | len a => show lenF a t s k = lenF a t' s k; unfold lenF; rw [evK_ag h]
  | cap a => show capF a t s k = capF a t' s k; unfold capF; rw [ev1K_ag h]
  | app a b n => show appF a b n t s k = appF a b n t' s k; unfold appF; rw [evK_ag h.left, ev1K_ag h.right]
  | cpy a b n => show cpyF a b n t s k = cpyF a b n t' s k; unfold cpyF; rw [ev1K_ag h.left, ev1K_ag h.right]
  | clr a zs => show clrF a zs t s k = clrF a zs t' s k; unfold clrF; rw [ev1K_ag h]
  | mm mx a as => show mmF mx a as t s k = mmF mx a as t' s k; unfold mmF; rw [ev1K_ag h.left, mmsK_ag h.right]
  | mks zs a b => show mksF zs a b t s k = mksF zs a b t' s k; unfold mksF natOf; rw [ev1K_ag h.left, ev1K_ag h.right]
  | call f p as q => show callF ck f p as q t s k = callF ck f p as q t' s k; unfold callF; rw [evsK_ag h]
  | no => rfl
  | mkm => rfl
  | eqg n ks a b => show eqgF n ks a b t s k = eqgF n ks a b t' s k; unfold eqgF; rw [evK_ag h.left, evK_ag h.right]
  | mlk a b z ok => show mlkF a b z ok t s k = mlkF a b z ok t' s k; unfold mlkF; rw [ev1K_ag h.left, ev1K_ag h.right]
  | mup a b c => show mupF a b c t s k = mupF a b c t' s k; unfold mupF; rw [ev1K_ag h.left, ev1K_ag h.right.left, evK_ag h.right.right]
  | mdl a b => show mdlF a b t s k = mdlF a b t' s k; unfold mdlF; rw [ev1K_ag h.left, ev1K_ag h.right]
  | callv a as q => show callvF ck a as q t s k = callvF ck a as q t' s k; unfold callvF; rw [ev1K_ag h.left, evsK_ag h.right]
/-- What is known of some slots alone. -/
noncomputable def keepT (t : Ts) : List Pth → Ts
  | [] => .nil
  | p :: l => match t.get p with | some v => (keepT t l).set p v | none => keepT t l
theorem keepT_get (t : Ts) (q : Pth) : ∀ l : List Pth, (keepT t l).get q = if q ∈ l then t.get q else none
  | [] => by simp [keepT, Tr.get_nil]
  | p :: l => by
    unfold keepT
    by_cases e : p = q
    · subst e
      rw [if_pos (by simp)]
      split
      · rename_i v hv; rw [Tr.get_set, if_pos rfl, hv]
      · rename_i hv
        rw [keepT_get t p l, hv]
        split <;> rfl
    · have : (q ∈ p :: l) = (q ∈ l) := by simp [Ne.symm e]
      simp only [this]
      split
      · rw [Tr.get_set, if_neg e, keepT_get t q l]
      · exact keepT_get t q l
theorem keepT_ag (t : Ts) (l : List Pth) : Ag l t (keepT t l) := fun p hp => by rw [keepT_get, if_pos hp]
noncomputable def uG : Option (Pth × Bool) → List Pth | none => [] | some p => [p.1]
noncomputable def usesG (x : XO) : List Pth := uG x.g ++ usesX x.op
/-- The slots of an address that is read or written. -/
noncomputable def adX (x : XO) : List Pth := match clsX x.op with | .s a => uA a | .r (some a) => uA a | _ => []
/-- ONE OPERATION'S STEP, of what it looks at alone. -/
noncomputable def Step (P : Program) (ρ : Rho) (o : Oper) (x : XO) (t : Ts) (s : St) (t' : Ts) (s' : St) : Prop :=
  Pure ρ s s' ∧ ((Want x t true ∧ ∃ v, t' = setD x.d v t ∧ OSem P ρ o (keepT t (usesX x.op)) s v s' (clsX x.op)) ∨ (Want x t false ∧ t' = setD x.d (.tup []) t ∧ s' = s))
theorem step_sound (hg : g = ρ.gl.isSome) {ck : CK} (hck : CKOK P ρ ck) {m0 : Nat} {ops : Array Oper} {x : XO} (hc : chkXO P g m0 ops o x = true) {k : KTS} (hn : Num s) (hi : IvOK ρ s.iv) (h : doK ck x t s k = true) :
    ∃ t' s', k t' s' = true ∧ Step P ρ o x t s t' s' := by
  have h' : doF ck x.g x.d x.op t s k = true := by cases x; exact h
  simp only [chkXO, Bool.and_eq_true] at hc
  obtain ⟨⟨c1, c2⟩, c3⟩ := hc
  rcases wantK_true h' with ⟨hw, h1⟩ | ⟨hw, h1⟩
  · rw [opK_ag (keepT_ag t (usesX x.op))] at h1
    obtain ⟨v, s', hk, hp, ho⟩ := op_sound hg hck c3 hn hi h1
    rw [setDK_eq] at hk
    exact ⟨_, s', hk, hp, .inl ⟨hw, v, rfl, ho⟩⟩
  · rw [setDK_eq] at h1
    exact ⟨_, s, h1, Pure.refl hn hi, .inr ⟨hw, rfl, rfl⟩⟩
theorem steps_sound (hg : g = ρ.gl.isSome) {ck : CK} (hck : CKOK P ρ ck) {m0 : Nat} {ops : Array Oper} : ∀ {l : List Oper} {xs : List XO} {t : Ts} {s : St} {k : KTS}, chkOps P g m0 ops l xs = true → Num s → IvOK ρ s.iv →
    opsK ck xs t s k = true → l.length = xs.length ∧ ∃ (T : Nat → Ts) (S : Nat → St), T 0 = t ∧ S 0 = s ∧ k (T l.length) (S l.length) = true ∧ ∀ i o x, l[i]? = some o → xs[i]? = some x → chkXO P g m0 ops o x = true ∧ Step P ρ o x (T i) (S i) (T (i + 1)) (S (i + 1))
  | [], [], t, s, k, hc, hn, hi, h => ⟨rfl, fun _ => t, fun _ => s, rfl, rfl, h, fun i o x ho => by simp at ho⟩
  | [], _ :: _, t, s, k, hc, hn, hi, h => by cases hc
  | _ :: _, [], t, s, k, hc, hn, hi, h => by cases hc
  | o :: l, x :: xs, t, s, k, hc, hn, hi, h => by
    simp only [chkOps, Bool.and_eq_true] at hc
    obtain ⟨t1, s1, h1, d1⟩ := step_sound hg hck hc.1 hn hi (show doK ck x t s (fun t s => opsK ck xs t s k) = true from h)
    obtain ⟨hl, T, S, hT, hS, hk, hst⟩ := steps_sound hg hck hc.2 d1.1.num d1.1.iv h1
    refine ⟨by simp [hl], fun i => match i with | 0 => t | i + 1 => T i, fun i => match i with | 0 => s | i + 1 => S i, rfl, rfl, by simpa using hk, ?_⟩
    intro i o' x' ho hx
    cases i with
    | zero =>
      simp only [List.getElem?_cons_zero, Option.some.injEq] at ho hx
      subst ho; subst hx
      refine ⟨hc.1, ?_⟩
      show Step P ρ o x t s (T 0) (S 0)
      rw [hT, hS]; exact d1
    | succ i => exact hst i o' x' (by simpa using ho) (by simpa using hx)
end Go.Rsf
