/- An executor over a program's operations: an operation of the program that is the executor's does what the executor says. Conditions: none. -/
import Derived.Test.YtjodpodmeobciaaGreatDoorVQ
namespace Go.Rsf
open Go.RowKit
set_option linter.unusedVariables false
set_option linter.unusedSimpArgs false
variable {P : Program} {ρ : Rho} {g : Bool} {o : Oper} {t : Ts} {s : St} {k : KVS}

/-- Kinds of operations: that look at no memory, that read a block, that make one, that write one, any, quiet calls. -/
inductive Kd where | w | r (a : Option XA) | a | s (a : XA) | e | q
noncomputable def clsX : XOp → Kd
  | .ld1 a => .r (some a)
  | .ldn a _ => .r (some a)
  | .sls .. => .r none
  | .alloc _ => .a
  | .box _ => .a
  | .bsl .. => .a
  | .mks .. => .a
  | .mkm => .a
  | .mlk .. => .r none
  | .mup .. => .e
  | .mdl .. => .e
  | .st a _ _ => .s a
  | .app .. => .e
  | .cpy .. => .e
  | .clr .. => .e
  | .call _ _ _ q => @Bool.rec (fun _ => Kd) .e .q q
  | .callv _ _ q => @Bool.rec (fun _ => Kd) .e .q q
  | _ => .w
/-- WHAT AN OPERATION DOES, by its kind. -/
def OSem (P : Program) (ρ : Rho) (o : Oper) (t : Ts) (s : St) (v : AV) (s' : St) : Kd → Prop
  | .w => (∃ iv, s' = s.setIv iv) ∧ WSem P ρ o t v
  | .r a => s' = s ∧ (WSem P ρ o t v ∨ ISem P ρ o t v ∨ ∃ p B, s.heap.get p = some B ∧ RSem P ρ o t p B v ∧ ∀ x, a = some x → ∃ off, evX x t = some (.v (.one (.ptr p off))))
  | .a => ∃ bk, s' = s.alloc bk ∧ ASem P ρ o t s.next bk v
  | .s a => ∃ p off B bk, evX a t = some (.v (.one (.ptr p off))) ∧ s' = s.put p B bk ∧ v = .unk ∧ s.heap.get p = some B ∧ B.k ≠ .dead ∧ s.wlo ≤ B.no ∧ SSem P ρ o t p B bk
  | .e => OT P ρ o t s v s'
  | .q => ∃ f vs s1, (∀ {m ν a}, MT m ν ρ t a → ∃ vals : List Value, Rel (AR ν ρ) vs vals ∧ ∀ w, (execOp a.eval o).run P w = .ok (.enter f vals.toArray) w) ∧ QT P ρ f vs s v s1 ∧ s1.cnt = s'.cnt ∧
      ∀ id : Pth, s'.h id = if s.cnt ≤ id.nat ∧ id.nat < s1.cnt then s1.h id else s.h id
theorem wp_enter {Q : Exit → Act → World → Prop} {next : Act → World → Prop} {a : Act} {w : World} {f : FuncId} {args : Array Value} (h : (execOp a.eval o).run P w = .ok (.enter f args) w)
    {R : Ending → World → Prop} (hc : Calls P f args w R) (hr : ∀ e w', R e w' → ∃ u, e = .returned u ∧ next (a.put o.dst u) w') : o.wp P a w next Q := by
  unfold Oper.wp; rw [h]
  refine hc.mono fun e w' he => ?_
  obtain ⟨u, rfl, hn⟩ := hr e w' he
  exact hn
theorem OSem.ot_q {v : AV} {s' : St} (hw : s'.wlo = s.wlo) (hn : Num s) (h : OSem P ρ o t s v s' .q) : OT P ρ o t s v s' := by
    obtain ⟨f, vs, s1, hr, hq, hc, hh⟩ := h
    intro Q next m n0 w0 ν a w mt mw un hk
    obtain ⟨vals, hrel, hrun⟩ := hr mt
    refine wp_enter (hrun w) (R := fun e w' => ∃ u, e = .returned u ∧ next (a.put o.dst u) w') (hq hrel mt.2.2 mw (hc ▸ un) (fun _ _ e => e) (h' := s'.h) (fun id B e => ?_) (fun id B e => ?_) fun u ν' w' he hu hm => ?_) fun e w' h => h
    · have := (hn.no id B e).1
      rw [hh, if_neg (by omega)]; exact e
    · rw [hh] at e
      split at e
      · rename_i h; exact .inr ⟨h.1, h.2, e⟩
      · rename_i h; exact .inl ⟨h, e⟩
    · exact ⟨u, rfl, hk u ν' w' (hc ▸ he) hu (hw.symm ▸ hm)⟩
theorem OSem.ot_w {v : AV} {s' : St} (h : OSem P ρ o t s v s' .w) : OT P ρ o t s v s' := by
  obtain ⟨⟨iv, e⟩, h⟩ := h
  subst e
  intro Q next m n0 w0 ν a w mt mw un hk
  obtain ⟨u, hu, hr⟩ := h mt
  refine wp_value (hr w) (hk u ν w (Ext.refl _ _ _) hu ?_)
  rw [setIv_eq]; exact mw
theorem OSem.ot {v : AV} {s' : St} (hw : s'.wlo = s.wlo) : ∀ {kd : Kd}, Num s → OSem P ρ o t s v s' kd → OT P ρ o t s v s'
  | .w, _, h => OSem.ot_w h
  | .r a, _, ⟨e, h⟩ => by
    subst e
    rcases h with h | h | ⟨p, B, hB, h, _⟩
    · exact h.ot
    · exact h.ot
    · exact h.ot hB
  | .a, hn, ⟨bk, e, h⟩ => by subst e; exact h.ot hn
  | .s a, _, ⟨p, off, B, bk, _, e, ev, hB, hd, hwl, h⟩ => by subst e; subst ev; exact h.ot hB hd hwl
  | .e, _, h => h
  | .q, hn, h => OSem.ot_q hw hn h
theorem wsem_of {kd : Kd} (e : kd = .w) (hn : Num s) (hi : IvOK ρ s.iv) (h : ∃ v, k v s = true ∧ WSem P ρ o t v) : ∃ v s', k v s' = true ∧ Pure ρ s s' ∧ OSem P ρ o t s v s' kd := by
  obtain ⟨v, hk, hw⟩ := h
  subst e
  exact ⟨v, s, hk, Pure.refl hn hi, ⟨s.iv, by rw [setIv_eq]⟩, hw⟩
theorem csem_of {kd : Kd} (e : kd = .w) (hn : Num s) (h : ∃ v iv, k v (s.setIv iv) = true ∧ IvOK ρ iv ∧ WSem P ρ o t v) : ∃ v s', k v s' = true ∧ Pure ρ s s' ∧ OSem P ρ o t s v s' kd := by
  obtain ⟨v, iv, hk, hi, hw⟩ := h
  subst e
  refine ⟨v, s.setIv iv, hk, ?_, ⟨iv, rfl⟩, hw⟩
  rw [setIv_eq]
  exact ⟨Nat.le_refl _, rfl, ⟨hn.next, hn.no⟩, hi⟩
theorem asem_of {kd : Kd} (e : kd = .a) (hn : Num s) (hi : IvOK ρ s.iv) (h : ∃ v bk, k v (s.alloc bk) = true ∧ ASem P ρ o t s.next bk v) : ∃ v s', k v s' = true ∧ Pure ρ s s' ∧ OSem P ρ o t s v s' kd := by
  obtain ⟨v, bk, hk, hw⟩ := h
  subst e
  exact ⟨v, s.alloc bk, hk, pure_alloc hn hi bk, bk, rfl, hw⟩
theorem esem_of {kd : Kd} (e : kd = .e) (h : ∃ v s', k v s' = true ∧ Pure ρ s s' ∧ OT P ρ o t s v s') : ∃ v s', k v s' = true ∧ Pure ρ s s' ∧ OSem P ρ o t s v s' kd := by
  subst e; exact h
theorem rsem_of {kd : Kd} {xa : XA} (e : kd = .r (some xa)) (hn : Num s) (hi : IvOK ρ s.iv) (h : ∃ v x B off, k v s = true ∧ s.heap.get x = some B ∧ RSem P ρ o t x B v ∧ evX xa t = some (.v (.one (.ptr x off)))) :
    ∃ v s', k v s' = true ∧ Pure ρ s s' ∧ OSem P ρ o t s v s' kd := by
  obtain ⟨v, x, B, off, hk, hB, hr, hx⟩ := h
  subst e
  exact ⟨v, s, hk, Pure.refl hn hi, rfl, .inr (.inr ⟨x, B, hB, hr, fun y hy => by cases hy; exact ⟨off, hx⟩⟩)⟩
theorem isem_of {kd : Kd} {xa : XA} (e : kd = .r (some xa)) (hn : Num s) (hi : IvOK ρ s.iv) (h : ∃ v, k v s = true ∧ ISem P ρ o t v) : ∃ v s', k v s' = true ∧ Pure ρ s s' ∧ OSem P ρ o t s v s' kd := by
  obtain ⟨v, hk, hr⟩ := h
  subst e
  exact ⟨v, s, hk, Pure.refl hn hi, rfl, .inr (.inl hr)⟩
theorem call_of {kd : Kd} {ck : CK} (hck : CKOK P ρ ck) {f : Nat} {p : Pth} {vs : List AV} {q : Bool} (e : kd = @Bool.rec (fun _ => Kd) .e .q q) (hp : p.nat = f) (hn : Num s) (hi : IvOK ρ s.iv) (h : quietK (ck f p vs) q s k = true)
    (hrun : ∀ {m ν a}, MT m ν ρ t a → ∃ vals : List Value, Rel (AR ν ρ) vs vals ∧ execOp a.eval o = callFunc f vals.toArray) : ∃ v s', k v s' = true ∧ Pure ρ s s' ∧ OSem P ρ o t s v s' kd := by
  obtain ⟨he, v, s', hk, hpu, hct, hq⟩ := quietK_sound hck hp hn hi h
  refine ⟨v, s', hk, hpu, ?_⟩
  cases q with
  | false =>
    subst e
    intro Q next m n0 w0 ν a w mt mw un hk2
    obtain ⟨vals, hrel, hr⟩ := hrun mt
    exact wp_enter (by rw [hr]; exact he _ _) (R := fun e w' => ∃ u, e = .returned u ∧ next (a.put o.dst u) w') (hct hrel mt.2.2 mw un fun u ν' w' hx hu hm => ⟨u, rfl, hk2 u ν' w' hx hu hm⟩) fun e w' h => h
  | true =>
    subst e
    obtain ⟨s1, h1, h2, h3⟩ := hq rfl
    exact ⟨f, vs, s1, fun mt => by
      obtain ⟨vals, hrel, hr⟩ := hrun mt
      exact ⟨vals, hrel, fun w => by rw [hr]; exact he _ _⟩, h1, h2, h3⟩
theorem ptrsK_eq : ∀ (l : List (Pth × Nat)) (r : List AV) (k : List AV → Bool), ptrsK l r k = k (l.map (fun x => .v (.one (.ptr x.1 x.2))) ++ r)
  | [], r, k => rfl
  | x :: l, r, k => ptrsK_eq l r fun l => k (.v (.one (.ptr x.1 x.2)) :: l)
theorem appAK_eq : ∀ (l r : List AV) (k : List AV → Bool), appAK l r k = k (l ++ r)
  | [], r, k => rfl
  | x :: l, r, k => appAK_eq l r fun r => k (x :: r)
theorem keyK_eq : ∀ (n : Nat) (k : Pth → Bool), keyK n k = k (keyF n)
  | 0, k => rfl
  | n + 1, k => by
    show keyK n (fun p => succK p k) = _
    rw [keyK_eq n, succK_eq]; rfl
theorem ptrs_rel {ν : Nu} : ∀ {l : List (Pth × Nat)} {vs : List Value}, Rel (PR ν) l vs → Rel (AR ν ρ) (l.map (fun x => .v (.one (.ptr x.1 x.2)))) vs
  | [], [], _ => trivial
  | [], _ :: _, r => r.elim
  | _ :: _, [], r => r.elim
  | _ :: _, _ :: _, r => ⟨r.1, ptrs_rel r.2⟩
theorem isFn_true {x : Cell} {k : Nat → List (Pth × Nat) → List (Pth × Nat) → Bool} (h : isFn x k = true) : ∃ f a b, x = .fn f a b ∧ k f a b = true := by
  cases x <;> first | exact ⟨_, _, _, rfl, h⟩ | cases h
theorem beqN {a b : Nat} (h : Nat.beq a b = true) : a = b := Nat.eq_of_beq_eq_true h
theorem nbeq0 {a : Nat} (h : (!Nat.beq a 0) = true) : a ≠ 0 := by
  intro e; subst e; cases h
/-- AN OPERATION OF THE PROGRAM DOES WHAT THE EXECUTOR SAYS. -/
theorem op_sound (hg : g = ρ.gl.isSome) {ck : CK} (hck : CKOK P ρ ck) {x : XOp} (hc : chkOp P g o x = true) (hn : Num s) (hi : IvOK ρ s.iv) (h : opK ck x t s k = true) :
    ∃ v s', k v s' = true ∧ Pure ρ s s' ∧ OSem P ρ o t s v s' (clsX x) := by
  cases x with
  | mov a =>
    simp only [chkOp, Bool.or_eq_true] at hc
    rcases hc with (hc | hc) | hc
    · obtain ⟨x, ho, h1⟩ := isMove_true hc
      exact wsem_of rfl hn hi (mov_sem hg (xaB_eq h1) (.inl ho) h)
    · obtain ⟨x, ho, h1⟩ := isAssign_true hc
      exact wsem_of rfl hn hi (mov_sem hg (xaB_eq h1) (.inr ho) h)
    · obtain ⟨c, ho, h1⟩ := isCall_true hc
      obtain ⟨b, hb, h2⟩ := isBlt_true h1
      rw [Bool.and_eq_true] at h2
      have e := blLen_true h2.1
      subst e
      obtain ⟨x, hx, h3⟩ := l1_true h2.2
      obtain ⟨ty, ht, h4⟩ := l1_true h3
      obtain ⟨kd, n, rfl, h5⟩ := isIntA_true h4
      rw [Bool.and_eq_true] at h5
      have e := kindB_true h5.1
      subst e
      obtain ⟨d, hd, h6⟩ := tyUnd_true h5.2
      refine wsem_of rfl hn hi (const_sem (v := .int .i64 n) rfl (fun ρ' w => ?_) h)
      cases d <;> first | (cases h6; done) | skip
      · rename_i e
        obtain ⟨d2, hd2, h7⟩ := tyUnd_true (show tyUnd P e (dArray fun m _ => ieqB n (Int.ofNat m)) = true from h6)
        cases d2 <;> first | (cases h7; done) | skip
        rename_i m e'
        have e2 : ieqB n (Int.ofNat m) = true := h7
        rw [ieqB_eq] at e2
        have e3 := of_decide_eq_true e2
        simp [execOp, ho, resolve, hb, hx, ht, invoke, builtin, Builtin.len_, r_und hd, r_und hd2, goInt, e3]
      · rename_i m e
        have e2 : ieqB n (Int.ofNat m) = true := h6
        rw [ieqB_eq] at e2
        have e3 := of_decide_eq_true e2
        simp [execOp, ho, resolve, hb, hx, ht, invoke, builtin, Builtin.len_, r_und hd, goInt, e3]
  | nck a =>
    obtain ⟨x, ho, h1⟩ := isNilCheck_true hc
    exact wsem_of rfl hn hi (nck_sem hg (xaB_eq h1) ho h)
  | pick a b c =>
    obtain ⟨x, y, z, ho, h1⟩ := isPick_true hc
    simp only [Bool.and_eq_true] at h1
    exact wsem_of rfl hn hi (pick_sem hg (xaB_eq h1.1.1) (xaB_eq h1.1.2) (xaB_eq h1.2) ho h)
  | alloc zs =>
    obtain ⟨e, ho, h1⟩ := isAlloc_true hc
    obtain ⟨i, hi', h2⟩ := tyInfo_true h1
    obtain ⟨z, hz, h3⟩ := zeroB_true h2
    exact asem_of rfl hn hi (alloc_sem hg hi' hz (cellsB_eq h3) ho h)
  | box a =>
    obtain ⟨e, x, ho, h1⟩ := isBox_true hc
    exact asem_of rfl hn hi (box_sem hg (xaB_eq h1) ho h)
  | build zs xs =>
    obtain ⟨ty, ps, ho, h1⟩ := isBuild_true hc
    obtain ⟨i, hi', h2⟩ := tyInfo_true h1
    obtain ⟨z, hz, h3⟩ := zeroB_true h2
    rw [Bool.and_eq_true] at h3
    obtain ⟨d, hd, h4⟩ := tyUnd_true h3.2
    rw [Bool.or_eq_true] at h4
    rcases h4 with h4 | h4
    · cases d <;> first | (cases h4; done) | skip
      rename_i fs
      have h5 : (match placesOf P fs.toList with | some pl => xpsB g (pl[·]?) ps.toList xs | none => false) = true := h4
      split at h5
      · rename_i pl hpl
        exact wsem_of rfl hn hi (build_sem hg hi' hz (cellsB_eq h3.1) (xpsB_eq h5) (build_struct hi' hz hd hpl) ho h)
      · cases h5
    · cases d <;> first | (cases h4; done) | skip
      rename_i m e
      obtain ⟨ie, hie, h5⟩ := tyInfo_true (show tyInfo P e _ = true from h4)
      exact wsem_of rfl hn hi (build_sem hg hi' hz (cellsB_eq h3.1) (xpsB_eq h5) (build_array hi' hz hd hie) ho h)
  | bsl zs n xs =>
    obtain ⟨ty, m, ps, ho, h1⟩ := isBuildSlice_true hc
    rw [Bool.and_eq_true] at h1
    have e := beqN h1.1
    subst e
    obtain ⟨e, i, hu, hi', h2⟩ := tySl_true h1.2
    obtain ⟨z, hz, h3⟩ := zeroB_true h2
    simp only [Bool.and_eq_true] at h3
    exact asem_of rfl hn hi (bsl_sem hg hu hi' hz (cellsB_eq h3.1.1) (xpsB_eq h3.1.2) (Nat.le_of_ble_eq_true h3.2) ho h)
  | ld1 a =>
    obtain ⟨ty, x, ho, h1⟩ := isLoad_true hc
    rw [Bool.and_eq_true] at h1
    obtain ⟨d, hd, ha⟩ := aggB_true h1.2
    rcases ld1_sem hg hi (xaB_eq h1.1) hd ha ho h with h2 | h2
    · exact isem_of rfl hn hi h2
    · exact rsem_of rfl hn hi h2
  | ldn a n =>
    obtain ⟨ty, x, ho, h1⟩ := isLoad_true hc
    simp only [Bool.and_eq_true] at h1
    obtain ⟨d, hd, ha⟩ := aggB_true h1.1.2
    obtain ⟨i, hi', h2⟩ := tyInfo_true h1.2
    have e := beqN h2
    subst e
    exact rsem_of rfl hn hi (ldn_sem hg (xaB_eq h1.1.1) hd ha hi' ho h)
  | st a b n =>
    obtain ⟨ty, x, y, ho, h1⟩ := isStore_true hc
    simp only [Bool.and_eq_true] at h1
    obtain ⟨i, hi', h2⟩ := tyInfo_true h1.2
    have e := beqN h2
    subst e
    obtain ⟨p, B, bk, off, hk, hB, hd, hw, hs, hx⟩ := st_sem hg (xaB_eq h1.1.1) (xaB_eq h1.1.2) hi' ho h
    exact ⟨_, _, hk, pure_put hn hi hB bk, p, off, B, bk, hx, rfl, rfl, hB, hd, hw, hs⟩
  | ar op a b =>
    obtain ⟨bo, ty, x, y, ty', ho, h1⟩ := isBinOp_true hc
    simp only [Bool.and_eq_true] at h1
    have e := binA_true h1.1.1
    subst e
    exact csem_of rfl hn (ar_sem hg hi (xaB_eq h1.1.2) (xaB_eq h1.2) ho h)
  | sh l a b =>
    obtain ⟨bo, ty, x, y, ty', ho, h1⟩ := isBinOp_true hc
    simp only [Bool.and_eq_true] at h1
    have e := binS_true h1.1.1
    subst e
    exact wsem_of rfl hn hi (sh_sem hg hi (xaB_eq h1.1.2) (xaB_eq h1.2) ho h)
  | cmp op a b =>
    obtain ⟨bo, ty, x, y, ty', ho, h1⟩ := isBinOp_true hc
    simp only [Bool.and_eq_true] at h1
    have e := binC_true h1.1.1
    subst e
    exact csem_of rfl hn (cmp_sem hg hi (xaB_eq h1.1.2) (xaB_eq h1.2) ho h)
  | eqv ek n a b =>
    obtain ⟨bo, ty, x, y, ty', ho, h1⟩ := isBinOp_true hc
    simp only [Bool.and_eq_true] at h1
    have e := binE_true h1.1.1.1
    subst e
    obtain ⟨d, hd, he⟩ := tyUnd_true h1.2
    exact wsem_of rfl hn hi (eqv_sem hg (xaB_eq h1.1.1.2) (xaB_eq h1.1.2) hd he ho h)
  | not a =>
    obtain ⟨u, ty, x, ho, h1⟩ := isUnOp_true hc
    rw [Bool.and_eq_true] at h1
    have e := unNot_true h1.1
    subst e
    exact wsem_of rfl hn hi (not_sem hg (xaB_eq h1.2) ho h)
  | neg a =>
    obtain ⟨u, ty, x, ho, h1⟩ := isUnOp_true hc
    rw [Bool.and_eq_true] at h1
    have e := unNeg_true h1.1
    subst e
    exact wsem_of rfl hn hi (neg_sem hg hi (xaB_eq h1.2) ho h)
  | conv kd a =>
    obtain ⟨sT, dT, x, ho, h1⟩ := isConvert_true hc
    simp only [Bool.and_eq_true] at h1
    obtain ⟨d, hd, _⟩ := tyUnd_true h1.1.2
    obtain ⟨d2, hd2, h2⟩ := tyUnd_true h1.2
    cases d2 <;> first | (cases h2; done) | skip
    have e := kindB_true (show kindB _ kd = true from h2)
    subst e
    exact wsem_of rfl hn hi (conv_sem hg hi (xaB_eq h1.1.1) hd hd2 ho h)
  | mkf f a b =>
    obtain ⟨fn, x, y, ho, h1⟩ := isMakeFunc_true hc
    simp only [Bool.and_eq_true] at h1
    obtain ⟨f', rfl, h2⟩ := isFnF_true h1.1.1
    have e := beqN h2
    subst e
    exact wsem_of rfl hn hi (mkf_sem hg (xasB_eq h1.1.2) (xasB_eq h1.2) ho h)
  | fad a off =>
    obtain ⟨ty, x, n, ho, h1⟩ := isFieldAddr_true hc
    rw [Bool.and_eq_true] at h1
    obtain ⟨fs, fd, i, hu, hf, hi', h2⟩ := tyFd_true h1.2
    rw [Bool.and_eq_true] at h2
    have e := beqN h2.1
    subst e
    exact wsem_of rfl hn hi (fad_sem hg (xaB_eq h1.1) hu hf hi' (nbeq0 h2.2) ho h)
  | fld1 a off =>
    obtain ⟨ty, x, n, ho, h1⟩ := isField_true hc
    rw [Bool.and_eq_true] at h1
    obtain ⟨fs, fd, i, hu, hf, hi', h2⟩ := tyFd_true h1.2
    rw [Bool.and_eq_true] at h2
    have e := beqN h2.1
    subst e
    obtain ⟨d, hd, ha⟩ := aggB_true h2.2
    exact wsem_of rfl hn hi (fld1_sem hg hi (xaB_eq h1.1) hu hf hd ha ho h)
  | fldn a off m =>
    obtain ⟨ty, x, n, ho, h1⟩ := isField_true hc
    rw [Bool.and_eq_true] at h1
    obtain ⟨fs, fd, i, hu, hf, hi', h2⟩ := tyFd_true h1.2
    simp only [Bool.and_eq_true] at h2
    have e := beqN h2.1.1
    subst e
    have e := beqN h2.1.2
    subst e
    obtain ⟨d, hd, ha⟩ := aggB_true h2.2
    exact wsem_of rfl hn hi (fldn_sem hg (xaB_eq h1.1) hu hf hd ha hi' ho h)
  | ixa a b len sz =>
    obtain ⟨ty, x, y, ho, h1⟩ := isIndexAddr_true hc
    simp only [Bool.and_eq_true] at h1
    obtain ⟨n, e, i, hu, hi', h2⟩ := tyAr_true h1.2
    rw [Bool.and_eq_true] at h2
    have e := beqN h2.1
    subst e
    have e := beqN h2.2
    subst e
    exact wsem_of rfl hn hi (ixa_sem hg (xaB_eq h1.1.1) (xaB_eq h1.1.2) hu hi' ho h)
  | ixs a b sz =>
    obtain ⟨ty, x, y, ho, h1⟩ := isIndexAddr_true hc
    simp only [Bool.and_eq_true] at h1
    obtain ⟨e, i, hu, hi', h2⟩ := tySl_true h1.2
    have e := beqN h2
    subst e
    exact wsem_of rfl hn hi (ixs_sem hg hi (xaB_eq h1.1.1) (xaB_eq h1.1.2) hu hi' ho h)
  | sla a l hh m n sz =>
    obtain ⟨ty, x, lo, hi2, mx, ho, h1⟩ := isSlice_true hc
    simp only [Bool.and_eq_true] at h1
    obtain ⟨n', e, i, hu, hi', h2⟩ := tyAr_true h1.2
    rw [Bool.and_eq_true] at h2
    have e := beqN h2.1
    subst e
    have e := beqN h2.2
    subst e
    exact wsem_of rfl hn hi (sla_sem hg (xaB_eq h1.1.1.1.1.1) (oxaB_eq h1.1.1.1.1.2) (oxaB_eq h1.1.1.1.2) (oxaB_eq h1.1.1.2) (someB_true h1.1.2) hu hi' ho h)
  | sls a l hh m sz =>
    obtain ⟨ty, x, lo, hi2, mx, ho, h1⟩ := isSlice_true hc
    simp only [Bool.and_eq_true] at h1
    obtain ⟨e, i, hu, hi', h2⟩ := tySl_true h1.2
    rw [Bool.and_eq_true] at h2
    have e := beqN h2.1
    subst e
    obtain ⟨v, hk, hv⟩ := sls_sem hg (xaB_eq h1.1.1.1.1.1) (oxaB_eq h1.1.1.1.1.2) (oxaB_eq h1.1.1.1.2) (oxaB_eq h1.1.1.2) (someB_true h1.1.2) hu hi' (nbeq0 h2.2) ho h
    refine ⟨v, s, hk, Pure.refl hn hi, rfl, ?_⟩
    rcases hv with hv | ⟨p, B, hB, hr⟩
    · exact .inl hv
    · exact .inr (.inr ⟨p, B, hB, hr, fun x hx => by cases hx⟩)
  | ext a n =>
    obtain ⟨x, i, ho, h1⟩ := isExtract_true hc
    rw [Bool.and_eq_true] at h1
    have e := beqN h1.2
    subst e
    exact wsem_of rfl hn hi (ext_sem hg (xaB_eq h1.1) ho h)
  | len a =>
    obtain ⟨c, ho, h1⟩ := isCall_true hc
    obtain ⟨b, x, ty, hb, hbl, hx, ht, h2⟩ := bi_true h1
    have e := blLen_true hbl
    subst e
    rw [Bool.and_eq_true] at h2
    obtain ⟨d, hd, h3⟩ := tyUnd_true h2.2
    cases d <;> first | (cases h3; done) | skip
    exact wsem_of rfl hn hi (len_sem hg (xaB_eq h2.1) hd hb hx ht ho h)
  | cap a =>
    obtain ⟨c, ho, h1⟩ := isCall_true hc
    obtain ⟨b, x, ty, hb, hbl, hx, ht, h2⟩ := bi_true h1
    have e := blCap_true hbl
    subst e
    rw [Bool.and_eq_true] at h2
    obtain ⟨d, hd, h3⟩ := tyUnd_true h2.2
    cases d <;> first | (cases h3; done) | skip
    exact wsem_of rfl hn hi (cap_sem hg (xaB_eq h2.1) hd hb hx ht ho h)
  | app a b sz =>
    obtain ⟨c, ho, h1⟩ := isCall_true hc
    obtain ⟨bb, x, y, ty, ty', hb, hbl, hx, ht, h2⟩ := bi2_true h1
    have e := blAppend_true hbl
    subst e
    simp only [Bool.and_eq_true] at h2
    have e := beqN h2.1.2
    subst e
    obtain ⟨e, i, hu, hi', h3⟩ := tySl_true h2.2
    simp only [Bool.and_eq_true] at h3
    have e := beqN h3.1.1.1
    subst e
    obtain ⟨z, hz, h4⟩ := zeroB_true h3.2
    exact esem_of rfl (app_sem hg (xaB_eq h2.1.1.1) (xaB_eq h2.1.1.2) hu hi' hz (beqN h4) (nbeq0 h3.1.1.2) (Nat.le_of_ble_eq_true h3.1.2) hb hx ht ho hn hi h)
  | cpy a b sz =>
    obtain ⟨c, ho, h1⟩ := isCall_true hc
    obtain ⟨bb, x, y, ty, ty', hb, hbl, hx, ht, h2⟩ := bi2_true h1
    have e := blCopy_true hbl
    subst e
    simp only [Bool.and_eq_true] at h2
    obtain ⟨e, i, hu, hi', h3⟩ := tySl_true h2.2
    have e := beqN h3
    subst e
    exact esem_of rfl (cpy_sem hg (xaB_eq h2.1.1) (xaB_eq h2.1.2) hu hi' hb hx ht ho hn hi h)
  | clr a zs =>
    obtain ⟨c, ho, h1⟩ := isCall_true hc
    obtain ⟨bb, x, ty, hb, hbl, hx, ht, h2⟩ := bi_true h1
    have e := blClear_true hbl
    subst e
    rw [Bool.and_eq_true] at h2
    obtain ⟨e, i, hu, hi', h3⟩ := tySl_true h2.2
    obtain ⟨z, hz, h4⟩ := zeroB_true h3
    exact esem_of rfl (clr_sem hg (xaB_eq h2.1) hu hi' hz (cellsB_eq h4) hb hx ht ho hn hi h)
  | mm mx a as =>
    obtain ⟨c, ho, h1⟩ := isCall_true hc
    obtain ⟨b, hb, h2⟩ := isBlt_true h1
    rw [Bool.and_eq_true] at h2
    have e := blMM_true h2.1
    subst e
    obtain ⟨x, xs, hx, h3⟩ := lc_true h2.2
    rw [Bool.and_eq_true] at h3
    exact wsem_of rfl hn hi (mm_sem hg (xaB_eq h3.1) (xasB_eq h3.2) hb hx ho h)
  | mks zs a b =>
    obtain ⟨ty, x, y, ho, h1⟩ := isMakeSlice_true hc
    simp only [Bool.and_eq_true] at h1
    obtain ⟨e, i, hu, hi', h2⟩ := tySl_true h1.2
    rw [Bool.and_eq_true] at h2
    obtain ⟨z, hz, h3⟩ := zeroB_true h2.2
    rw [Bool.and_eq_true] at h3
    exact asem_of rfl hn hi (mks_sem hg (xaB_eq h1.1.1) (xaB_eq h1.1.2) hu hi' hz (cellsB_eq h3.1) (beqN h3.2) (Nat.le_of_ble_eq_true h2.1) ho h)
  | call f p as q =>
    obtain ⟨c, ho, h1⟩ := isCall_true hc
    obtain ⟨v, hv, h2⟩ := isVal_true h1
    simp only [Bool.and_eq_true] at h2
    obtain ⟨f', rfl, h3⟩ := isFunc_true h2.1.1
    have e := beqN h3
    subst e
    obtain ⟨vs, hk, hrel⟩ := evsK_sound hg (xasB_eq h2.2) (show evsK as t (fun l => quietK (ck f' p l) q s k) = true from h)
    exact call_of hck rfl (pnB_nat h2.1.2) hn hi hk fun {m ν a} mt => ⟨c.args.toList.map a.eval, hrel mt, by rw [call_run hv ho a]; congr 1; apply Array.ext'; simp⟩
  | no => cases h
  | mkm =>
    obtain ⟨ty, r, ho, h1⟩ := isMakeMap_true hc
    cases r with
    | some _ => cases h1
    | none => exact asem_of rfl hn hi (mkm_sem ho h)
  | eqg n ks a b =>
    obtain ⟨bo, ty, x, y, ty', ho, h1⟩ := isBinOp_true hc
    simp only [Bool.and_eq_true, Bool.not_eq_true'] at h1
    obtain ⟨⟨⟨⟨⟨⟨h2, h3⟩, h4⟩, h5⟩, h6⟩, h7⟩, h8⟩ := h1
    have e := binE_true h2
    subst e
    obtain ⟨d, hd, h9⟩ := tyUnd_true h5
    cases d <;> first | (cases h9; done) | skip
    rename_i fs
    have hf : P.fieldsOf ty = fs := by unfold Program.fieldsOf; rw [hd]
    exact wsem_of rfl hn hi (eqg_sem hg hi (xaB_eq h3) (xaB_eq h4) (by rw [hf]; exact hd) h6 h7 h8 ho h)
  | mlk a b z ok =>
    obtain ⟨ty, x, y, ok', ho, h1⟩ := isLookup_true hc
    simp only [Bool.and_eq_true] at h1
    obtain ⟨⟨⟨h2, h3⟩, h4⟩, h5⟩ := h1
    have e := eq_of_beq h2
    subst e
    obtain ⟨kt, et, kk, hm, hk, h6⟩ := dMapI_true h5
    obtain ⟨i, hi', h7⟩ := tyInfo_true h6
    obtain ⟨zv, hz, h8⟩ := zeroB_true h7
    have hzc : compOf zv = some z := by
      have := avB_eq h8
      unfold avOf at this
      simp only [Option.map_eq_some_iff] at this
      obtain ⟨c, h9, h10⟩ := this
      cases h10; exact h9
    obtain ⟨v, p, B, hkv, hB, hr⟩ := mlk_sem hm hk hg (xaB_eq h3) (xaB_eq h4) hi' hz hzc ho h
    exact ⟨v, s, hkv, Pure.refl hn hi, rfl, .inr (.inr ⟨p, B, hB, hr, fun x hx => by cases hx⟩)⟩
  | mup a b c =>
    obtain ⟨ty, x, y, v, ho, h1⟩ := isMapUpdate_true hc
    simp only [Bool.and_eq_true] at h1
    obtain ⟨⟨⟨h2, h3⟩, h4⟩, h5⟩ := h1
    obtain ⟨kt, et, kk, hm, hk, h6⟩ := dMapI_true h5
    exact esem_of rfl (mup_ot hm hk hg hn hi (xaB_eq h2) (xaB_eq h3) (xaB_eq h4) ho h)
  | mdl a b =>
    obtain ⟨c, ho, h1⟩ := isCall_true hc
    obtain ⟨bb, x, y, ty, ty', hb, hbl, hx, ht, h2⟩ := bi2_true h1
    have e := blDelete_true hbl
    subst e
    simp only [Bool.and_eq_true] at h2
    obtain ⟨⟨h3, h4⟩, h5⟩ := h2
    obtain ⟨kt, et, kk, hm, hk, h6⟩ := dMapI_true h5
    exact esem_of rfl (mdl_ot hm hk hg hn hi (xaB_eq h3) (xaB_eq h4) hb hx ht ho h)
  | callv a as q =>
    obtain ⟨c, ho, h1⟩ := isCall_true hc
    obtain ⟨v, hv, h2⟩ := isVal_true h1
    rw [Bool.and_eq_true] at h2
    obtain ⟨cl, hk, hcl⟩ := ev1K_sound (xaB_eq h2.1) (show ev1K a t (fun a => isFn a fun f first cap => evsK as t fun l => ptrsK cap [] fun c => appAK l c fun l => ptrsK first l fun l => keyK f fun p => quietK (ck f p l) q s k) = true from h)
    obtain ⟨f, fi, ca, rfl, hk1⟩ := isFn_true hk
    obtain ⟨vs, hk2, hrel⟩ := evsK_sound hg (xasB_eq h2.2) hk1
    rw [ptrsK_eq, appAK_eq, ptrsK_eq, keyK_eq] at hk2
    refine call_of hck rfl (keyF_nat f) hn hi hk2 fun {m ν a} mt => ?_
    obtain ⟨l, mm, hl, r1, r2⟩ := hcl hg mt
    refine ⟨_, (ptrs_rel r1).append ((hrel mt).append (by rw [List.append_nil]; exact ptrs_rel r2)), ?_⟩
    rw [callv_run hv ho a hl]
    congr 1; apply Array.ext'; simp
end Go.Rsf
