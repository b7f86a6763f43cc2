/- An executor over a program's operations: code, and calls. Conditions: none. -/
import Derived.Test.YtjodpodmeobciaaGreatDoorVZ
namespace Go.Rsf
open Go.RowKit
set_option linter.unusedVariables false
set_option linter.unusedSimpArgs false
variable {P : Program} {ρ : Rho} {g : Bool}

noncomputable def chkCode (P : Program) (g : Bool) (m : Nat) : XCode → Code → Bool
  | .skip, .skip => true
  | .region xs, .region _ ops false => chkOps P g m ops ops.toList xs
  | .draw xs pairs, .region _ ops true => chkDraw P g m ops xs pairs
  | .seq a b, .seq c d => chkCode P g m a c && chkCode P g m b d
  | .cond x a b, .cond y c d => xaB g y x && (chkCode P g m a c && chkCode P g m b d)
  | .block i a, .block j c => Nat.beq i j && chkCode P g m a c
  | .loop a, .loop c => chkCode P g m a c
  | .exit i, .exit j => Nat.beq i j
  | .ret, .ret => true
  | _, _ => false
/-- A loop's rounds, one after the other. -/
def Rnds (P : Program) (c : Code) (Q : Exit → Act → World → Prop) : Nat → Act → World → Prop
  | 0, _, _ => False
  | j + 1, a, w => c.wp P (Exit.then (Rnds P c Q j) Q) a w
theorem then_mono {N N' : Act → World → Prop} {Q : Exit → Act → World → Prop} (h : ∀ a w, N a w → N' a w) : ∀ e a w, Exit.then N Q e a w → Exit.then N' Q e a w := by
  intro e a w hh
  cases e <;> first | exact h _ _ hh | exact hh
theorem least {p : Nat → Prop} (h : ∃ j, p j) : ∃ j, p j ∧ ∀ i, i < j → ¬ p i := by
  obtain ⟨j, hj⟩ := h
  induction j using Nat.strongRecOn with
  | _ j ih =>
    by_cases q : ∃ i, i < j ∧ p i
    · obtain ⟨i, hi, hp⟩ := q; exact ih i hi hp
    · exact ⟨j, hj, fun i hi hp => q ⟨i, hi, hp⟩⟩
open Classical in
theorem wp_rounds {c : Code} {Q : Exit → Act → World → Prop} {j : Nat} {a : Act} {w : World} (h : Rnds P c Q j a w) : (Code.loop c).wp P Q a w := by
  let μ : Act → World → Nat := fun a w => if hx : ∃ j, Rnds P c Q j a w then Classical.choose (least hx) else 0
  refine wp_loop (fun a w => ∃ j, Rnds P c Q j a w) μ ⟨j, h⟩ fun a w hI => ?_
  have hμ : μ a w = Classical.choose (least hI) := dif_pos hI
  obtain ⟨hs, _⟩ := Classical.choose_spec (least hI)
  rw [← hμ] at hs
  cases hf : μ a w with
  | zero => rw [hf] at hs; exact hs.elim
  | succ i =>
    rw [hf] at hs
    refine wp_mono hs (then_mono fun a' w' hr => ⟨⟨i, hr⟩, ?_⟩)
    have hx : ∃ j, Rnds P c Q j a' w' := ⟨i, hr⟩
    have e : μ a' w' = Classical.choose (least hx) := dif_pos hx
    obtain ⟨_, hmin⟩ := Classical.choose_spec (least hx)
    rw [← e] at hmin
    have : ¬ i < μ a' w' := fun q => hmin i q hr
    omega
theorem exK_true {e : Ex} {n : Bool} {x : Nat → Bool} {r : Bool} (h : exK e n x r = true) : (e = .normal ∧ n = true) ∨ (∃ i, e = .exit i ∧ x i = true) ∨ (e = .ret ∧ r = true) := by
  cases e with
  | normal => exact .inl ⟨rfl, h⟩
  | exit i => exact .inr (.inl ⟨i, rfl, h⟩)
  | ret => exact .inr (.inr ⟨rfl, h⟩)
abbrev WP (P : Program) (c : Code) : (Exit → Act → World → Prop) → Act → World → Prop := fun Q a w => c.wp P Q a w
theorem CTr.seq {m0 : Nat} {a b : Code} {t t1 t2 : Ts} {s s1 s2 : St} {e : Ex} (p1 : Pure ρ s s1) (p2 : Pure ρ s1 s2) (h1 : CTr P ρ m0 (WP P a) t s .normal t1 s1) (h2 : CTr P ρ m0 (WP P b) t1 s1 e t2 s2) : CTr P ρ m0 (WP P (.seq a b)) t s e t2 s2 := by
  intro Q m n0 w0 ν ac w hm mt hd mw un hnext
  have c1 := p1.cnt
  have c2 := p2.cnt
  refine wp_seq (h1 hm mt hd mw (un.mono (Nat.le_refl _) c2) fun a1 ν1 w1 e1 mt1 hd1 mw1 => ?_)
  exact h2 hm mt1 hd1 mw1 ((un.mono c1 (Nat.le_refl _)).ext e1 (Nat.le_refl _)) fun a2 ν2 w2 e2 mt2 hd2 mw2 => hnext a2 ν2 w2 (e1.trans e2 c1 c2) mt2 hd2 mw2
theorem CTr.seq_out {m0 : Nat} {a b : Code} {t t1 : Ts} {s s1 : St} {e : Ex} (he : e ≠ .normal) (h1 : CTr P ρ m0 (WP P a) t s e t1 s1) : CTr P ρ m0 (WP P (.seq a b)) t s e t1 s1 := by
  intro Q m n0 w0 ν ac w hm mt hd mw un hnext
  refine wp_seq (h1 hm mt hd mw un fun a1 ν1 w1 e1 mt1 hd1 mw1 => ?_)
  have := hnext a1 ν1 w1 e1 mt1 hd1 mw1
  cases e with
  | normal => exact absurd rfl he
  | exit i => exact this
  | ret => exact this
theorem code_sound (hmx : P.follows .mixedOrders = true) (hg : g = ρ.gl.isSome) {ck : CK} (hck : CKOK P ρ ck) {m0 n : Nat} : ∀ {x : XCode} {c : Code} {t : Ts} {s : St} {k : KX}, chkCode P g m0 x c = true → Num s → IvOK ρ s.iv → codeK ck n x t s k = true →
    ∃ e t' s', k e t' s' = true ∧ Pure ρ s s' ∧ CTr P ρ m0 (WP P c) t s e t' s' := by
  intro x
  induction x with
  | skip =>
    intro c t s k hc hn hi h
    cases c <;> first | (cases hc; done) | skip
    refine ⟨.normal, t, s, h, Pure.refl hn hi, ?_⟩
    intro Q m n0 w0 ν a w hm mt hd mw un hnext
    exact wp_skip (hnext a ν w (Ext.refl _ _ _) mt hd mw)
  | ret =>
    intro c t s k hc hn hi h
    cases c <;> first | (cases hc; done) | skip
    refine ⟨.ret, t, s, h, Pure.refl hn hi, ?_⟩
    intro Q m n0 w0 ν a w hm mt hd mw un hnext
    exact wp_ret (hnext a ν w (Ext.refl _ _ _) mt hd mw)
  | exit i =>
    intro c t s k hc hn hi h
    cases c <;> first | (cases hc; done) | skip
    have e := Nat.eq_of_beq_eq_true (show Nat.beq i _ = true from hc)
    subst e
    refine ⟨.exit i, t, s, h, Pure.refl hn hi, ?_⟩
    intro Q m n0 w0 ν a w hm mt hd mw un hnext
    exact wp_exit (hnext a ν w (Ext.refl _ _ _) mt hd mw)
  | region xs =>
    intro c t s k hc hn hi h
    cases c <;> first | (cases hc; done) | skip
    rename_i id ops dr
    cases dr <;> first | (cases hc; done) | skip
    exact region_sound hg hck hc hn hi h
  | draw xs pairs =>
    intro c t s k hc hn hi h
    cases c <;> first | (cases hc; done) | skip
    rename_i id ops dr
    cases dr <;> first | (cases hc; done) | skip
    exact draw_sound hmx hg hck hc hn hi h
  | seq x y ihx ihy =>
    intro c t s k hc hn hi h
    cases c <;> first | (cases hc; done) | skip
    rename_i a b
    have hc : (chkCode P g m0 x a && chkCode P g m0 y b) = true := hc
    rw [Bool.and_eq_true] at hc
    obtain ⟨e, t1, s1, h1, p1, d1⟩ := ihx hc.1 hn hi (show codeK ck n x t s (fun e t s => exK e (codeK ck n y t s k) (fun i => k (.exit i) t s) (k .ret t s)) = true from h)
    rcases exK_true h1 with ⟨rfl, h2⟩ | ⟨i, rfl, h2⟩ | ⟨rfl, h2⟩
    · obtain ⟨e2, t2, s2, h3, p2, d2⟩ := ihy hc.2 p1.num p1.iv h2
      exact ⟨e2, t2, s2, h3, p1.trans p2, d1.seq p1 p2 d2⟩
    · exact ⟨_, t1, s1, h2, p1, d1.seq_out (fun e => by cases e)⟩
    · exact ⟨_, t1, s1, h2, p1, d1.seq_out (fun e => by cases e)⟩
  | cond v x y ihx ihy =>
    intro c t s k hc hn hi h
    cases c <;> first | (cases hc; done) | skip
    rename_i o a b
    have hc : (xaB g o v && (chkCode P g m0 x a && chkCode P g m0 y b)) = true := hc
    simp only [Bool.and_eq_true] at hc
    obtain ⟨cl, h1, hcl⟩ := ev1K_sound (xaB_eq hc.1) (show ev1K v t (fun z => isBoo z fun q => @Bool.rec (fun _ => XM → XM → Ts → St → KX → Bool) (fun _ b => b) (fun a _ => a) q (codeK ck n x) (codeK ck n y) t s k) = true from h)
    obtain ⟨q, rfl, h2⟩ := isBoo_true h1
    cases q with
    | true =>
      obtain ⟨e, t1, s1, h3, p1, d1⟩ := ihx hc.2.1 hn hi h2
      refine ⟨e, t1, s1, h3, p1, ?_⟩
      intro Q m n0 w0 ν ac w hm mt hd mw un hnext
      exact wp_cond_true (hcl hg mt) (d1 hm mt hd mw un hnext)
    | false =>
      obtain ⟨e, t1, s1, h3, p1, d1⟩ := ihy hc.2.2 hn hi h2
      refine ⟨e, t1, s1, h3, p1, ?_⟩
      intro Q m n0 w0 ν ac w hm mt hd mw un hnext
      exact wp_cond_false (hcl hg mt) (d1 hm mt hd mw un hnext)
  | block i x ihx =>
    intro c t s k hc hn hi h
    cases c <;> first | (cases hc; done) | skip
    rename_i j a
    have hc : (Nat.beq i j && chkCode P g m0 x a) = true := hc
    rw [Bool.and_eq_true] at hc
    have e := Nat.eq_of_beq_eq_true hc.1
    subst e
    obtain ⟨e, t1, s1, h1, p1, d1⟩ := ihx hc.2 hn hi (show codeK ck n x t s (fun e t s => exK e (k .normal t s) (fun j => @Bool.rec (fun _ => Bool) (k (.exit j) t s) (k .normal t s) (Nat.beq j i)) (k .ret t s)) = true from h)
    rcases exK_true h1 with ⟨rfl, h2⟩ | ⟨j, rfl, h2⟩ | ⟨rfl, h2⟩
    · refine ⟨.normal, t1, s1, h2, p1, ?_⟩
      intro Q m n0 w0 ν ac w hm mt hd mw un hnext
      exact wp_block (d1 hm mt hd mw un hnext)
    · cases hji : Nat.beq j i with
      | true =>
        rw [hji] at h2
        refine ⟨.normal, t1, s1, h2, p1, ?_⟩
        intro Q m n0 w0 ν ac w hm mt hd mw un hnext
        refine wp_block (d1 hm mt hd mw un fun a1 ν1 w1 e1 mt1 hd1 mw1 => ?_)
        show (if j = i then Q .normal a1 w1 else Q (.exit j) a1 w1)
        rw [if_pos (Nat.eq_of_beq_eq_true hji)]
        exact hnext a1 ν1 w1 e1 mt1 hd1 mw1
      | false =>
        rw [hji] at h2
        refine ⟨.exit j, t1, s1, h2, p1, ?_⟩
        intro Q m n0 w0 ν ac w hm mt hd mw un hnext
        refine wp_block (d1 hm mt hd mw un fun a1 ν1 w1 e1 mt1 hd1 mw1 => ?_)
        show (if j = i then Q .normal a1 w1 else Q (.exit j) a1 w1)
        rw [if_neg (fun e => by subst e; rw [Nat.beq_refl] at hji; cases hji)]
        exact hnext a1 ν1 w1 e1 mt1 hd1 mw1
    · refine ⟨.ret, t1, s1, h2, p1, ?_⟩
      intro Q m n0 w0 ν ac w hm mt hd mw un hnext
      exact wp_block (d1 hm mt hd mw un hnext)
  | loop x ihx =>
    intro c t s k hc hn hi h
    cases c <;> first | (cases hc; done) | skip
    rename_i a
    have key : ∀ (j : Nat) {t : Ts} {s : St} {k : KX}, Num s → IvOK ρ s.iv → loopF j x (codeK ck n x) t s k = true → ∃ e t' s', k e t' s' = true ∧ Pure ρ s s' ∧ CTr P ρ m0 (fun Q a' w => Rnds P a Q j a' w) t s e t' s' := by
      intro j
      induction j with
      | zero => intro t s k hn hi h; cases h
      | succ j ih =>
        intro t s k hn hi h
        obtain ⟨e, t1, s1, h1, p1, d1⟩ := ihx (c := a) hc hn hi (show codeK ck n x t s (fun e t s => exK e (loopF j x (codeK ck n x) t s k) (fun i => k (.exit i) t s) (k .ret t s)) = true from h)
        rcases exK_true h1 with ⟨rfl, h2⟩ | ⟨i, rfl, h2⟩ | ⟨rfl, h2⟩
        · obtain ⟨e2, t2, s2, h3, p2, d2⟩ := ih p1.num p1.iv h2
          refine ⟨e2, t2, s2, h3, p1.trans p2, ?_⟩
          intro Q m n0 w0 ν ac w hm mt hd mw un hnext
          have c1 := p1.cnt
          have c2 := p2.cnt
          refine d1 hm mt hd mw (un.mono (Nat.le_refl _) c2) fun a1 ν1 w1 e1 mt1 hd1 mw1 => ?_
          exact d2 hm mt1 hd1 mw1 ((un.mono c1 (Nat.le_refl _)).ext e1 (Nat.le_refl _)) fun a2 ν2 w2 e2 mt2 hd2 mw2 => hnext a2 ν2 w2 (e1.trans e2 c1 c2) mt2 hd2 mw2
        · refine ⟨_, t1, s1, h2, p1, ?_⟩
          intro Q m n0 w0 ν ac w hm mt hd mw un hnext
          exact d1 hm mt hd mw un fun a1 ν1 w1 e1 mt1 hd1 mw1 => hnext a1 ν1 w1 e1 mt1 hd1 mw1
        · refine ⟨_, t1, s1, h2, p1, ?_⟩
          intro Q m n0 w0 ν ac w hm mt hd mw un hnext
          exact d1 hm mt hd mw un fun a1 ν1 w1 e1 mt1 hd1 mw1 => hnext a1 ν1 w1 e1 mt1 hd1 mw1
    obtain ⟨e, t1, s1, h1, p1, d1⟩ := key n hn hi h
    refine ⟨e, t1, s1, h1, p1, ?_⟩
    intro Q m n0 w0 ν ac w hm mt hd mw un hnext
    exact wp_rounds (d1 hm mt hd mw un hnext)

/-! ### Results -/
noncomputable def chkRes (P : Program) : ResultVar → XR → Bool
  | .tmp t, .t p => pnB p t
  | .cell a ty, .c1 p => pnB p a && aggB P ty false
  | .cell a ty, .cn p n => pnB p a && (aggB P ty true && tyInfo P ty fun i => Nat.beq i.size n)
  | _, _ => false
noncomputable def chkRess (P : Program) : List ResultVar → List XR → Bool
  | [], [] => true
  | r :: l, x :: m => chkRes P r x && chkRess P l m
  | _, _ => false
def resSem (tmps : Array Value) : ResultVar → Sem Value
  | .tmp t => pure (tmps.getD t undef)
  | .cell a t => do loadVar t (← asAddr (tmps.getD a undef))
theorem res_sound {r : ResultVar} {x : XR} {t : Ts} {s : St} {k : Comp → Bool} (hc : chkRes P r x = true) (h : resK1 x t s k = true) :
    ∃ c, k c = true ∧ ∀ {m n0 : Nat} {w0 : World} {ν : Nu} {a : Act} {w : World}, MT m ν ρ t a → MW n0 w0 ν ρ s.h s.wlo w → ∃ v, CompR ν ρ c v ∧ (resSem a.tmps r).run P w = .ok v w := by
  have tmp : ∀ {p : Pth} {c : AV} {m : Nat} {ν : Nu} {a : Act}, t.get p = some c → MT m ν ρ t a → ∃ u, a.tmps.getD p.nat undef = u ∧ AR ν ρ c u := by
    intro p c m ν a hg mt
    obtain ⟨u, hu, ru⟩ := mt.2.1 _ _ hg
    exact ⟨u, by simp [Array.getD_eq_getD_getElem?, hu], ru⟩
  cases r with
  | tmp n =>
    cases x <;> first | (cases hc; done) | skip
    rename_i p
    have e := pnB_nat (show pnB p n = true from hc)
    subst e
    obtain ⟨v, hv, h1⟩ := getK_true (show getK p t (fun v => isComp v k) = true from h)
    obtain ⟨c, rfl, h2⟩ := isComp_true h1
    refine ⟨c, h2, fun {m n0 w0 ν a w} mt mw => ?_⟩
    obtain ⟨u, hu, ru⟩ := tmp hv mt
    exact ⟨u, ru, by simp [resSem, hu]⟩
  | cell n ty =>
    cases x <;> first | (cases hc; done) | skip
    · rename_i p
      have hc : (pnB p n && aggB P ty false) = true := hc
      rw [Bool.and_eq_true] at hc
      have e := pnB_nat hc.1
      subst e
      obtain ⟨d, hd, ha⟩ := aggB_true hc.2
      obtain ⟨v, hv, h1⟩ := getK_true (show getK p t (fun v => isOne v fun x => isPtr x fun id off => rowK id s fun _ _ l => nthK l off fun c => k (.one c)) = true from h)
      obtain ⟨c, rfl, h2⟩ := isOne_true h1
      obtain ⟨id, off, rfl, h3⟩ := isPtr_true h2
      obtain ⟨B, op, l, hB, hbk, h4⟩ := rowK_true h3
      obtain ⟨c, hn, h5⟩ := nthK_true h4
      refine ⟨_, h5, fun {m n0 w0 ν a w} mt mw => ?_⟩
      obtain ⟨u, hu, ru⟩ := tmp hv mt
      obtain ⟨b, nn, e1, ev⟩ := ru
      obtain ⟨b', nn', e2, hlt, hbr⟩ := mw.blk id B hB
      rw [e1] at e2; cases e2
      rw [hbk] at hbr
      obtain ⟨cs, e, g1, g2, g3, _, g5⟩ := hbr
      obtain ⟨v, hv2, rv⟩ := g5 off c hn
      refine ⟨v, rv, ?_⟩
      simp [resSem, hu, ev, asAddr, loadVar, r_isAgg hd, ha, cell_at g1, hv2]
    · rename_i p nn
      have hc : (pnB p n && (aggB P ty true && tyInfo P ty fun i => Nat.beq i.size nn)) = true := hc
      simp only [Bool.and_eq_true] at hc
      have e := pnB_nat hc.1
      subst e
      obtain ⟨d, hd, ha⟩ := aggB_true hc.2.1
      obtain ⟨i, hi, hsz⟩ := tyInfo_true hc.2.2
      have e := Nat.eq_of_beq_eq_true hsz
      subst e
      obtain ⟨v, hv, h1⟩ := getK_true (show getK p t (fun v => isOne v fun x => isPtr x fun id off => loadK id off i.size s fun l => k (.agg l)) = true from h)
      obtain ⟨c, rfl, h2⟩ := isOne_true h1
      obtain ⟨id, off, rfl, h3⟩ := isPtr_true h2
      obtain ⟨B, op, l, hB, hbk, hl, h4⟩ := loadK_true h3
      refine ⟨_, h4, fun {m n0 w0 ν a w} mt mw => ?_⟩
      obtain ⟨u, hu, ru⟩ := tmp hv mt
      obtain ⟨b, nn, e1, ev⟩ := ru
      obtain ⟨b', nn', e2, hlt, hbr⟩ := mw.blk id B hB
      rw [e1] at e2; cases e2
      rw [hbk] at hbr
      obtain ⟨vs, hvl, rel, hcell⟩ := load_part hbr hl
      have := run_loadCells_list (P := P) (w := w) ⟨b, off, none⟩ vs hcell
      rw [hvl] at this
      refine ⟨.agg vs.toArray, ⟨vs, rfl, rel⟩, ?_⟩
      simp [resSem, hu, ev, asAddr, loadVar, r_isAgg hd, ha, r_size hi, this]
theorem ress_sound {t : Ts} {s : St} : ∀ {rs : List ResultVar} {xs : List XR} {k : List Comp → Bool}, chkRess P rs xs = true → ressK xs t s k = true →
    ∃ l, k l = true ∧ ∀ {m n0 : Nat} {w0 : World} {ν : Nu} {a : Act} {w : World}, MT m ν ρ t a → MW n0 w0 ν ρ s.h s.wlo w → ∃ vs, Rel (CompR ν ρ) l vs ∧ (rs.mapM (resSem a.tmps)).run P w = .ok vs w
  | [], [], k, hc, h => ⟨[], h, fun _ _ => ⟨[], trivial, by simp⟩⟩
  | [], _ :: _, k, hc, h => by cases hc
  | _ :: _, [], k, hc, h => by cases hc
  | r :: rs, x :: xs, k, hc, h => by
    have hc : (chkRes P r x && chkRess P rs xs) = true := hc
    rw [Bool.and_eq_true] at hc
    obtain ⟨c, h1, hr⟩ := res_sound (ρ := ρ) hc.1 (show resK1 x t s (fun c => ressK xs t s fun l => k (c :: l)) = true from h)
    obtain ⟨l, h2, hl⟩ := ress_sound hc.2 h1
    refine ⟨c :: l, h2, fun mt mw => ?_⟩
    obtain ⟨v, hv, e1⟩ := hr mt mw
    obtain ⟨vs, hvs, e2⟩ := hl mt mw
    exact ⟨v :: vs, ⟨hv, hvs⟩, by simp [List.mapM_cons, e1, e2]⟩
theorem results_sound {fn : Func} {xs : List XR} {t : Ts} {s : St} {k : AV → Bool} (hc : chkRess P fn.results.toList xs = true) (h : (ressK xs t s fun l => oneRes l k) = true) :
    ∃ v, k v = true ∧ ∀ {m n0 : Nat} {w0 : World} {ν : Nu} {a : Act} {w : World}, MT m ν ρ t a → MW n0 w0 ν ρ s.h s.wlo w → ∃ u, AR ν ρ v u ∧ (results fn a.tmps).run P w = .ok u w := by
  obtain ⟨l, h1, hl⟩ := ress_sound (ρ := ρ) hc h
  have run : ∀ {a : Act} {w : World} {vs : List Value}, (fn.results.toList.mapM (resSem a.tmps)).run P w = .ok vs w → (results fn a.tmps).run P w = .ok (if hh : vs.toArray.size = 1 then vs.toArray[0] else .tuple vs.toArray) w := by
    intro a w vs e
    have e2 : (fn.results.mapM (resSem a.tmps)).run P w = .ok vs.toArray w := by
      rw [Array.mapM_eq_mapM_toList, Sem.run_map, e]; rfl
    have e3 : results fn a.tmps = (do let vs ← fn.results.mapM (resSem a.tmps); pure (if h : vs.size = 1 then vs[0] else .tuple vs)) := by
      unfold results
      congr 1
    rw [e3, Sem.run_bind, e2]
    rfl
  cases l with
  | nil =>
    refine ⟨.tup [], h1, fun mt mw => ?_⟩
    obtain ⟨vs, hvs, e⟩ := hl mt mw
    cases vs with
    | nil => exact ⟨_, ⟨[], rfl, trivial⟩, run e⟩
    | cons v vs => exact hvs.elim
  | cons c l =>
    cases l with
    | nil =>
      refine ⟨.v c, h1, fun mt mw => ?_⟩
      obtain ⟨vs, hvs, e⟩ := hl mt mw
      cases vs with
      | nil => exact hvs.elim
      | cons v vs =>
        cases vs with
        | nil => exact ⟨v, hvs.1, run e⟩
        | cons u vs => exact hvs.2.elim
    | cons d l =>
      refine ⟨.tup (c :: d :: l), h1, fun mt mw => ?_⟩
      obtain ⟨vs, hvs, e⟩ := hl mt mw
      cases vs with
      | nil => exact hvs.elim
      | cons v vs =>
        cases vs with
        | nil => exact hvs.2.elim
        | cons u vs => exact ⟨_, ⟨v :: u :: vs, rfl, hvs⟩, run e⟩

/-! ### Calls -/
theorem argsK_true {k : Ts → Bool} : ∀ {l : List AV} {p : Pth} {t : Ts}, argsK l p t k = true → ∃ t', k t' = true ∧ ∀ q v, t'.get q = some v → (p.nat ≤ q.nat ∧ l[q.nat - p.nat]? = some v) ∨ (t.get q = some v ∧ (q.nat < p.nat ∨ p.nat + l.length ≤ q.nat))
  | [], p, t, h => ⟨t, h, fun q v hv => .inr ⟨hv, by simp; omega⟩⟩
  | a :: l, p, t, h => by
    have h : setK p t a (fun t => succK p fun p => argsK l p t k) = true := h
    rw [setK_eq, succK_eq] at h
    obtain ⟨t', hk, ht⟩ := argsK_true h
    refine ⟨t', hk, fun q v hv => ?_⟩
    rcases ht q v hv with ⟨h1, h2⟩ | ⟨h1, h2⟩
    · rw [Pth.nat_succ] at h1 h2
      refine .inl ⟨by omega, ?_⟩
      have : q.nat - p.nat = (q.nat - (p.nat + 1)) + 1 := by omega
      rw [this]; simpa using h2
    · rw [Pth.nat_succ] at h2
      rw [Tr.get_set] at h1
      by_cases e : p = q
      · subst e
        rw [if_pos rfl] at h1; cases h1
        exact .inl ⟨Nat.le_refl _, by simp⟩
      · rw [if_neg e] at h1
        have : p.nat ≠ q.nat := fun e2 => e (Pth.nat_inj e2)
        exact .inr ⟨h1, by simp; omega⟩
/-- A FUNCTION OF THE PROGRAM IS THE EXECUTOR'S. -/
structure FnOK (P : Program) (g : Bool) (f : Nat) (x : XFn) : Prop where
  en : Enters P f
  ok : ∃ fn c, P.funcs[f]? = some fn ∧ fn.body = some c ∧ chkCode P g fn.ntmps x.body c = true ∧ chkRess P fn.results.toList x.res = true
theorem enters_of {f : Nat} {fn : Func} (hf : P.funcs[f]? = some fn) (hb : fn.body.isNone = false) (hn : (fn.name == "runtime.NumGoroutine") = false) : Enters P f := by
  intro args w
  simp only [beq_eq_false_iff_ne, ne_eq] at hn
  simp [callFunc, hf, hn]
  intro h2; rw [h2] at hb; cases hb
theorem fn_sound (hmx : P.follows .mixedOrders = true) (hg : g = ρ.gl.isSome) {ck : CK} (hck : CKOK P ρ ck) {f loops : Nat} {x : XFn} (hx : FnOK P g f x) {l : List AV} {s : St} {k : KVS} (hn : Num s) (hi : IvOK ρ s.iv) (h : fnF ck loops l s k x.n x.body x.res = true) :
    ∃ v s', k v s' = true ∧ Pure ρ s s' ∧ CT P ρ f l s v s' := by
  obtain ⟨en, fn, c, hf, hb, hc, hr⟩ := hx
  obtain ⟨t, h1, ht⟩ := argsK_true (show argsK l .e .nil (fun t => codeK ck loops x.body t s fun e t s => exK e (ressK x.res t s fun l => oneRes l fun v => k v s) (fun _ => false) (ressK x.res t s fun l => oneRes l fun v => k v s)) = true from h)
  obtain ⟨e, t', s', h2, hp, hct⟩ := code_sound hmx hg hck hc hn hi h1
  have fin : ∀ {v : AV}, (e = .normal ∨ e = .ret) → (∀ {m n0 : Nat} {w0 : World} {ν : Nu} {a : Act} {w : World}, MT m ν ρ t' a → MW n0 w0 ν ρ s'.h s'.wlo w → ∃ u, AR ν ρ v u ∧ (results fn a.tmps).run P w = .ok u w) → CT P ρ f l s v s' := by
    intro v he hres
    intro n0 w0 ν w vals R ra gl mw un hR
    refine calls_of_wp hf hb ?_
    have mt : MT (vals.toArray ++ Array.replicate (fn.ntmps - vals.toArray.size) undef).size ν ρ t { tmps := vals.toArray ++ Array.replicate (fn.ntmps - vals.toArray.size) undef, defers := [] } := by
      refine ⟨rfl, fun q v hv => ?_, gl⟩
      rcases ht q v hv with ⟨_, h4⟩ | ⟨h4, _⟩
      · have h4 : l[q.nat]? = some v := by simpa [Pth.nat] using h4
        obtain ⟨u, hu, ru⟩ := ra.nth h4
        refine ⟨u, ?_, ru⟩
        have hlt : q.nat < vals.length := by
          rcases Nat.lt_or_ge q.nat vals.length with hh | hh
          · exact hh
          · rw [List.getElem?_eq_none hh] at hu; cases hu
        rw [Array.getElem?_append_left (by simpa using hlt)]
        simpa using hu
      · rw [Tr.get_nil] at h4; cases h4
    refine hct (by simp; omega) mt rfl mw un fun a' ν' w' hx mt' hd' mw' => ?_
    obtain ⟨u, hu, hrun⟩ := hres mt' mw'
    rcases he with rfl | rfl
    · exact ⟨hd', u, hrun, hR u ν' w' hx hu mw'⟩
    · exact ⟨hd', u, hrun, hR u ν' w' hx hu mw'⟩
  rcases exK_true h2 with ⟨he, h3⟩ | ⟨i, _, h3⟩ | ⟨he, h3⟩
  · obtain ⟨v, h4, hv⟩ := results_sound (ρ := ρ) (fn := fn) hr h3
    exact ⟨v, s', h4, hp, fin (.inl he) hv⟩
  · cases h3
  · obtain ⟨v, h4, hv⟩ := results_sound (ρ := ρ) (fn := fn) hr h3
    exact ⟨v, s', h4, hp, fin (.inr he) hv⟩
/-- CALLS. -/
theorem callN_sound (hmx : P.follows .mixedOrders = true) (hg : g = ρ.gl.isSome) {F : Tr XFn} (hF : ∀ p x, F.get p = some x → FnOK P g p.nat x) (loops fuel : Nat) : CKOK P ρ (callN F loops fuel) := by
  induction fuel with
  | zero => intro f p args s k hp h; cases h
  | succ fuel ih =>
    intro f p args s k hp h hn hi
    obtain ⟨x, hx, h1⟩ := getK_true (show getK p F (fun fn => @XFn.rec (fun _ => Bool) (fnF (callN F loops fuel) loops args s k) fn) = true from h)
    have ok := hF p x hx
    rw [hp] at ok
    have h2 : fnF (callN F loops fuel) loops args s k x.n x.body x.res = true := by cases x; exact h1
    exact ⟨ok.en, fn_sound hmx hg ih ok hn hi h2⟩
end Go.Rsf
