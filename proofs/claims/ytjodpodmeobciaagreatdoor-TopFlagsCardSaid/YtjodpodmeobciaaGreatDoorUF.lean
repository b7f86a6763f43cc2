/- An executor over a program's operations: a loop whose rounds are a family's; calls that are carried out otherwise. Conditions: none. -/
import Derived.Test.YtjodpodmeobciaaGreatDoorUE
namespace Go.Rsf
open Go.RowKit
set_option linter.unusedVariables false
set_option linter.unusedSimpArgs false
/-- The loops of a piece of code. -/
def loopsOf : XCode → List XCode
  | .seq a b => loopsOf a ++ loopsOf b
  | .cond _ a b => loopsOf a ++ loopsOf b
  | .block _ a => loopsOf a
  | .loop a => a :: loopsOf a
  | _ => []
noncomputable section
def codeO (ck : CK) (n : Nat) (sel : XCode → Bool) (fam : XCode → XM) (c : XCode) : XM :=
  @XCode.rec (fun _ => XM) (fun t s k => k .normal t s) (regF ck) (drawF ck) seqF condF blockF (fun x a t s k => @Bool.rec (fun _ => Bool) (loopF n x a t s k) (fam x t s k) (sel x)) (fun i t s k => k (.exit i) t s) (fun t s k => k .ret t s) c
def fnO (ck : CK) (loops : Nat) (sel : XCode → Bool) (fam : XCode → XM) (l : List AV) (s : St) (k : KVS) (n : Nat) (body : XCode) (res : List XR) : Bool :=
  argsK l .e .nil fun t => codeO ck loops sel fam body t s fun e t s => exK e (ressK res t s fun l => oneRes l fun v => k v s) (fun _ => false) (ressK res t s fun l => oneRes l fun v => k v s)
/-- A state whose numbering is lifted to a ceiling. -/
def ceilF (N : Nat) (nx : Pth) (s : St) (k : St → Bool) : Bool := @St.rec (fun _ => Bool) (fun heap _ cnt wlo iv => guardK (Nat.ble cnt N) (k ⟨heap, nx, N, wlo, iv⟩)) s
/-- Behind a round of a family's. -/
def stepK (N : Nat) (nxt : Pth) (nx : Ts → St → Bool) (out : Bool) (k : KX) : KX :=
  fun e t s => exK e (guardK (Nat.ble s.cnt N) (nx t s)) (fun i => guardK out (ceilF N nxt s fun s => k (.exit i) t s)) (guardK out (ceilF N nxt s fun s => k .ret t s))
end
variable {P : Program} {ρ : Rho} {g : Bool}
theorem codeO_sound (hmx : P.follows .mixedOrders = true) (hg : g = ρ.gl.isSome) {ck : CK} (hck : CKOK P ρ ck) {m0 n : Nat} {sel : XCode → Bool} {fam : XCode → XM} {L : List XCode}
    (hfam : ∀ {x : XCode} {c : Code} {t : Ts} {s : St} {k : KX}, x ∈ L → chkCode P g m0 x c = true → sel x = true → Num s → IvOK ρ s.iv → fam x t s k = true → ∃ e t' s', k e t' s' = true ∧ Pure ρ s s' ∧ CTr P ρ m0 (WP P (.loop c)) t s e t' s') : ∀ {x : XCode} {c : Code} {t : Ts} {s : St} {k : KX}, (∀ y ∈ loopsOf x, y ∈ L) → chkCode P g m0 x c = true → Num s → IvOK ρ s.iv → codeO ck n sel fam x t s k = true →
    ∃ e t' s', k e t' s' = true ∧ Pure ρ s s' ∧ CTr P ρ m0 (WP P c) t s e t' s' := by
  intro x
  induction x with
  | skip =>
    intro c t s k hL hc hn hi h
    cases c <;> first | (cases hc; done) | skip
    refine ⟨.normal, t, s, h, Pure.refl hn hi, ?_⟩
    intro Q m n0 w0 ν a w hm mt hd mw un hnext
    exact wp_skip (hnext a ν w (Ext.refl _ _ _) mt hd mw)
  | ret =>
    intro c t s k hL hc hn hi h
    cases c <;> first | (cases hc; done) | skip
    refine ⟨.ret, t, s, h, Pure.refl hn hi, ?_⟩
    intro Q m n0 w0 ν a w hm mt hd mw un hnext
    exact wp_ret (hnext a ν w (Ext.refl _ _ _) mt hd mw)
  | exit i =>
    intro c t s k hL hc hn hi h
    cases c <;> first | (cases hc; done) | skip
    have e := Nat.eq_of_beq_eq_true (show Nat.beq i _ = true from hc)
    subst e
    refine ⟨.exit i, t, s, h, Pure.refl hn hi, ?_⟩
    intro Q m n0 w0 ν a w hm mt hd mw un hnext
    exact wp_exit (hnext a ν w (Ext.refl _ _ _) mt hd mw)
  | region xs =>
    intro c t s k hL hc hn hi h
    cases c <;> first | (cases hc; done) | skip
    rename_i id ops dr
    cases dr <;> first | (cases hc; done) | skip
    exact region_sound hg hck hc hn hi h
  | draw xs pairs =>
    intro c t s k hL hc hn hi h
    cases c <;> first | (cases hc; done) | skip
    rename_i id ops dr
    cases dr <;> first | (cases hc; done) | skip
    exact draw_sound hmx hg hck hc hn hi h
  | seq x y ihx ihy =>
    intro c t s k hL hc hn hi h
    cases c <;> first | (cases hc; done) | skip
    rename_i a b
    have hc : (chkCode P g m0 x a && chkCode P g m0 y b) = true := hc
    rw [Bool.and_eq_true] at hc
    obtain ⟨e, t1, s1, h1, p1, d1⟩ := ihx (fun y hy => hL y (List.mem_append_left _ hy)) hc.1 hn hi (show codeO ck n sel fam x t s (fun e t s => exK e (codeO ck n sel fam y t s k) (fun i => k (.exit i) t s) (k .ret t s)) = true from h)
    rcases exK_true h1 with ⟨rfl, h2⟩ | ⟨i, rfl, h2⟩ | ⟨rfl, h2⟩
    · obtain ⟨e2, t2, s2, h3, p2, d2⟩ := ihy (fun y hy => hL y (List.mem_append_right _ hy)) hc.2 p1.num p1.iv h2
      exact ⟨e2, t2, s2, h3, p1.trans p2, d1.seq p1 p2 d2⟩
    · exact ⟨_, t1, s1, h2, p1, d1.seq_out (fun e => by cases e)⟩
    · exact ⟨_, t1, s1, h2, p1, d1.seq_out (fun e => by cases e)⟩
  | cond v x y ihx ihy =>
    intro c t s k hL hc hn hi h
    cases c <;> first | (cases hc; done) | skip
    rename_i o a b
    have hc : (xaB g o v && (chkCode P g m0 x a && chkCode P g m0 y b)) = true := hc
    simp only [Bool.and_eq_true] at hc
    obtain ⟨cl, h1, hcl⟩ := ev1K_sound (xaB_eq hc.1) (show ev1K v t (fun z => isBoo z fun q => @Bool.rec (fun _ => XM → XM → Ts → St → KX → Bool) (fun _ b => b) (fun a _ => a) q (codeO ck n sel fam x) (codeO ck n sel fam y) t s k) = true from h)
    obtain ⟨q, rfl, h2⟩ := isBoo_true h1
    cases q with
    | true =>
      obtain ⟨e, t1, s1, h3, p1, d1⟩ := ihx (fun y hy => hL y (List.mem_append_left _ hy)) hc.2.1 hn hi h2
      refine ⟨e, t1, s1, h3, p1, ?_⟩
      intro Q m n0 w0 ν ac w hm mt hd mw un hnext
      exact wp_cond_true (hcl hg mt) (d1 hm mt hd mw un hnext)
    | false =>
      obtain ⟨e, t1, s1, h3, p1, d1⟩ := ihy (fun y hy => hL y (List.mem_append_right _ hy)) hc.2.2 hn hi h2
      refine ⟨e, t1, s1, h3, p1, ?_⟩
      intro Q m n0 w0 ν ac w hm mt hd mw un hnext
      exact wp_cond_false (hcl hg mt) (d1 hm mt hd mw un hnext)
  | block i x ihx =>
    intro c t s k hL hc hn hi h
    cases c <;> first | (cases hc; done) | skip
    rename_i j a
    have hc : (Nat.beq i j && chkCode P g m0 x a) = true := hc
    rw [Bool.and_eq_true] at hc
    have e := Nat.eq_of_beq_eq_true hc.1
    subst e
    obtain ⟨e, t1, s1, h1, p1, d1⟩ := ihx (fun y hy => hL y hy) hc.2 hn hi (show codeO ck n sel fam x t s (fun e t s => exK e (k .normal t s) (fun j => @Bool.rec (fun _ => Bool) (k (.exit j) t s) (k .normal t s) (Nat.beq j i)) (k .ret t s)) = true from h)
    rcases exK_true h1 with ⟨rfl, h2⟩ | ⟨j, rfl, h2⟩ | ⟨rfl, h2⟩
    · refine ⟨.normal, t1, s1, h2, p1, ?_⟩
      intro Q m n0 w0 ν ac w hm mt hd mw un hnext
      exact wp_block (d1 hm mt hd mw un hnext)
    · cases hji : Nat.beq j i with
      | true =>
        rw [hji] at h2
        refine ⟨.normal, t1, s1, h2, p1, ?_⟩
        intro Q m n0 w0 ν ac w hm mt hd mw un hnext
        refine wp_block (d1 hm mt hd mw un fun a1 ν1 w1 e1 mt1 hd1 mw1 => ?_)
        show (if j = i then Q .normal a1 w1 else Q (.exit j) a1 w1)
        rw [if_pos (Nat.eq_of_beq_eq_true hji)]
        exact hnext a1 ν1 w1 e1 mt1 hd1 mw1
      | false =>
        rw [hji] at h2
        refine ⟨.exit j, t1, s1, h2, p1, ?_⟩
        intro Q m n0 w0 ν ac w hm mt hd mw un hnext
        refine wp_block (d1 hm mt hd mw un fun a1 ν1 w1 e1 mt1 hd1 mw1 => ?_)
        show (if j = i then Q .normal a1 w1 else Q (.exit j) a1 w1)
        rw [if_neg (fun e => by subst e; rw [Nat.beq_refl] at hji; cases hji)]
        exact hnext a1 ν1 w1 e1 mt1 hd1 mw1
    · refine ⟨.ret, t1, s1, h2, p1, ?_⟩
      intro Q m n0 w0 ν ac w hm mt hd mw un hnext
      exact wp_block (d1 hm mt hd mw un hnext)
  | loop x ihx =>
    intro c t s k hL hc hn hi h
    cases c <;> first | (cases hc; done) | skip
    rename_i a
    have h0 : @Bool.rec (fun _ => Bool) (loopF n x (codeO ck n sel fam x) t s k) (fam x t s k) (sel x) = true := h
    cases hsel : sel x with
    | true =>
      rw [hsel] at h0
      exact hfam (hL x (List.mem_cons_self ..)) (show chkCode P g m0 x a = true from hc) hsel hn hi h0
    | false =>
    rw [hsel] at h0
    replace h := h0
    have key : ∀ (j : Nat) {t : Ts} {s : St} {k : KX}, Num s → IvOK ρ s.iv → loopF j x (codeO ck n sel fam x) t s k = true → ∃ e t' s', k e t' s' = true ∧ Pure ρ s s' ∧ CTr P ρ m0 (fun Q a' w => Rnds P a Q j a' w) t s e t' s' := by
      intro j
      induction j with
      | zero => intro t s k hn hi h; cases h
      | succ j ih =>
        intro t s k hn hi h
        obtain ⟨e, t1, s1, h1, p1, d1⟩ := ihx (c := a) (fun y hy => hL y (List.mem_cons_of_mem _ hy)) hc hn hi (show codeO ck n sel fam x t s (fun e t s => exK e (loopF j x (codeO ck n sel fam x) t s k) (fun i => k (.exit i) t s) (k .ret t s)) = true from h)
        rcases exK_true h1 with ⟨rfl, h2⟩ | ⟨i, rfl, h2⟩ | ⟨rfl, h2⟩
        · obtain ⟨e2, t2, s2, h3, p2, d2⟩ := ih p1.num p1.iv h2
          refine ⟨e2, t2, s2, h3, p1.trans p2, ?_⟩
          intro Q m n0 w0 ν ac w hm mt hd mw un hnext
          have c1 := p1.cnt
          have c2 := p2.cnt
          refine d1 hm mt hd mw (un.mono (Nat.le_refl _) c2) fun a1 ν1 w1 e1 mt1 hd1 mw1 => ?_
          exact d2 hm mt1 hd1 mw1 ((un.mono c1 (Nat.le_refl _)).ext e1 (Nat.le_refl _)) fun a2 ν2 w2 e2 mt2 hd2 mw2 => hnext a2 ν2 w2 (e1.trans e2 c1 c2) mt2 hd2 mw2
        · refine ⟨_, t1, s1, h2, p1, ?_⟩
          intro Q m n0 w0 ν ac w hm mt hd mw un hnext
          exact d1 hm mt hd mw un fun a1 ν1 w1 e1 mt1 hd1 mw1 => hnext a1 ν1 w1 e1 mt1 hd1 mw1
        · refine ⟨_, t1, s1, h2, p1, ?_⟩
          intro Q m n0 w0 ν ac w hm mt hd mw un hnext
          exact d1 hm mt hd mw un fun a1 ν1 w1 e1 mt1 hd1 mw1 => hnext a1 ν1 w1 e1 mt1 hd1 mw1
    obtain ⟨e, t1, s1, h1, p1, d1⟩ := key n hn hi h
    refine ⟨e, t1, s1, h1, p1, ?_⟩
    intro Q m n0 w0 ν ac w hm mt hd mw un hnext
    exact wp_rounds (d1 hm mt hd mw un hnext)

theorem fnO_sound (hmx : P.follows .mixedOrders = true) (hg : g = ρ.gl.isSome) {ck : CK} (hck : CKOK P ρ ck) {f loops : Nat} {x : XFn} (hx : FnOK P g f x) {sel : XCode → Bool} {fam : XCode → XM}
    (hfam : ∀ {m0 : Nat} {y : XCode} {c : Code} {t : Ts} {s : St} {k : KX}, y ∈ loopsOf x.body → chkCode P g m0 y c = true → sel y = true → Num s → IvOK ρ s.iv → fam y t s k = true → ∃ e t' s', k e t' s' = true ∧ Pure ρ s s' ∧ CTr P ρ m0 (WP P (.loop c)) t s e t' s') {l : List AV} {s : St} {k : KVS} (hn : Num s) (hi : IvOK ρ s.iv) (h : fnO ck loops sel fam l s k x.n x.body x.res = true) :
    ∃ v s', k v s' = true ∧ Pure ρ s s' ∧ CT P ρ f l s v s' := by
  obtain ⟨en, fn, c, hf, hb, hc, hr⟩ := hx
  obtain ⟨t, h1, ht⟩ := argsK_true (show argsK l .e .nil (fun t => codeO ck loops sel fam x.body t s fun e t s => exK e (ressK x.res t s fun l => oneRes l fun v => k v s) (fun _ => false) (ressK x.res t s fun l => oneRes l fun v => k v s)) = true from h)
  obtain ⟨e, t', s', h2, hp, hct⟩ := codeO_sound hmx hg hck (fun {x c t s k} hm hc' => hfam hm hc') (fun y hy => hy) hc hn hi h1
  have fin : ∀ {v : AV}, (e = .normal ∨ e = .ret) → (∀ {m n0 : Nat} {w0 : World} {ν : Nu} {a : Act} {w : World}, MT m ν ρ t' a → MW n0 w0 ν ρ s'.h s'.wlo w → ∃ u, AR ν ρ v u ∧ (results fn a.tmps).run P w = .ok u w) → CT P ρ f l s v s' := by
    intro v he hres
    intro n0 w0 ν w vals R ra gl mw un hR
    refine calls_of_wp hf hb ?_
    have mt : MT (vals.toArray ++ Array.replicate (fn.ntmps - vals.toArray.size) undef).size ν ρ t { tmps := vals.toArray ++ Array.replicate (fn.ntmps - vals.toArray.size) undef, defers := [] } := by
      refine ⟨rfl, fun q v hv => ?_, gl⟩
      rcases ht q v hv with ⟨_, h4⟩ | ⟨h4, _⟩
      · have h4 : l[q.nat]? = some v := by simpa [Pth.nat] using h4
        obtain ⟨u, hu, ru⟩ := ra.nth h4
        refine ⟨u, ?_, ru⟩
        have hlt : q.nat < vals.length := by
          rcases Nat.lt_or_ge q.nat vals.length with hh | hh
          · exact hh
          · rw [List.getElem?_eq_none hh] at hu; cases hu
        rw [Array.getElem?_append_left (by simpa using hlt)]
        simpa using hu
      · rw [Tr.get_nil] at h4; cases h4
    refine hct (by simp; omega) mt rfl mw un fun a' ν' w' hx mt' hd' mw' => ?_
    obtain ⟨u, hu, hrun⟩ := hres mt' mw'
    rcases he with rfl | rfl
    · exact ⟨hd', u, hrun, hR u ν' w' hx hu mw'⟩
    · exact ⟨hd', u, hrun, hR u ν' w' hx hu mw'⟩
  rcases exK_true h2 with ⟨he, h3⟩ | ⟨i, _, h3⟩ | ⟨he, h3⟩
  · obtain ⟨v, h4, hv⟩ := results_sound (ρ := ρ) (fn := fn) hr h3
    exact ⟨v, s', h4, hp, fin (.inl he) hv⟩
  · cases h3
  · obtain ⟨v, h4, hv⟩ := results_sound (ρ := ρ) (fn := fn) hr h3
    exact ⟨v, s', h4, hp, fin (.inr he) hv⟩

theorem ceilF_true {N : Nat} {nx : Pth} {s : St} {k : St → Bool} (h : ceilF N nx s k = true) : s.cnt ≤ N ∧ k ⟨s.heap, nx, N, s.wlo, s.iv⟩ = true := by
  cases s
  obtain ⟨h1, h2⟩ := guardK_true h
  exact ⟨Nat.le_of_ble_eq_true h1, h2⟩
/-- From a station of a family to where the loop ends. -/
theorem fam_sound {ck : CK} {m0 nL base N : Nat} {nxt : Pth} {x : XCode} {a : Code} {k : KX} (hmx : P.follows .mixedOrders = true) (hnxt : nxt.nat = N)
    {I : Type} (tp : I → Ts) (sp : I → St) (R : I → Rho) (ok : I → Prop) (rank : I → Nat) (B : Nat) (nx : I → Ts → St → Bool) (out : I → Bool) (hc : chkCode P g m0 x a = true)
    (hgR : ∀ i, ok i → g = (R i).gl.isSome) (hck : ∀ i, ok i → CKOK P (R i) ck) (hnum : ∀ i, ok i → Num (sp i)) (hiv : ∀ i, ok i → IvOK (R i) (sp i).iv) (hbase : ∀ i, ok i → base ≤ (sp i).cnt) (hrank : ∀ i, ok i → rank i ≤ B)
    (hout : ∀ i, ok i → out i = true → R i = ρ)
    (hnext : ∀ i, ok i → ∀ t1 s1, nx i t1 s1 = true → Num s1 → IvOK (R i) s1.iv → s1.wlo = (sp i).wlo → s1.cnt ≤ N → ∃ i', ok i' ∧ rank i < rank i' ∧ (sp i').wlo = s1.wlo ∧ ∀ {m n0 : Nat} {w0 : World} {ν : Nu} {ac : Act} {w : World}, Kn N m n0 w0 t1 s1 (R i) ν ac w →
      ∃ ν', (∀ id : Pth, id.nat < base ∨ N ≤ id.nat → ν' id = ν id) ∧ Kn N m n0 w0 (tp i') (sp i') (R i') ν' ac w)
    (run : ∀ i, ok i → codeK ck nL x (tp i) (sp i) (stepK N nxt (nx i) (out i) k) = true) :
    ∀ (d : Nat) i, ok i → B - rank i < d → ∃ e t' s' j, k e t' s' = true ∧ Num s' ∧ IvOK ρ s'.iv ∧ s'.cnt = N ∧ s'.wlo = (sp i).wlo ∧ ∀ {Q : Exit → Act → World → Prop} {m n0 : Nat} {w0 : World} {ν : Nu} {ac : Act} {w : World}, m0 ≤ m → Kn N m n0 w0 (tp i) (sp i) (R i) ν ac w →
      (∀ a' ν' w', (∀ id : Pth, id.nat < base ∨ N ≤ id.nat → ν' id = ν id) → MT m ν' ρ t' a' → a'.defers = [] → MW n0 w0 ν' ρ s'.h s'.wlo w' → Q (exOf e) a' w') → Rnds P a Q j ac w
  | 0, i, hi, hd => absurd hd (Nat.not_lt_zero _)
  | d + 1, i, hi, hd => by
    obtain ⟨e, t1, s1, hk, hp, hct⟩ := code_sound (ρ := R i) hmx (hgR i hi) (hck i hi) hc (hnum i hi) (hiv i hi) (run i hi)
    have hcnt := hp.cnt
    have hb := hbase i hi
    have last : s1.cnt ≤ N → R i = ρ → e ≠ .normal → k e t1 ⟨s1.heap, nxt, N, s1.wlo, s1.iv⟩ = true → ∃ e t' s' j, k e t' s' = true ∧ Num s' ∧ IvOK ρ s'.iv ∧ s'.cnt = N ∧ s'.wlo = (sp i).wlo ∧ ∀ {Q : Exit → Act → World → Prop} {m n0 : Nat} {w0 : World} {ν : Nu} {ac : Act} {w : World}, m0 ≤ m → Kn N m n0 w0 (tp i) (sp i) (R i) ν ac w →
        (∀ a' ν' w', (∀ id : Pth, id.nat < base ∨ N ≤ id.nat → ν' id = ν id) → MT m ν' ρ t' a' → a'.defers = [] → MW n0 w0 ν' ρ s'.h s'.wlo w' → Q (exOf e) a' w') → Rnds P a Q j ac w := by
      intro hN hR hne hk1
      refine ⟨e, t1, ⟨s1.heap, nxt, N, s1.wlo, s1.iv⟩, 1, hk1, ⟨hnxt, fun id C hC => ?_⟩, by rw [← hR]; exact hp.iv, rfl, hp.wlo, ?_⟩
      · have := hp.num.no id C hC
        exact ⟨Nat.lt_of_lt_of_le this.1 hN, this.2⟩
      · intro Q m n0 w0 ν ac w hm hkn hQ
        show a.wp P (Exit.then (Rnds P a Q 0) Q) ac w
        refine hct hm hkn.mt hkn.dfr hkn.mw (fun id h1 h2 => hkn.unm id h1 (by omega)) fun a' ν' w' he mt' hd' mw' => ?_
        have hq := hQ a' ν' w' (fun id hid => he.same id (by omega)) (by rw [← hR]; exact mt') hd' (by rw [← hR]; exact mw')
        cases e with
        | normal => exact absurd rfl hne
        | exit i => exact hq
        | ret => exact hq
    rcases exK_true hk with ⟨rfl, h2⟩ | ⟨q, rfl, h2⟩ | ⟨rfl, h2⟩
    · obtain ⟨h3, h4⟩ := guardK_true h2
      have hN : s1.cnt ≤ N := Nat.le_of_ble_eq_true h3
      obtain ⟨i', hi', hr', hw', hto⟩ := hnext i hi t1 s1 h4 hp.num hp.iv hp.wlo hN
      have hB := hrank i' hi'
      obtain ⟨e, t', s', j, g1, g2, g3, g4, g5, g6⟩ := fam_sound hmx hnxt tp sp R ok rank B nx out hc hgR hck hnum hiv hbase hrank hout hnext run d i' hi' (by omega)
      refine ⟨e, t', s', j + 1, g1, g2, g3, g4, g5.trans (hw'.trans hp.wlo), ?_⟩
      intro Q m n0 w0 ν ac w hm hkn hQ
      show a.wp P (Exit.then (Rnds P a Q j) Q) ac w
      refine hct hm hkn.mt hkn.dfr hkn.mw (fun id h1 h2 => hkn.unm id h1 (by omega)) fun a' ν' w' he mt' hd' mw' => ?_
      show Rnds P a Q j a' w'
      obtain ⟨ν2, hn2, hk2⟩ := hto (⟨fun id h1 h2 => by rw [he.same id (by omega)]; exact hkn.unm id (by omega) h2, mt', hd', mw'⟩ : Kn N m n0 w0 t1 s1 (R i) ν' a' w')
      refine g6 hm hk2 fun a3 ν3 w3 hb3 mt3 hd3 mw3 => hQ a3 ν3 w3 (fun id hid => ?_) mt3 hd3 mw3
      rw [hb3 id hid, hn2 id hid, he.same id (by omega)]
    · obtain ⟨h3, h4⟩ := guardK_true h2
      obtain ⟨h5, h6⟩ := ceilF_true h4
      exact last h5 (hout i hi h3) (fun e => by cases e) h6
    · obtain ⟨h3, h4⟩ := guardK_true h2
      obtain ⟨h5, h6⟩ := ceilF_true h4
      exact last h5 (hout i hi h3) (fun e => by cases e) h6
/-- A LOOP WHOSE ROUNDS ARE A FAMILY'S. -/
theorem fam_loop {ck : CK} {m0 nL N : Nat} {nxt : Pth} {x : XCode} {a : Code} {t : Ts} {s : St} {k : KX} (hmx : P.follows .mixedOrders = true) (hnxt : nxt.nat = N) (hs : Num s) (hsN : s.cnt ≤ N)
    {I : Type} (tp : I → Ts) (sp : I → St) (R : I → Rho) (ok : I → Prop) (rank : I → Nat) (B : Nat) (nx : I → Ts → St → Bool) (out : I → Bool) (hc : chkCode P g m0 x a = true)
    (hgR : ∀ i, ok i → g = (R i).gl.isSome) (hck : ∀ i, ok i → CKOK P (R i) ck) (hnum : ∀ i, ok i → Num (sp i)) (hiv : ∀ i, ok i → IvOK (R i) (sp i).iv) (hbase : ∀ i, ok i → s.cnt ≤ (sp i).cnt) (hrank : ∀ i, ok i → rank i ≤ B)
    (hout : ∀ i, ok i → out i = true → R i = ρ)
    (hnext : ∀ i, ok i → ∀ t1 s1, nx i t1 s1 = true → Num s1 → IvOK (R i) s1.iv → s1.wlo = (sp i).wlo → s1.cnt ≤ N → ∃ i', ok i' ∧ rank i < rank i' ∧ (sp i').wlo = s1.wlo ∧ ∀ {m n0 : Nat} {w0 : World} {ν : Nu} {ac : Act} {w : World}, Kn N m n0 w0 t1 s1 (R i) ν ac w →
      ∃ ν', (∀ id : Pth, id.nat < s.cnt ∨ N ≤ id.nat → ν' id = ν id) ∧ Kn N m n0 w0 (tp i') (sp i') (R i') ν' ac w)
    (run : ∀ i, ok i → codeK ck nL x (tp i) (sp i) (stepK N nxt (nx i) (out i) k) = true)
    {i0 : I} (h0 : ok i0) (hw : (sp i0).wlo = s.wlo) (hent : ∀ {m n0 : Nat} {w0 : World} {ν : Nu} {ac : Act} {w : World}, Kn N m n0 w0 t s ρ ν ac w → ∃ ν', (∀ id : Pth, id.nat < s.cnt ∨ N ≤ id.nat → ν' id = ν id) ∧ Kn N m n0 w0 (tp i0) (sp i0) (R i0) ν' ac w) :
    ∃ e t' s', k e t' s' = true ∧ Pure ρ s s' ∧ CTr P ρ m0 (WP P (.loop a)) t s e t' s' := by
  obtain ⟨e, t', s', j, g1, g2, g3, g4, g5, g6⟩ := fam_sound hmx hnxt tp sp R ok rank B nx out hc hgR hck hnum hiv hbase hrank hout hnext run (B - rank i0 + 1) i0 h0 (Nat.lt_succ_self _)
  refine ⟨e, t', s', g1, ⟨by omega, g5.trans hw, g2, g3⟩, ?_⟩
  intro Q m n0 w0 ν ac w hm mt hd mw un hQ
  obtain ⟨ν1, e1, k1⟩ := hent (⟨fun id h1 h2 => un id h1 (by omega), mt, hd, mw⟩ : Kn N m n0 w0 t s ρ ν ac w)
  refine wp_rounds (g6 hm k1 fun a' ν' w' hb mt' hd' mw' => hQ a' ν' w' ⟨fun p y hp => ?_, fun id hid => ?_⟩ mt' hd' mw')
  · by_cases q : s.cnt ≤ p.nat ∧ p.nat < N
    · rw [un p q.1 (by omega)] at hp; cases hp
    · rw [hb p (by omega), e1 p (by omega)]; exact hp
  · rw [hb id (by omega), e1 id (by omega)]
/-- Code's state behind it may be told anew. -/
theorem ctr_mat {m0 base : Nat} {W : (Exit → Act → World → Prop) → Act → World → Prop} {t t1 t2 : Ts} {s s1 s2 : St} {e : Ex} {rl : List (Pth × Pth)} (hct : CTr P ρ m0 W t s e t1 s1) (hn1 : Num s1) (hc : s.cnt ≤ s1.cnt) (hb : s.cnt ≤ base) (hm : matB base rl [] t2 s2 t1 s1 = true) (h1 : s1.cnt ≤ s2.cnt)
    (hnil : RhoIs ρ ρ []) : CTr P ρ m0 W t s e t2 s2 := by
  intro Q m n0 w0 ν a w hmm mt hd mw un hnext
  refine hct hmm mt hd mw (un.mono (Nat.le_refl _) h1) fun a' ν' w' he mt' hd' mw' => ?_
  obtain ⟨ν2, h2, k2⟩ := mat_sound hm (⟨fun id h3 h4 => by rw [he.same id (by omega)]; exact un id (by omega) h4, mt', hd', mw'⟩ : Kn s2.cnt m n0 w0 t1 s1 ρ ν' a' w') hn1 (Nat.le_refl _) hnil rfl rfl
  refine hnext a' ν2 w' ⟨fun p x hp => ?_, fun id hid => ?_⟩ k2.mt k2.dfr k2.mw
  · by_cases q : s.cnt ≤ p.nat ∧ p.nat < s2.cnt
    · rw [un p q.1 q.2] at hp; cases hp
    · rw [h2 p (by omega), he.same p (by omega)]; exact hp
  · rw [h2 id (by omega), he.same id (by omega)]
end Go.Rsf
