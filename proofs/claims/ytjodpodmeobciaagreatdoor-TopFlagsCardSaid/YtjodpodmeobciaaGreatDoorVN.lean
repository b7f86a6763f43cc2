/- An executor over a program's operations: calls. Conditions: none. -/
import Derived.Test.YtjodpodmeobciaaGreatDoorVM
namespace Go.Rsf
open Go.RowKit
set_option linter.unusedVariables false
set_option linter.unusedSimpArgs false
variable {P : Program} {ρ : Rho} {g : Bool} {o : Oper} {t : Ts} {s : St} {k : KVS}

/-- WHAT A CALL DOES: from what is known ahead of it to what is known behind it. -/
def CT (P : Program) (ρ : Rho) (f : Nat) (args : List AV) (s : St) (v : AV) (s' : St) : Prop :=
  ∀ {n0 : Nat} {w0 : World} {ν : Nu} {w : World} {vals : List Value} {R : Ending → World → Prop}, Rel (AR ν ρ) args vals → (∀ n, ρ.gl = some n → ν .e = some (0, n)) → MW n0 w0 ν ρ s.h s.wlo w → Unm ν s.cnt s'.cnt →
    (∀ u ν' w', Ext ν ν' s.cnt s'.cnt → AR ν' ρ v u → MW n0 w0 ν' ρ s'.h s'.wlo w' → R (.returned u) w') → Calls P f vals.toArray w R
def Enters (P : Program) (f : Nat) : Prop := ∀ args w, (callFunc f args).run P w = .ok (.enter f args) w
/-- CALLS THAT ARE CARRIED OUT AS THE PROGRAM DOES. -/
def CKOK (P : Program) (ρ : Rho) (ck : CK) : Prop :=
  ∀ {f : Nat} {p : Pth} {args : List AV} {s : St} {k : KVS}, p.nat = f → ck f p args s k = true → Num s → IvOK ρ s.iv → Enters P f ∧ ∃ v s', k v s' = true ∧ Pure ρ s s' ∧ CT P ρ f args s v s'

theorem Ext.rel {ν ν' : Nu} {c c' : Nat} (h : Ext ν ν' c c') {l : List AV} {vs : List Value} (r : Rel (AR ν ρ) l vs) : Rel (AR ν' ρ) l vs := r.imp fun _ _ => AR.mono h.le
theorem evsK_sound (hg : g = ρ.gl.isSome) : ∀ {l : List Operand} {xs : List XA} {k : List AV → Bool}, l.mapM (xaOf g) = some xs → evsK xs t k = true →
    ∃ vs, k vs = true ∧ ∀ {m ν a}, MT m ν ρ t a → Rel (AR ν ρ) vs (l.map a.eval)
  | [], xs, k, hx, h => by
    simp at hx; subst hx
    exact ⟨[], h, fun _ => trivial⟩
  | x :: l, xs, k, hx, h => by
    simp only [List.mapM_cons, Option.pure_def, Option.bind_eq_bind, Option.bind_eq_some_iff, Option.some.injEq] at hx
    obtain ⟨xa, hxa, r, hr, rfl⟩ := hx
    obtain ⟨v, hk, hv⟩ := evK_sound hxa (show evK xa t (fun v => evsK r t fun l => k (v :: l)) = true from h)
    obtain ⟨vs, hvs, hrel⟩ := evsK_sound hg hr hk
    exact ⟨_, hvs, fun q => ⟨hv hg q, hrel q⟩⟩
theorem call_run {c : Call} {f : FuncId} (hc : c.callee = .value (.func f)) (ho : o.op = .call c) (a : Act) : execOp a.eval o = callFunc f (c.args.map a.eval) := by
  simp [execOp, ho, resolve, hc, Act.eval, Deferred.ofValue, invoke]
theorem callv_run {c : Call} {x : Operand} {f : FuncId} {l m : Array Value} (hc : c.callee = .value x) (ho : o.op = .call c) (a : Act) (hx : a.eval x = .func (.func f) l m) : execOp a.eval o = callFunc f (l ++ c.args.map a.eval ++ m) := by
  simp [execOp, ho, resolve, hc, hx, Deferred.ofValue, invoke]
/-- What is there is only read: the blocks that come are laid to those that are there. -/
def St.low (s : St) : St := ⟨s.heap, s.next, s.cnt, s.cnt, s.iv⟩
theorem mergeK_true {src : Tr Blk} : ∀ {n : Nat} {p : Pth} {dst : Tr Blk} {k : Tr Blk → Bool}, mergeK src n p dst k = true →
    ∃ d, k d = true ∧ ∀ id : Pth, d.get id = if p.nat ≤ id.nat ∧ id.nat < p.nat + n then src.get id else dst.get id
  | 0, p, dst, k, h => ⟨dst, h, fun id => by rw [if_neg]; omega⟩
  | n + 1, p, dst, k, h => by
    obtain ⟨B, hB, h1⟩ := getK_true (show getK p src (fun B => setK p dst B fun dst => succK p fun p => mergeK src n p dst k) = true from h)
    rw [setK_eq, succK_eq] at h1
    obtain ⟨d, hd, hg⟩ := mergeK_true h1
    refine ⟨d, hd, fun id => ?_⟩
    rw [hg, Pth.nat_succ, Tr.get_set]
    by_cases e : p = id
    · subst e
      rw [if_neg (by omega), if_pos rfl, if_pos (by omega), hB]
    · have hne : p.nat ≠ id.nat := fun q => e (Pth.nat_inj q)
      rw [if_neg e]
      by_cases q : p.nat + 1 ≤ id.nat ∧ id.nat < p.nat + 1 + n
      · rw [if_pos q, if_pos (by omega)]
      · rw [if_neg q, if_neg (by omega)]
/-- A QUIET CALL, from what is known ahead of it to what is known behind it: what is there is only read. -/
theorem low_true {ck : St → KVS → Bool} (h : (@St.rec (fun _ => Bool) (lowF ck k) s) = true) : ck s.low (fun v s1 => @St.rec (fun _ => Bool) (lowM v k s.heap s.next s.cnt s.wlo) s1) = true := by
  cases s; exact h
def St.lay (s : St) (s1 : St) (d : Tr Blk) : St := ⟨d, s1.next, s1.cnt, s.wlo, s1.iv⟩
theorem lay_true {s1 : St} {v : AV} (hn : s.next.nat = s.cnt) (hc : s.cnt ≤ s1.cnt) (h : (@St.rec (fun _ => Bool) (lowM v k s.heap s.next s.cnt s.wlo) s1) = true) :
    ∃ d, k v (s.lay s1 d) = true ∧ ∀ id : Pth, d.get id = if s.cnt ≤ id.nat ∧ id.nat < s1.cnt then s1.heap.get id else s.heap.get id := by
  cases s1 with
  | mk h1 n1 c1 w1 i1 =>
    have h2 : natK (Nat.sub c1 s.cnt) (fun d => mergeK h1 d s.next s.heap fun h => k v ⟨h, n1, c1, s.wlo, i1⟩) = true := h
    rw [natK_eq] at h2
    obtain ⟨d, hd, hg⟩ := mergeK_true h2
    refine ⟨d, hd, fun id => ?_⟩
    rw [hg, hn]
    have hc' : s.cnt ≤ c1 := hc
    have e : s.cnt + Nat.sub c1 s.cnt = c1 := Nat.add_sub_cancel' hc'
    rw [e]
theorem num_low (h : Num s) : Num s.low := ⟨h.next, h.no⟩
theorem num_lay {s1 : St} {d : Tr Blk} (h : Num s) (h1 : Num s1) (hc : s.cnt ≤ s1.cnt) (hd : ∀ id : Pth, d.get id = if s.cnt ≤ id.nat ∧ id.nat < s1.cnt then s1.heap.get id else s.heap.get id) : Num (s.lay s1 d) := by
  refine ⟨h1.next, fun id B e => ?_⟩
  have e : d.get id = some B := e
  rw [hd] at e
  split at e
  · exact h1.no id B e
  · have := h.no id B e; exact ⟨Nat.lt_of_lt_of_le this.1 hc, this.2⟩
/-- A world's blocks, only read by a call that is told so. -/
theorem MW.low {n0 : Nat} {w0 : World} {ν : Nu} {h : Pth → Option Blk} {wlo : Nat} {w : World} (r : MW n0 w0 ν ρ h wlo w) {hl : Pth → Option Blk} (hh : ∀ id B, hl id = some B → h id = some B) (c : Nat) (hno : ∀ id B, hl id = some B → B.no < c) : MW w.heap.size w ν ρ hl c w :=
  ⟨Below.refl _ _, Nat.le_refl _, fun id B e => r.blk id B (hh id B e), fun id id' B B' b n n' e e' => r.inj id id' B B' b n n' (hh _ _ e) (hh _ _ e'), fun id B b n e hd hv hw => by have := hno id B e; omega, fun b o hb => ⟨by have := (r.mem b o hb).1; have := r.le; omega, (r.mem b o hb).2⟩⟩
/-- .. and what it made, laid to them. -/
theorem MW.laid {n0 : Nat} {w0 : World} {ν ν' : Nu} {h hl h1 h' : Pth → Option Blk} {wlo lo hi : Nat} {w w' : World} (r : MW n0 w0 ν ρ h wlo w) (r1 : MW w.heap.size w ν' ρ h1 lo w') (he : Ext ν ν' lo hi)
    (hno : ∀ id B, h1 id = some B → B.no = id.nat) (hold : ∀ id B, h id = some B → h' id = some B) (hnew : ∀ id B, h' id = some B → (¬(lo ≤ id.nat ∧ id.nat < hi) ∧ h id = some B) ∨ (lo ≤ id.nat ∧ id.nat < hi ∧ h1 id = some B)) : MW n0 w0 ν' ρ h' wlo w' := by
  refine ⟨r.below.trans (r1.below.mono r.le), Nat.le_trans r.le r1.below.size, ?_, ?_, ?_, fun b o hb => ⟨(r.mem b o hb).1, (r1.mem b o hb).2⟩⟩
  · intro id B e
    rcases hnew id B e with ⟨_, e1⟩ | ⟨_, _, e1⟩
    · obtain ⟨b, n, h2, h3, h4⟩ := r.blk id B e1
      exact ⟨b, n, he.le _ _ h2, Nat.lt_of_lt_of_le h3 r1.below.size, by rw [r1.below.block b h3]; exact h4.mono he.le⟩
    · exact r1.blk id B e1
  · have new_ge : ∀ id B b n, lo ≤ id.nat → h1 id = some B → B.k ≠ .dead → ν' id = some (b, n) → w.heap.size ≤ b := fun id B b n hl e hd hv => r1.own id B b n e hd hv (by rw [hno id B e]; exact hl)
    have old_lt : ∀ id B b n, h id = some B → ν' id = some (b, n) → ν id = some (b, n) ∧ b < w.heap.size := by
      intro id B b n e hv
      obtain ⟨b2, n2, h2, h3, h4⟩ := r.blk id B e
      rw [he.le _ _ h2] at hv; cases hv
      exact ⟨h2, h3⟩
    intro id id' B B' b n n' e e' hd hd' hv hv'
    rcases hnew id B e with ⟨_, e1⟩ | ⟨l1, _, e1⟩ <;> rcases hnew id' B' e' with ⟨_, e2⟩ | ⟨l2, _, e2⟩
    · obtain ⟨v1, _⟩ := old_lt _ _ _ _ e1 hv
      obtain ⟨v2, _⟩ := old_lt _ _ _ _ e2 hv'
      exact r.inj id id' B B' b n n' e1 e2 hd hd' v1 v2
    · have := (old_lt _ _ _ _ e1 hv).2
      have := new_ge _ _ _ _ l2 e2 hd' hv'
      omega
    · have := (old_lt _ _ _ _ e2 hv').2
      have := new_ge _ _ _ _ l1 e1 hd hv
      omega
    · exact r1.inj id id' B B' b n n' e1 e2 hd hd' hv hv'
  · intro id B b n e hd hv hw
    rcases hnew id B e with ⟨_, e1⟩ | ⟨l1, _, e1⟩
    · obtain ⟨b2, n2, h2, h3, h4⟩ := r.blk id B e1
      have hv2 := he.le _ _ h2
      rw [hv2] at hv; cases hv
      exact r.own id B b n e1 hd h2 hw
    · have := r1.own id B b n e1 hd hv (by rw [hno id B e1]; exact l1)
      have := r.le
      omega
/-- WHAT A QUIET CALL DOES, whatever else is there. -/
def QT (P : Program) (ρ : Rho) (f : Nat) (args : List AV) (s : St) (v : AV) (s1 : St) : Prop :=
  ∀ {n0 : Nat} {w0 : World} {ν : Nu} {w : World} {vals : List Value} {h h' : Pth → Option Blk} {wlo : Nat} {R : Ending → World → Prop}, Rel (AR ν ρ) args vals → (∀ n, ρ.gl = some n → ν .e = some (0, n)) → MW n0 w0 ν ρ h wlo w → Unm ν s.cnt s1.cnt →
    (∀ id B, s.h id = some B → h id = some B) → (∀ id B, h id = some B → h' id = some B) → (∀ id B, h' id = some B → (¬(s.cnt ≤ id.nat ∧ id.nat < s1.cnt) ∧ h id = some B) ∨ (s.cnt ≤ id.nat ∧ id.nat < s1.cnt ∧ s1.h id = some B)) →
    (∀ u ν' w', Ext ν ν' s.cnt s1.cnt → AR ν' ρ v u → MW n0 w0 ν' ρ h' wlo w' → R (.returned u) w') → Calls P f vals.toArray w R
theorem CT.quiet {f : Nat} {args : List AV} {v : AV} {s1 : St} (hn : Num s) (hn1 : Num s1) (hw : s1.wlo = s.cnt) (h : CT P ρ f args s.low v s1) : QT P ρ f args s v s1 := by
  intro n0 w0 ν w vals hh h' wlo R ra gl mw un hs hold hnew hR
  have m2 : MW w.heap.size w ν ρ s.low.h s.low.wlo w := mw.low (hl := s.h) hs s.cnt fun id B e => by have := hn.no id B e; omega
  refine h ra gl m2 un fun u ν' w' he hu hm => hR u ν' w' he hu ?_
  rw [hw] at hm
  exact mw.laid (hl := s.h) hm he (fun id B e => (hn1.no id B e).2) hold hnew
/-- A CALL, quiet or not. -/
theorem quietK_sound {ck : CK} (hck : CKOK P ρ ck) {f : Nat} {p : Pth} {args : List AV} {quiet : Bool} (hp : p.nat = f) (hn : Num s) (hiv : IvOK ρ s.iv) (h : quietK (ck f p args) quiet s k = true) :
    Enters P f ∧ ∃ v s', k v s' = true ∧ Pure ρ s s' ∧ CT P ρ f args s v s' ∧ (quiet = true → ∃ s1, QT P ρ f args s v s1 ∧ s1.cnt = s'.cnt ∧ ∀ id : Pth, s'.h id = if s.cnt ≤ id.nat ∧ id.nat < s1.cnt then s1.h id else s.h id) := by
  cases quiet with
  | false =>
    obtain ⟨he, v, s', hk, hpu, hct⟩ := hck hp (show ck f p args s k = true from h) hn hiv
    exact ⟨he, v, s', hk, hpu, hct, fun e => by cases e⟩
  | true =>
    have h1 := low_true (show (@St.rec (fun _ => Bool) (lowF (ck f p args) k) s) = true from h)
    obtain ⟨he, v, s1, h2, hpu, hct⟩ := hck hp h1 (num_low hn) hiv
    have hc1 : s.cnt ≤ s1.cnt := hpu.cnt
    obtain ⟨d, hk, hd⟩ := lay_true hn.next hc1 h2
    have hq : QT P ρ f args s v s1 := CT.quiet hn hpu.num hpu.wlo hct
    have hdis : ∀ id B, s.heap.get id = some B → id.nat < s.cnt := fun id B e => (hn.no id B e).1
    refine ⟨he, v, s.lay s1 d, hk, ⟨hc1, rfl, num_lay hn hpu.num hc1 hd, hpu.iv⟩, ?_, fun _ => ⟨s1, hq, rfl, hd⟩⟩
    intro n0 w0 ν w vals R ra gl mw un hR
    refine hq ra gl mw un (fun _ _ e => e) (h' := (s.lay s1 d).h) (fun id B e => ?_) (fun id B e => ?_) hR
    · show d.get id = some B
      have := hdis id B e
      rw [hd, if_neg (by omega)]; exact e
    · have e : d.get id = some B := e
      rw [hd] at e
      split at e
      · rename_i hh; exact .inr ⟨hh.1, hh.2, e⟩
      · rename_i hh; exact .inl ⟨hh, e⟩
end Go.Rsf
