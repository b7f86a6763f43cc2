/- An executor over a program's operations: a law's own code with patterns, of a program whose run looks at no table. Conditions: none. -/
import Derived.Test.YtgkemmhpfekoaaaYH
namespace Go.Rse
open Go.RowKit
set_option linter.unusedVariables false
set_option linter.unusedSimpArgs false
theorem run_top0 {P : Program} (hmx : P.follows .mixedOrders = true) {F : Tr XFn} (hF : ∀ p x, F.get p = some x → FnOK P false p.nat x) {f : Nat} {fn : Func} {tc : TC} {res : List XR} (hf : P.funcs[f]? = some fn) (hc : chkLaw P false fn tc res = true)
    {args : List AV} {iv : List Iv} {loops fuel : Nat} (hrun : lawK (callN F loops fuel) loops tc res args ⟨.nil, .e, 0, 0, iv⟩ = true) (hob : obl (callN F loops fuel) loops tc (kFin res)) (val : Nat → Int) {W : World} (hiv : IvOK (rhoW val none W) iv) {vals : List Value} (hv : Rel (AR (fun _ => none) (rhoW val none W)) args vals) :
    Calls P f vals.toArray W fun e W' => e = .returned (.bool true) ∧ Below W.heap.size W W' := by
  unfold chkLaw at hc
  split at hc
  · rename_i c hb
    rw [Bool.and_eq_true] at hc
    obtain ⟨t, h1, ht⟩ := argsK_true hrun
    refine calls_of_wp hf hb ?_
    have hn : Num (⟨.nil, .e, 0, 0, iv⟩ : St) := ⟨rfl, fun id B e => by
      have e : (Tr.nil : Tr Blk).get id = some B := e
      rw [Tr.get_nil] at e; cases e⟩
    have none_ : ∀ id B, (⟨.nil, .e, 0, 0, iv⟩ : St).h id = some B → False := fun id B e => by
      have e : (Tr.nil : Tr Blk).get id = some B := e
      rw [Tr.get_nil] at e; cases e
    have A : At none (vals.toArray ++ Array.replicate (fn.ntmps - vals.toArray.size) undef).size W.heap.size W t ⟨.nil, .e, 0, 0, iv⟩ (rhoW val none W) (fun _ => none) { tmps := vals.toArray ++ Array.replicate (fn.ntmps - vals.toArray.size) undef, defers := [] } W := by
      refine ⟨rfl, hiv, hn, fun id hid => rfl, ⟨rfl, fun q v hq => ?_, fun k hk => by cases hk⟩, rfl,
        ⟨Below.refl _ _, Nat.le_refl _, fun id B he => (none_ id B he).elim, fun id id' B B' b m m' he _ _ _ _ _ => (none_ id B he).elim, fun id B b m he _ _ _ => (none_ id B he).elim, fun b o hb => memW hb⟩⟩
      rcases ht q v hq with ⟨_, h4⟩ | ⟨h4, _⟩
      · have h4 : args[q.nat]? = some v := by simpa [Pth.nat] using h4
        obtain ⟨u, hu, ru⟩ := hv.nth h4
        refine ⟨u, ?_, ru⟩
        have hlt : q.nat < vals.length := by
          rcases Nat.lt_or_ge q.nat vals.length with hh | hh
          · exact hh
          · rw [List.getElem?_eq_none hh] at hu; cases hu
        rw [Array.getElem?_append_left (by simpa using hlt)]
        simpa using hu
      · rw [Tr.get_nil] at h4; cases h4
    refine wp_mono (top_sound (gl := none) hmx rfl (fun ρ hρ => callN_sound hmx (by rw [hρ]; rfl) hF loops fuel) (by simp; omega) hc.1 h1 hob A) ?_
    rintro e a w ⟨e', t', s', ρ', ν', he, hk, A'⟩
    subst he
    have fin : ∀ {v : AV} , isT v s' = true → (∃ u, AR ν' ρ' v u ∧ (results fn a.tmps).run P w = .ok u w) → a.defers = [] ∧ ∃ v, (results fn a.tmps).run P w = .ok v w ∧ ((Ending.returned v = .returned (.bool true)) ∧ Below W.heap.size W w) := by
      rintro v hv ⟨u, hu, hr⟩
      have e := isT_true hv
      subst e
      have e : u = .bool true := hu
      subst e
      exact ⟨A'.dfr, _, hr, rfl, A'.mw.below⟩
    rcases exK_true hk with ⟨rfl, h3⟩ | ⟨i, _, h3⟩ | ⟨rfl, h3⟩
    · obtain ⟨v, h4, hv⟩ := results_sound (ρ := ρ') (fn := fn) hc.2 h3
      exact fin h4 (hv A'.mt A'.mw)
    · cases h3
    · obtain ⟨v, h4, hv⟩ := results_sound (ρ := ρ') (fn := fn) hc.2 h3
      exact fin h4 (hv A'.mt A'.mw)
  · cases hc
end Go.Rse
