/- An executor over a program's operations: from a run to a call. Conditions: none. -/
import Derived.Test.YtjodpodmeobciaaGreatDoorUB
namespace Go.Rsf
open Go.RowKit
set_option linter.unusedVariables false
set_option linter.unusedSimpArgs false
/-- The first block is a table; there is nothing else. -/
def st0 (tab : List Cell) (iv : List Iv) : St := ⟨.leaf ⟨0, .tab tab⟩, .z .e, 1, 1, iv⟩
noncomputable def isT (v : AV) (s : St) : Bool := isOne v fun c => isBoo c fun b => b
/-- What symbols stand for, in a world that a call begins in. -/
abbrev rhoW (val : Nat → Int) (n : Option Nat) (W : World) : Rho := ⟨val, n, fun b => W.heap[b]?⟩
theorem memW {W : World} {b : Nat} {o : Obj} (h : W.heap[b]? = some o) : b < W.heap.size ∧ W.heap[b]? = some o := ⟨(Array.getElem?_eq_some_iff.1 h).1, h⟩
def nu0 (n : Nat) : Nu := fun p => match p with | .e => some (0, n) | _ => none
theorem isT_true {v : AV} {s : St} (h : isT v s = true) : v = .v (.one (.bool true)) := by
  obtain ⟨c, rfl, h1⟩ := isOne_true h
  obtain ⟨b, rfl, h2⟩ := isBoo_true h1
  rw [h2]
/-- A table of the program's, as the executor has it. -/
def TabIs (W : World) (n : Nat) (tab : List Cell) : Prop := ∃ (c : Array Value) (e : TypeId) (fz : Nat × Nat), W.heap[0]? = some (.cells c e fz) ∧ c.size = n ∧ tab.length = n ∧ ∀ (i : Nat) x, tab[i]? = some x → ∃ v, c[i]? = some v ∧ cellOf v = some x
theorem st0_mw {val : Nat → Int} {gl : Option Nat} {W : World} {n : Nat} {tab : List Cell} {iv : List Iv} (hW : TabIs W n tab) : MW W.heap.size W (nu0 n) (rhoW val gl W) (st0 tab iv).h (st0 tab iv).wlo W := by
  obtain ⟨c, e, fz, h1, h2, h3, h4⟩ := hW
  have hlt : 0 < W.heap.size := by
    rcases Nat.eq_zero_or_pos W.heap.size with h | h
    · rw [Array.getElem?_eq_none (by omega)] at h1; cases h1
    · exact h
  have one : ∀ id B, (st0 tab iv).h id = some B → id = .e ∧ B = ⟨0, .tab tab⟩ := by
    intro id B e
    have e : (Tr.leaf (⟨0, .tab tab⟩ : Blk)).get id = some B := e
    cases id with
    | e => cases e; exact ⟨rfl, rfl⟩
    | z q => rw [show (Tr.leaf (⟨0, .tab tab⟩ : Blk)).get (.z q) = Tr.nil.get q from rfl, Tr.get_nil] at e; cases e
    | s q => rw [show (Tr.leaf (⟨0, .tab tab⟩ : Blk)).get (.s q) = Tr.nil.get q from rfl, Tr.get_nil] at e; cases e
  refine ⟨Below.refl _ _, Nat.le_refl _, fun id B he => ?_, fun id id' B B' b m m' he he' _ _ _ _ => ?_, fun id B b m he _ _ hw => ?_, fun b o hb => memW hb⟩
  · obtain ⟨rfl, rfl⟩ := one id B he
    exact ⟨0, n, rfl, hlt, c, e, fz, h1, h2, h3, fun i x hx => by
      obtain ⟨v, hv, hc⟩ := h4 i x hx
      exact ⟨v, hv, cellOf_sound hc⟩⟩
  · rw [(one id B he).1, (one id' B' he').1]
  · obtain ⟨rfl, rfl⟩ := one id B he
    have hw : (1 : Nat) ≤ 0 := hw
    omega
theorem run_law {P : Program} (hmx : P.follows .mixedOrders = true) {F : Tr XFn} (hF : ∀ p x, F.get p = some x → FnOK P true p.nat x) {f : Nat} {p : Pth} (hp : p.nat = f) {args : List AV} {tab : List Cell} {iv : List Iv} {loops fuel n : Nat}
    (hrun : callN F loops fuel f p args (st0 tab iv) isT = true) (val : Nat → Int) {W : World} (hiv : IvOK (rhoW val (some n) W) iv) (hW : TabIs W n tab) {vals : List Value} (hv : Rel (AR (nu0 n) (rhoW val (some n) W)) args vals) :
    Calls P f vals.toArray W fun e W' => e = .returned (.bool true) ∧ Below W.heap.size W W' := by
  have hn : Num (st0 tab iv) := ⟨rfl, fun id B e => by
    have e : (Tr.leaf (⟨0, .tab tab⟩ : Blk)).get id = some B := e
    cases id with
    | e => cases e; exact ⟨Nat.lt_succ_self _, rfl⟩
    | z q => rw [show (Tr.leaf (⟨0, .tab tab⟩ : Blk)).get (.z q) = Tr.nil.get q from rfl, Tr.get_nil] at e; cases e
    | s q => rw [show (Tr.leaf (⟨0, .tab tab⟩ : Blk)).get (.s q) = Tr.nil.get q from rfl, Tr.get_nil] at e; cases e⟩
  obtain ⟨_, v, s', hk, hpu, hct⟩ := callN_sound (ρ := rhoW val (some n) W) hmx (g := true) rfl hF loops fuel hp hrun hn hiv
  have e := isT_true hk
  subst e
  refine hct (n0 := W.heap.size) (w0 := W) hv (fun m hm => by cases hm; rfl) ?_ (fun id h1 h2 => ?_) fun u ν' w' he hu hm => ⟨by rw [show u = .bool true from hu], hm.below⟩
  · exact st0_mw hW
  · cases id with
    | e => exact absurd h1 (by show ¬ (1 ≤ 0); omega)
    | z q => rfl
    | s q => rfl
/-- .. of a program whose run looks at no table. -/
theorem run_law0 {P : Program} (hmx : P.follows .mixedOrders = true) {F : Tr XFn} (hF : ∀ p x, F.get p = some x → FnOK P false p.nat x) {f : Nat} {p : Pth} (hp : p.nat = f) {args : List AV} {iv : List Iv} {loops fuel : Nat}
    (hrun : callN F loops fuel f p args ⟨.nil, .e, 0, 0, iv⟩ isT = true) (val : Nat → Int) (W : World) (hiv : IvOK (rhoW val none W) iv) {vals : List Value} (hv : Rel (AR (fun _ => none) (rhoW val none W)) args vals) :
    Calls P f vals.toArray W fun e W' => e = .returned (.bool true) ∧ Below W.heap.size W W' := by
  have hn : Num (⟨.nil, .e, 0, 0, iv⟩ : St) := ⟨rfl, fun id B e => by
    have e : (Tr.nil : Tr Blk).get id = some B := e
    rw [Tr.get_nil] at e; cases e⟩
  obtain ⟨_, v, s', hk, hpu, hct⟩ := callN_sound (ρ := rhoW val none W) hmx (g := false) rfl hF loops fuel hp hrun hn hiv
  have e := isT_true hk
  subst e
  have none : ∀ id B, (⟨.nil, .e, 0, 0, iv⟩ : St).h id = some B → False := fun id B e => by
    have e : (Tr.nil : Tr Blk).get id = some B := e
    rw [Tr.get_nil] at e; cases e
  refine hct (n0 := W.heap.size) (w0 := W) hv (fun m hm => by cases hm) ?_ (fun id h1 h2 => rfl) fun u ν' w' he hu hm => ⟨by rw [show u = .bool true from hu], hm.below⟩
  exact ⟨Below.refl _ _, Nat.le_refl _, fun id B he => (none id B he).elim, fun id id' B B' b m m' he _ _ _ _ _ => (none id B he).elim, fun id B b m he _ _ _ => (none id B he).elim, fun b o hb => memW hb⟩
end Go.Rsf
