/- An executor over a program's operations: code, and calls. Conditions: none. -/
import Derived.Test.YtjodpodmeobciaaGreatDoorVY
namespace Go.Rsf
open Go.RowKit
set_option linter.unusedVariables false
set_option linter.unusedSimpArgs false
set_option linter.unusedSectionVars false

theorem filter_lt {p q : Nat → Bool} {i : Nat} (hpq : ∀ j, q j = true → p j = true) (hi : p i = true) (hq : q i = false) : ∀ {l : List Nat}, i ∈ l → (l.filter q).length < (l.filter p).length
  | j :: l, h => by
    have le : ∀ l : List Nat, (l.filter q).length ≤ (l.filter p).length := by
      intro l
      induction l with
      | nil => simp
      | cons x l ih =>
        simp only [List.filter_cons]
        cases hx : q x with
        | true => rw [hpq x hx]; simpa using ih
        | false =>
          cases p x with
          | true => simp; omega
          | false => simpa using ih
    cases h with
    | head =>
      simp only [List.filter_cons, hi, hq, if_true]
      have := le l
      simp; omega
    | tail _ h =>
      have ih := filter_lt hpq hi hq h
      simp only [List.filter_cons]
      cases hx : q j with
      | true => rw [hpq j hx]; simpa using ih
      | false =>
        cases p j with
        | true => simp; omega
        | false => simpa using ih
section
variable {P : Program} {ρ : Rho} {m0 : Nat} {ops : Array Oper} {n : Nat} {os : Nat → Oper} {xs : Nat → XO} {T : Nat → Ts} {S : Nat → St} {ν0 : Nu} {n0 : Nat} {w0 : World} {m : Nat} {Q : Exit → Act → World → Prop}
theorem any_sound (C : Ctx P ρ m0 ops n os xs T S (Bf ops)) (hn : ops.size = n) (hop : ∀ i, i < n → ops[i]? = some (os i)) (hE : ∀ i, i < n → ∀ e ∈ (os i).after.toList, Region.binds .any e = true → e.on < i) (hm : m0 ≤ m)
    (hQ : ∀ ν' a' w', Ext ν0 ν' (S 0).cnt (S n).cnt → MT m ν' ρ (T n) a' → a'.defers = [] → MW n0 w0 ν' ρ (S n).h (S n).wlo w' → Q .normal a' w') :
    ∀ (fuel : Nat) (listed : Array Bool) (ν : Nu) (a : Act) (w : World), listed.size = n → ((List.range n).filter (fun j => !listed.getD j false)).length ≤ fuel → Closed ops (fun j => listed.getD j false) →
      Ctx.Inv ρ n xs T S ν0 n0 w0 m (fun j => listed.getD j false) ν a w → wpAny P .any ops Q fuel listed a w := by
  have fin : ∀ (listed : Array Bool) (ν : Nu) (a : Act) (w : World), (∀ j, j < n → listed.getD j false = true) → Ctx.Inv ρ n xs T S ν0 n0 w0 m (fun j => listed.getD j false) ν a w → Q .normal a w := by
    intro listed ν a w hall I
    refine hQ ν a w I.ext ⟨I.mt.1, fun p v hv => I.mt.2.1.1 p v hv fun j hj hL => (by have hL : listed.getD j false = false := hL; rw [hall j hj] at hL; cases hL), I.mt.2.2⟩ I.dfr ?_
    rw [C.wlo n (Nat.le_refl _)]
    have e : (S n).h = Ctx.HL S (fun j => listed.getD j false) n := by
      funext id
      exact (Ctx.HL_all fun j hj => hall j hj).symm
    rw [e]; exact I.mw
  have rdy : ∀ (listed : Array Bool), listed.size = n → ∀ i, i ∈ Region.ready .any ops listed ↔ i < n ∧ listed.getD i false = false ∧ ∀ e ∈ (os i).after.toList, Region.binds .any e = true → listed.getD e.on false = true := by
    intro listed hs i
    unfold Region.ready
    rw [List.mem_filter, List.mem_range, hn]
    constructor
    · rintro ⟨h1, h2⟩
      rw [hop i h1] at h2
      simp only [Option.map_some, Option.getD_some, Bool.and_eq_true, Bool.not_eq_true', Array.all_eq_true_iff_forall_mem] at h2
      refine ⟨h1, ?_, fun e he hb => ?_⟩
      · have := h2.1
        simp only [Array.getD_eq_getD_getElem?] at this ⊢
        rw [Array.getElem?_eq_getElem (by omega)] at this ⊢
        simpa using this
      · have := h2.2 e (Array.mem_toList_iff.1 he)
        rw [hb] at this; simpa using this
    · rintro ⟨h1, h2, h3⟩
      refine ⟨h1, ?_⟩
      rw [hop i h1]
      simp only [Option.map_some, Option.getD_some, Bool.and_eq_true, Bool.not_eq_true', Array.all_eq_true_iff_forall_mem]
      refine ⟨?_, fun e he => ?_⟩
      · simp only [Array.getD_eq_getD_getElem?] at h2 ⊢
        rw [Array.getElem?_eq_getElem (by omega)] at h2 ⊢
        simpa using h2
      · cases hb : Region.binds .any e with
        | false => rfl
        | true => rw [h3 e (Array.mem_toList_iff.2 he) hb]; rfl
  have all : ∀ (listed : Array Bool), listed.size = n → Region.ready .any ops listed = [] → ∀ j, j < n → listed.getD j false = true := by
    intro listed hs hr j
    induction j using Nat.strongRecOn with
    | _ j ih =>
      intro hj
      cases hb : listed.getD j false with
      | true => rfl
      | false =>
        have : j ∈ Region.ready .any ops listed := (rdy listed hs j).2 ⟨hj, hb, fun e he hbe => ih e.on (hE j hj e he hbe) (Nat.lt_trans (hE j hj e he hbe) hj)⟩
        rw [hr] at this; cases this
  intro fuel
  induction fuel with
  | zero =>
    intro listed ν a w hs hc hcl I
    have hall : ∀ j, j < n → listed.getD j false = true := by
      intro j hj
      have h0 := List.length_eq_zero_iff.1 (Nat.le_zero.1 hc)
      have := List.filter_eq_nil_iff.1 h0 j (List.mem_range.2 hj)
      simpa using this
    refine ⟨?_, fin listed ν a w hall I⟩
    rw [List.eq_nil_iff_forall_not_mem]
    intro i hi
    have := (rdy listed hs i).1 hi
    rw [hall i this.1] at this; cases this.2.1
  | succ fuel ih =>
    intro listed ν a w hs hc hcl I
    refine ⟨fun hr => fin listed ν a w (all listed hs hr) I, fun i hi => ?_⟩
    obtain ⟨h1, h2, h3⟩ := (rdy listed hs i).1 hi
    have eL : (fun j => (listed.setIfInBounds i true).getD j false) = Ctx.add (fun j => listed.getD j false) i := by
      funext j
      unfold Ctx.add
      simp only [Array.getD_eq_getD_getElem?, Array.getElem?_setIfInBounds]
      by_cases e : i = j
      · subst e; simp [show i < listed.size by omega]
      · simp [e, Ne.symm e]
    have hp : ∀ j, Bf ops j i → listed.getD j false = true := by
      intro j hb
      cases hb with
      | dir ho he hb => rw [hop i h1] at ho; cases ho; exact h3 _ he hb
      | far h ho he hb => rw [hop i h1] at ho; cases ho; exact hcl.bf h (h3 _ he hb)
    have key := C.one h1 h2 hp (fun j k hk hb => hcl.bf hb hk) I hm (Q := Q) (next := wpAny P .any ops Q fuel (listed.setIfInBounds i true)) fun ν' a' w' I' => by
      refine ih (listed.setIfInBounds i true) ν' a' w' (by simpa using hs) ?_ ?_ (by rw [eL]; exact I')
      · have hlt := filter_lt (p := fun j => !listed.getD j false) (q := fun j => !(listed.setIfInBounds i true).getD j false) (i := i) (fun j hj => by
            have e : (listed.setIfInBounds i true).getD j false = Ctx.add (fun j => listed.getD j false) i j := congrFun eL j
            rw [e] at hj
            unfold Ctx.add at hj
            split at hj
            · cases hj
            · exact hj) (by show (!listed.getD i false) = true; rw [h2]; rfl) (by
            have e : (listed.setIfInBounds i true).getD i false = Ctx.add (fun j => listed.getD j false) i i := congrFun eL i
            show (!(listed.setIfInBounds i true).getD i false) = false
            rw [e, Ctx.add_same]; rfl) (List.mem_range.2 h1)
        omega
      · rw [eL]
        intro j o e hj ho he hb
        by_cases q : j = i
        · subst q
          rw [hop j h1] at ho; cases ho
          unfold Ctx.add
          split
          · rfl
          · exact h3 e he hb
        · rw [Ctx.add_ne q] at hj
          unfold Ctx.add
          split
          · rfl
          · exact hcl j o e hj ho he hb
    unfold wpOp
    rw [hop i h1]
    simp only
    split
    · rename_i hw; rw [if_pos hw] at key; exact .inl key
    · rename_i hw; rw [if_neg hw] at key; exact key
end
theorem adX_uses {x : XO} {p : Pth} (h : p ∈ adX x) : p ∈ usesG x := by
  obtain ⟨xg, xd, xop⟩ := x
  refine List.mem_append_right _ ?_
  show p ∈ usesX xop
  have h : p ∈ (match clsX xop with | .s a => uA a | .r (some a) => uA a | _ => []) := h
  cases xop with
  | ld1 a => exact h
  | ldn a n => exact h
  | st a b n => exact List.mem_append_left _ h
  | call f q as qu => cases qu <;> cases h
  | callv a as qu => cases qu <;> cases h
  | _ => cases h
variable {P : Program} {ρ : Rho} {g : Bool}
noncomputable def chkDraw (P : Program) (g : Bool) (m : Nat) (ops : Array Oper) (xs : List XO) (pairs : List (XA × XA)) : Bool :=
  chkOps P g m ops ops.toList xs && orderB pairs (masksOf [] ops.toList) 0 [] ops.toList xs
theorem draw_sound (hmx : P.follows .mixedOrders = true) (hg : g = ρ.gl.isSome) {ck : CK} (hck : CKOK P ρ ck) {m0 id : Nat} {ops : Array Oper} {xl : List XO} {pairs : List (XA × XA)} {t : Ts} {s : St} {k : KX} (hc : chkDraw P g m0 ops xl pairs = true) (hn : Num s) (hi : IvOK ρ s.iv)
    (h : drawF ck xl pairs t s k = true) : ∃ e t' s', k e t' s' = true ∧ Pure ρ s s' ∧ CTr P ρ m0 (fun Q a w => (Code.region id ops true).wp P Q a w) t s e t' s' := by
  simp only [chkDraw, Bool.and_eq_true] at hc
  obtain ⟨c1, c2⟩ := hc
  obtain ⟨hl, T, S, hT, hS, hk, hst⟩ := steps_sound hg hck c1 hn hi (show opsK ck xl t s (fun t s => pairsK pairs t (k .normal t s)) = true from h)
  obtain ⟨hk, hap⟩ := pairsK_true hk
  let n := ops.toList.length
  let os : Nat → Oper := fun i => (ops[i]?).getD default
  let xs : Nat → XO := fun i => (xl[i]?).getD ⟨none, none, .mov (.c .unk)⟩
  have hsz : ops.size = n := by simp [n]
  have ho1 : ∀ i, i < n → ops[i]? = some (os i) := by
    intro i hi'
    have : i < ops.size := by omega
    simp [os, this]
  have ho2 : ∀ i, i < n → ops.toList[i]? = some (os i) := by
    intro i hi'
    rw [Array.getElem?_toList]; exact ho1 i hi'
  have hx : ∀ i, i < n → xl[i]? = some (xs i) := by
    intro i hi'
    have : i < xl.length := by rw [← hl]; exact hi'
    simp [xs, this]
  have hmask : ∀ k i, bit ((masksOf [] ops.toList).getD k 0) i = true → Bf ops i k := masksOf_true (fun j => by simp) (fun k i hb => by simp [bit_eq] at hb)
  have hord := orderB_true c2
  have pr : ∀ i j, i < j → j < n → pairB pairs ((masksOf [] ops.toList).getD j 0) i (xs i) (xs j) = true := by
    intro i j hij hj
    have := (hord j (os j) (xs j) (ho2 j hj) (hx j hj)).2.2.2 i (xs i) hij (hx i (by omega))
    simpa using this
  have hCk : ∀ i, i < n → chkXO P g m0 ops (os i) (xs i) = true := fun i hi' => (hst i _ _ (ho2 i hi') (hx i hi')).1
  have C : Ctx P ρ m0 ops n os xs T S (Bf ops) := by
    refine ⟨fun i hi' => (hst i _ _ (ho2 i hi') (hx i hi')).2, fun i hi' => ?_, fun i hi' => ?_, by rw [hS]; exact hn, ?_, ?_, ?_, ?_⟩
    · have := hCk i hi'
      simp only [chkXO, Bool.and_eq_true] at this
      exact this.1.1
    · have := hCk i hi'
      simp only [chkXO, Bool.and_eq_true] at this
      exact this.1.2
    · intro i j p hi' hj hp hd
      have hin : dIn (xs i).d (usesG (xs j)) = true := by
        rw [hd]; exact memP_true hp
      rcases Nat.lt_trichotomy i j with q | q | q
      · refine .inl ⟨q, ?_⟩
        have := pr i j q hj
        simp only [pairB, Bool.and_eq_true, Bool.or_eq_true] at this
        rcases this.2 with hb | ⟨hb, _⟩
        · exact hmask j i hb
        · rw [hin] at hb; cases hb
      · exact .inr (.inr q)
      · refine .inr (.inl ⟨q, ?_⟩)
        have := pr j i q hi'
        simp only [pairB, Bool.and_eq_true, Bool.or_eq_true] at this
        rcases this.1.2 with hb | ⟨hb, _⟩
        · rw [hin] at hb; cases hb
        · exact hmask i j hb
    · intro i j p hi' hj hp hd
      have hin : dIn (xs i).d (adX (xs j)) = true := by
        rw [hd]; exact memP_true hp
      have sub : p ∈ usesG (xs j) := adX_uses hp
      have hin2 : dIn (xs i).d (usesG (xs j)) = true := by
        rw [hd]; exact memP_true sub
      rcases Nat.lt_trichotomy i j with q | q | q
      · exact q
      · subst q
        rw [(hord i (os i) (xs i) (ho2 i hi') (hx i hi')).2.1] at hin; cases hin
      · have := pr j i q hi'
        simp only [pairB, Bool.and_eq_true, Bool.or_eq_true] at this
        rcases this.1.2 with hb | ⟨_, hb⟩
        · rw [hin2] at hb; cases hb
        · rw [hin] at hb; cases hb
    · intro i j p hi' hj h1 h2
      rcases Nat.lt_trichotomy i j with q | q | q
      · have := pr i j q hj
        simp only [pairB, Bool.and_eq_true] at this
        have h3 := this.1.1
        rw [h1, h2] at h3
        simp only [dNe, pthB_self] at h3; cases h3
      · exact q
      · have := pr j i q hi'
        simp only [pairB, Bool.and_eq_true] at this
        have h3 := this.1.1
        rw [h1, h2] at h3
        simp only [dNe, pthB_self] at h3; cases h3
    · intro i j hij hj hb
      have := pr i j hij hj
      simp only [pairB, Bool.and_eq_true, Bool.or_eq_true] at this
      rcases this.2 with h1 | ⟨_, h1⟩
      · exact absurd (hmask j i h1) hb
      · exact okB_true hap h1
  have hp : Pure ρ s (S n) := by
    rw [← hS]
    have : ∀ i, i ≤ n → Pure ρ (S 0) (S i) := by
      intro i
      induction i with
      | zero => intro _; rw [hS]; exact Pure.refl hn hi
      | succ i ih => intro hi'; exact (ih (by omega)).trans (C.st i hi').1
    exact this n (Nat.le_refl _)
  refine ⟨.normal, T n, S n, hk, hp, ?_⟩
  intro Q m n0 w0 ν a w hm mt hd mw un hnext
  refine wp_region_any hmx ?_
  have mw2 : MW n0 w0 ν ρ (S 0).h (S 0).wlo { w with drawn := w.drawn + 1 } := by rw [hS]; exact mw.drew
  have hE : ∀ i, i < n → ∀ e ∈ (os i).after.toList, Region.binds .any e = true → e.on < i := by
    intro i hi' e he hb
    have := (hord i (os i) (xs i) (ho2 i hi') (hx i hi')).1 e he hb
    simpa using this
  refine any_sound C hsz ho1 hE hm (ν0 := ν) (fun ν' a' w' he mt' hd' mw' => hnext a' ν' w' (by rw [hS] at he; exact he) mt' hd' mw') ops.size (Array.replicate ops.size false) ν a _ (by simp [hsz]) ?_ ?_ ?_
  · refine Nat.le_trans (List.length_filter_le _ _) (by simp [hsz])
  · intro j o e hj
    exfalso
    simp only [Array.getD_eq_getD_getElem?, Array.getElem?_replicate] at hj
    split at hj <;> cases hj
  · have hf : (fun j => (Array.replicate ops.size false).getD j false) = fun _ => false := by
      funext j
      simp only [Array.getD_eq_getD_getElem?, Array.getElem?_replicate]
      split <;> rfl
    rw [hf]
    refine ⟨Ext.refl _ _ _, fun i hi' _ id h1 h2 => ?_, ⟨mt.1, ⟨fun p v hv hno => ?_, fun p v hv _ => mt.2.1 p v (by rw [← hT]; exact hv)⟩, mt.2.2⟩, hd, ?_⟩
    · have c1 := C.cnt_le (i := 0) (j := i) (Nat.zero_le _) (Nat.le_of_lt hi')
      have c2 := C.cnt_le (i := i + 1) (j := n) hi' (Nat.le_refl _)
      rw [hS] at c1
      exact un id (by omega) (by omega)
    · refine mt.2.1 p v ?_
      rw [← hT, ← C.tget (i := 0) (k := n) (Nat.zero_le _) (Nat.le_refl _) fun j _ hj => hno j hj rfl]; exact hv
    · have e : Ctx.HL S (fun _ => false) n = (S 0).h := by
        funext id
        rw [Ctx.HL_none (i := 0) (Nat.zero_le _) fun j _ _ => rfl]; rfl
      rw [e]; exact mw2
end Go.Rsf
