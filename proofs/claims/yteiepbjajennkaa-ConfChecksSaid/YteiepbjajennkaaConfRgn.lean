/- A region that draws its order: pure operations ahead, then heads in any order, then those that move the world, then the rest. Conditions: none. -/
import Derived.StillTail
import Derived.OrdersHeld
import Derived.Deep.Quiet
import Derived.Below
import Derived.Deep.Draws
import Derived.StillTactics
namespace Go.Proofs.Yteiepbjajennkaa.Rgn
open Go Go.RowKit
set_option linter.unusedVariables false
set_option linter.unusedSimpArgs false
section
variable {P : Program} {ops : Array Oper} {md : Region.Mode}

/-- An operation that another one waits for, directly or through others. -/
inductive Anc (md : Region.Mode) (ops : Array Oper) (i : Nat) : Nat → Prop
  | dir {j : Nat} {o : Oper} {e : Edge} (ho : ops[j]? = some o) (he : e ∈ o.after) (hb : Region.binds md e = true) (hi : e.on = i) : Anc md ops i j
  | far {j k : Nat} {o : Oper} {e : Edge} (h : Anc md ops i k) (ho : ops[j]? = some o) (he : e ∈ o.after) (hb : Region.binds md e = true) (hi : e.on = k) : Anc md ops i j
structure Cl (md : Region.Mode) (ops : Array Oper) (listed : Array Bool) : Prop where
  size : listed.size = ops.size
  closed : ∀ j oj, ops[j]? = some oj → listed.getD j false = true → ∀ e ∈ oj.after, Region.binds md e = true → listed.getD e.on false = true
theorem Cl.set {i : Nat} {listed : Array Bool} (cl : Cl md ops listed) (hi : i ∈ Region.ready md ops listed) : Cl md ops (listed.setIfInBounds i true) := by
  obtain ⟨_, oi, hoi, hall⟩ := mem_ready.1 hi
  refine ⟨by simp [cl.size], fun j oj hj hl e he hb => ?_⟩
  by_cases hij : i = j
  · subst hij
    have : oj = oi := Option.some.inj (hj.symm.trans hoi)
    subst this
    exact getD_set_true (hall e he hb)
  · rw [getD_set_ne false hij] at hl
    exact getD_set_true (cl.closed j oj hj hl e he hb)
theorem Cl.none (n : Nat) (h : n = ops.size) : Cl md ops (Array.replicate n false) :=
  ⟨by simp [h], fun j oj _ hl => by rw [getD_replicate_false] at hl; cases hl⟩
theorem Anc.op {i j : Nat} (h : Anc md ops i j) : ∃ o, ops[j]? = some o := by cases h <;> exact ⟨_, ‹_›⟩
theorem Anc.listed {i j : Nat} {listed : Array Bool} (h : Anc md ops i j) (cl : Cl md ops listed) :
    ∀ o, ops[j]? = some o → (∀ e ∈ o.after, Region.binds md e = true → listed.getD e.on false = true) → listed.getD i false = true := by
  induction h with
  | dir ho he hb hi =>
    intro o ho' hall
    have := Option.some.inj (ho.symm.trans ho')
    subst this
    exact hi ▸ hall _ he hb
  | far h ho he hb hi ih =>
    intro o ho' hall
    have := Option.some.inj (ho.symm.trans ho')
    subst this
    have hk := hi ▸ hall _ he hb
    obtain ⟨ok, hok⟩ := h.op
    exact ih ok hok (cl.closed _ ok hok hk)
theorem Anc.not_ready {i j : Nat} {listed : Array Bool} (h : Anc md ops i j) (cl : Cl md ops listed) (hun : listed.getD i true = false) : j ∉ Region.ready md ops listed := by
  intro hr
  obtain ⟨_, o, ho, hall⟩ := mem_ready.1 hr
  have := h.listed cl o ho hall
  rw [getD_both hun] at this
  cases this
/-- Who waits for whom, as numbers' bits. -/
def maskStep (md : Region.Mode) (acc : List Nat) (o : Oper) : Nat := o.after.toList.foldl (fun m e => if Region.binds md e then m ||| (1 <<< e.on) ||| acc.getD e.on 0 else m) 0
def masks (md : Region.Mode) : List Nat → List Oper → List Nat
  | acc, [] => acc
  | acc, o :: r => masks md (acc ++ [maskStep md acc o]) r
theorem maskStep_spec {acc : List Nat} {o : Oper} {i : Nat} (h : (maskStep md acc o).testBit i = true) : ∃ e ∈ o.after, Region.binds md e = true ∧ (e.on = i ∨ (acc.getD e.on 0).testBit i = true) := by
  have key : ∀ (l : List Edge) (m : Nat), (l.foldl (fun m e => if Region.binds md e then m ||| (1 <<< e.on) ||| acc.getD e.on 0 else m) m).testBit i = true → m.testBit i = true ∨ ∃ e ∈ l, Region.binds md e = true ∧ (e.on = i ∨ (acc.getD e.on 0).testBit i = true) := by
    intro l
    induction l with
    | nil => intro m h; exact .inl h
    | cons e l ih =>
      intro m h
      rcases ih _ h with h | ⟨e', he', h'⟩
      · have h : (if Region.binds md e = true then m ||| 1 <<< e.on ||| acc.getD e.on 0 else m).testBit i = true := h
        by_cases hb : Region.binds md e = true
        · rw [if_pos hb, Nat.testBit_or, Nat.testBit_or, Bool.or_eq_true, Bool.or_eq_true] at h
          rcases h with (h | h) | h
          · exact .inl h
          · refine .inr ⟨e, List.mem_cons_self .., hb, .inl ?_⟩
            rw [Nat.testBit_shiftLeft] at h
            simp only [Bool.and_eq_true, decide_eq_true_eq] at h
            have : i - e.on = 0 := by
              have h1 := h.2
              rw [Nat.testBit_one_eq_true_iff_self_eq_zero] at h1
              exact h1
            omega
          · exact .inr ⟨e, List.mem_cons_self .., hb, .inr h⟩
        · rw [if_neg hb] at h; exact .inl h
      · exact .inr ⟨e', List.mem_cons_of_mem _ he', h'⟩
  rcases key _ 0 h with h | ⟨e, he, h⟩
  · simp at h
  · exact ⟨e, Array.mem_toList_iff.1 he, h⟩
theorem masks_spec : ∀ (r pre : List Oper) (acc : List Nat), acc.length = pre.length → pre ++ r = ops.toList → (∀ k i, (acc.getD k 0).testBit i = true → Anc md ops i k) →
    ∀ k i, ((masks md acc r).getD k 0).testBit i = true → Anc md ops i k
  | [], pre, acc, _, _, h => h
  | o :: r, pre, acc, hl, he, h => by
    refine masks_spec r (pre ++ [o]) (acc ++ [maskStep md acc o]) (by simp [hl]) (by simp [he]) fun k i hk => ?_
    by_cases hlt : k < acc.length
    · rw [List.getD_eq_getElem?_getD, List.getElem?_append_left hlt, ← List.getD_eq_getElem?_getD] at hk; exact h k i hk
    · by_cases hek : k = acc.length
      · subst hek
        rw [List.getD_eq_getElem?_getD, List.getElem?_append_right (Nat.le_refl _)] at hk
        simp only [Nat.sub_self, List.getElem?_cons_zero, Option.getD_some] at hk
        obtain ⟨e, hm, hb, hh⟩ := maskStep_spec hk
        have ho : ops[acc.length]? = some o := by
          rw [← Array.getElem?_toList, ← he, hl, List.getElem?_append_right (Nat.le_refl _), Nat.sub_self]; rfl
        rcases hh with hh | hh
        · exact .dir ho hm hb hh
        · exact .far (h _ _ hh) ho hm hb rfl
      · have : (acc ++ [maskStep md acc o]).getD k 0 = 0 := by
          rw [List.getD_eq_getElem?_getD, List.getElem?_eq_none (by simp; omega)]; rfl
        rw [this] at hk; simp at hk
def ancB (md : Region.Mode) (ms : List Nat) (i j : Nat) : Bool := (ms.getD j 0).testBit i
theorem ancB_spec {i j : Nat} (h : ancB md (masks md [] ops.toList) i j = true) : Anc md ops i j :=
  masks_spec ops.toList [] [] rfl rfl (fun k i h => by simp at h) j i h

/-! ### Heads that give the same in every world that meets I -/
variable {I : World → Prop}
def Give (P : Program) (ops : Array Oper) (I : World → Prop) (o : Oper) (v : Value) (a : Act) : Prop :=
  (Region.wanted o (yielded ops a.tmps) = true ∧ ∀ w, I w → (∃ w', (execOp a.eval o).run P w = .ok (.value v) w' ∧ I w') ∨ (∃ w', (execOp a.eval o).run P w = .ok .skip w' ∧ I w' ∧ v = undef) ∨
    ∃ w' f args, (execOp a.eval o).run P w = .ok (.enter f args) w' ∧ Calls P f args w' (fun e w'' => e = .returned v ∧ I w'')) ∨
  (Region.wanted o (yielded ops a.tmps) = false ∧ v = undef)
theorem Give.of_same {o : Oper} {v : Value} {a a' : Act} (hy : Give P ops I o v a) (he : execOp a'.eval o = execOp a.eval o)
    (hw : Region.wanted o (yielded ops a'.tmps) = Region.wanted o (yielded ops a.tmps)) : Give P ops I o v a' := by
  unfold Give at *
  rw [he, hw]
  exact hy
def grOp (P : Program) (ops : Array Oper) (I : World → Prop) (i : Nat) (K : Act → Prop) (a : Act) : Prop :=
  match ops[i]? with
  | none => K a
  | some o => ∃ v, Give P ops I o v a ∧ K (a.put o.dst v)
theorem grOp_mono {i : Nat} {a : Act} {K K' : Act → Prop} (h : ∀ a, K a → K' a) (hh : grOp P ops I i K a) : grOp P ops I i K' a := by
  unfold grOp at *
  split
  · exact h _ (by simpa [*] using hh)
  · rename_i o ho
    simp only [ho] at hh
    obtain ⟨v, h1, h2⟩ := hh
    exact ⟨v, h1, h _ h2⟩
theorem grOp_of {i : Nat} {o : Oper} {v : Value} {a : Act} (hi : ops[i]? = some o) (hy : Give P ops I o v a) {K : Act → Prop} (h : K (a.put o.dst v)) : grOp P ops I i K a := by
  unfold grOp
  simp only [hi]
  exact ⟨v, hy, h⟩
theorem wpOp_of_grOp {i : Nat} {a : Act} {K : Act → Prop} {K' : Act → World → Prop} {Q : Exit → Act → World → Prop} (h : ∀ a, K a → ∀ w, I w → K' a w) (hh : grOp P ops I i K a) (w : World) (hI : I w) : wpOp P ops Q i K' a w := by
  unfold grOp at hh
  unfold wpOp
  split
  · rename_i ho; simp only [ho] at hh; exact h _ hh w hI
  · rename_i o ho
    simp only [ho] at hh
    obtain ⟨v, hy, hk⟩ := hh
    rcases hy with ⟨hw, hall⟩ | ⟨hw, rfl⟩
    · rw [if_pos hw]
      refine .inl ?_
      unfold Oper.wp
      rcases hall w hI with ⟨w', hr, hI'⟩ | ⟨w', hr, hI', rfl⟩ | ⟨w', f, args, hr, hc⟩
      · rw [hr]; exact h _ hk w' hI'
      · rw [hr]; exact h _ hk w' hI'
      · rw [hr]
        simp only [Oper.upon]
        exact hc.mono fun e w'' ⟨he, hI'⟩ => by subst he; exact h _ hk w'' hI'
    · rw [if_neg (by simp [hw])]; exact h _ hk w hI
theorem grOp_put {j : Nat} {oi oj : Oper} {v : Value} (hj : ops[j]? = some oj) (hap : oi.apart ops oj = true)
    (hsi : ∀ cs b, oi.op ≠ .select cs b) (hsj : ∀ cs b, oj.op ≠ .select cs b) {K : Act → Prop} {a : Act}
    (hy : Give P ops I oi v a) (h : grOp P ops I j K (a.put oi.dst v)) :
    grOp P ops I j (fun a' => Give P ops I oi v a' ∧ K (a'.put oi.dst v)) a := by
  obtain ⟨h1, h2, h3⟩ := Oper.apart_spec hap
  unfold grOp at *
  simp only [hj] at *
  obtain ⟨u, gu, hk⟩ := h
  refine ⟨u, gu.of_same (execOp_put oj hsj a oi.dst v h1).symm (wanted_put oj a oi.dst v h1).symm, hy.of_same (execOp_put oi hsi a oj.dst u h3) (wanted_put oi a oj.dst u h3), ?_⟩
  rw [← Act.put_comm a v u h2]; exact hk
/-- The heads, in the text's order. -/
def wpGrow (P : Program) (ops : Array Oper) (I : World → Prop) (Q : Act → Prop) : List Oper → Act → Prop
  | [], a => Q a
  | o :: rest, a => ∃ v, Give P ops I o v a ∧ wpGrow P ops I Q rest (a.put o.dst v)
def wpAnyG (P : Program) (md : Region.Mode) (ops : Array Oper) (I : World → Prop) (hd : Nat → Bool) (L : Array Bool → Act → Prop) : Nat → Array Bool → Act → Prop
  | 0, listed, a => L listed a
  | f + 1, listed, a =>
    Region.ready md ops listed ≠ [] ∧ ∀ i ∈ Region.ready md ops listed, hd i = true ∧ grOp P ops I i (wpAnyG P md ops I hd L f (listed.setIfInBounds i true)) a
theorem wpAnyG_first {hd : Nat → Bool} {i : Nat} {oi : Oper} {v : Value} {L : Array Bool → Act → Prop} (hi : ops[i]? = some oi) (hsel : ∀ (j : Nat) (o : Oper) cs b, ops[j]? = some o → o.op ≠ .select cs b) (hin : hd i = true)
    (hdone : ∀ listed a, L listed a → ∀ j ∈ Region.ready md ops listed, hd j = false) :
    ∀ (f : Nat) (listed : Array Bool) (a : Act), Cl md ops listed →
      (∀ j, hd j = false → j < ops.size → listed.getD j true = false → Anc md ops i j) →
      (∀ j oj, ops[j]? = some oj → j ≠ i → listed.getD j true = false → (∀ e ∈ oj.after, Region.binds md e = true → e.on ≠ i) → oi.apart ops oj = true) →
      i ∈ Region.ready md ops listed → Give P ops I oi v a →
      wpAnyG P md ops I hd L f (listed.setIfInBounds i true) (a.put oi.dst v) → wpAnyG P md ops I hd L (f + 1) listed a := by
  intro f
  induction f with
  | zero =>
    intro listed a cl hsink _ hr hy H
    have hun := (mem_ready.1 hr).1
    refine ⟨fun h => (by rw [h] at hr; cases hr), fun j hj => ?_⟩
    have hjlt : j < ops.size := by
      obtain ⟨_, oj, hoj, _⟩ := mem_ready.1 hj
      exact (Array.getElem?_eq_some_iff.1 hoj).1
    have hjn : hd j = true := by
      cases h : hd j with
      | true => rfl
      | false => exact absurd hj ((hsink j h hjlt (mem_ready.1 hj).1).not_ready cl hun)
    refine ⟨hjn, ?_⟩
    by_cases hji : j = i
    · subst hji; exact grOp_of hi hy H
    · have := hdone _ _ H j (ready_mono hj hji)
      rw [hjn] at this; cases this
  | succ f ih =>
    intro listed a cl hsink hfree hr hy H
    have hun := (mem_ready.1 hr).1
    refine ⟨fun h => (by rw [h] at hr; cases hr), fun j hj => ?_⟩
    have hjlt : j < ops.size := by
      obtain ⟨_, oj, hoj, _⟩ := mem_ready.1 hj
      exact (Array.getElem?_eq_some_iff.1 hoj).1
    have hjn : hd j = true := by
      cases h : hd j with
      | true => rfl
      | false => exact absurd hj ((hsink j h hjlt (mem_ready.1 hj).1).not_ready cl hun)
    refine ⟨hjn, ?_⟩
    by_cases hji : j = i
    · subst hji; exact grOp_of hi hy H
    · have h1 := (H.2 j (ready_mono hj hji)).2
      obtain ⟨hjun, oj, hoj, hall⟩ := mem_ready.1 hj
      have hnot : ∀ e ∈ oj.after, Region.binds md e = true → e.on ≠ i := fun e he hb heq => by
        have h1 := hall e he hb
        rw [heq, getD_both hun] at h1
        cases h1
      have h2 := grOp_put hoj (hfree j oj hoj hji hjun hnot) (fun cs b => hsel i oi cs b hi) (fun cs b => hsel j oj cs b hoj) hy h1
      have hun' : ∀ k, (listed.setIfInBounds j true).getD k true = false → listed.getD k true = false := fun k hk => by
        by_cases hjk : j = k
        · subst hjk; exact hjun
        · rwa [getD_set_ne true hjk] at hk
      refine grOp_mono (fun a' h3 => ih (listed.setIfInBounds j true) a' (cl.set hj) (fun k h4 h5 h6 => hsink k h4 h5 (hun' k h6)) (fun k ok hk hki hu hno => hfree k ok hk hki (hun' k hu) hno) (ready_mono hr (Ne.symm hji)) h3.1 ?_) h2
      rw [Array.setIfInBounds_comm _ _ hji]
      exact h3.2
/-- The heads, checked in the plan's order. -/
def lexG (md : Region.Mode) (ops : Array Oper) (an : List Nat) (hd : Nat → Bool) (R : Array Bool → Bool) : List Nat → Array Bool → Bool
  | [], listed => R listed
  | k :: hs, listed => (Region.ready md ops listed).contains k && Region.free md ops listed k && hd k && ((List.range ops.size).all fun j => hd j || listed.getD j true || ancB md an k j) && lexG md ops an hd R hs (listed.setIfInBounds k true)
theorem wpAnyG_lex {hd : Nat → Bool} {R : Array Bool → Bool} {Lq : Act → Prop} (hsel : Region.noSelect ops = true) (hR : ∀ listed, R listed = true → ∀ j ∈ Region.ready md ops listed, hd j = false) :
    ∀ (hs : List Nat) (listed : Array Bool) (a : Act), Cl md ops listed →
    lexG md ops (masks md [] ops.toList) hd R hs listed = true → wpGrow P ops I Lq (hs.map fun i => ops.getD i default) a →
    wpAnyG P md ops I hd (fun listed' a' => R listed' = true ∧ Lq a') hs.length listed a
  | [], listed, a, cl, hB, h => ⟨hB, h⟩
  | k :: hs, listed, a, cl, hB, h => by
    simp only [lexG, Bool.and_eq_true] at hB
    obtain ⟨⟨⟨⟨hr, hf⟩, hkd⟩, hs'⟩, hB'⟩ := hB
    have hr' : k ∈ Region.ready md ops listed := by simpa using hr
    have hklt : k < ops.size := by
      obtain ⟨_, oj, hoj, _⟩ := mem_ready.1 hr'
      exact (Array.getElem?_eq_some_iff.1 hoj).1
    have h0 : ops[k]? = some (ops.getD k default) := by simp [hklt]
    obtain ⟨v, hy, hK⟩ := h
    refine wpAnyG_first h0 (Region.noSelect_spec hsel) hkd (fun listed' a' hL => hR listed' hL.1) hs.length listed a cl (fun j h1 h2 h3 => ?_) (Region.free_spec h0 hf) hr' hy
      (wpAnyG_lex hsel hR hs _ _ (cl.set hr') hB' hK)
    have := List.all_eq_true.1 hs' j (List.mem_range.2 h2)
    simp only [Bool.or_eq_true] at this
    rcases this with (h4 | h4) | h4
    · rw [h1] at h4; cases h4
    · rw [h3] at h4; cases h4
    · exact ancB_spec h4

/-! ### Whatever comes up, S holds behind every operation that is not exempt -/
variable {S : World → Prop} {E : Nat → Bool}
def wpAnyD (P : Program) (md : Region.Mode) (ops : Array Oper) (Q : Exit → Act → World → Prop) (S : World → Prop) (E : Nat → Bool) : Nat → Array Bool → Act → World → Prop
  | 0, listed, a, w => Region.ready md ops listed = [] ∧ Q .normal a w
  | fuel + 1, listed, a, w =>
    (Region.ready md ops listed = [] → Q .normal a w) ∧
    ∀ i ∈ Region.ready md ops listed, wpOp P ops Q i (fun a' w' => (E i = false → S w') ∧ wpAnyD P md ops Q S E fuel (listed.setIfInBounds i true) a' w') a w
theorem wpAny_of_D {Q : Exit → Act → World → Prop} : ∀ (fuel : Nat) (listed : Array Bool) (a : Act) (w : World), wpAnyD P md ops Q S E fuel listed a w → wpAny P md ops Q fuel listed a w
  | 0, _, _, _, h => h
  | fuel + 1, _, _, _, h => ⟨h.1, fun i hi => wpOp_mono (fun a' w' h' => wpAny_of_D fuel _ a' w' h'.2) (h.2 i hi)⟩
theorem wpAnyD_of {Q : Exit → Act → World → Prop} : ∀ (fuel : Nat) (listed : Array Bool) (a : Act) (w : World), (∀ j, j < ops.size → listed.getD j true = false → E j = true) → wpAny P md ops Q fuel listed a w → wpAnyD P md ops Q S E fuel listed a w
  | 0, _, _, _, _, h => h
  | fuel + 1, listed, _, _, hE, h => ⟨h.1, fun i hi => by
    have hlt : i < ops.size := by
      obtain ⟨_, oj, hoj, _⟩ := mem_ready.1 hi
      exact (Array.getElem?_eq_some_iff.1 hoj).1
    refine wpOp_mono (fun a' w' h' => ⟨fun he => (by rw [hE i hlt (mem_ready.1 hi).1] at he; cases he), wpAnyD_of fuel _ a' w' (fun j h1 h2 => ?_) h'⟩) (h.2 i hi)
    by_cases hij : i = j
    · subst hij; exact hE i hlt (mem_ready.1 hi).1
    · rw [getD_set_ne true hij] at h2; exact hE j h1 h2⟩
theorem wpAnyD_of_G {hd : Nat → Bool} {g : Nat} {L : Array Bool → Act → Prop} {Q' : Exit → Act → World → Prop} (hIS : ∀ w, I w → S w) (hL : ∀ listed a, L listed a → ∀ w, I w → wpAnyD P md ops Q' S E g listed a w) :
    ∀ (f : Nat) (listed : Array Bool) (a : Act), wpAnyG P md ops I hd L f listed a → ∀ w, I w → wpAnyD P md ops Q' S E (f + g) listed a w
  | 0, listed, a, h => by rw [Nat.zero_add]; exact hL _ _ h
  | f + 1, listed, a, h => by
    intro w hI
    rw [show f + 1 + g = (f + g) + 1 by omega]
    exact ⟨fun h0 => absurd h0 h.1, fun i hi => wpOp_of_grOp (fun a' h' w' hI' => ⟨fun _ => hIS w' hI', wpAnyD_of_G hIS hL f _ a' h' w' hI'⟩) (h.2 i hi).2 w hI⟩
/-- An operation that is pure may be taken first. -/
theorem wpAnyD_pure {Q : Exit → Act → World → Prop} {i : Nat} {oi : Oper} {v : Value} (hi : ops[i]? = some oi) (hEi : E i = true) (hsel : ∀ (j : Nat) (o : Oper) cs b, ops[j]? = some o → o.op ≠ .select cs b)
    (hQ : ∀ c a w, Q (.panic c) (a.put oi.dst v) w → Q (.panic c) a w) :
    ∀ (fuel : Nat) (listed : Array Bool) (a : Act) (w : World),
      (∀ j oj, ops[j]? = some oj → j ≠ i → listed.getD j true = false → (∀ e ∈ oj.after, Region.binds md e = true → e.on ≠ i) → oi.apart ops oj = true) →
      i ∈ Region.ready md ops listed → Yields P ops oi v a →
      wpAnyD P md ops Q S E fuel (listed.setIfInBounds i true) (a.put oi.dst v) w → wpAnyD P md ops Q S E (fuel + 1) listed a w := by
  intro fuel
  induction fuel with
  | zero =>
    intro listed a w _ hr hy H
    refine ⟨fun h => (by rw [h] at hr; cases hr), fun j hj => ?_⟩
    by_cases hji : j = i
    · subst hji; exact hy.wpOp hi ⟨fun he => (by rw [hEi] at he; cases he), H⟩
    · have := ready_mono hj hji
      rw [H.1] at this
      cases this
  | succ fuel ih =>
    intro listed a w hfree hr hy H
    refine ⟨fun h => (by rw [h] at hr; cases hr), fun j hj => ?_⟩
    by_cases hji : j = i
    · subst hji; exact hy.wpOp hi ⟨fun he => (by rw [hEi] at he; cases he), H⟩
    · have h1 := H.2 j (ready_mono hj hji)
      obtain ⟨hjun, oj, hoj, hall⟩ := mem_ready.1 hj
      have hnot : ∀ e ∈ oj.after, Region.binds md e = true → e.on ≠ i := fun e he hb heq => by
        have h1 := hall e he hb
        rw [heq, getD_both (mem_ready.1 hr).1] at h1
        cases h1
      have h2 := wpOp_put hoj (hfree j oj hoj hji hjun hnot) (fun cs b => hsel i oi cs b hi) (fun cs b => hsel j oj cs b hoj) hQ hy h1
      have hfree' : ∀ k ok, ops[k]? = some ok → k ≠ i → (listed.setIfInBounds j true).getD k true = false →
          (∀ e ∈ ok.after, Region.binds md e = true → e.on ≠ i) → oi.apart ops ok = true := fun k ok hk hki hun hno => by
        refine hfree k ok hk hki ?_ hno
        by_cases hjk : j = k
        · subst hjk; exact hjun
        · rw [getD_set_ne true hjk] at hun; exact hun
      refine wpOp_mono (fun a' w' h3 => ⟨h3.2.1, ih (listed.setIfInBounds j true) a' w' hfree' (ready_mono hr (Ne.symm hji)) h3.1 ?_⟩) h2
      rw [Array.setIfInBounds_comm _ _ hji]
      exact h3.2.2
/-- An operation that gives the same in every world that meets S may be taken first, if those that are exempt wait for it. -/
theorem wpAnyD_held {Q : Exit → Act → World → Prop} {i : Nat} {oi : Oper} {v : Value} (hi : ops[i]? = some oi) (hsel : ∀ (j : Nat) (o : Oper) cs b, ops[j]? = some o → o.op ≠ .select cs b)
    (hQ : ∀ c a w, Q (.panic c) (a.put oi.dst v) w → Q (.panic c) a w) :
    ∀ (fuel : Nat) (listed : Array Bool) (a : Act) (w : World), Cl md ops listed →
      (∀ j, E j = true → j < ops.size → listed.getD j true = false → Anc md ops i j) →
      (∀ j oj, ops[j]? = some oj → j ≠ i → listed.getD j true = false → (∀ e ∈ oj.after, Region.binds md e = true → e.on ≠ i) → oi.apart ops oj = true) →
      i ∈ Region.ready md ops listed → YieldsIf P ops S oi v a → S w →
      wpAnyD P md ops Q S E fuel (listed.setIfInBounds i true) (a.put oi.dst v) w → wpAnyD P md ops Q S E (fuel + 1) listed a w := by
  intro fuel
  induction fuel with
  | zero =>
    intro listed a w cl _ _ hr hy hS H
    refine ⟨fun h => (by rw [h] at hr; cases hr), fun j hj => ?_⟩
    by_cases hji : j = i
    · subst hji; exact hy.wpOp hi hS ⟨fun _ => hS, H⟩
    · have := ready_mono hj hji
      rw [H.1] at this
      cases this
  | succ fuel ih =>
    intro listed a w cl hE hfree hr hy hS H
    have hun := (mem_ready.1 hr).1
    refine ⟨fun h => (by rw [h] at hr; cases hr), fun j hj => ?_⟩
    by_cases hji : j = i
    · subst hji; exact hy.wpOp hi hS ⟨fun _ => hS, H⟩
    · have h1 := H.2 j (ready_mono hj hji)
      obtain ⟨hjun, oj, hoj, hall⟩ := mem_ready.1 hj
      have hjlt : j < ops.size := (Array.getElem?_eq_some_iff.1 hoj).1
      have hEj : E j = false := by
        cases h : E j with
        | false => rfl
        | true => exact absurd hj ((hE j h hjlt hjun).not_ready cl hun)
      have hnot : ∀ e ∈ oj.after, Region.binds md e = true → e.on ≠ i := fun e he hb heq => by
        have h1 := hall e he hb
        rw [heq, getD_both hun] at h1
        cases h1
      have h2 := wpOp_putIf hoj (hfree j oj hoj hji hjun hnot) (fun cs b => hsel i oi cs b hi) (fun cs b => hsel j oj cs b hoj) hQ hy h1
      have hun' : ∀ k, (listed.setIfInBounds j true).getD k true = false → listed.getD k true = false := fun k hk => by
        by_cases hjk : j = k
        · subst hjk; exact hjun
        · rwa [getD_set_ne true hjk] at hk
      refine wpOp_mono (fun a' w' h3 => ⟨h3.2.1, ih (listed.setIfInBounds j true) a' w' (cl.set hj) (fun k h4 h5 h6 => hE k h4 h5 (hun' k h6)) (fun k ok hk hki hu hno => hfree k ok hk hki (hun' k hu) hno) (ready_mono hr (Ne.symm hji)) h3.1 (h3.2.1 hEj) ?_⟩) h2
      rw [Array.setIfInBounds_comm _ _ hji]
      exact h3.2.2

/-! ### Those that move the world, one behind the other; the rest -/
/-- What is behind the movers: the rest, in the world that they leave. -/
def restQ (P : Program) (ops : Array Oper) (Q : Exit → Act → World → Prop) (rest : List Oper) : Exit → Act → World → Prop
  | .normal, a, w => wpStill P ops w (fun a' => Q .normal a' w) rest a
  | .exit i, a, w => Q (.exit i) a w
  | .goto i, a, w => Q (.goto i) a w
  | .ret, a, w => Q .ret a w
  | .panic c, a, w => Q (.panic c) a w
  | .outgrown, a, w => Q .outgrown a w
theorem wpOp_restQ {Q : Exit → Act → World → Prop} {rest : List Oper} {i : Nat} {K : Act → World → Prop} {a : Act} {w : World} (h : wpOp P ops (restQ P ops Q rest) i K a w) : wpOp P ops Q i K a w := by
  unfold wpOp at *
  split
  · rename_i ho; simpa only [ho] using h
  · rename_i o ho
    simp only [ho] at h
    split
    · rename_i hw
      rw [if_pos hw] at h
      refine h.imp (fun h => ?_) (fun h => h)
      unfold Oper.wp at *
      generalize (execOp a.eval o).run P w = r at *
      cases r with
      | ok n w' =>
        cases n <;> simp only [Oper.upon] at h ⊢ <;> first | exact h | exact h.mono fun e w'' he => by cases e <;> exact he
      | halt x w' => cases x <;> simp only [Oper.upon] at h ⊢ <;> exact h
    · rename_i hw; rw [if_neg hw] at h; exact h
def seqL (md : Region.Mode) (ops : Array Oper) (R : Array Bool → Bool) : List Nat → Array Bool → Bool
  | [], listed => R listed
  | i :: r, listed => decide (Region.ready md ops listed = [i]) && seqL md ops R r (listed.setIfInBounds i true)
theorem wpAny_seqL {Q : Exit → Act → World → Prop} {rest : List Oper} {R : Array Bool → Bool} {g : Nat} (hrest : ∀ listed a w, R listed = true → restQ P ops Q rest .normal a w → wpAny P md ops Q g listed a w) :
    ∀ (ms : List Nat) (listed : Array Bool) (a : Act) (w : World), (∀ i ∈ ms, i < ops.size) → seqL md ops R ms listed = true → wpList P ops (restQ P ops Q rest) (ms.map fun i => ops.getD i default) a w → wpAny P md ops Q (ms.length + g) listed a w
  | [], listed, a, w, _, hB, h => by rw [List.length_nil, Nat.zero_add]; exact hrest listed a w hB h
  | i :: ms, listed, a, w, hlt, hB, h => by
    simp only [seqL, Bool.and_eq_true, decide_eq_true_eq] at hB
    rw [List.length_cons, show ms.length + 1 + g = (ms.length + g) + 1 by omega]
    refine ⟨fun h1 => (by rw [hB.1] at h1; cases h1), fun j hj => ?_⟩
    rw [hB.1] at hj
    have hj : j = i := by simpa using hj
    subst hj
    have hsz := hlt j (List.mem_cons_self ..)
    have h0 : ops[j]? = some (ops.getD j default) := by simp [hsz]
    have hw : wpOp P ops (restQ P ops Q rest) j (wpList P ops (restQ P ops Q rest) (ms.map fun i => ops.getD i default)) a w := by unfold wpOp; simp only [h0]; exact h
    exact wpOp_restQ (wpOp_mono (fun a' w' h' => wpAny_seqL hrest ms _ a' w' (fun i hi => hlt i (List.mem_cons_of_mem _ hi)) hB.2 h') hw)
theorem rest_of {Q : Exit → Act → World → Prop} {r : Nat} (hsel : Region.noSelect ops = true) (listed : Array Bool) (a : Act) (w : World) (hB : Region.lexFrom md ops (ops.toList.drop r).length r listed = true) (h : restQ P ops Q (ops.toList.drop r) .normal a w) :
    wpAny P md ops Q (ops.toList.drop r).length listed a w :=
  wpAny_of_still (Q := fun a' => Q .normal a' w) (fun _ h => h) _ _ _ (wpAnyS_lex (md := md) hsel (ops.toList.drop r) r listed a (fun j => by rw [List.getElem?_drop, Array.getElem?_toList]) hB h)
/-! ### Pure operations, taken ahead of all -/
def wpPure (P : Program) (ops : Array Oper) (Q : Act → Prop) : List Oper → Act → Prop
  | [], a => Q a
  | o :: rest, a => ∃ v, Yields P ops o v a ∧ wpPure P ops Q rest (a.put o.dst v)
/-- Those that are held, one behind the other. -/
def wpHeld (P : Program) (ops : Array Oper) (S : World → Prop) (Q : Act → Prop) : List Oper → Act → Prop
  | [], a => Q a
  | o :: rest, a => ∃ v, YieldsIf P ops S o v a ∧ wpHeld P ops S Q rest (a.put o.dst v)
def pureL (md : Region.Mode) (ops : Array Oper) (E : Nat → Bool) (R : Array Bool → Bool) : List Nat → Array Bool → Bool
  | [], listed => R listed
  | i :: r, listed => (Region.ready md ops listed).contains i && Region.free md ops listed i && E i && pureL md ops E R r (listed.setIfInBounds i true)
theorem wpAnyD_pures {Q : Exit → Act → World → Prop} (hQ : ∀ c a d v w, Q (.panic c) (Act.put a d v) w → Q (.panic c) a w) (hsel : Region.noSelect ops = true) {R : Array Bool → Bool} {g : Nat} {w : World} {Lq : Act → Prop} (hrest : ∀ listed a, Cl md ops listed → R listed = true → Lq a → wpAnyD P md ops Q S E g listed a w) :
    ∀ (ps : List Nat) (listed : Array Bool) (a : Act), Cl md ops listed → pureL md ops E R ps listed = true → wpPure P ops Lq (ps.map fun i => ops.getD i default) a → wpAnyD P md ops Q S E (ps.length + g) listed a w
  | [], listed, a, cl, hB, h => by rw [List.length_nil, Nat.zero_add]; exact hrest listed a cl hB h
  | i :: ps, listed, a, cl, hB, h => by
    simp only [pureL, Bool.and_eq_true] at hB
    obtain ⟨⟨⟨hr, hf⟩, hEi⟩, hB⟩ := hB
    have hr' : i ∈ Region.ready md ops listed := by simpa using hr
    rw [List.length_cons, show ps.length + 1 + g = (ps.length + g) + 1 by omega]
    obtain ⟨v, hy, hK⟩ := h
    have hsz : i < ops.size := by
      obtain ⟨_, oj, hoj, _⟩ := mem_ready.1 hr'
      exact (Array.getElem?_eq_some_iff.1 hoj).1
    have h0 : ops[i]? = some (ops.getD i default) := by simp [hsz]
    exact wpAnyD_pure h0 hEi (Region.noSelect_spec hsel) (fun c a w => hQ c a _ _ w) _ listed a w (Region.free_spec h0 hf) hr' hy (wpAnyD_pures hQ hsel hrest ps _ _ (cl.set hr') hB hK)
def heldL (md : Region.Mode) (ops : Array Oper) (an : List Nat) (E : Nat → Bool) (R : Array Bool → Bool) : List Nat → Array Bool → Bool
  | [], listed => R listed
  | i :: r, listed => (Region.ready md ops listed).contains i && Region.free md ops listed i && ((List.range ops.size).all fun j => !E j || listed.getD j true || ancB md an i j) && heldL md ops an E R r (listed.setIfInBounds i true)
theorem wpAnyD_helds {Q : Exit → Act → World → Prop} (hQ : ∀ c a d v w, Q (.panic c) (Act.put a d v) w → Q (.panic c) a w) (hsel : Region.noSelect ops = true) {R : Array Bool → Bool} {g : Nat} {w : World} (hS : S w) {Lq : Act → Prop} (hrest : ∀ listed a, Cl md ops listed → R listed = true → Lq a → wpAnyD P md ops Q S E g listed a w) :
    ∀ (ls : List Nat) (listed : Array Bool) (a : Act), Cl md ops listed → heldL md ops (masks md [] ops.toList) E R ls listed = true → wpHeld P ops S Lq (ls.map fun i => ops.getD i default) a → wpAnyD P md ops Q S E (ls.length + g) listed a w
  | [], listed, a, cl, hB, h => by rw [List.length_nil, Nat.zero_add]; exact hrest listed a cl hB h
  | i :: ls, listed, a, cl, hB, h => by
    simp only [heldL, Bool.and_eq_true] at hB
    obtain ⟨⟨⟨hr, hf⟩, hA⟩, hB⟩ := hB
    have hr' : i ∈ Region.ready md ops listed := by simpa using hr
    rw [List.length_cons, show ls.length + 1 + g = (ls.length + g) + 1 by omega]
    obtain ⟨v, hy, hK⟩ := h
    have hsz : i < ops.size := by
      obtain ⟨_, oj, hoj, _⟩ := mem_ready.1 hr'
      exact (Array.getElem?_eq_some_iff.1 hoj).1
    have h0 : ops[i]? = some (ops.getD i default) := by simp [hsz]
    refine wpAnyD_held h0 (Region.noSelect_spec hsel) (fun c a w => hQ c a _ _ w) _ listed a w cl (fun j h1 h2 h3 => ?_) (Region.free_spec h0 hf) hr' hy hS (wpAnyD_helds hQ hsel hS hrest ls _ _ (cl.set hr') hB hK)
    have := List.all_eq_true.1 hA j (List.mem_range.2 h2)
    simp only [Bool.or_eq_true, Bool.not_eq_true'] at this
    rcases this with (h4 | h4) | h4
    · rw [h1] at h4; cases h4
    · rw [h3] at h4; cases h4
    · exact ancB_spec h4

/-! ### Movers that keep S, one behind the other -/
/-- Q, and at the list's end what is to hold of the frame and the world. -/
def keepQ (Q : Exit → Act → World → Prop) (K : Act → World → Prop) : Exit → Act → World → Prop
  | .normal, a, w => K a w
  | .exit i, a, w => Q (.exit i) a w
  | .goto i, a, w => Q (.goto i) a w
  | .ret, a, w => Q .ret a w
  | .panic c, a, w => Q (.panic c) a w
  | .outgrown, a, w => Q .outgrown a w
theorem wp_keepQ {Q : Exit → Act → World → Prop} {K : Act → World → Prop} {i : Nat} {o : Oper} (ho : ops[i]? = some o) {a : Act} {w : World} (h : wpList P ops (keepQ Q K) [o] a w) : wpOp P ops Q i K a w := by
  unfold wpOp
  simp only [ho]
  unfold wpList at h
  split
  · rename_i hw
    rw [if_pos hw] at h
    refine h.imp (fun h => ?_) (fun h => h)
    unfold Oper.wp at *
    generalize (execOp a.eval o).run P w = r at *
    cases r with
    | ok n w' =>
      cases n <;> simp only [Oper.upon] at h ⊢ <;> first | exact h | exact h.mono fun e w'' he => by cases e <;> exact he
    | halt x w' => cases x <;> simp only [Oper.upon] at h ⊢ <;> exact h
  · rename_i hw; rw [if_neg hw] at h; exact h
def wpKeep (P : Program) (ops : Array Oper) (Q : Exit → Act → World → Prop) (S : World → Prop) (K : Act → World → Prop) : List Oper → Act → World → Prop
  | [], a, w => K a w
  | o :: rest, a, w => wpList P ops (keepQ Q fun a' w' => S w' ∧ wpKeep P ops Q S K rest a' w') [o] a w
theorem wpAnyD_keeps {Q : Exit → Act → World → Prop} {K : Act → World → Prop} {R : Array Bool → Bool} {g : Nat} (hrest : ∀ listed a w, R listed = true → K a w → wpAnyD P md ops Q S E g listed a w) :
    ∀ (ks : List Nat) (listed : Array Bool) (a : Act) (w : World), seqL md ops R ks listed = true → wpKeep P ops Q S K (ks.map fun i => ops.getD i default) a w → wpAnyD P md ops Q S E (ks.length + g) listed a w
  | [], listed, a, w, hB, h => by rw [List.length_nil, Nat.zero_add]; exact hrest listed a w hB h
  | i :: ks, listed, a, w, hB, h => by
    simp only [seqL, Bool.and_eq_true, decide_eq_true_eq] at hB
    rw [List.length_cons, show ks.length + 1 + g = (ks.length + g) + 1 by omega]
    refine ⟨fun h1 => (by rw [hB.1] at h1; cases h1), fun j hj => ?_⟩
    have hsz : j < ops.size := by
      obtain ⟨_, oj, hoj, _⟩ := mem_ready.1 hj
      exact (Array.getElem?_eq_some_iff.1 hoj).1
    rw [hB.1] at hj
    have hj : j = i := by simpa using hj
    subst hj
    have h0 : ops[j]? = some (ops.getD j default) := by simp [hsz]
    exact wpOp_mono (fun a' w' h' => ⟨fun _ => h'.1, wpAnyD_keeps hrest ks _ a' w' hB.2 h'.2⟩) (wp_keepQ h0 h)

/-! ### The whole -/
def memB (l : List Nat) (i : Nat) : Bool := l.any fun k => k == i
/-- ps: pure, ahead of all; ls: held; hs: heads; ks: movers that keep S; ms: movers; from r on the rest. -/
structure Plan where
  ps : List Nat
  ls : List Nat
  hs : List Nat
  ks : List Nat
  ms : List Nat
  r : Nat
def Plan.ex (p : Plan) (j : Nat) : Bool := !(memB p.ls j || memB p.hs j || memB p.ks j)
def restB (md : Region.Mode) (ops : Array Oper) (p : Plan) (listed : Array Bool) : Bool := ((List.range ops.size).all fun j => listed.getD j true || !memB p.hs j) && Region.lexFrom md ops (ops.size - p.r) p.r listed
def msB (md : Region.Mode) (ops : Array Oper) (p : Plan) (listed : Array Bool) : Bool := ((List.range ops.size).all fun j => listed.getD j true || (p.ex j && !memB p.hs j)) && seqL md ops (restB md ops p) p.ms listed
def ksB (md : Region.Mode) (ops : Array Oper) (p : Plan) (listed : Array Bool) : Bool := ((List.range ops.size).all fun j => listed.getD j true || !memB p.hs j) && seqL md ops (msB md ops p) p.ks listed
def planB (md : Region.Mode) (ops : Array Oper) (p : Plan) : Bool :=
  Region.noSelect ops && decide (p.ps.length + (p.ls.length + (p.hs.length + (p.ks.length + (p.ms.length + (ops.size - p.r))))) = ops.size) && p.ms.all (fun i => decide (i < ops.size)) &&
    pureL md ops p.ex (heldL md ops (masks md [] ops.toList) p.ex (lexG md ops (masks md [] ops.toList) (memB p.hs) (ksB md ops p) p.hs) p.ls) p.ps (Array.replicate ops.size false)
theorem wp_region_plan {id : Nat} {Q : Exit → Act → World → Prop} {a : Act} {w : World} (p : Plan) (I S : World → Prop) (hm : P.follows .mixedOrders = true) (hB : planB .any ops p = true)
    (hQ : ∀ c a d v w, Q (.panic c) (Act.put a d v) w → Q (.panic c) a w) (hI : I { w with drawn := w.drawn + 1 }) (hIS : ∀ w, I w → S w)
    (h : wpPure P ops (wpHeld P ops S (wpGrow P ops I (fun a' => ∀ w', I w' → wpKeep P ops Q S (fun a2 w2 => wpList P ops (restQ P ops Q (ops.toList.drop p.r)) (p.ms.map fun i => ops.getD i default) a2 w2) (p.ks.map fun i => ops.getD i default) a' w') (p.hs.map fun i => ops.getD i default)) (p.ls.map fun i => ops.getD i default)) (p.ps.map fun i => ops.getD i default) a) : (Code.region id ops true).wp P Q a w := by
  simp only [planB, Bool.and_eq_true, decide_eq_true_eq] at hB
  obtain ⟨⟨⟨hsel, hlen⟩, hms⟩, hpl⟩ := hB
  have hms1 : ∀ i ∈ p.ms, i < ops.size := fun i hi => by
    have := List.all_eq_true.1 hms i hi
    simpa using this
  have hdl : (ops.toList.drop p.r).length = ops.size - p.r := by simp
  refine wp_region_any hm (wpAny_of_D (S := S) (E := p.ex) _ _ _ _ ?_)
  have H := wpAnyD_pures (md := .any) (S := S) (E := p.ex) (w := { w with drawn := w.drawn + 1 }) (Q := Q) (g := p.ls.length + (p.hs.length + (p.ks.length + (p.ms.length + (ops.size - p.r))))) hQ hsel (R := heldL .any ops (masks .any [] ops.toList) p.ex (lexG .any ops (masks .any [] ops.toList) (memB p.hs) (ksB .any ops p) p.hs) p.ls) (fun l1 a1 cl1 hB1 h1 => by
      refine wpAnyD_helds (md := .any) (g := p.hs.length + (p.ks.length + (p.ms.length + (ops.size - p.r)))) hQ hsel (hIS _ hI) (R := lexG .any ops (masks .any [] ops.toList) (memB p.hs) (ksB .any ops p) p.hs) (fun l2 a2 cl2 hB2 h2 => ?_) p.ls l1 a1 cl1 hB1 h1
      have G := wpAnyG_lex (md := .any) (P := P) (I := I) (hd := memB p.hs) (R := ksB .any ops p) hsel (fun listed hl j hj => by
        simp only [ksB, Bool.and_eq_true] at hl
        have hlt : j < ops.size := by
          obtain ⟨_, oj, hoj, _⟩ := mem_ready.1 hj
          exact (Array.getElem?_eq_some_iff.1 hoj).1
        have := List.all_eq_true.1 hl.1 j (List.mem_range.2 hlt)
        rw [(mem_ready.1 hj).1] at this
        simpa using this) p.hs l2 a2 cl2 hB2 h2
      refine wpAnyD_of_G (g := p.ks.length + (p.ms.length + (ops.size - p.r))) hIS (fun l3 a3 hL w3 hI3 => ?_) p.hs.length l2 a2 G _ hI
      obtain ⟨hB3, h3⟩ := hL
      simp only [ksB, Bool.and_eq_true] at hB3
      refine wpAnyD_keeps (md := .any) (g := p.ms.length + (ops.size - p.r)) (R := msB .any ops p) (fun l4 a4 w4 hB4 h4 => ?_) p.ks l3 a3 w3 hB3.2 (h3 w3 hI3)
      simp only [msB, Bool.and_eq_true] at hB4
      refine wpAnyD_of _ _ _ _ (fun j hj hu => ?_) ?_
      · have := List.all_eq_true.1 hB4.1 j (List.mem_range.2 hj)
        rw [hu] at this
        simp only [Bool.false_or, Bool.and_eq_true] at this
        exact this.1
      · refine wpAny_seqL (rest := ops.toList.drop p.r) (R := restB .any ops p) (fun l5 a5 w5 hR h5 => ?_) p.ms l4 a4 w4 hms1 hB4.2 h4
        simp only [restB, Bool.and_eq_true] at hR
        have := rest_of (md := .any) hsel l5 a5 w5 (by rw [hdl]; exact hR.2) h5
        rwa [hdl] at this) p.ps (Array.replicate ops.size false) a (Cl.none _ rfl) hpl h
  rw [hlen] at H
  exact H
/-! ### The lexical walk of operations that are quiet in a class of worlds (Derived/Deep/Quiet.lean) gives each of these -/
variable {C : World → Prop}
theorem wpGrow_of_quiet {Q : Act → Prop} : ∀ (l : List Oper) (a : Act), wpQuiet P ops C Q l a → wpGrow P ops C Q l a
  | [], a, h => h
  | o :: l, a, h => by
    unfold wpQuiet at h
    by_cases hw : Region.wanted o (yielded ops a.tmps) = true
    · rw [if_pos hw] at h
      obtain ⟨v, h1, h2⟩ := h
      refine ⟨v, .inl ⟨hw, fun w hC => ?_⟩, wpGrow_of_quiet l _ h2⟩
      have h3 := h1 w hC
      unfold Oper.quietAt at h3
      generalize hr : (execOp a.eval o).run P w = r at h3
      cases r with
      | ok n w' =>
        cases n <;> simp only [Oper.quietUpon] at h3
        case value u => obtain ⟨rfl, rfl⟩ := h3; exact .inl ⟨_, rfl, hC⟩
        case skip => obtain ⟨rfl, rfl⟩ := h3; exact .inr (.inl ⟨_, rfl, hC, rfl⟩)
        case enter f args => obtain ⟨rfl, hc⟩ := h3; exact .inr (.inr ⟨_, f, args, rfl, hc⟩)
      | halt x w' => simp only [Oper.quietUpon] at h3
    · rw [if_neg hw] at h
      exact ⟨undef, .inr ⟨by simpa using hw, rfl⟩, wpGrow_of_quiet l _ h⟩
/-- An operation that yields a value, if anything. -/
def valB (o : Oper) : Bool := match o.op with
  | .move _ | .assign _ | .load .. | .nilCheck _ | .binOp .. | .unOp .. | .convert .. | .fieldAddr .. | .indexAddr .. | .extract .. | .build .. => true
  | _ => false
theorem run_value {s : Sem Value} {w w' : World} {n : Next} (h : (do pure (Next.value (← s)) : Sem Next).run P w = .ok n w') : ∃ u, n = .value u := by
  simp only [Sem.run_bind] at h
  cases hs : s.run P w with
  | ok u w1 =>
    rw [hs] at h
    simp only [Result.andThen_ok, Sem.run_pure, Result.ok.injEq] at h
    exact ⟨u, h.1.symm⟩
  | halt x w1 => rw [hs] at h; simp [Result.andThen] at h
theorem valB_run {o : Oper} (hv : valB o = true) {ρ : Operand → Value} {w w' : World} {n : Next} (h : (execOp ρ o).run P w = .ok n w') : ∃ u, n = .value u := by
  obtain ⟨d, op, ty, pos, af, gd⟩ := o
  cases op <;> first | cases hv | skip
  all_goals simp only [execOp] at h
  case nilCheck x =>
    split at h
    · simp [runtimePanic, panic, Sem.run] at h
    · simp [runtimePanic, panic, Sem.run] at h
    · simp [runtimePanic, panic, Sem.run] at h
    · split at h
      · simp [runtimePanic, panic, Sem.run] at h
      · simp only [Sem.run_bind] at h
        revert h
        generalize (Sem.run P program w) = r0
        cases r0 with
        | halt x w1 => simp [Result.andThen]
        | ok p w1 =>
          simp only [Result.andThen_ok]
          generalize (Sem.run P (nilAhead _ _ _ _) w1) = r1
          cases r1 with
          | halt x w2 => simp [Result.andThen]
          | ok q w2 =>
            simp only [Result.andThen_ok]
            split
            · intro h
              simp [unsupported, Sem.run] at h
            · intro h
              simp at h
              exact ⟨_, h.1.symm⟩
      · simp only [Sem.run_pure, Result.ok.injEq] at h; exact ⟨_, h.1.symm⟩
    · simp only [Sem.run_pure, Result.ok.injEq] at h; exact ⟨_, h.1.symm⟩
  all_goals first
    | exact run_value h
    | (simp only [Sem.run_pure, Result.ok.injEq] at h; exact ⟨_, h.1.symm⟩)
    | skip
theorem wpQuiet_mono : ∀ (l1 : List Oper) (a : Act) (Q1 Q2 : Act → Prop), (∀ a, Q1 a → Q2 a) → wpQuiet P ops C Q1 l1 a → wpQuiet P ops C Q2 l1 a
  | [], a, _, _, h, h' => h _ h'
  | o :: l1, a, Q1, Q2, h, h' => by
    unfold wpQuiet at *
    split
    · rename_i hw; rw [if_pos hw] at h'; exact Oper.quiet_mono (fun a' => wpQuiet_mono l1 a' Q1 Q2 h) h'
    · rename_i hw; rw [if_neg hw] at h'; exact wpQuiet_mono l1 _ Q1 Q2 h h'
theorem wpHeld_of_quiet {Q : Act → Prop} : ∀ (l : List Oper) (a : Act), l.all valB = true → wpQuiet P ops S Q l a → wpHeld P ops S Q l a
  | [], a, _, h => h
  | o :: l, a, hv, h => by
    simp only [List.all_cons, Bool.and_eq_true] at hv
    unfold wpQuiet at h
    by_cases hw : Region.wanted o (yielded ops a.tmps) = true
    · rw [if_pos hw] at h
      obtain ⟨v, h1, h2⟩ := h
      refine ⟨v, .inl ⟨hw, fun w hC => ?_⟩, wpHeld_of_quiet l _ hv.2 h2⟩
      have h3 := h1 w hC
      unfold Oper.quietAt at h3
      generalize hr : (execOp a.eval o).run P w = r at h3
      cases r with
      | ok n w' =>
        obtain ⟨u, rfl⟩ := valB_run hv.1 hr
        simp only [Oper.quietUpon] at h3
        obtain ⟨rfl, rfl⟩ := h3
        rfl
      | halt x w' => simp only [Oper.quietUpon] at h3
    · rw [if_neg hw] at h
      exact ⟨undef, .inr ⟨by simpa using hw, rfl⟩, wpHeld_of_quiet l _ hv.2 h⟩
theorem wpPure_of_quiet {Q : Act → Prop} : ∀ (l : List Oper) (a : Act), l.all valB = true → wpQuiet P ops (fun w => ∃ x : World, w = x) Q l a → wpPure P ops Q l a
  | [], a, _, h => h
  | o :: l, a, hv, h => by
    simp only [List.all_cons, Bool.and_eq_true] at hv
    unfold wpQuiet at h
    by_cases hw : Region.wanted o (yielded ops a.tmps) = true
    · rw [if_pos hw] at h
      obtain ⟨v, h1, h2⟩ := h
      refine ⟨v, .inl ⟨hw, fun w => ?_⟩, wpPure_of_quiet l _ hv.2 h2⟩
      have h3 := h1 w ⟨w, rfl⟩
      unfold Oper.quietAt at h3
      generalize hr : (execOp a.eval o).run P w = r at h3
      cases r with
      | ok n w' =>
        obtain ⟨u, rfl⟩ := valB_run hv.1 hr
        simp only [Oper.quietUpon] at h3
        obtain ⟨rfl, rfl⟩ := h3
        rfl
      | halt x w' => simp only [Oper.quietUpon] at h3
    · rw [if_neg hw] at h
      exact ⟨undef, .inr ⟨by simpa using hw, rfl⟩, wpPure_of_quiet l _ hv.2 h⟩
theorem wpHeld_mono : ∀ (l1 : List Oper) (a : Act) (Q1 Q2 : Act → Prop), (∀ a, Q1 a → Q2 a) → wpHeld P ops S Q1 l1 a → wpHeld P ops S Q2 l1 a
  | [], a, _, _, h, h' => h _ h'
  | o :: l1, a, Q1, Q2, h, ⟨v, hy, h'⟩ => ⟨v, hy, wpHeld_mono l1 _ Q1 Q2 h h'⟩
theorem wpPure_mono : ∀ (l1 : List Oper) (a : Act) (Q1 Q2 : Act → Prop), (∀ a, Q1 a → Q2 a) → wpPure P ops Q1 l1 a → wpPure P ops Q2 l1 a
  | [], a, _, _, h, h' => h _ h'
  | o :: l1, a, Q1, Q2, h, ⟨v, hy, h'⟩ => ⟨v, hy, wpPure_mono l1 _ Q1 Q2 h h'⟩
theorem keep_step {Q : Exit → Act → World → Prop} {K : Act → World → Prop} {o : Oper} {rest : List Oper} {a : Act} {w : World} (h : wpList P ops (keepQ Q fun a' w' => S w' ∧ wpKeep P ops Q S K rest a' w') [o] a w) : wpKeep P ops Q S K (o :: rest) a w := h
theorem keep_end {Q : Exit → Act → World → Prop} {K : Act → World → Prop} {rest : List Oper} {a : Act} {w : World} (h1 : S w) (h2 : wpKeep P ops Q S K rest a w) : keepQ Q (fun a' w' => S w' ∧ wpKeep P ops Q S K rest a' w') .normal a w := ⟨h1, h2⟩
theorem keep_nil {Q : Exit → Act → World → Prop} {K : Act → World → Prop} {a : Act} {w : World} (h : K a w) : wpKeep P ops Q S K [] a w := h
/-- The worlds in which all that stands in w stands as it does there. -/
def Old (w : World) (B : Nat) : Type := { x : World // Below B w x }
instance {w : World} {B : Nat} : Nonempty (Old w B) := ⟨⟨w, Below.refl _ _⟩⟩
def Old.now {w : World} {B : Nat} (x : Old w B) : World := x.1
theorem Old.be {w : World} {B : Nat} (x : Old w B) : Below B w x.now := x.2
abbrev grown (w : World) (B : Nat) : World → Prop := fun w' => ∃ x : Old w B, w' = x.now
theorem grown.of {w w' : World} {B : Nat} (h : Below B w w') : grown w B w' := ⟨⟨w', h⟩, rfl⟩
theorem grown.be {w w' : World} {B : Nat} (h : grown w B w') : Below B w w' := by obtain ⟨x, rfl⟩ := h; exact x.be
theorem below_drawn {w : World} {B n : Nat} : Below B w (w.drewN n) := ⟨rfl, rfl, rfl, Nat.le_refl _, fun _ _ => rfl⟩
theorem getD_list (l : List Oper) : (fun i => l.toArray.getD i default) = fun i => l.getD i default := by funext i; simp [Array.getD_eq_getD_getElem?, List.getD_eq_getElem?_getD]
/-- Q, but at a panic never. -/
def noP (Q : Exit → Act → World → Prop) : Exit → Act → World → Prop
  | .normal, a, w => Q .normal a w
  | .exit i, a, w => Q (.exit i) a w
  | .goto i, a, w => Q (.goto i) a w
  | .ret, a, w => Q .ret a w
  | .panic _, _, _ => False
  | .outgrown, a, w => Q .outgrown a w
theorem noP_imp {Q : Exit → Act → World → Prop} : ∀ (e : Exit) (a : Act) (w : World), noP Q e a w → Q e a w := fun e a w h => by
  cases e <;> first | exact h | exact (h : False).elim
theorem noP_hQ {Q : Exit → Act → World → Prop} : ∀ c a d v w, noP Q (.panic c) (Act.put a d v) w → noP Q (.panic c) a w := fun _ _ _ _ _ h => (h : False).elim
theorem rest_end {Q : Exit → Act → World → Prop} {a : Act} {w : World} (h : Q .normal a w) : restQ P ops (noP Q) [] .normal a w := h
theorem rest_walk {Q : Exit → Act → World → Prop} {rest : List Oper} {a : Act} {w : World} (h : wpQuiet P ops (fun w' => w' = w) (fun a' => Q .normal a' w) rest a) : restQ P ops (noP Q) rest .normal a w := by
  show wpStill P ops w (fun a' => Q .normal a' w) rest a
  revert a
  induction rest with
  | nil => intro a h; exact h
  | cons o l ih =>
    intro a h
    unfold wpQuiet at h
    unfold wpStill
    split
    · rename_i hw
      rw [if_pos hw] at h
      obtain ⟨v, h1, h2⟩ := h
      have h3 := h1 w rfl
      unfold Oper.quietAt at h3
      unfold Oper.still
      generalize (execOp a.eval o).run P w = r at h3
      cases r with
      | ok n w' =>
        cases n <;> simp only [Oper.quietUpon] at h3
        case value u => obtain ⟨rfl, rfl⟩ := h3; exact ⟨rfl, ih h2⟩
        case skip => obtain ⟨rfl, rfl⟩ := h3; exact ⟨rfl, ih h2⟩
        case enter f args => obtain ⟨rfl, hc⟩ := h3; exact ⟨rfl, v, hc, ih h2⟩
      | halt x w' => simp only [Oper.quietUpon] at h3
    · rename_i hw; rw [if_neg hw] at h; exact ih h
/-- Heads that only read (calls too), then a call or a store, then the rest. -/
theorem wp_region_tail {id : Nat} {Q : Exit → Act → World → Prop} {a : Act} {w : World} {l : List Oper} (hs ms : List Nat) (r : Nat) (hm : P.follows .mixedOrders = true) (hB : planB .any l.toArray ⟨[], [], hs, [], ms, r⟩ = true)
    (h : wpQuiet P l.toArray (fun w' => ∃ n, w' = w.drewN n) (fun a' => ∀ n, wpList P l.toArray (restQ P l.toArray (noP Q) (l.drop r)) (ms.map fun i => l.getD i default) a' (w.drewN n)) (hs.map fun i => l.getD i default) a) : (Code.region id l.toArray true).wp P Q a w := by
  refine Code.wp_mono noP_imp ?_
  refine wp_region_plan ⟨[], [], hs, [], ms, r⟩ (fun w' => ∃ n, w' = w.drewN n) (fun _ => True) hm hB noP_hQ ⟨1, rfl⟩ (fun _ _ => trivial) ?_
  show wpGrow P _ _ _ _ _
  refine wpGrow_of_quiet _ _ ?_
  rw [getD_list]
  refine wpQuiet_mono _ _ _ _ (fun a' h' w' hw' => ?_) h
  obtain ⟨n, rfl⟩ := hw'
  exact h' n
/-- .. pure operations ahead, some that are held, movers that let what was there stand. -/
theorem wp_region_full {id : Nat} {Q : Exit → Act → World → Prop} {a : Act} {w : World} {l : List Oper} (p : Plan) (hm : P.follows .mixedOrders = true) (hB : planB .any l.toArray p = true)
    (hps : (p.ps.map fun i => l.getD i default).all valB = true) (hls : (p.ls.map fun i => l.getD i default).all valB = true)
    (h : ∀ W2 B, W2 = w → B = W2.heap.size → wpQuiet P l.toArray (fun w' => ∃ x : World, w' = x) (wpQuiet P l.toArray (grown W2 B) (wpQuiet P l.toArray (fun w' => ∃ n, w' = W2.drewN n)
      (fun a' => ∀ n, wpKeep P l.toArray (noP Q) (grown W2 B) (fun a2 w2 => wpList P l.toArray (restQ P l.toArray (noP Q) (l.drop p.r)) (p.ms.map fun i => l.getD i default) a2 w2) (p.ks.map fun i => l.getD i default) a' (W2.drewN n))
      (p.hs.map fun i => l.getD i default)) (p.ls.map fun i => l.getD i default)) (p.ps.map fun i => l.getD i default) a) : (Code.region id l.toArray true).wp P Q a w := by
  have h := h w _ rfl rfl
  refine Code.wp_mono noP_imp ?_
  refine wp_region_plan p (fun w' => ∃ n, w' = w.drewN n) (grown w w.heap.size) hm hB noP_hQ ⟨1, rfl⟩ (by rintro _ ⟨n, rfl⟩; exact grown.of below_drawn) ?_
  rw [getD_list]
  refine wpPure_mono _ _ _ _ (fun a1 h1 => wpHeld_mono _ _ _ _ (fun a2 h2 => ?_) (wpHeld_of_quiet _ _ hls h1)) (wpPure_of_quiet _ _ hps h)
  refine wpGrow_of_quiet _ _ ?_
  refine wpQuiet_mono _ _ _ _ (fun a' h' w' hw' => ?_) h2
  obtain ⟨n, rfl⟩ := hw'
  exact h' n
/-- .. heads that make memory of their own. -/
theorem wp_region_grow {id : Nat} {Q : Exit → Act → World → Prop} {a : Act} {w : World} {l : List Oper} (hs ms : List Nat) (r : Nat) (hm : P.follows .mixedOrders = true) (hB : planB .any l.toArray ⟨[], [], hs, [], ms, r⟩ = true)
    (h : ∀ W2 B, W2 = w → B = W2.heap.size → wpQuiet P l.toArray (grown W2 B) (fun a' => ∀ x : Old W2 B, wpList P l.toArray (restQ P l.toArray (noP Q) (l.drop r)) (ms.map fun i => l.getD i default) a' x.now) (hs.map fun i => l.getD i default) a) : (Code.region id l.toArray true).wp P Q a w := by
  have h := h w _ rfl rfl
  refine Code.wp_mono noP_imp ?_
  refine wp_region_plan ⟨[], [], hs, [], ms, r⟩ (grown w w.heap.size) (fun _ => True) hm hB noP_hQ (grown.of ⟨rfl, rfl, rfl, Nat.le_refl _, fun _ _ => rfl⟩) (fun _ _ => trivial) ?_
  rw [getD_list]
  refine wpGrow_of_quiet _ _ ?_
  refine wpQuiet_mono _ _ _ _ (fun a' h' w' hw' => ?_) h
  obtain ⟨x, rfl⟩ := hw'
  exact h' x
end
end Go.Proofs.Yteiepbjajennkaa.Rgn
