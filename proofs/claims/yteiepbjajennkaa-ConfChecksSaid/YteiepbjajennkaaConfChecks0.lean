/- What both say of a configuration is the same. Conditions: none. -/
import Derived.Test.YteiepbjajennkaaConfRChk
import Derived.Test.YteiepbjajennkaaConfFew
import Derived.Test.YteiepbjajennkaaListSame
namespace Go.Proofs.Yteiepbjajennkaa.ConfHand
set_option linter.unusedVariables false
set_option linter.unusedSimpArgs false
open Go.RowKit Go.Proofs.YteiepbjajennkaaW.PrintWords Go.Proofs.YteiepbjajennkaaW.PrintMore
theorem parts_with7 {c : CF} {t s f d m p y : SL} (h : Lens c t s f d m p y) : (c.with7 t s f d m p y).parts = c.parts := by
  obtain ⟨h1, h2, h3, h4, h5, h6, h7⟩ := h
  unfold CF.parts CF.with7
  dsimp only
  rw [h1, h2, h3, h4, h5, h6, h7]
theorem ans_unique {c : CF} {a a' : ByteArray} {n n' r r' : Int} (h : Ans c a n r) (h' : Ans c a' n' r') : a = a' ∧ n = n' ∧ r = r' := by
  unfold Ans at h h'
  split at h
  · rename_i ht
    rw [if_pos ht] at h'
    exact h.unique h'
  · rename_i ht
    rw [if_neg ht] at h'
    obtain ⟨rfl, rfl, rfl⟩ := h
    obtain ⟨rfl, rfl, rfl⟩ := h'
    exact ⟨rfl, rfl, rfl⟩
theorem ans_with7 {c : CF} {t s f d m p y : SL} (h : Lens c t s f d m p y) {a : ByteArray} {n r : Int} (k : Ans (c.with7 t s f d m p y) a n r) : Ans c a n r := by
  unfold Ans at k ⊢
  rw [parts_with7 h] at k
  exact k
theorem says_name : ∀ {l : List PS} {a : ByteArray} {n r : Int}, Says l a n r → (∀ p ∈ l, p.nm ≠ ⟨#[]⟩ ∧ p.al ≠ ⟨#[]⟩) → r ≠ 0 → a ≠ ⟨#[]⟩
  | _, _, _, _, .none, _, hr => absurd rfl hr
  | _, _, _, _, .num h, hl, _ => (hl _ (List.mem_cons_self ..)).2
  | _, _, _, _, .one _ _ _ _ _, hl, _ => (hl _ (List.mem_cons_self ..)).1
  | _, _, _, _, .next _ _ _ h, hl, hr => says_name h (fun p hp => hl p (List.mem_cons_of_mem _ hp)) hr
theorem says_all : ∀ {l : List PS} {a : ByteArray} {n r : Int}, Says l a n r → r = 0 → ∀ p ∈ l, p.n ≤ p.hi ∧ ∀ i : Nat, (i : Int) < p.n → p.code i = 0
  | _, _, _, _, .none, _ => fun p hp => absurd hp (by simp)
  | _, _, _, _, .num h, hr => absurd hr (by decide)
  | _, _, _, _, .one _ _ _ h _, hr => absurd hr h
  | _, _, _, _, .next _ h1 h2 h, hr => fun p hp => by
    rcases List.mem_cons.1 hp with rfl | hp
    · exact ⟨h1, h2⟩
    · exact says_all h hr p hp
theorem names (c : CF) : ∀ p ∈ c.parts, p.nm ≠ ⟨#[]⟩ ∧ p.al ≠ ⟨#[]⟩ := by
  intro p hp
  unfold CF.parts at hp
  simp only [List.mem_cons, List.not_mem_nil, or_false] at hp
  rcases hp with rfl | rfl | rfl | rfl | rfl | rfl | rfl | rfl <;> exact ⟨by simp, by simp⟩
theorem ans_name {c : CF} {a : ByteArray} {n r : Int} (h : Ans c a n r) (hr : r ≠ 0) : a ≠ ⟨#[]⟩ := by
  unfold Ans at h
  split at h
  · exact says_name h (names c) hr
  · obtain ⟨rfl, _, _⟩ := h; simp
theorem toL1 (a : ByteArray) (h : a ≠ ⟨#[]⟩) : a.toList.isEmpty = false := by
  have e : a.toList = a.data.toList := by
    first
      | exact ByteArray.toList_data a
      | exact ByteArray.toList_eq a
      | simp
  rw [e]
  rcases a with ⟨⟨l⟩⟩
  cases l with
  | nil => exact absurd rfl h
  | cons x l => rfl
theorem ans_pk {c : CF} {a : ByteArray} {n : Int} (h : Ans c a n 0) : PK c := by
  unfold Ans at h
  split at h
  · have := says_all h rfl ⟨⟨#[112, 111, 111, 108]⟩, ⟨#[112, 111, 111, 108]⟩, c.p.n, 0, 8, fun i => poolC (atP c.blk c.siz i) (c.blk i) (c.siz i)⟩ (by unfold CF.parts; simp)
    obtain ⟨h1, h2⟩ := this
    have h1 : (c.p.n : Int) ≤ 8 := h1
    exact ⟨by omega, fun i hi => h2 i (show (i : Int) < c.p.n by omega)⟩
  · obtain ⟨_, _, h⟩ := h
    exact absurd h (by decide)
theorem pk_with7 {c : CF} {t s f d m p y : SL} (h : Lens c t s f d m p y) (k : PK c) : PK (c.with7 t s f d m p y) :=
  ⟨by show p.n ≤ 8; rw [h.p]; exact k.n8, fun i hi => k.ok i (by have hi : i < p.n := hi; rw [h.p] at hi; exact hi)⟩
end Go.Proofs.Yteiepbjajennkaa.ConfHand
