/- A row of records of three numbers each that comes in: opened. Conditions: none. -/
import Derived.Test.YtgkemmhpfekoaaaWatchPlays
import Derived.Deep.Slices
import Derived.Deep.Fields
import Derived.ChangeSame
namespace Go.Proofs.Ytgkemmhpfekoaaa.WatchHand
open Go.ChangeShapes Go.WideShapes Go.Deep
set_option linter.unusedVariables false
theorem rec_add (b o i j : Nat) : ((⟨b, o, none⟩ : Addr).add i).add j = ⟨b, o + i + j, none⟩ := by
  unfold Addr.add
  by_cases hi : i = 0
  · subst hi
    by_cases hj : j = 0
    · subst hj; rfl
    · rw [if_pos rfl, if_neg hj]; rfl
  · rw [if_neg hi]
    by_cases hj : j = 0
    · subst hj; rfl
    · rw [if_neg hj]
section
variable {H : Type} {enc : TypeId × Value → H} {P : Program} {w : World} {base : Nat} {spare : Nat → Bool} {held : Bool}
/-- A field that is a whole number of one cell. -/
def OneInt (P : Program) (f : Field) (j : Nat) : Prop := f.offset = j ∧ P.cellsOf f.type = 1 ∧ P.underlying f.type = some (.int .i64)
theorem rec_fields {e : TypeId} {f0 f1 f2 : Field} {m : Nat} {cs : List Value} {x : DataW H × List MemPlace} (he : P.underlying e = some (.struct #[f0, f1, f2])) (h0 : OneInt P f0 0) (h1 : OneInt P f1 1) (h2 : OneInt P f2 2)
    (hl : cs.length = 3) (h : DataW.trod enc P w base spare held m e cs = some x) : ∃ g : Nat → Int, ∀ j, j < 3 → cs[j]? = some (.int .i64 (g j)) ∧ (Lit.int .i64 (g j)).wf = true := by
  obtain ⟨ys, k, _, _, _, hyl, hf⟩ := DataW.trod_struct he h
  match cs, hl with
  | [c0, c1, c2], _ =>
    have fld : ∀ (j : Nat) (f : Field) (c : Value), #[f0, f1, f2][j]? = some f → OneInt P f j → ([c0, c1, c2].drop j).take 1 = [c] → j < 3 → ∃ g : Int, c = .int .i64 g ∧ (Lit.int .i64 g).wf = true := by
      rintro j f c hj ⟨ho, hc, hu⟩ hd hj3
      have key := hf j f hj
      rw [ho, hc, hd] at key
      have hy : ys[j]? = some (ys[j]'(by rw [hyl]; exact hj3)) := List.getElem?_eq_getElem _
      rw [hy] at key
      obtain ⟨g, hg, _, hw⟩ := DataW.trod_int hu key
      simp only [List.cons.injEq, and_true] at hg
      exact ⟨g, hg, hw⟩
    obtain ⟨g0, rfl, b0⟩ := fld 0 f0 c0 rfl h0 rfl (by omega)
    obtain ⟨g1, rfl, b1⟩ := fld 1 f1 c1 rfl h1 rfl (by omega)
    obtain ⟨g2, rfl, b2⟩ := fld 2 f2 c2 rfl h2 rfl (by omega)
    refine ⟨fun j => if j = 0 then g0 else if j = 1 then g1 else g2, fun j hj => ?_⟩
    match j, hj with
    | 0, _ => exact ⟨rfl, b0⟩
    | 1, _ => exact ⟨rfl, b1⟩
    | 2, _ => exact ⟨rfl, b2⟩
    | k + 3, h => omega
theorem open_recs3 {t e : TypeId} {f0 f1 f2 : Field} {fuel len cap : Nat} {A : Option Addr} {x : DataW H × List MemPlace} (ht : P.underlying t = some (.slice e)) (he : P.underlying e = some (.struct #[f0, f1, f2]))
    (h0 : OneInt P f0 0) (h1 : OneInt P f1 1) (h2 : OneInt P f2 2) (hC : P.cellsOf e = 3) (h : DataW.trod enc P w base spare held fuel t [.slice A len cap] = some x) : ∃ F, Recs w A len cap F := by
  rcases open_slice ht h with ⟨hcs, _⟩ | ⟨a, l, c, m, n, D, Pl, hcs, _, hl, hm, hmm, _, hi⟩
  · simp at hcs
    obtain ⟨rfl, rfl, rfl⟩ := hcs
    exact ⟨fun _ _ => 0, Nat.le_refl _, Nat.zero_le _, fun h => by omega, fun i hi => by omega⟩
  · simp at hcs
    obtain ⟨rfl, rfl, rfl⟩ := hcs
    have hlm : len ≤ m := by rw [hmm]; split <;> omega
    have one : ∀ i, i < len → ∃ g : Nat → Int, ∀ j, j < 3 → w.cell? ((a.add (i * 3)).add j) = some (.int .i64 (g j)) ∧ (Lit.int .i64 (g j)).wf = true := by
      intro i hil
      obtain ⟨cs', hc, ht'⟩ := hi i (by omega)
      rw [hC] at hc
      obtain ⟨_, hcl, hat⟩ := World.cells?_some hc
      obtain ⟨g, hg⟩ := rec_fields he h0 h1 h2 hcl ht'
      exact ⟨g, fun j hj => ⟨(hat j hj).trans (hg j hj).1, (hg j hj).2⟩⟩
    obtain ⟨F, hF⟩ := choose_lt (α := Nat → Int) one
    refine ⟨F, hl, hm, fun h0 => ?_, fun i hi j hj => (hF i hi j hj).2⟩
    obtain ⟨b, o, sp⟩ := a
    have c0 := (hF 0 h0 0 (by omega)).1
    cases sp with
    | some s =>
      rw [Nat.zero_mul] at c0
      have e0 : (((⟨b, o, some s⟩ : Addr).add 0).add 0) = ⟨b, o, some s⟩ := rfl
      rw [e0] at c0
      unfold World.cell? at c0
      split at c0
      · simp at c0
      · cases c0
    | none => exact ⟨b, o, rfl, fun i hi j hj => by have := (hF i hi j hj).1; rwa [rec_add] at this⟩
end
end Go.Proofs.Ytgkemmhpfekoaaa.WatchHand
