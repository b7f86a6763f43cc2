/- An executor over a program's operations: rows of numbers that come in, as an argument. Conditions: none. -/
import Derived.Test.YtjodpodmeobciaaGreatDoorUC
import Derived.OpenShut
import Derived.ChangeSlices
namespace Go.Rsf
open Go.RowKit
set_option linter.unusedVariables false
/-- A row of numbers in memory, its spare with it. -/
def RowIn (k : IntKind) (w : World) (a : Option Addr) (len cap : Nat) (zs : List Int) : Prop :=
  (a = none ∧ len = 0 ∧ cap = 0 ∧ zs = []) ∨
  ∃ x, a = some x ∧ len ≤ cap ∧ cap ≤ maxLen ∧ zs.length = cap ∧ (∀ i, i < zs.length → w.cell? (x.add i) = some (.int k (zs.getD i 0))) ∧ ∀ n ∈ zs, (Lit.int k n).wf = true
theorem RowIn.le {k : IntKind} {w : World} {a : Option Addr} {len cap : Nat} {zs : List Int} (h : RowIn k w a len cap zs) : len ≤ cap ∧ cap ≤ maxLen ∧ zs.length = cap := by
  rcases h with ⟨_, rfl, rfl, rfl⟩ | ⟨x, _, h1, h2, h3, _⟩
  · exact ⟨Nat.le_refl _, Nat.zero_le _, rfl⟩
  · exact ⟨h1, h2, h3⟩
theorem RowIn.wf {k : IntKind} {w : World} {a : Option Addr} {len cap : Nat} {zs : List Int} (h : RowIn k w a len cap zs) {j : Nat} (hj : j < len) : (Lit.int k (zs.getD j 0)).wf = true := by
  rcases h with ⟨_, rfl, _, _⟩ | ⟨x, _, h1, h2, h3, _, hw⟩
  · omega
  · have hj2 : j < zs.length := by omega
    rw [List.getD_eq_getElem?_getD, List.getElem?_eq_getElem hj2]
    exact hw _ (List.getElem_mem hj2)
theorem inS_row {ν : Nu} {val : Nat → Int} {gl : Option Nat} {W : World} {kd : IntKind} {a : Option Addr} {len cap : Nat} {zs : List Int} (h : RowIn kd W a len cap zs) {ln : Cell} (hl : CR ν (rhoW val gl W) ln (.int .i64 (len : Int))) {m : InM}
    (hm : InMd (rhoW val gl W) len (fun j => zs.getD j 0) m) : AR ν (rhoW val gl W) (.inS ln kd m) (.slice a len cap) := by
  refine ⟨a, len, cap, fun j => zs.getD j 0, rfl, hl, ⟨fun j hj => h.wf hj, fun h0 => ?_⟩, hm⟩
  rcases h with ⟨_, rfl, _, _⟩ | ⟨x, rfl, h1, h2, h3, hc, hw⟩
  · omega
  · obtain ⟨b, o, sp⟩ := x
    have c0 := hc 0 (by omega)
    have e0 : (⟨b, o, sp⟩ : Addr).add 0 = ⟨b, o, sp⟩ := rfl
    rw [e0] at c0
    unfold World.cell? at c0
    simp only at c0
    split at c0
    · rename_i c ty fz hb
      cases sp with
      | some s => simp at c0
      | none =>
        refine ⟨b, o, c, ty, fz, rfl, hb, fun j hj => ?_⟩
        have cj := hc j (by omega)
        by_cases e : j = 0
        · subst e
          rw [e0] at cj
          unfold World.cell? at cj
          simp only [hb] at cj
          simpa using cj
        · have ej : (⟨b, o, none⟩ : Addr).add j = ⟨b, o + j, none⟩ := by unfold Addr.add; rw [if_neg e]
          rw [ej] at cj
          unfold World.cell? at cj
          simp only [hb] at cj
          simpa using cj
    · cases c0
end Go.Rsf
