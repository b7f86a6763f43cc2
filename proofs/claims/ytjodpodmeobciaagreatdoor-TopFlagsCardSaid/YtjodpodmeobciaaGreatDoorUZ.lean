/- What the listed table holds when a call begins; a state in which it does. Conditions: none. -/
import Derived.Test.YtjodpodmeobciaaGreatDoorRows
import Derived.Test.YtjodpodmeobciaaGreatDoorUC
import Derived.Test.YtjodpodmeobciaaGreatDoorZFT
import Derived.ProofKit
import Derived.LaidMore
import Derived.OpenShut
import Derived.FnData
import Derived.Stop.Joined
namespace Go.Proofs.YtjodpodmeobciaaGreatDoor
open Go.Rsf Go.ChangeShapes Go.WideShapes Go.ChangeAt Go.RowKit
set_option linter.unusedVariables false
set_option maxRecDepth 100000
def laidT : List (String × DataW Unit) := [("math/bits.deBruijn64tab", Rows.laid_math_bits_deBruijn64tab)]
theorem hown : ownKnob Tryz.prog.godebug = none := by kernel_rfl
theorem hmix : Tryz.prog.follows .mixedOrders = true := by kernel_rfl
theorem gTab : Tryz.prog.globalNamed "math/bits.deBruijn64tab" = some 0 := by kernel_rfl
def tabN : List Nat := [0, 1, 56, 2, 57, 49, 28, 3, 61, 58, 42, 50, 38, 29, 17, 4, 62, 47, 59, 36, 45, 43, 51, 22, 53, 39, 33, 30, 24, 18, 12, 5, 63, 55, 48, 27, 60, 41, 37, 16, 46, 35, 44, 21, 52, 32, 23, 11, 54, 26, 40, 15, 34, 20, 31, 10, 25, 14, 19, 9, 13, 8, 7, 6]
def tab : List Cell := tabN.map (fun n => Cell.int .u8 (Int.ofNat n))
theorem laid_eq : Rows.laid_math_bits_deBruijn64tab = (.agg (tabN.map fun n => .lit (.int .u8 (Int.ofNat n))) : DataW Unit) := rfl
theorem door_met (os : Os) (args : Array Value) : laidMetH Tryz.prog laidT ((World.doorLaid Tryz.prog 400 os).forCall (fun _ _ => 0) ⟨#[], args, []⟩).memory :=
  laidMetH_of_parts3 (fuel := 8) (laidMet_of_run' 8 (by kernel_rfl) (by kernel_rfl)) (by kernel_rfl) (by kernel_rfl)
theorem tTab : (Tryz.prog.globals[0]?).map (·.type) = some 333 := by kernel_rfl
theorem c333 : Tryz.prog.cellsOf 333 = 64 := by kernel_rfl
theorem c5 : Tryz.prog.cellsOf 5 = 1 := by kernel_rfl
theorem tab_of_laid {W : World} (h : laidMetH Tryz.prog laidT W) : TabIs W 64 tab := by
  rw [MakeChecks.laidMetH_plain _ _ _ (by kernel_rfl)] at h
  obtain ⟨ps, ⟨g0, t0, cs0, f0, p0, q0, hg0, ht0, hv0, hd0, _, _⟩, _, _⟩ := h
  obtain rfl := Option.some.inj (gTab.symm.trans hg0)
  obtain rfl := Option.some.inj (tTab.symm.trans ht0)
  obtain ⟨xs, m1, rfl, hx1, hlen, hn, hel⟩ := DataW.trod_array Tryz.underlying333 hd0
  have hheap : ∃ e fz, W.heap[0]? = some (.cells cs0 e fz) := by
    simp only [World.var?, gTab, Option.bind_some] at hv0
    split at hv0
    · rename_i cs e fz hh
      cases hv0
      exact ⟨e, fz, hh⟩
    · cases hv0
  obtain ⟨e, fz, hh⟩ := hheap
  rw [c333] at hlen
  refine ⟨cs0, e, fz, hh, by simpa using hlen, rfl, fun i x hx => ?_⟩
  have hi : i < 64 := by
    rcases Nat.lt_or_ge i 64 with h | h
    · exact h
    · rw [List.getElem?_eq_none (show tab.length ≤ i from h)] at hx; cases hx
  have hxi := hel i hi
  rw [c5, Nat.mul_one] at hxi
  have hxs : ∃ y, xs[i]? = some y := ⟨xs[i]'(by omega), List.getElem?_eq_getElem (by omega)⟩
  obtain ⟨y, hy⟩ := hxs
  rw [hy] at hxi
  obtain ⟨k, e1, e2, _⟩ := DataW.trod_int Tryz.underlying5 hxi
  simp only [Prod.mk.injEq] at hx1
  have h3 : (DataW.agg (tabN.map fun n => .lit (.int .u8 (Int.ofNat n))) : DataW Unit) = .agg (xs.map (·.1)) := hx1.1
  injection h3 with h3
  have h4 : (tabN.map fun n => (.lit (.int .u8 (Int.ofNat n)) : DataW Unit))[i]? = some (.lit (.int .u8 k)) := by
    rw [h3, List.getElem?_map, hy, e2]; rfl
  rw [List.getElem?_map] at h4
  have h5 : (tabN.map fun n => Cell.int .u8 (Int.ofNat n))[i]? = some x := hx
  rw [List.getElem?_map] at h5
  cases h6 : tabN[i]? with
  | none => rw [h6] at h5; cases h5
  | some n =>
    rw [h6] at h4 h5
    simp only [Option.map_some, Option.some.injEq, DataW.lit.injEq, Lit.int.injEq, true_and] at h4 h5
    subst h5
    refine ⟨.int .u8 k, ?_, by rw [← h4]; rfl⟩
    have h7 : (cs0.toList.drop i)[0]? = some (.int .u8 k) := by
      have := congrArg (fun l => l[0]?) e1
      simpa using this
    rw [List.getElem?_drop, Nat.add_zero, Array.getElem?_toList] at h7
    exact h7
end Go.Proofs.YtjodpodmeobciaaGreatDoor
