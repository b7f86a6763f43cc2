/- Arrays that come in: opened. All lists of bools. Conditions: none. -/
import Derived.Test.YtjodpodmeobciaaGreatDoorYD
import Derived.OpenShut
namespace Go.Rse
open Go.RowKit
def toB : Value → Bool | .bool b => b | _ => false
def toI : Value → Int | .int _ n => n | _ => 0
section
variable {H : Type} {enc : TypeId × Value → H} {P : Program} {w : World} {base : Nat} {spare : Nat → Bool} {held : Bool} {t e : TypeId} {v : Value} {d : DataW H} {p : List MemPlace} {n b0 : Nat} {r : Reach}
theorem cells_of_array (ht : P.underlying t = some (.array n e)) (c1 : P.cellsOf e = 1) (ct : P.cellsOf t = n) (hok : Value.okWide P w r b0 t v) (h : DataW.Trod enc P w base spare held t v d p) :
    ∃ cs : Array Value, v = .agg cs ∧ cs.size = n ∧ ∀ i, i < n → ∃ u m x, cs[i]? = some u ∧ DataW.trod enc P w base spare held m e [u] = some x := by
  unfold Value.okWide at hok
  rw [ht] at hok
  obtain ⟨cs, rfl, hsz, _⟩ := hok
  rw [ct] at hsz
  obtain ⟨fuel, hf⟩ := h
  obtain ⟨xs, m, _, _, hlen, hn, hel⟩ := DataW.trod_array ht hf
  refine ⟨cs, rfl, hsz, fun i hi => ?_⟩
  have hx := hel i hi
  rw [c1, Nat.mul_one] at hx
  have hi2 : i < cs.size := by omega
  have hd : (Value.cells (.agg cs)).toList.drop i = cs[i] :: cs.toList.drop (i + 1) := by
    show cs.toList.drop i = _
    rw [List.drop_eq_getElem_cons (by simpa using hi2)]
    simp
  rw [hd] at hx
  have hxs : xs[i]? = some (xs[i]'(by omega)) := List.getElem?_eq_getElem (by omega)
  rw [hxs] at hx
  exact ⟨cs[i], m, _, Array.getElem?_eq_getElem hi2, hx⟩
theorem open_bools (ht : P.underlying t = some (.array n e)) (he : P.underlying e = some .bool) (c1 : P.cellsOf e = 1) (ct : P.cellsOf t = n) (hok : Value.okWide P w r b0 t v) (h : DataW.Trod enc P w base spare held t v d p) :
    ∃ l : List Bool, l.length = n ∧ v = .agg (l.map Value.bool).toArray := by
  obtain ⟨cs, rfl, hsz, hel⟩ := cells_of_array ht c1 ct hok h
  refine ⟨cs.toList.map toB, by simpa using hsz, ?_⟩
  congr 1
  apply Array.ext'
  apply List.ext_getElem?
  intro i
  simp only [List.map_map, List.getElem?_map, Array.getElem?_toList]
  by_cases hi : i < n
  · obtain ⟨u, m, x, hu, hx⟩ := hel i hi
    obtain ⟨b, hb, _⟩ := DataW.trod_bool he hx
    simp only [List.cons.injEq, and_true] at hb
    subst hb
    rw [hu]; rfl
  · rw [Array.getElem?_eq_none (by omega)]; rfl
theorem open_ints4 {k : IntKind} (ht : P.underlying t = some (.array n e)) (he : P.underlying e = some (.int k)) (c1 : P.cellsOf e = 1) (ct : P.cellsOf t = n) (hok : Value.okWide P w r b0 t v) (h : DataW.Trod enc P w base spare held t v d p) :
    ∃ l : List Int, l.length = n ∧ v = .agg (l.map (Value.int k)).toArray ∧ ∀ x ∈ l, (Lit.int k x).wf = true := by
  obtain ⟨cs, rfl, hsz, hel⟩ := cells_of_array ht c1 ct hok h
  refine ⟨cs.toList.map toI, by simpa using hsz, ?_, fun x hx => ?_⟩
  · congr 1
    apply Array.ext'
    apply List.ext_getElem?
    intro i
    simp only [List.map_map, List.getElem?_map, Array.getElem?_toList]
    by_cases hi : i < n
    · obtain ⟨u, m, x, hu, hx⟩ := hel i hi
      obtain ⟨b, hb, _⟩ := DataW.trod_int he hx
      simp only [List.cons.injEq, and_true] at hb
      subst hb
      rw [hu]; rfl
    · rw [Array.getElem?_eq_none (by omega)]; rfl
  · obtain ⟨y, hy, rfl⟩ := List.mem_map.1 hx
    obtain ⟨i, hi⟩ := List.getElem?_of_mem hy
    have hlt : i < n := by
      rcases Nat.lt_or_ge i n with q | q
      · exact q
      · rw [Array.getElem?_toList, Array.getElem?_eq_none (by omega)] at hi; cases hi
    obtain ⟨u, m, x, hu, hx⟩ := hel i hlt
    obtain ⟨b, hb, _, hwf⟩ := DataW.trod_int he hx
    simp only [List.cons.injEq, and_true] at hb
    subst hb
    rw [Array.getElem?_toList, hu] at hi
    cases hi
    exact hwf
end
/-- A test of all lists of so many bools. -/
noncomputable def allB : Nat → (List Bool → Bool) → Bool
  | 0, f => f []
  | n + 1, f => @Bool.rec (fun _ => Bool) false (allB n fun l => f (true :: l)) (allB n fun l => f (false :: l))
theorem allB_true : ∀ {n : Nat} {f : List Bool → Bool}, allB n f = true → ∀ l : List Bool, l.length = n → f l = true
  | 0, f, h, l, hl => by rw [List.length_eq_zero_iff.1 hl]; exact h
  | n + 1, f, h, [], hl => by cases hl
  | n + 1, f, h, b :: l, hl => by
    have h : @Bool.rec (fun _ => Bool) false (allB n fun l => f (true :: l)) (allB n fun l => f (false :: l)) = true := h
    have hl2 : l.length = n := by simpa using hl
    cases h1 : allB n fun l => f (false :: l) with
    | false => rw [h1] at h; cases h
    | true =>
      rw [h1] at h
      cases b with
      | false => exact allB_true h1 l hl2
      | true => exact allB_true (show (allB n fun l => f (true :: l)) = true from h) l hl2
theorem bools_ok {ν : Nu} {ρ : Rho} : ∀ l : List Bool, Rel (CR ν ρ) (l.map Cell.bool) (l.map Value.bool)
  | [] => trivial
  | _ :: l => ⟨rfl, bools_ok l⟩
end Go.Rse
