/- A map from whole numbers to truths that a call makes and fills: a set. Conditions: none. -/
import Derived.Test.YteiepbjajennkaaListOut
import GoSem.Instr.MakeMap
import GoSem.Instr.MapEntry
import Derived.Laws.Sem
import Derived.Laws.Entries
import Derived.Carry
namespace Go.Proofs.Yteiepbjajennkaa.ListHand
set_option linter.unusedVariables false
set_option linter.unusedSimpArgs false
open Go.RowKit Go.Proofs.YteiepbjajennkaaW.PrintWords
/-- Block m is a map; its keys are these numbers, in this order; each is true. -/
def SetIs (w : World) (m : Nat) (S : List Int) : Prop := ∃ (es : Array MapEntry) (clock : Nat), w.heap[m]? = some (.map es clock) ∧ es.toList.map (·.key) = S.map (Value.int .i64) ∧ ∀ e ∈ es.toList, e.val = .bool true
theorem SetIs.made (w : World) : SetIs (w.alloc (.map #[] 0)) w.heap.size [] := ⟨#[], 0, heap_alloc_new w _, rfl, fun e he => by simp at he⟩
theorem find_mem {x : Int} {kk : IntKind} : ∀ {l : List MapEntry} {S : List Int} {i : Nat}, l.map (·.key) = S.map (Value.int .i64) → (∀ e ∈ l, e.val = .bool true) → x ∈ S → ∃ j, Instr.findNow (.int kk) (.int .i64 x) l i = some (some (j, .bool true))
  | [], [], i, h, hv, hm => by cases hm
  | [], _ :: _, i, h, hv, hm => by cases h
  | _ :: _, [], i, h, hv, hm => by cases h
  | e :: l, y :: S, i, h, hv, hm => by
    simp only [List.map_cons, List.cons.injEq] at h
    obtain ⟨h1, h2⟩ := h
    rw [Instr.findNow, h1]
    simp only [Instr.sameNow, if_true]
    by_cases q : x = y
    · subst q
      refine ⟨i, ?_⟩
      simp [hv e (List.mem_cons_self ..)]
    · have q2 : (x == y) = false := by simp [q]
      rw [q2]
      have hm2 : x ∈ S := by
        cases hm with
        | head => exact absurd rfl q
        | tail _ h => exact h
      exact find_mem h2 (fun e he => hv e (List.mem_cons_of_mem _ he)) hm2
theorem find_not {x : Int} {kk : IntKind} : ∀ {l : List MapEntry} {S : List Int} {i : Nat}, l.map (·.key) = S.map (Value.int .i64) → x ∉ S → Instr.findNow (.int kk) (.int .i64 x) l i = some none
  | [], [], i, h, hm => rfl
  | [], _ :: _, i, h, hm => by cases h
  | _ :: _, [], i, h, hm => by cases h
  | e :: l, y :: S, i, h, hm => by
    simp only [List.map_cons, List.cons.injEq] at h
    obtain ⟨h1, h2⟩ := h
    rw [Instr.findNow, h1]
    simp only [Instr.sameNow, if_true]
    have q : x ≠ y := fun e => hm (e ▸ List.mem_cons_self ..)
    have q2 : (x == y) = false := by simp [q]
    rw [q2]
    exact find_not h2 (fun e => hm (List.mem_cons_of_mem _ e))
section
variable {P : Program} {w : World}
theorem r_und {t : TypeId} {d : TypeDesc} (h : P.underlying t = some d) : (underlying t).run P w = .ok d w := by simp [underlying, h]
theorem r_zero {t : TypeId} {i : TypeInfo} {z : Value} (h : P.info? t = some i) (hz : i.zero = some z) : (zeroValue t).run P w = .ok z w := by simp [zeroValue, typeInfo, h, hz]
theorem run_getMap {r : Nat} {es : Array MapEntry} {clock : Nat} (hb : w.heap[r]? = some (.map es clock)) : (getObj r).run P w = .ok (.map es clock) w := by
  simp [getObj, Sem.run, hb]
theorem run_setMap {r : Nat} {es : Array MapEntry} {clock : Nat} (ob : Obj) (hb : w.heap[r]? = some (.map es clock)) : (setObj r ob).run P w = .ok () { w with heap := w.heap.setIfInBounds r ob } := by
  simp [setObj, Sem.run, hb]
theorem checkKey_int {kt : TypeId} {kk kd : IntKind} {n : Int} (hk : P.underlying kt = some (.int kk)) (e : Bool) : (Instr.checkKey e 10000 kt (.int kd n)).run P w = .ok () w := by
  unfold Instr.checkKey
  simp [r_und hk]
theorem findKey_run {kt : TypeId} {kk : IntKind} {n : Int} {l : List MapEntry} {r : Option (Nat × Value)} (hk : P.underlying kt = some (.int kk)) (h : Instr.findNow (.int kk) (.int .i64 n) l 0 = some r) : (Instr.findKey kt (.int .i64 n) l).run P w = .ok r w := by
  simp [Instr.findKey, r_und hk, h]
variable {mt kt et : TypeId} {kk : IntKind} (hm : P.underlying mt = some (.map kt et)) (hk : P.underlying kt = some (.int kk)) {m : Nat} {S : List Int}
include hm hk
theorem look_in {x : Int} (h : SetIs w m S) (hx : x ∈ S) : (Instr.lookup mt (.map (some m)) (.int .i64 x) false).run P w = .ok (.bool true) w := by
  obtain ⟨es, clock, h1, h2, h3⟩ := h
  obtain ⟨j, hj⟩ := find_mem (kk := kk) (i := 0) h2 h3 hx
  simp [Instr.lookup, r_und hm, run_getMap h1, checkKey_int hk, findKey_run hk hj]
theorem look_out {x : Int} (h : SetIs w m S) (hx : x ∉ S) {i : TypeInfo} (hi : P.info? et = some i) (hz : i.zero = some (.bool false)) : (Instr.lookup mt (.map (some m)) (.int .i64 x) false).run P w = .ok (.bool false) w := by
  obtain ⟨es, clock, h1, h2, h3⟩ := h
  have hj := find_not (kk := kk) (i := 0) h2 hx
  simp [Instr.lookup, r_und hm, run_getMap h1, checkKey_int hk, findKey_run hk hj, r_zero hi hz]
theorem fill_run {x : Int} (h : SetIs w m S) (hx : x ∉ S) : ∃ w', (Instr.mapUpdate mt (.map (some m)) (.int .i64 x) (.bool true)).run P w = .ok () w' ∧ SetIs w' m (S ++ [x]) ∧ ∀ b, b ≤ m → Below b w w' := by
  obtain ⟨es, clock, h1, h2, h3⟩ := h
  have hj := find_not (kk := kk) (i := 0) h2 hx
  have hlt : m < w.heap.size := (Array.getElem?_eq_some_iff.1 h1).1
  refine ⟨{ w with heap := w.heap.setIfInBounds m (.map (es.push { key := .int .i64 x, val := .bool true, born := clock }) (clock + 1)) }, ?_, ⟨es.push { key := .int .i64 x, val := .bool true, born := clock }, clock + 1, ?_, ?_, ?_⟩, fun b hb => ⟨rfl, rfl, rfl, by simp, fun i hi => ?_⟩⟩
  · simp [Instr.mapUpdate, r_und hm, run_getMap h1, checkKey_int hk, findKey_run hk hj, run_setMap _ h1]
  · exact (Array.getElem?_setIfInBounds_self_of_lt hlt)
  · simp [h2]
  · intro e he
    simp only [Array.toList_push, List.mem_append, List.mem_singleton] at he
    rcases he with he | rfl
    · exact h3 e he
    · rfl
  · show (w.heap.setIfInBounds m _)[i]? = _
    rw [Array.getElem?_setIfInBounds]
    rw [if_neg (by omega)]
end
end Go.Proofs.Yteiepbjajennkaa.ListHand
