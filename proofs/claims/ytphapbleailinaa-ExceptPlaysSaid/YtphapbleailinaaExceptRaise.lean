/- A raise of any bits, with its answer; a row of calls that comes in, opened. Conditions: none. -/
import Derived.Test.YtphapbleailinaaExceptAll
import Derived.Deep.Slices
import Derived.Deep.Fields
import Derived.ChangeSame
namespace Go.Proofs.Ytphapbleailinaa.ExceptHand
set_option linter.unusedVariables false
open Go.ChangeShapes Go.WideShapes Go.Deep
open Go.RowKit Go.Proofs.YtphapbleailinaaW.PrintWords Go.Proofs.YtphapbleailinaaW.PrintLast Go.Proofs.YtphapbleailinaaW.PrintMore Go.Proofs.Ytphapbleailinaa.PExceptPlays
theorem raise_run (xs : List Int) (h : ∀ y ∈ xs, U y) (hn : xs.length ≤ 100) (b : Int) (hb : U b) (e : Bool) (d : Int) (n : Nat) : ∀ (k : Nat) (x i : Int), U x → 0 ≤ i → i ≤ xs.length → (xs.length : Int) - i = n → n < k →
    tex_Task_Raise.l0 k x xs xs.length i b e d = some (if orFrom x (xs.drop i.toNat) = 0 then -17 else 0, o32 b (orFrom x (xs.drop i.toNat)), e, d) := by
  induction n with
  | zero =>
    intro k x i hx i0 i1 hd hk
    obtain ⟨k, rfl⟩ : ∃ m, k = m + 1 := ⟨k - 1, by omega⟩
    have hnil : xs.drop i.toNat = [] := List.drop_eq_nil_of_le (by omega)
    rw [hnil]
    simp only [tex_Task_Raise.l0]
    rw [if_neg (by omega)]
    show _ = some (if x = 0 then -17 else 0, o32 b x, e, d)
    by_cases c : x = 0
    · rw [if_pos c, if_pos c]; subst c; rw [or_zero hb]
    · rw [if_neg c, if_neg c]
  | succ n ih =>
    intro k x i hx i0 i1 hd hk
    obtain ⟨k, rfl⟩ : ∃ m, k = m + 1 := ⟨k - 1, by omega⟩
    have hlt : i.toNat < xs.length := by omega
    have e1 : wrap64 (i + 1) = i + 1 := by unfold wrap64; omega
    have hr : rd xs i = xs[i.toNat] := by simp [rd, hlt]
    simp only [tex_Task_Raise.l0]
    rw [if_pos (by omega), if_pos i0, if_pos (by omega), e1, hr]
    have hy := h _ (List.getElem_mem hlt)
    refine (ih k (o32 x xs[i.toNat]) (i + 1) (hx.or hy) (by omega) (by omega) (by omega) (by omega)).trans ?_
    rw [List.drop_eq_getElem_cons hlt, show (i + 1).toNat = i.toNat + 1 by omega]
    rfl
theorem raise_bits {w0 W : World} {g : Nat} {b : Int} {e : Bool} {d : Int} (h : T w0 W g b e d) (hb : U b) (xs : List Int) (hx : ∀ y ∈ xs, U y) (hn : xs.length ≤ 100) (A : Option Addr) (c : Nat)
    (hr : Kd.C (Kd.int .u32) W A xs.length xs) (hc : xs.length ≤ c) (hf : ∀ ad, A = some ad → 0 < xs.length → ad.block ≠ g) (q b' : Int) (hq : (if orFrom 0 xs = 0 then -17 else 0) = q) (hb' : o32 b (orFrom 0 xs) = b') :
    Calls Try.prog 16 #[.pointer (some ⟨g, 0, none⟩), .slice A xs.length c] W fun r w' => r = .returned (.int .i64 q) ∧ T w0 w' g b' e d := by
  subst hq hb'
  refine (tex_Task_Raise.calls (xs.length + 1) g b e d A c xs _ _ e d w0 W h.1 h.2 hr hc hf (raise_run xs hx hn b hb e d xs.length (xs.length + 1) 0 0 U.zero (by omega) (by omega) (by omega) (by omega))).mono ?_
  rintro r w' ⟨hr, hi, hb, hk⟩
  exact ⟨hr, hi, hb⟩
/-- A row of calls, as it came in: what, and the bits. -/
def Acts (W : World) (a : Option Addr) (len cap : Nat) (F : Nat → Int × Option Addr × Nat × List Int) : Prop :=
  len ≤ cap ∧ cap ≤ maxLen ∧ (0 < len → ∃ B O, a = some ⟨B, O, none⟩ ∧ ∀ i, i < len → W.cell? ⟨B, O + i * 2, none⟩ = some (.int .i64 (F i).1) ∧ W.cell? ⟨B, O + i * 2 + 1, none⟩ = some (.slice (F i).2.1 (F i).2.2.2.length (F i).2.2.1)) ∧
    ∀ i, i < len → (F i).2.2.2.length ≤ (F i).2.2.1 ∧ (F i).2.2.1 ≤ maxLen ∧ ReadsInt W .u32 (F i).2.1 (F i).2.2.2.length (F i).2.2.2 ∧ ∀ y ∈ (F i).2.2.2, U y
theorem rec_add (b o i j : Nat) : ((⟨b, o, none⟩ : Addr).add i).add j = ⟨b, o + i + j, none⟩ := by
  unfold Addr.add
  by_cases hi : i = 0
  · subst hi
    by_cases hj : j = 0
    · subst hj; rfl
    · rw [if_pos rfl, if_neg hj]; rfl
  · rw [if_neg hi]
    by_cases hj : j = 0
    · subst hj; rfl
    · rw [if_neg hj]
section
variable {H : Type} {enc : TypeId × Value → H} {w : World} {base : Nat} {spare : Nat → Bool} {held : Bool}
def OneI (f : Field) : Prop := f.offset = 0 ∧ Try.prog.cellsOf f.type = 1 ∧ Try.prog.underlying f.type = some (.int .i64)
def OneS (f : Field) : Prop := f.offset = 1 ∧ Try.prog.cellsOf f.type = 1 ∧ Try.prog.underlying f.type = some (.slice 25)
theorem act_fields {e : TypeId} {f0 f1 : Field} {m : Nat} {cs : List Value} {x : DataW H × List MemPlace} (he : Try.prog.underlying e = some (.struct #[f0, f1])) (h0 : OneI f0) (h1 : OneS f1)
    (hl : cs.length = 2) (h : DataW.trod enc Try.prog w base spare held m e cs = some x) : ∃ q : Int × Option Addr × Nat × List Int, cs = [.int .i64 q.1, .slice q.2.1 q.2.2.2.length q.2.2.1] ∧ q.2.2.2.length ≤ q.2.2.1 ∧ q.2.2.1 ≤ maxLen ∧ ReadsInt w .u32 q.2.1 q.2.2.2.length q.2.2.2 ∧ ∀ y ∈ q.2.2.2, U y := by
  obtain ⟨ys, k, _, _, _, hyl, hf⟩ := DataW.trod_struct he h
  match cs, hl with
  | [c0, c1], _ =>
    have k0 := hf 0 f0 rfl
    have k1 := hf 1 f1 rfl
    rw [h0.1, h0.2.1] at k0
    rw [h1.1, h1.2.1] at k1
    have y0 : ys[0]? = some (ys[0]'(by rw [hyl]; show 0 < 2; omega)) := List.getElem?_eq_getElem _
    have y1 : ys[1]? = some (ys[1]'(by rw [hyl]; show 1 < 2; omega)) := List.getElem?_eq_getElem _
    rw [y0] at k0
    rw [y1] at k1
    obtain ⟨g, hg, _, hw⟩ := DataW.trod_int h0.2.2 k0
    have hg : [c0] = [Value.int .i64 g] := hg
    simp only [List.cons.injEq, and_true] at hg
    subst hg
    rcases open_ints h1.2.2 Try.underlying25 (by kernel_rfl) k1 with ⟨hcs, _⟩ | ⟨a, len, cap, zs, hcs, _, hlc, hcm, hz, _, hcell, hwz⟩
    · have hcs : [c1] = [Value.slice none 0 0] := hcs
      simp only [List.cons.injEq, and_true] at hcs
      subst hcs
      exact ⟨⟨g, none, 0, []⟩, rfl, Nat.le_refl _, Nat.zero_le _, ⟨rfl, by simp, fun h => by simp at h⟩, fun y hy => by simp at hy⟩
    · have hcs : [c1] = [Value.slice (some a) len cap] := hcs
      simp only [List.cons.injEq, and_true] at hcs
      subst hcs
      have hlz : len ≤ zs.length := by rw [hz]; split <;> omega
      have hlt : (zs.take len).length = len := by rw [List.length_take]; omega
      refine ⟨⟨g, some a, cap, zs.take len⟩, ?_, ?_, hcm, ⟨rfl, ?_, fun _ => ⟨a, rfl, fun j hj => ?_⟩⟩, fun y hy => ?_⟩
      · show _ = [Value.int .i64 g, Value.slice (some a) (zs.take len).length cap]
        rw [hlt]
      · show (zs.take len).length ≤ cap
        omega
      · show (zs.take len).length ≤ _
        unfold maxLen at hcm; omega
      · have hj : j < (zs.take len).length := hj
        show w.cell? (a.add j) = some (.int .u32 ((zs.take len).getD j 0))
        rw [hcell j (by omega)]
        congr 2
        simp [List.getD, show j < len by omega]
      · exact U.of (hwz y (List.mem_of_mem_take hy))
theorem open_acts {t e : TypeId} {f0 f1 : Field} {fuel len cap : Nat} {A : Option Addr} {x : DataW H × List MemPlace} (ht : Try.prog.underlying t = some (.slice e)) (he : Try.prog.underlying e = some (.struct #[f0, f1]))
    (h0 : OneI f0) (h1 : OneS f1) (hC : Try.prog.cellsOf e = 2) (h : DataW.trod enc Try.prog w base spare held fuel t [.slice A len cap] = some x) : ∃ F, Acts w A len cap F := by
  rcases open_slice ht h with ⟨hcs, _⟩ | ⟨a, l, c, m, n, D, Pl, hcs, _, hl, hm, hmm, _, hi⟩
  · simp at hcs
    obtain ⟨rfl, rfl, rfl⟩ := hcs
    exact ⟨fun _ => ⟨0, none, 0, []⟩, Nat.le_refl _, Nat.zero_le _, fun h => by omega, fun i hi => by omega⟩
  · simp at hcs
    obtain ⟨rfl, rfl, rfl⟩ := hcs
    have hlm : len ≤ m := by rw [hmm]; split <;> omega
    have one : ∀ i, i < len → ∃ q : Int × Option Addr × Nat × List Int, (w.cell? ((a.add (i * 2)).add 0) = some (.int .i64 q.1) ∧ w.cell? ((a.add (i * 2)).add 1) = some (.slice q.2.1 q.2.2.2.length q.2.2.1)) ∧ q.2.2.2.length ≤ q.2.2.1 ∧ q.2.2.1 ≤ maxLen ∧ ReadsInt w .u32 q.2.1 q.2.2.2.length q.2.2.2 ∧ ∀ y ∈ q.2.2.2, U y := by
      intro i hil
      obtain ⟨cs', hc, ht'⟩ := hi i (by omega)
      rw [hC] at hc
      obtain ⟨_, hcl, hat⟩ := World.cells?_some hc
      obtain ⟨q, hq, rest⟩ := act_fields he h0 h1 hcl ht'
      subst hq
      exact ⟨q, ⟨hat 0 (by omega), hat 1 (by omega)⟩, rest⟩
    obtain ⟨F, hF⟩ := choose_lt (α := Int × Option Addr × Nat × List Int) one
    refine ⟨F, hl, hm, fun h0 => ?_, fun i hi => (hF i hi).2⟩
    obtain ⟨b, o, sp⟩ := a
    have c0 := (hF 0 h0).1.1
    cases sp with
    | some s =>
      rw [Nat.zero_mul] at c0
      have e0 : (((⟨b, o, some s⟩ : Addr).add 0).add 0) = ⟨b, o, some s⟩ := rfl
      rw [e0] at c0
      unfold World.cell? at c0
      split at c0
      · simp at c0
      · cases c0
    | none => exact ⟨b, o, rfl, fun i hi => by have := (hF i hi).1; rwa [rec_add, rec_add] at this⟩
end
end Go.Proofs.Ytphapbleailinaa.ExceptHand
