/- Any calls on linked rows, the program's and the document's: the walk of ListPlays. Conditions: none. -/
import Derived.Test.YteiepbjajennkaaListRefSays
import Derived.Deep.Slices
import Derived.Deep.Fields
import Derived.ChangeSame
namespace Go.Proofs.Yteiepbjajennkaa.ListHand
set_option linter.unusedVariables false
open Go.ChangeShapes Go.WideShapes Go.Deep
open Go.RowKit Go.Proofs.YteiepbjajennkaaW.PrintWords Go.Proofs.YteiepbjajennkaaW.PrintMore
/-- A call, as it came in: what, the head, the node, the other node, the nodes. -/
structure Act5 where
  op : Int
  hd : Int
  nd : Int
  at_ : Int
  A : Option Addr
  c : Nat
  zs : List Int
instance : Inhabited Act5 := ⟨⟨0, 0, 0, 0, none, 0, []⟩⟩
theorem five {α : Type} : ∀ {l : List α}, l.length = 5 → ∃ a b c d e, l = [a, b, c, d, e]
  | [a, b, c, d, e], _ => ⟨a, b, c, d, e, rfl⟩
def Acts (W : World) (a : Option Addr) (len cap : Nat) (F : Nat → Act5) : Prop :=
  len ≤ cap ∧ cap ≤ maxLen ∧ (0 < len → ∃ B O, a = some ⟨B, O, none⟩ ∧ ∀ i, i < len → W.cell? ⟨B, O + i * 5, none⟩ = some (.int .i64 (F i).op) ∧ W.cell? ⟨B, O + i * 5 + 1, none⟩ = some (.int .i64 (F i).hd) ∧ W.cell? ⟨B, O + i * 5 + 2, none⟩ = some (.int .i64 (F i).nd) ∧ W.cell? ⟨B, O + i * 5 + 3, none⟩ = some (.int .i64 (F i).at_) ∧ W.cell? ⟨B, O + i * 5 + 4, none⟩ = some (.slice (F i).A (F i).zs.length (F i).c)) ∧
    ∀ i, i < len → (F i).zs.length ≤ (F i).c ∧ (F i).c ≤ maxLen ∧ ReadsInt W .i64 (F i).A (F i).zs.length (F i).zs
theorem rec_add (b o i j : Nat) : ((⟨b, o, none⟩ : Addr).add i).add j = ⟨b, o + i + j, none⟩ := by
  unfold Addr.add
  by_cases hi : i = 0
  · subst hi
    by_cases hj : j = 0
    · subst hj; rfl
    · rw [if_pos rfl, if_neg hj]; rfl
  · rw [if_neg hi]
    by_cases hj : j = 0
    · subst hj; rfl
    · rw [if_neg hj]
section
variable {H : Type} {enc : TypeId × Value → H} {w : World} {base : Nat} {spare : Nat → Bool} {held : Bool}
def OneI (k : Nat) (f : Field) : Prop := f.offset = k ∧ Try.prog.cellsOf f.type = 1 ∧ Try.prog.underlying f.type = some (.int .i64)
def OneS (k : Nat) (f : Field) : Prop := f.offset = k ∧ Try.prog.cellsOf f.type = 1 ∧ Try.prog.underlying f.type = some (.slice 3)
set_option maxRecDepth 100000 in
theorem act_fields {e : TypeId} {f0 f1 f2 f3 f4 : Field} {m : Nat} {cs : List Value} {x : DataW H × List MemPlace} (he : Try.prog.underlying e = some (.struct #[f0, f1, f2, f3, f4])) (h0 : OneI 0 f0) (h1 : OneI 1 f1) (h2 : OneI 2 f2) (h3 : OneI 3 f3) (h4 : OneS 4 f4)
    (hl : cs.length = 5) (h : DataW.trod enc Try.prog w base spare held m e cs = some x) : ∃ q : Act5, cs = [.int .i64 q.op, .int .i64 q.hd, .int .i64 q.nd, .int .i64 q.at_, .slice q.A q.zs.length q.c] ∧ q.zs.length ≤ q.c ∧ q.c ≤ maxLen ∧ ReadsInt w .i64 q.A q.zs.length q.zs := by
  obtain ⟨ys, k, _, _, _, hyl, hf⟩ := DataW.trod_struct he h
  obtain ⟨c0, c1, c2, c3, c4, rfl⟩ := five hl
  · skip
    have k0 := hf 0 f0 rfl
    have k1 := hf 1 f1 rfl
    have k2 := hf 2 f2 rfl
    have k3 := hf 3 f3 rfl
    have k4 := hf 4 f4 rfl
    rw [h0.1, h0.2.1] at k0
    rw [h1.1, h1.2.1] at k1
    rw [h2.1, h2.2.1] at k2
    rw [h3.1, h3.2.1] at k3
    rw [h4.1, h4.2.1] at k4
    have y0 : ys[0]? = some (ys[0]'(by rw [hyl]; show 0 < 5; omega)) := List.getElem?_eq_getElem _
    have y1 : ys[1]? = some (ys[1]'(by rw [hyl]; show 1 < 5; omega)) := List.getElem?_eq_getElem _
    have y2 : ys[2]? = some (ys[2]'(by rw [hyl]; show 2 < 5; omega)) := List.getElem?_eq_getElem _
    have y3 : ys[3]? = some (ys[3]'(by rw [hyl]; show 3 < 5; omega)) := List.getElem?_eq_getElem _
    have y4 : ys[4]? = some (ys[4]'(by rw [hyl]; show 4 < 5; omega)) := List.getElem?_eq_getElem _
    rw [y0] at k0
    rw [y1] at k1
    rw [y2] at k2
    rw [y3] at k3
    rw [y4] at k4
    obtain ⟨g0, hg0, _, _⟩ := DataW.trod_int h0.2.2 k0
    obtain ⟨g1, hg1, _, _⟩ := DataW.trod_int h1.2.2 k1
    obtain ⟨g2, hg2, _, _⟩ := DataW.trod_int h2.2.2 k2
    obtain ⟨g3, hg3, _, _⟩ := DataW.trod_int h3.2.2 k3
    obtain rfl : c0 = .int .i64 g0 := by simpa using hg0
    obtain rfl : c1 = .int .i64 g1 := by simpa using hg1
    obtain rfl : c2 = .int .i64 g2 := by simpa using hg2
    obtain rfl : c3 = .int .i64 g3 := by simpa using hg3
    rcases open_ints h4.2.2 Try.underlying3 (by kernel_rfl) k4 with ⟨hcs, _⟩ | ⟨a, len, cap, zs, hcs, _, hlc, hcm, hz, _, hcell, hwz⟩
    · have hcs : [c4] = [Value.slice none 0 0] := hcs
      simp only [List.cons.injEq, and_true] at hcs
      subst hcs
      exact ⟨⟨g0, g1, g2, g3, none, 0, []⟩, rfl, Nat.le_refl _, Nat.zero_le _, ⟨rfl, by simp, fun h => by simp at h⟩⟩
    · have hcs : [c4] = [Value.slice (some a) len cap] := hcs
      simp only [List.cons.injEq, and_true] at hcs
      subst hcs
      have hlz : len ≤ zs.length := by rw [hz]; split <;> omega
      have hlt : (zs.take len).length = len := by rw [List.length_take]; omega
      refine ⟨⟨g0, g1, g2, g3, some a, cap, zs.take len⟩, ?_, ?_, hcm, ⟨rfl, ?_, fun _ => ⟨a, rfl, fun j hj => ?_⟩⟩⟩
      · show _ = [Value.int .i64 g0, Value.int .i64 g1, Value.int .i64 g2, Value.int .i64 g3, Value.slice (some a) (zs.take len).length cap]
        rw [hlt]
      · show (zs.take len).length ≤ cap
        omega
      · show (zs.take len).length ≤ _
        unfold maxLen at hcm; omega
      · have hj : j < (zs.take len).length := hj
        show w.cell? (a.add j) = some (.int .i64 ((zs.take len).getD j 0))
        have e : (zs.take len).getD j 0 = zs.getD j 0 := by simp [List.getD, show j < len by omega]
        rw [e]
        exact hcell j (by omega)
theorem open_acts {t e : TypeId} {f0 f1 f2 f3 f4 : Field} {fuel len cap : Nat} {A : Option Addr} {x : DataW H × List MemPlace} (ht : Try.prog.underlying t = some (.slice e)) (he : Try.prog.underlying e = some (.struct #[f0, f1, f2, f3, f4]))
    (h0 : OneI 0 f0) (h1 : OneI 1 f1) (h2 : OneI 2 f2) (h3 : OneI 3 f3) (h4 : OneS 4 f4) (hC : Try.prog.cellsOf e = 5) (h : DataW.trod enc Try.prog w base spare held fuel t [.slice A len cap] = some x) : ∃ F, Acts w A len cap F := by
  rcases open_slice ht h with ⟨hcs, _⟩ | ⟨a, l, c, m, n, D, Pl, hcs, _, hl, hm, hmm, _, hi⟩
  · simp at hcs
    obtain ⟨rfl, rfl, rfl⟩ := hcs
    exact ⟨fun _ => ⟨0, 0, 0, 0, none, 0, []⟩, Nat.le_refl _, Nat.zero_le _, fun h => by omega, fun i hi => by omega⟩
  · simp at hcs
    obtain ⟨rfl, rfl, rfl⟩ := hcs
    have hlm : len ≤ m := by rw [hmm]; split <;> omega
    have one : ∀ i, i < len → ∃ q : Act5, (w.cell? ((a.add (i * 5)).add 0) = some (.int .i64 q.op) ∧ w.cell? ((a.add (i * 5)).add 1) = some (.int .i64 q.hd) ∧ w.cell? ((a.add (i * 5)).add 2) = some (.int .i64 q.nd) ∧ w.cell? ((a.add (i * 5)).add 3) = some (.int .i64 q.at_) ∧ w.cell? ((a.add (i * 5)).add 4) = some (.slice q.A q.zs.length q.c)) ∧ q.zs.length ≤ q.c ∧ q.c ≤ maxLen ∧ ReadsInt w .i64 q.A q.zs.length q.zs := by
      intro i hil
      obtain ⟨cs', hc, ht'⟩ := hi i (by omega)
      rw [hC] at hc
      obtain ⟨_, hcl, hat⟩ := World.cells?_some hc
      obtain ⟨q, hq, rest⟩ := act_fields he h0 h1 h2 h3 h4 hcl ht'
      subst hq
      exact ⟨q, ⟨hat 0 (by omega), hat 1 (by omega), hat 2 (by omega), hat 3 (by omega), hat 4 (by omega)⟩, rest⟩
    obtain ⟨F, hF⟩ := choose_lt (α := Act5) one
    refine ⟨F, hl, hm, fun h0 => ?_, fun i hi => (hF i hi).2⟩
    obtain ⟨b, o, sp⟩ := a
    have c0 := (hF 0 h0).1.1
    cases sp with
    | some s =>
      rw [Nat.zero_mul] at c0
      have e0 : (((⟨b, o, some s⟩ : Addr).add 0).add 0) = ⟨b, o, some s⟩ := rfl
      rw [e0] at c0
      unfold World.cell? at c0
      split at c0
      · simp at c0
      · cases c0
    | none => exact ⟨b, o, rfl, fun i hi => by have := (hF i hi).1; rwa [rec_add, rec_add, rec_add, rec_add, rec_add] at this⟩
end
/-- Where both stand, of some rows. -/
def Both (w : World) (lo : Nat) (W : World) (g a b q s N H : Nat) : Prop := ∃ R, LR w W g a b N H R ∧ Rf w lo W q s N H R
variable {w W : World} {lo g a b q s N H : Nat} {R : Nat → List Nat}
theorem LR.far (h : LR w W g a b N H R) : w.heap.size ≤ g ∧ w.heap.size ≤ a ∧ w.heap.size ≤ b := by obtain ⟨_, _, h1, _⟩ := h; exact ⟨h1.gw, h1.aw, h1.bw⟩
theorem Rf.alloc (h : Rf w lo W q s N H R) (o : Obj) : Rf w lo (W.alloc o) q s N H R := h.below (below_alloc (Below.refl _ _) o) h.be.size
theorem act_at (W : World) (l : Array Value) (e k : Nat) (v : Value) (h : l[k]? = some v) : (W.alloc (.cells l e)).cell? ⟨W.heap.size, k, none⟩ = some v := by
  rw [World.cell?_alloc_at _ _ _ _ rfl]; exact h
theorem reads_far {W0 : World} {A : Option Addr} {n : Nat} {xs : List Int} (h : ReadsInt W0 .i64 A n xs) : ∀ ad, A = some ad → 0 < n → ad.block < W0.heap.size := by
  intro ad e hn
  obtain ⟨ad', e', hc⟩ := h.2.2 hn
  rw [e] at e'; cases e'
  have := World.block_lt_of_cell? _ _ (hc 0 hn)
  rwa [add_block] at this
theorem ReadsInt.kb0 {w' : World} {x y : Nat} {A : Option Addr} {n : Nat} {xs : List Int} (h : ReadsInt W .i64 A n xs) (k : KB W w' x y) (hA : ∀ ad, A = some ad → 0 < n → ad.block ≠ x ∧ ad.block ≠ y) : ReadsInt w' .i64 A n xs := by
  refine ⟨h.1, h.2.1, fun hn => ?_⟩
  obtain ⟨ad, e, hc⟩ := h.2.2 hn
  obtain ⟨h1, h2⟩ := hA ad e hn
  refine ⟨ad, e, fun j hj => ?_⟩
  have c := hc j hj
  have hl := World.block_lt_of_cell? W _ c
  rw [k.cell hl (by rw [add_block]; exact h1) (by rw [add_block]; exact h2)]
  exact c
set_option maxHeartbeats 8000000 in
set_option maxRecDepth 100000 in
theorem plays_in (N H : Nat) (hN : 1 ≤ N ∧ N ≤ 40) (hH : 1 ≤ H ∧ H ≤ 8) (A : Option Addr) (len cap : Nat) (F : Nat → Act5) (hl : len ≤ 60) (w : World) (hR : Acts w A len cap F) :
    Calls Try.prog 7 #[.int .i64 N, .int .i64 H, .slice A len cap] w fun e w' => e = .returned (.bool true) ∧ Below w.heap.size w w' := by
  have HR := Aside0.mk hR; clear hR
  obtain ⟨N0, N1⟩ := hN
  obtain ⟨H0, H1⟩ := hH
  go_enter Try.func7, Try.ntmps7
  go_wp2_with fail
  refine (known_calls w).mono ?_
  rintro e w1 ⟨rfl, h1⟩
  have HK := Aside0.mk h1; clear h1
  go_wp2_with fail
  refine (new_calls (w0 := w) N H (by omega) (by omega) HK.out).mono ?_
  rintro e w2 ⟨g, a, b, rfl, h1, _⟩
  have HL2 := Aside0.mk h1; clear h1
  go_wp2_with fail
  refine (new_ref (w0 := w) N H w2.heap.size (by omega) (by omega) HL2.out.be (Nat.le_refl _) HL2.out.be.size).mono ?_
  rintro e w3 ⟨q, s, rfl, h1, h2⟩
  have HB := Aside0.mk (show Both w w2.heap.size w3 g a b q s N H from ⟨_, HL2.out.below h2, h1⟩)
  have HLO := Aside0.mk HL2.out.lt
  clear h1 h2 HL2
  go_wp2
  go_loopw [11] (fun i w' => ∃ j : Nat, j ≤ len ∧ i = .int .i64 j ∧ Aside0 (Both w w2.heap.size w' g a b q s N H)) (fun i _ => len - (intOf i).toNat)
  case atStart => exact ⟨0, Nat.zero_le _, rfl, HB⟩
  case round =>
    clear HB
    obtain ⟨j, hj, rfl, HB⟩ := hrel
    obtain ⟨R, hl0, hr0⟩ := HB.out
    have HL := Aside0.mk hl0
    have HF := Aside0.mk hr0
    clear hl0 hr0
    by_cases hlt : j < len
    · obtain ⟨B, O, hA, hc⟩ := HR.out.2.2.1 (by omega)
      obtain ⟨hz1, hz2, hz3⟩ := HR.out.2.2.2 j hlt
      subst hA
      obtain ⟨x0, x1, x2, x3, x4⟩ := hc j hlt
      have hBl := World.block_lt_of_cell? w _ x0
      have x0 := (HL.out.be.cell (p := ⟨B, O + j * 5, none⟩) hBl).trans x0
      have x1 := (HL.out.be.cell (p := ⟨B, O + j * 5 + 1, none⟩) hBl).trans x1
      have x2 := (HL.out.be.cell (p := ⟨B, O + j * 5 + 2, none⟩) hBl).trans x2
      have x3 := (HL.out.be.cell (p := ⟨B, O + j * 5 + 3, none⟩) hBl).trans x3
      have x4 := (HL.out.be.cell (p := ⟨B, O + j * 5 + 4, none⟩) hBl).trans x4
      have HZF := Aside0.mk (reads_far hz3)
      have HZ := Aside0.mk (hz3.below HL.out.be)
      clear hc hBl hz3
      obtain ⟨⟨op, hd, nd, at_, bA, bc, zs⟩, hF⟩ : ∃ q, F j = q := ⟨_, rfl⟩
      rw [hF] at x0 x1 x2 x3 x4 hz1 hz2 HZ HZF
      dsimp only at x0 x1 x2 x3 x4 hz1 hz2 HZ HZF
      have hz9 : bc ≤ 9223372036854775807 := hz2
      clear hz2 hF
      have HO : Aside0 (∃ O, O = Obj.cells #[.int .i64 op, .int .i64 hd, .int .i64 nd, .int .i64 at_, .slice bA zs.length bc] 44) := ⟨⟨_, rfl⟩⟩
      have HLA := Aside0.mk (HL.out.alloc (.cells #[.int .i64 op, .int .i64 hd, .int .i64 nd, .int .i64 at_, .slice bA zs.length bc] 44))
      have HFA := Aside0.mk (HF.out.alloc (.cells #[.int .i64 op, .int .i64 hd, .int .i64 nd, .int .i64 at_, .slice bA zs.length bc] 44))
      have HZA := Aside0.mk (HZ.out.below (below_alloc (Below.refl _ _) (.cells #[.int .i64 op, .int .i64 hd, .int .i64 nd, .int .i64 at_, .slice bA zs.length bc] 44)))
      have HQ := Aside0.mk (show (wr.heap.size ≠ a ∧ wr.heap.size ≠ b ∧ wr.heap.size ≠ s) ∧ (g ≠ s ∧ a ≠ s ∧ b ≠ s) ∧ (∀ ad, bA = some ad → 0 < zs.length → ad.block ≠ a ∧ ad.block ≠ b) ∧ (∀ ad, bA = some ad → 0 < zs.length → ad.block ≠ s ∧ ad.block ≠ s) from by
        have h1 := HL.out.lt
        have h2 := HF.out.lt
        have h3 := HLO.out
        have h4 := HF.out.ls
        have h5 := HL.out.far
        have h6 := HF.out.wl
        refine ⟨by omega, by omega, fun ad e hn => ?_, fun ad e hn => ?_⟩
        · have := HZF.out ad e hn; omega
        · have := HZF.out ad e hn; omega)
      have HAT := Aside0.mk (fun k v h => act_at wr #[.int .i64 op, .int .i64 hd, .int .i64 nd, .int .i64 at_, .slice bA zs.length bc] 44 k v h)
      clear HO
      by_cases o1 : op = 1
      · subst o1
        by_cases hbig : 50 < zs.length
        · as_aux_lemma =>
            go_wp2
            go_ret
            exact ⟨rfl, HLA.out.be⟩
        · as_aux_lemma =>
            obtain ⟨r, R', hs⟩ := back_says N H R hd zs
            have HS := Aside0.mk hs; clear hs
            go_wp2_with fail
            refine (HS.out.lr HLA.out (by omega) bA bc _ rfl HZA.out HQ.out.2.2.1).mono ?_
            rintro e w4 ⟨rfl, h4, k4⟩
            have c1 := (k4.cell (p := ⟨wr.heap.size, 1, none⟩) (by simp) HQ.out.1.1 HQ.out.1.2.1).trans (HAT.out 1 _ rfl)
            have c4 := (k4.cell (p := ⟨wr.heap.size, 4, none⟩) (by simp) HQ.out.1.1 HQ.out.1.2.1).trans (HAT.out 4 _ rfl)
            have HF4 := Aside0.mk (HFA.out.keep k4 HLO.out.2.1 HLO.out.2.2 h4.be)
            have HZ4 := Aside0.mk (ReadsInt.kb0 HZA.out k4 HQ.out.2.2.1)
            have HL4 := Aside0.mk h4
            clear h4 k4
            go_wp2_with fail
            refine (HS.out.rf HF4.out (by omega) bA bc _ rfl HZ4.out (fun ad e hn => (HQ.out.2.2.2 ad e hn).1)).mono ?_
            rintro e w5 ⟨rfl, h5, k5⟩
            have HL5 := Aside0.mk (HL4.out.keep k5 HQ.out.2.1 HQ.out.2.1 h5.be)
            have HF5 := Aside0.mk h5
            clear h5 k5
            go_wp2_with fail
            refine (told_same HL5.out HF5.out).mono ?_
            rintro e w6 ⟨rfl, hb⟩
            have H6 := Aside0.mk (show Both w w2.heap.size w6 g a b q s N H from ⟨_, HL5.out.below hb, HF5.out.below hb HF5.out.be.size⟩)
            clear hb
            go_wp2
            go_roundw
            case rel => exact ⟨j + 1, by omega, by go_num, H6⟩
            case measure => simp [intOf]; omega
      · have b1 : (op == 1) = false := beq_eq_false_iff_ne.2 o1
        by_cases o2 : op = 2
        · subst o2
          as_aux_lemma =>
            obtain ⟨r, R', hs⟩ := front_says N H R hd nd
            have HS := Aside0.mk hs; clear hs
            go_wp2_with fail
            refine (HS.out.lr HLA.out).mono ?_
            rintro e w4 ⟨rfl, h4, k4⟩
            have c1 := (k4.cell (p := ⟨wr.heap.size, 1, none⟩) (by simp) HQ.out.1.1 HQ.out.1.2.1).trans (HAT.out 1 _ rfl)
            have c2 := (k4.cell (p := ⟨wr.heap.size, 2, none⟩) (by simp) HQ.out.1.1 HQ.out.1.2.1).trans (HAT.out 2 _ rfl)
            have HF4 := Aside0.mk (HFA.out.keep k4 HLO.out.2.1 HLO.out.2.2 h4.be)
            have HL4 := Aside0.mk h4
            clear h4 k4
            go_wp2_with fail
            refine (HS.out.rf HF4.out).mono ?_
            rintro e w5 ⟨rfl, h5, k5⟩
            have HL5 := Aside0.mk (HL4.out.keep k5 HQ.out.2.1 HQ.out.2.1 h5.be)
            have HF5 := Aside0.mk h5
            clear h5 k5
            go_wp2_with fail
            refine (told_same HL5.out HF5.out).mono ?_
            rintro e w6 ⟨rfl, hb⟩
            have H6 := Aside0.mk (show Both w w2.heap.size w6 g a b q s N H from ⟨_, HL5.out.below hb, HF5.out.below hb HF5.out.be.size⟩)
            clear hb
            go_wp2
            go_roundw
            case rel => exact ⟨j + 1, by omega, by go_num, H6⟩
            case measure => simp [intOf]; omega
        · have b2 : (op == 2) = false := beq_eq_false_iff_ne.2 o2
          by_cases o3 : op = 3
          · subst o3
            as_aux_lemma =>
              obtain ⟨r, R', hs⟩ := before_says N H R nd at_
              have HS := Aside0.mk hs; clear hs
              go_wp2_with fail
              refine (HS.out.lr HLA.out).mono ?_
              rintro e w4 ⟨rfl, h4, k4⟩
              have c1 := (k4.cell (p := ⟨wr.heap.size, 2, none⟩) (by simp) HQ.out.1.1 HQ.out.1.2.1).trans (HAT.out 2 _ rfl)
              have c2 := (k4.cell (p := ⟨wr.heap.size, 3, none⟩) (by simp) HQ.out.1.1 HQ.out.1.2.1).trans (HAT.out 3 _ rfl)
              have HF4 := Aside0.mk (HFA.out.keep k4 HLO.out.2.1 HLO.out.2.2 h4.be)
              have HL4 := Aside0.mk h4
              clear h4 k4
              go_wp2_with fail
              refine (HS.out.rf HF4.out).mono ?_
              rintro e w5 ⟨rfl, h5, k5⟩
              have HL5 := Aside0.mk (HL4.out.keep k5 HQ.out.2.1 HQ.out.2.1 h5.be)
              have HF5 := Aside0.mk h5
              clear h5 k5
              go_wp2_with fail
              refine (told_same HL5.out HF5.out).mono ?_
              rintro e w6 ⟨rfl, hb⟩
              have H6 := Aside0.mk (show Both w w2.heap.size w6 g a b q s N H from ⟨_, HL5.out.below hb, HF5.out.below hb HF5.out.be.size⟩)
              clear hb
              go_wp2
              go_roundw
              case rel => exact ⟨j + 1, by omega, by go_num, H6⟩
              case measure => simp [intOf]; omega
          · have b3 : (op == 3) = false := beq_eq_false_iff_ne.2 o3
            by_cases o4 : op = 4
            · subst o4
              as_aux_lemma =>
                obtain ⟨r, R', hs⟩ := rem_says N H R nd
                have HS := Aside0.mk hs; clear hs
                go_wp2_with fail
                refine (HS.out.lr HLA.out).mono ?_
                rintro e w4 ⟨rfl, h4, k4⟩
                have c1 := (k4.cell (p := ⟨wr.heap.size, 2, none⟩) (by simp) HQ.out.1.1 HQ.out.1.2.1).trans (HAT.out 2 _ rfl)
                have HF4 := Aside0.mk (HFA.out.keep k4 HLO.out.2.1 HLO.out.2.2 h4.be)
                have HL4 := Aside0.mk h4
                clear h4 k4
                go_wp2_with fail
                refine (HS.out.rf HF4.out).mono ?_
                rintro e w5 ⟨rfl, h5, k5⟩
                have HL5 := Aside0.mk (HL4.out.keep k5 HQ.out.2.1 HQ.out.2.1 h5.be)
                have HF5 := Aside0.mk h5
                clear h5 k5
                go_wp2_with fail
                refine (told_same HL5.out HF5.out).mono ?_
                rintro e w6 ⟨rfl, hb⟩
                have H6 := Aside0.mk (show Both w w2.heap.size w6 g a b q s N H from ⟨_, HL5.out.below hb, HF5.out.below hb HF5.out.be.size⟩)
                clear hb
                go_wp2
                go_roundw
                case rel => exact ⟨j + 1, by omega, by go_num, H6⟩
                case measure => simp [intOf]; omega
            · have b4 : (op == 4) = false := beq_eq_false_iff_ne.2 o4
              as_aux_lemma =>
                go_wp2_with fail
                refine (told_same HLA.out HFA.out).mono ?_
                rintro e w6 ⟨rfl, hb⟩
                have H6 := Aside0.mk (show Both w w2.heap.size w6 g a b q s N H from ⟨_, HLA.out.below hb, HFA.out.below hb HFA.out.be.size⟩)
                clear hb
                go_wp2
                go_roundw
                case rel => exact ⟨j + 1, by omega, by go_num, H6⟩
                case measure => simp [intOf]; omega
    · obtain rfl : j = len := by omega
      as_aux_lemma =>
        go_wp2
        go_ret
        exact ⟨rfl, HL.out.be⟩
set_option maxHeartbeats 2000000 in
set_option maxRecDepth 100000 in
theorem plays_skip (N H : Int) (A : Option Addr) (len cap : Nat) (hl9 : len ≤ 9223372036854775807) (w : World) (h : 60 < len ∨ (40 < N ∧ N ≤ 1024) ∨ (8 < H ∧ H ≤ 64)) :
    Calls Try.prog 7 #[.int .i64 N, .int .i64 H, .slice A len cap] w fun e w' => e = .returned (.bool true) ∧ Below w.heap.size w w' := by
  by_cases h1 : 60 < len
  · clear h
    go_enter Try.func7, Try.ntmps7
    go_wp2_with fail
    refine (known_calls w).mono ?_
    rintro e w1 ⟨rfl, h1⟩
    have H1 := Aside0.mk h1; clear h1
    go_wp2
    go_ret
    exact ⟨rfl, H1.out⟩
  · have h := h.resolve_left h1
    by_cases h2 : 40 < N ∧ N ≤ 1024
    · obtain ⟨h2, h3⟩ := h2
      clear h
      go_enter Try.func7, Try.ntmps7
      go_wp2_with fail
      refine (known_calls w).mono ?_
      rintro e w1 ⟨rfl, h1⟩
      have H1 := Aside0.mk h1; clear h1
      go_wp2
      go_ret
      exact ⟨rfl, H1.out⟩
    · obtain ⟨h3, h4⟩ := h.resolve_left h2
      clear h
      by_cases h5 : 40 < N
      · have h6 : ¬ N ≤ 1024 := by omega
        clear h2
        go_enter Try.func7, Try.ntmps7
        go_wp2_with fail
        refine (known_calls w).mono ?_
        rintro e w1 ⟨rfl, h1⟩
        have H1 := Aside0.mk h1; clear h1
        go_wp2
        go_ret
        exact ⟨rfl, H1.out⟩
      · clear h2
        go_enter Try.func7, Try.ntmps7
        go_wp2_with fail
        refine (known_calls w).mono ?_
        rintro e w1 ⟨rfl, h1⟩
        have H1 := Aside0.mk h1; clear h1
        go_wp2
        go_ret
        exact ⟨rfl, H1.out⟩
set_option maxHeartbeats 2000000 in
set_option maxRecDepth 100000 in
theorem plays_none (N H : Int) (A : Option Addr) (len cap : Nat) (hl : len ≤ 60) (w : World) (h1 : N ≤ 40 ∨ 1024 < N) (h2 : H ≤ 8 ∨ 64 < H) (h : N < 1 ∨ 1024 < N ∨ H < 1 ∨ 64 < H) :
    Calls Try.prog 7 #[.int .i64 N, .int .i64 H, .slice A len cap] w fun e w' => e = .returned (.bool true) ∧ Below w.heap.size w w' := by
  have HN := Aside0.mk h; clear h
  rcases h1 with h1 | h1 <;> rcases h2 with h2 | h2
  · go_enter Try.func7, Try.ntmps7
    go_wp2_with fail
    refine (known_calls w).mono ?_
    rintro e w1 ⟨rfl, hk⟩
    have HK := Aside0.mk hk; clear hk
    go_wp2_with fail
    refine (new_no N H HN.out _).mono ?_
    rintro e w2 ⟨rfl, rfl⟩
    go_wp2_with fail
    refine (new_ref_no N H HN.out _).mono ?_
    rintro e w2 ⟨rfl, rfl⟩
    go_wp2
    go_ret
    exact ⟨rfl, HK.out⟩
  · have h3 : 8 < H := by omega
    go_enter Try.func7, Try.ntmps7
    go_wp2_with fail
    refine (known_calls w).mono ?_
    rintro e w1 ⟨rfl, hk⟩
    have HK := Aside0.mk hk; clear hk
    go_wp2_with fail
    refine (new_no N H HN.out _).mono ?_
    rintro e w2 ⟨rfl, rfl⟩
    go_wp2_with fail
    refine (new_ref_no N H HN.out _).mono ?_
    rintro e w2 ⟨rfl, rfl⟩
    go_wp2
    go_ret
    exact ⟨rfl, HK.out⟩
  · have h3 : 40 < N := by omega
    go_enter Try.func7, Try.ntmps7
    go_wp2_with fail
    refine (known_calls w).mono ?_
    rintro e w1 ⟨rfl, hk⟩
    have HK := Aside0.mk hk; clear hk
    go_wp2_with fail
    refine (new_no N H HN.out _).mono ?_
    rintro e w2 ⟨rfl, rfl⟩
    go_wp2_with fail
    refine (new_ref_no N H HN.out _).mono ?_
    rintro e w2 ⟨rfl, rfl⟩
    go_wp2
    go_ret
    exact ⟨rfl, HK.out⟩
  · have h3 : 40 < N := by omega
    have h4 : 8 < H := by omega
    go_enter Try.func7, Try.ntmps7
    go_wp2_with fail
    refine (known_calls w).mono ?_
    rintro e w1 ⟨rfl, hk⟩
    have HK := Aside0.mk hk; clear hk
    go_wp2_with fail
    refine (new_no N H HN.out _).mono ?_
    rintro e w2 ⟨rfl, rfl⟩
    go_wp2_with fail
    refine (new_ref_no N H HN.out _).mono ?_
    rintro e w2 ⟨rfl, rfl⟩
    go_wp2
    go_ret
    exact ⟨rfl, HK.out⟩
theorem plays_walk (a0 a1 : Int) (A : Option Addr) (len cap : Nat) (F : Nat → Act5) (w : World) (_w0 : (Lit.int .i64 a0).wf = true) (_w1 : (Lit.int .i64 a1).wf = true) (w2 : Acts w A len cap F) :
    Calls Try.prog 7 #[.int .i64 a0, .int .i64 a1, .slice A len cap] w fun e w' => e = .returned (.bool true) ∧ Below w.heap.size w w' := by
  have hl : len ≤ 9223372036854775807 := by have := w2.1; have := w2.2.1; unfold maxLen at this; omega
  by_cases h : 60 < len ∨ (40 < a0 ∧ a0 ≤ 1024) ∨ (8 < a1 ∧ a1 ≤ 64)
  · exact plays_skip a0 a1 A len cap hl w h
  · by_cases h2 : a0 < 1 ∨ 1024 < a0 ∨ a1 < 1 ∨ 64 < a1
    · exact plays_none a0 a1 A len cap (by omega) w (by omega) (by omega) h2
    · obtain ⟨n, rfl⟩ : ∃ n : Nat, a0 = n := ⟨a0.toNat, by omega⟩
      obtain ⟨m, rfl⟩ : ∃ m : Nat, a1 = m := ⟨a1.toNat, by omega⟩
      exact plays_in n m (by omega) (by omega) A len cap F (by omega) w w2
end Go.Proofs.Yteiepbjajennkaa.ListHand
