/- Kinds of mutexes, as the document's. Conditions: none. -/
import Derived.Test.YteiepbjajennkaaConfRefs
namespace Go.Proofs.Yteiepbjajennkaa.ConfHand
set_option linter.unusedVariables false
set_option linter.unusedSimpArgs false
open Go.RowKit Go.Proofs.YteiepbjajennkaaW.PrintWords Go.Proofs.YteiepbjajennkaaW.PrintMore
/-- Rows of structs, cell by cell. -/
def rowsL (f : Nat → List Value) : Nat → List Value
  | 0 => []
  | k + 1 => rowsL f k ++ f k
theorem rowsL_len {f : Nat → List Value} {s : Nat} (hf : ∀ i, (f i).length = s) (k : Nat) : (rowsL f k).length = k * s := by
  induction k with
  | zero => simp [rowsL]
  | succ k ih => rw [rowsL, List.length_append, ih, hf, Nat.succ_mul]
theorem rowsL_get {f : Nat → List Value} {s : Nat} (hf : ∀ i, (f i).length = s) (k i j : Nat) (hi : i < k) (hj : j < s) : (rowsL f k)[i * s + j]? = (f i)[j]? := by
  induction k with
  | zero => omega
  | succ k ih =>
    have hl := rowsL_len hf k
    unfold rowsL
    by_cases h : i < k
    · have hlt : i * s + j < k * s := by
        have : (i + 1) * s ≤ k * s := Nat.mul_le_mul_right s h
        rw [Nat.succ_mul] at this; omega
      rw [List.getElem?_append_left (by rw [hl]; exact hlt)]; exact ih h
    · obtain rfl : i = k := by omega
      rw [List.getElem?_append_right (by rw [hl]; omega), hl]
      congr 1; omega
theorem recs_own {W : World} {A : Option Addr} {n c B e s : Nat} {f : Nat → List Value} (hf : ∀ i, (f i).length = s) (hs : 0 < s) (h : W.ownsRow B e s (.slice A n c) n (rowsL f n)) : Recs W A n s f := by
  intro hn
  rcases h.2 with ⟨_, h0⟩ | ⟨g, cp, cur, e, _⟩
  · omega
  · injection e with eA
    refine ⟨g, 0, eA, fun i hi j v hj => ?_⟩
    have hj3 : j < s := by rw [← hf i]; exact (List.getElem?_eq_some_iff.1 hj).1
    have := h.cells (g := g) (by rw [eA]; rfl) (i * s + j) v (by rw [rowsL_get hf n i j hi hj3]; exact hj)
    rw [Nat.zero_add]
    rw [add_plain] at this
    exact this
theorem info218' : (Try.prog.info? 218).map (fun i => (i.zero, i.size, i.bytes)) = some (some (.agg #[.int .i64 0, .int .i64 0]), 2, 16) := by kernel_rfl
theorem two_one' (a b : Int) : ∀ u ∈ [Value.int .i64 a, .int .i64 b], u.oneCell' = true := fun u hu => by simp at hu; rcases hu with rfl | rfl <;> rfl
theorem kinds_calls {W : World} {A : Option Addr} {n cp : Nat} (attr ceil : Nat → Int) (h : Recs W A n 2 fun i => [.int .i64 (attr i), .int .i64 (ceil i)]) (hn : n ≤ 1000) :
    Calls Try.prog 73 #[.slice A n cp] W fun e w' => (∃ A' cc, e = .returned (.slice A' n cc) ∧ w'.ownsRow W.heap.size 218 2 (.slice A' n cc) n (rowsL (fun i => [.int .i64 (attr i), .int .i64 (ceil i)]) n)) ∧ Below W.heap.size W w' := by
  obtain ⟨i0, hi, hz0, hz1, hz2⟩ := info_parts info218'
  have HI := Aside0.mk (And.intro hi (And.intro hz0 (And.intro hz1 hz2))); clear hi hz0 hz1 hz2
  have HF := Aside0.mk h; clear h
  go_enter Try.func73, Try.ntmps73
  go_wp2
  go_loopw [4, 3] (fun i v w' => ∃ k : Nat, k ≤ n ∧ i = .int .i64 k ∧ Aside0 (Below W.heap.size W w' ∧ w'.ownsRow W.heap.size 218 2 v k (rowsL (fun i => [.int .i64 (attr i), .int .i64 (ceil i)]) k))) (fun i _ _ => n - (intOf i).toNat)
  case atStart => exact ⟨0, Nat.zero_le _, rfl, Below.refl _ _, own_nil _ _ _ _⟩
  case round =>
    obtain ⟨k, hk, rfl, HBO⟩ := hrel
    by_cases hlt : k < n
    · have HB := Aside0.mk HBO.out.1
      have HO := Aside0.mk HBO.out.2
      obtain ⟨B, O, rfl, hc⟩ := HF.out (by omega)
      have x0 : W.cell? ⟨B, O + k * 2, none⟩ = some (.int .i64 (attr k)) := hc k hlt 0 _ rfl
      have x1 : W.cell? ⟨B, O + k * 2 + 1, none⟩ = some (.int .i64 (ceil k)) := hc k hlt 1 _ rfl
      have hBl := World.block_lt_of_cell? _ _ x0
      have y0 := (HB.out.cell (p := ⟨B, O + k * 2, none⟩) hBl).trans x0
      have y1 := (HB.out.cell (p := ⟨B, O + k * 2 + 1, none⟩) hBl).trans x1
      clear hc x0 x1
      have HQ := Aside0.mk (show k + 1 ≤ maxLen ∧ (k + 1) * 16 ≤ 140737488355328 by unfold maxLen; omega)
      go_wp2
      refine Rgn.wp_region_full ⟨[0], [], [1, 2, 3, 4, 5, 6, 7, 8, 9, 10, 11], [12], [13, 14], 15⟩ (by kernel_rfl) (by kernel_rfl) (by kernel_rfl) (by kernel_rfl) ?_
      simp only [List.map_cons, List.map_nil, List.getD_cons_succ, List.getD_cons_zero, List.drop_succ_cons, List.drop_zero]
      intro W2 B2 hW2 hB2
      have HS2 := Aside0.mk hB2
      rw [← hW2] at y0 y1
      rw [← hW2] at HB HO
      clear hW2 hB2
      repeat (go_big_quiet_step (fail))
      refine wpQuiet_nil ?_
      refine wpQuiet_nil ?_
      repeat (go_big_quiet_step (fail))
      refine wpQuiet_nil ?_
      intro nq
      refine Rgn.keep_step ?_
      go_wp2
      refine Rgn.keep_end (Rgn.grown.of (by rw [HS2.out]; exact below_alloc Rgn.below_drawn _)) (Rgn.keep_nil ?_)
      have HO1 := Aside0.mk ((own_drewN HO.out nq).alloc (.cells #[.int .i64 (attr k), .int .i64 (ceil k)] 218))
      have HB1 := Aside0.mk (below_alloc (below_drewN HB.out nq) (.cells #[.int .i64 (attr k), .int .i64 (ceil k)] 218))
      clear y0 y1
      go_wp2_with (at_builtin; refine wpList_append_own _ rfl _ _ 68 rfl W.heap.size 218 i0 (.agg #[.int .i64 0, .int .i64 0]) 2 16 Try.underlying68 HI.out.1 HI.out.2.1 HI.out.2.2.1 HI.out.2.2.2 rfl (by decide) _ _ _ rfl HO1.out ⟨W2.heap.size, 0, none⟩ 1 1 [.int .i64 (attr k), .int .i64 (ceil k)] rfl rfl (cells_new (W2.drewN nq) _ 218) (two_one' _ _) HQ.out.1 HQ.out.2 HB1.out.size ?_; intro v2 w3 hown2 hgrow2 _; have HB3 := Aside0.mk (pw_below_grown HB1.out _ HB1.out.size hgrow2 (fun j hj => own_base HO1.out j hj)); have HO3 := Aside0.mk hown2; clear hgrow2 hown2)
      refine Rgn.rest_end ?_
      go_wp2
      go_roundw
      case rel => exact ⟨k + 1, by omega, by go_num, HB3.out, HO3.out⟩
      case measure => simp [intOf]; omega
    · obtain rfl : k = n := by omega
      obtain ⟨A', cc, rfl⟩ := own_slice HBO.out.2
      go_wp2
      go_ret
      exact ⟨⟨A', cc, rfl, HBO.out.2⟩, HBO.out.1⟩
end Go.Proofs.Yteiepbjajennkaa.ConfHand
