/- Nodes are put behind a row, ahead of it. Conditions: none. -/
import Derived.Test.YteiepbjajennkaaListRep
namespace Go.Proofs.Yteiepbjajennkaa.ListHand
set_option linter.unusedVariables false
open Go.RowKit Go.Proofs.YteiepbjajennkaaW.PrintWords
variable {w0 W : World} {g a b N H : Nat} {R : Nat → List Nat}
def ints (xs : List Nat) : List Int := xs.map fun x : Nat => (x : Int)
theorem ints_len (xs : List Nat) : (ints xs).length = xs.length := by simp [ints]
theorem ints_get (xs : List Nat) (j : Nat) (h : j < xs.length) : (ints xs)[j]'(by rw [ints_len]; exact h) = (xs[j] : Int) := by simp [ints]
theorem ReadsInt.kb {w' : World} {A : Option Addr} {n : Nat} {xs : List Int} (h : ReadsInt W .i64 A n xs) (k : KB W w' a b) (hA : ∀ ad, A = some ad → ad.block ≠ a ∧ ad.block ≠ b) : ReadsInt w' .i64 A n xs := by
  refine ⟨h.1, h.2.1, fun hn => ?_⟩
  obtain ⟨ad, e, hc⟩ := h.2.2 hn
  obtain ⟨h1, h2⟩ := hA ad e
  refine ⟨ad, e, fun j hj => ?_⟩
  have c := hc j hj
  have hl := World.block_lt_of_cell? W _ c
  rw [k.cell hl (by rw [add_block]; exact h1) (by rw [add_block]; exact h2)]
  exact c
/-- What the heads' cells hold. -/
theorem LR.cells (h : LR w0 W g a b N H R) {x : Nat} (hx : x < H) : W.cell? ⟨g, 1, none⟩ = some (.slice (some ⟨b, 0, none⟩) H H) ∧ W.cell? ⟨b, x * 3, none⟩ = some (.int .i64 (atI (R x) 0)) ∧
    W.cell? ⟨b, x * 3 + 1, none⟩ = some (.int .i64 (preI (R x) (R x).length)) ∧ W.cell? ⟨b, x * 3 + 2, none⟩ = some (.int .i64 ((R x).length : Int)) := by
  obtain ⟨ca, cb, h1, h2⟩ := h
  have e := h2.heads x hx
  have d0 : cb (x * 3) = atI (R x) 0 := congrArg (·.1) e
  have d1 : cb (x * 3 + 1) = preI (R x) (R x).length := congrArg (·.2.1) e
  have d2 : cb (x * 3 + 2) = ((R x).length : Int) := congrArg (·.2.2) e
  exact ⟨h1.cg1, by rw [← d0]; exact h1.cb _ (by omega), by rw [← d1]; exact h1.cb _ (by omega), by rw [← d2]; exact h1.cb _ (by omega)⟩
theorem LR.bounds (h : LR w0 W g a b N H R) : 1 ≤ N ∧ N ≤ 1024 ∧ 1 ≤ H ∧ H ≤ 64 := by obtain ⟨_, _, h1, _⟩ := h; exact ⟨h1.N0, h1.N1, h1.H0, h1.H1⟩
theorem insertIdx_end (l : List Nat) (x : Nat) : l.insertIdx l.length x = l ++ [x] := by
  induction l with
  | nil => rfl
  | cons y l ih => simp [ih]
theorem setR_setR (R : Nat → List Nat) (h : Nat) (l l' : List Nat) : setR (setR R h l) h l' = setR R h l' := by
  funext j; unfold setR; split <;> rfl
theorem setR_self (R : Nat → List Nat) (h : Nat) : setR R h (R h) = R := by
  funext j; unfold setR; split
  · rename_i e; rw [e]
  · rfl
set_option maxHeartbeats 2000000 in
theorem back_calls (h : LR w0 W g a b N H R) (x : Nat) (hx : x < H) (xs : List Nat) (hN : ∀ n ∈ xs, n < N) (hfree : ∀ n ∈ xs, ∀ j, j < H → n ∉ R j) (hdup : xs.Nodup) (hlen : xs.length ≤ 1000) (A : Option Addr) (c m : Nat) (hm : m = xs.length) (hr : ReadsInt W .i64 A xs.length (ints xs)) (hA : ∀ ad, A = some ad → ad.block ≠ a ∧ ad.block ≠ b) :
    Calls Try.prog 15 #[.pointer (some ⟨g, 0, none⟩), .int .i64 x, .slice A m c] W fun e w' => e = .returned (.int .i64 0) ∧ LR w0 w' g a b N H (setR R x (R x ++ xs)) ∧ KB W w' a b := by
  subst hm
  have HL := Aside0.mk h; clear h
  have HR := Aside0.mk hr; clear hr
  have HN := Aside0.mk hN; clear hN
  have HF := Aside0.mk hfree; clear hfree
  have HD := Aside0.mk hdup; clear hdup
  have HA := Aside0.mk hA; clear hA
  obtain ⟨N0, N1, H0, H1⟩ := HL.out.bounds
  go_enter Try.func15, Try.ntmps15
  go_wp2_with fail
  obtain ⟨ca, cb, hl1, hl2⟩ := HL.out
  have hil := ints_len xs
  refine (may_all hl1 x hx (ints xs) (by omega) A c _ hil.symm (by rw [hil]; exact HR.out) (fun y hy => by
    obtain ⟨n, hn, rfl⟩ := List.mem_map.1 hy
    have := HN.out n hn
    exact ⟨by omega, by omega⟩) xs.length (by omega) (fun j hj => by
    have hj2 : j < xs.length := by omega
    rw [ints_get xs j hj2, Int.toNat_natCast]
    have hm := List.getElem_mem hj2
    refine ⟨(hl2.inn (HN.out _ hm)).2 (HF.out _ hm), fun hin => ?_⟩
    unfold ints at hin
    rw [← List.map_take] at hin
    obtain ⟨n, hn, e⟩ := List.mem_map.1 hin
    obtain ⟨i, hi, e2⟩ := List.mem_take_iff_getElem.1 hn
    have e3 : n = xs[j] := by omega
    have := (List.getElem_inj HD.out).1 (e2.trans e3)
    omega) (fun hj => by omega) 0 (by rw [if_neg (by omega)])).mono ?_
  rintro e w1 ⟨rfl, hb1⟩
  have HL1 := Aside0.mk (HL.out.below hb1)
  have HK1 := Aside0.mk (KB.of_below hb1 a b)
  have HR1 := Aside0.mk (HR.out.below hb1)
  clear hl1 hl2 hb1 hil
  go_wp2
  go_loopw [19] (fun i w' => ∃ j : Nat, j ≤ xs.length ∧ i = .int .i64 j ∧ Aside0 (LR w0 w' g a b N H (setR R x (R x ++ xs.take j))) ∧ Aside0 (KB W w' a b)) (fun i _ => xs.length - (intOf i).toNat)
  case atStart => exact ⟨0, Nat.zero_le _, rfl, ⟨by rw [List.take_zero, List.append_nil, setR_self]; exact HL1.out⟩, HK1⟩
  case round =>
    obtain ⟨j, hj, rfl, HLj, HKj⟩ := hrel
    by_cases hlt : j < xs.length
    · obtain ⟨ad, hAd, hcell⟩ := (ReadsInt.kb HR.out HKj.out HA.out).2.2 (by omega)
      have hxj := hcell j hlt
      subst hAd
      have hg : (ints xs).getD j 0 = (xs[j] : Int) := by
        have : j < (ints xs).length := by rw [ints_len]; exact hlt
        rw [List.getD_eq_getElem?_getD, List.getElem?_eq_getElem this, Option.getD_some, ints_get xs j hlt]
      rw [hg] at hxj
      clear hcell hg
      obtain ⟨c1, c2, c3, c4⟩ := HLj.out.cells hx
      rw [setR_at] at c2 c3 c4
      have HT := Aside0.mk (List.take_succ_eq_append_getElem hlt)
      have hm := List.getElem_mem hlt
      have hnN := HN.out _ hm
      have HFR := Aside0.mk (show ∀ i, i < H → xs[j] ∉ setR R x (R x ++ xs.take j) i from fun i hi hin => by
        by_cases e : i = x
        · subst e
          rw [setR_at] at hin
          rcases List.mem_append.1 hin with q | q
          · exact HF.out _ hm i hi q
          · obtain ⟨i', hi', e2⟩ := List.mem_take_iff_getElem.1 q
            have := (List.getElem_inj HD.out).1 e2
            omega
        · rw [setR_ne _ _ e] at hin
          exact HF.out _ hm i hi hin)
      have HP := Aside0.mk (HLj.out.put x (R x ++ xs.take j).length xs[j] hx (by rw [setR_at]; exact Nat.le_refl _) hnN HFR.out _ (-1) rfl (by rw [setR_at]; exact atI_none (Nat.le_refl _)))
      rw [setR_at, insertIdx_end, setR_setR, List.append_assoc, ← HT.out] at HP
      clear HFR hm HT
      generalize xs[j] = n at *
      generalize preI (R x ++ xs.take j) (R x ++ xs.take j).length = v at *
      clear c2 c4
      go_wp2_with fail
      refine HP.out.mono ?_
      rintro e w2 ⟨rfl, h2, k2⟩
      have H2 := Aside0.mk h2
      have K2 := Aside0.mk (HKj.out.trans k2)
      clear h2 k2
      go_wp2
      go_roundw
      case rel => exact ⟨j + 1, by omega, by go_num, H2, K2⟩
      case measure => simp [intOf]; omega
    · obtain rfl : j = xs.length := by omega
      rw [List.take_length] at HLj
      go_wp2
      go_ret
      exact ⟨rfl, HLj.out, HKj.out⟩
end Go.Proofs.Yteiepbjajennkaa.ListHand
