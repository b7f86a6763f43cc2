/- A configuration of pools alone. Conditions: none. -/
import Derived.Test.YteiepbjajennkaaConfKnown
namespace Go.Proofs.Yteiepbjajennkaa.ConfHand
set_option linter.unusedVariables false
set_option linter.unusedSimpArgs false
open Go.RowKit Go.Proofs.YteiepbjajennkaaW.PrintWords Go.Proofs.YteiepbjajennkaaW.PrintMore
/-- Pools as they lie. -/
def poolsL (blk siz : Nat → Int) : Nat → List Value
  | 0 => []
  | k + 1 => poolsL blk siz k ++ [.bool false, .int .i64 (blk k), .int .i64 (siz k)]
theorem poolsL_len (blk siz : Nat → Int) (k : Nat) : (poolsL blk siz k).length = k * 3 := by
  induction k with
  | zero => rfl
  | succ k ih => simp [poolsL, ih]; omega
theorem poolsL_get (blk siz : Nat → Int) (k i j : Nat) (hi : i < k) (hj : j < 3) : (poolsL blk siz k)[i * 3 + j]? = [Value.bool false, .int .i64 (blk i), .int .i64 (siz i)][j]? := by
  induction k with
  | zero => omega
  | succ k ih =>
    have hl := poolsL_len blk siz k
    unfold poolsL
    by_cases h : i < k
    · rw [List.getElem?_append_left (by rw [hl]; omega)]; exact ih h
    · obtain rfl : i = k := by omega
      rw [List.getElem?_append_right (by rw [hl]; omega), hl]
      congr 1; omega
def pc (b : Nat) (A : Option Addr) (n cap : Nat) (blk siz : Nat → Int) : CF :=
  { kc b with p := ⟨A, n, cap⟩, pri := fun _ => 1, blk := blk, siz := siz }
/-- How many bytes so many pools take. -/
def tot (blk siz : Nat → Int) : Nat → Int
  | 0 => 0
  | k + 1 => tot blk siz k + blk k * al (siz k)
theorem pools_at (blk siz : Nat → Int) (n : Nat) (hn : n ≤ 8) (hb : ∀ i, i < n → 1 ≤ blk i ∧ blk i ≤ 16 ∧ 1 ≤ siz i ∧ siz i ≤ 256) (k : Nat) (hk : k ≤ n) : 0 ≤ atP blk siz k ∧ atP blk siz k ≤ 4096 * k ∧ atP blk siz k % 4 = 0 ∧ (k < n → poolC (atP blk siz k) (blk k) (siz k) = 0 ∧ atP blk siz (k + 1) = atP blk siz k + blk k * al (siz k)) := by
  induction k with
  | zero =>
    refine ⟨Int.le_refl _, Int.le_refl _, rfl, fun hk => ?_⟩
    obtain ⟨b1, b2, b3, b4⟩ := hb 0 hk
    have ha := al_bd (siz 0) (by omega)
    have hp := mul_bd (a := blk 0) (b := al (siz 0)) (m := 16) (n := 256) (by omega) (by omega) (by omega) (by have := b4; unfold al; omega)
    have e : atP blk siz 0 = 0 := rfl
    have e1 : poolC (atP blk siz 0) (blk 0) (siz 0) = 0 := by rw [e]; unfold poolC; rw [if_neg (by omega)]
    exact ⟨e1, (nx_good (by rw [e]; omega) (by rw [e]; omega) (by rw [e]; rfl) e1).2.2.2⟩
  | succ k ih =>
    obtain ⟨h0, h1, h2, h3⟩ := ih (by omega)
    obtain ⟨h4, h5⟩ := h3 (by omega)
    obtain ⟨b1, b2, b3, b4⟩ := hb k (by omega)
    have ha := al_bd (siz k) (by omega)
    have hp := mul_bd (a := blk k) (b := al (siz k)) (m := 16) (n := 256) (by omega) (by omega) (by omega) (by unfold al; omega)
    obtain ⟨n0, n1, n2, _⟩ := nx_good h0 (by omega) h2 h4
    have e : atP blk siz (k + 1) = nx (atP blk siz k) (blk k) (siz k) := rfl
    refine ⟨by omega, by rw [h5]; push_cast; omega, by rw [e]; exact n2, fun hk => ?_⟩
    obtain ⟨b1, b2, b3, b4⟩ := hb (k + 1) hk
    have ha := al_bd (siz (k + 1)) (by omega)
    have hp2 := mul_bd (a := blk (k + 1)) (b := al (siz (k + 1))) (m := 16) (n := 256) (by omega) (by omega) (by omega) (by unfold al; omega)
    have hle : atP blk siz (k + 1) ≤ 32768 := by rw [h5]; omega
    have e1 : poolC (atP blk siz (k + 1)) (blk (k + 1)) (siz (k + 1)) = 0 := by unfold poolC; rw [if_neg (by omega)]
    exact ⟨e1, (nx_good (by omega) (by omega) (by rw [e]; exact n2) e1).2.2.2⟩
theorem pc_says (b : Nat) (A : Option Addr) (n cap : Nat) (blk siz : Nat → Int) (hn : n ≤ 8) (hb : ∀ i, i < n → 1 ≤ blk i ∧ blk i ≤ 16 ∧ 1 ≤ siz i ∧ siz i ≤ 256) : Says (pc b A n cap blk siz).parts ⟨#[]⟩ 0 0 := by
  unfold CF.parts
  refine .next (show (1 : Int) ≤ 1 by decide) (show (1 : Int) ≤ 16 by decide) (fun i hi => (by decide : taskC 1 = 0)) ?_
  refine no8 _ _ _ ?_
  refine no8 _ _ _ ?_
  refine no8 _ _ _ ?_
  refine no8 _ _ _ ?_
  refine .next (show (0 : Int) ≤ n by omega) (show (n : Int) ≤ 8 by omega) (fun i hi => ?_) ?_
  · have hi : (i : Int) < n := hi
    exact ((pools_at blk siz n hn hb i (by omega)).2.2.2 (by omega)).1
  refine no8 _ _ _ ?_
  refine no8 _ _ _ ?_
  exact .none
theorem pc_pg (b : Nat) (A : Option Addr) (n cap : Nat) (blk siz : Nat → Int) (hn : n ≤ 8) (hb : ∀ i, i < n → 1 ≤ blk i ∧ blk i ≤ 16 ∧ 1 ≤ siz i ∧ siz i ≤ 256) : PG (pc b A n cap blk siz) :=
  ⟨hn, fun i hi => by
    have hi : i ≤ n := hi
    obtain ⟨h0, h1, h2, _⟩ := pools_at blk siz n hn hb i hi
    exact ⟨h0, by show atP blk siz i ≤ 65536; omega, h2⟩⟩
theorem add_none (g m : Nat) : (⟨g, 0, none⟩ : Addr).add m = ⟨g, m, none⟩ := by
  unfold Addr.add
  split
  · rename_i h; rw [h]
  · simp
theorem pc_in {W : World} {b : Nat} {A : Option Addr} {n cap B : Nat} {blk siz : Nat → Int} (h0 : W.cell? ⟨b, 0, none⟩ = some (.int .i64 1)) (h1 : W.cell? ⟨b, 1, none⟩ = some (.bool false)) (ho : W.ownsRow B 81 3 (.slice A n cap) n (poolsL blk siz n)) : CFin W (pc b A n cap blk siz) := by
  refine ⟨fun _ => ⟨b, 0, rfl, fun i hi j v hj => ?_⟩, no_recs _ _ _, no_recs _ _ _, no_recs _ _ _, no_recs _ _ _, fun hn => ?_, no_recs _ _ _⟩
  · obtain rfl : i = 0 := by have : i < 1 := hi; omega
    match j, hj with
    | 0, hj => exact h0.trans hj
    | 1, hj => exact h1.trans hj
    | j + 2, hj => exact absurd hj (by simp)
  · have hn : 0 < n := hn
    rcases ho.2 with ⟨_, h0⟩ | ⟨g, cp, cur, e, _⟩
    · omega
    · injection e with eA
      refine ⟨g, 0, eA, fun i hi j v hj => ?_⟩
      have hi : i < n := hi
      have hj3 : j < 3 := (List.getElem?_eq_some_iff.1 hj).1
      have := ho.cells (g := g) (by rw [eA]; rfl) (i * 3 + j) v (by rw [poolsL_get blk siz n i j hi hj3]; exact hj)
      rw [Nat.zero_add]
      rw [add_none] at this
      exact this
end Go.Proofs.Yteiepbjajennkaa.ConfHand
