/- The known configurations, the program's way. Conditions: none. -/
import Derived.Test.YteiepbjajennkaaConfLay
namespace Go.Proofs.Yteiepbjajennkaa.ConfHand
set_option linter.unusedVariables false
set_option linter.unusedSimpArgs false
open Go.RowKit Go.Proofs.YteiepbjajennkaaW.PrintWords Go.Proofs.YteiepbjajennkaaW.PrintMore
def noSl : SL := ⟨none, 0, 0⟩
def kc (b : Nat) : CF where
  tic := 1
  al := 0
  t := ⟨some ⟨b, 0, none⟩, 1, 1⟩
  s := noSl
  f := noSl
  d := noSl
  m := noSl
  p := ⟨some ⟨b + 1, 0, none⟩, 2, 2⟩
  y := noSl
  pri := fun _ => 5
  act := fun _ => false
  sb := fun _ => false
  cnt := fun _ => 0
  mst := fun _ => 0
  f0 := fun _ => false
  f1 := fun _ => false
  f2 := fun _ => false
  fb := fun _ => 0
  db := fun _ => false
  room := fun _ => 0
  attr := fun _ => 0
  ceil := fun _ => 0
  pb := fun _ => false
  blk := fun i => if i = 0 then 2 else 1
  siz := fun i => if i = 0 then 5 else 4
  per := fun _ => 0
  pha := fun _ => 0
  ys := fun _ => false
  yk := fun _ => false
def mc (b : Nat) : CF := { kc b with p := noSl, m := ⟨some ⟨b + 1, 0, none⟩, 1, 1⟩, attr := fun _ => 9 }
theorem no_recs (W : World) (sz : Nat) (f : Nat → List Value) : Recs W noSl.A noSl.n sz f := fun h => absurd h (Nat.lt_irrefl 0)
theorem kc_in {W : World} {b : Nat} (h0 : W.cell? ⟨b, 0, none⟩ = some (.int .i64 5)) (h1 : W.cell? ⟨b, 1, none⟩ = some (.bool false)) (hp : ∀ j v, #[Value.bool false, .int .i64 2, .int .i64 5, .bool false, .int .i64 1, .int .i64 4][j]? = some v → W.cell? ⟨b + 1, j, none⟩ = some v) : CFin W (kc b) := by
  refine ⟨fun _ => ⟨b, 0, rfl, fun i hi j v hj => ?_⟩, no_recs _ _ _, no_recs _ _ _, no_recs _ _ _, no_recs _ _ _, fun _ => ⟨b + 1, 0, rfl, fun i hi j v hj => ?_⟩, no_recs _ _ _⟩
  · obtain rfl : i = 0 := by have : i < 1 := hi; omega
    match j, hj with
    | 0, hj => exact h0.trans hj
    | 1, hj => exact h1.trans hj
    | j + 2, hj => exact absurd hj (by simp)
  · have hi2 : i = 0 ∨ i = 1 := by have : i < 2 := hi; omega
    have hj3 : j < 3 := by
      have := (List.getElem?_eq_some_iff.1 hj).1
      exact this
    have hj' : j = 0 ∨ j = 1 ∨ j = 2 := by omega
    rcases hi2 with rfl | rfl <;> rcases hj' with rfl | rfl | rfl <;> exact hp _ v hj
theorem mc_in {W : World} {b : Nat} (h0 : W.cell? ⟨b, 0, none⟩ = some (.int .i64 5)) (h1 : W.cell? ⟨b, 1, none⟩ = some (.bool false)) (h2 : W.cell? ⟨b + 1, 0, none⟩ = some (.int .i64 9)) (h3 : W.cell? ⟨b + 1, 1, none⟩ = some (.int .i64 0)) : CFin W (mc b) := by
  refine ⟨fun _ => ⟨b, 0, rfl, fun i hi j v hj => ?_⟩, no_recs _ _ _, no_recs _ _ _, no_recs _ _ _, fun _ => ⟨b + 1, 0, rfl, fun i hi j v hj => ?_⟩, no_recs _ _ _, no_recs _ _ _⟩
  · obtain rfl : i = 0 := by have : i < 1 := hi; omega
    match j, hj with
    | 0, hj => exact h0.trans hj
    | 1, hj => exact h1.trans hj
    | j + 2, hj => exact absurd hj (by simp)
  · obtain rfl : i = 0 := by have : i < 1 := hi; omega
    match j, hj with
    | 0, hj => exact h2.trans hj
    | 1, hj => exact h3.trans hj
    | j + 2, hj => exact absurd hj (by simp)
theorem no_next {r : List PS} {a : ByteArray} {b c : Int} (p : PS) (h0 : p.lo ≤ 0) (h1 : 0 ≤ p.hi) (hn : p.n = 0) (h : Says r a b c) : Says (p :: r) a b c :=
  .next (by omega) (by omega) (fun i hi => by omega) h
theorem no8 {r : List PS} {a : ByteArray} {b c : Int} (nm al : ByteArray) (code : Nat → Int) (h : Says r a b c) : Says (⟨nm, al, ((0 : Nat) : Int), 0, 8, code⟩ :: r) a b c :=
  no_next _ (show (0 : Int) ≤ 0 by decide) (show (0 : Int) ≤ 8 by decide) rfl h
theorem one_t {r : List PS} {a : ByteArray} {b c : Int} (nm al : ByteArray) (h : Says r a b c) : Says (⟨nm, al, ((1 : Nat) : Int), 1, 16, fun _ => taskC 5⟩ :: r) a b c :=
  .next (show (1 : Int) ≤ 1 by decide) (show (1 : Int) ≤ 16 by decide) (fun i hi => (by decide : taskC 5 = 0)) h
theorem kc_says (b : Nat) : Says (kc b).parts ⟨#[]⟩ 0 0 := by
  unfold CF.parts
  refine one_t _ _ ?_
  refine no8 _ _ _ ?_
  refine no8 _ _ _ ?_
  refine no8 _ _ _ ?_
  refine no8 _ _ _ ?_
  refine .next (show (0 : Int) ≤ 2 by decide) (show (2 : Int) ≤ 8 by decide) (fun i hi => ?_) ?_
  · have hi : (i : Int) < 2 := hi
    have hi2 : i = 0 ∨ i = 1 := by omega
    rcases hi2 with rfl | rfl
    · show poolC 0 2 5 = 0; decide
    · show poolC (nx 0 2 5) 1 4 = 0; decide
  refine no8 _ _ _ ?_
  refine no8 _ _ _ ?_
  exact .none
theorem mc_says (b : Nat) : Says (mc b).parts ⟨#[109, 116, 120]⟩ 1 (-17) := by
  unfold CF.parts
  refine one_t _ _ ?_
  refine no8 _ _ _ ?_
  refine no8 _ _ _ ?_
  refine no8 _ _ _ ?_
  exact Says.one (p := ⟨⟨#[109, 116, 120]⟩, ⟨#[109, 116, 120]⟩, 1, 0, 8, fun _ => mtxC 9 0⟩) (i := 0) (show (0 : Int) ≤ 1 by decide) (show (1 : Int) ≤ 8 by decide) (show (0 : Int) < 1 by decide) (show mtxC 9 0 ≠ 0 by decide) (fun j hj => absurd hj (by omega))
theorem kc_pg (b : Nat) : PG (kc b) := ⟨show 2 ≤ 8 by decide, fun i hi => by
  have hi : i ≤ 2 := hi
  have hi2 : i = 0 ∨ i = 1 ∨ i = 2 := by omega
  rcases hi2 with rfl | rfl | rfl
  · exact (by decide : (0 : Int) ≤ 0 ∧ (0 : Int) ≤ 65536 ∧ (0 : Int) % 4 = 0)
  · exact (by decide : 0 ≤ nx 0 2 5 ∧ nx 0 2 5 ≤ 65536 ∧ nx 0 2 5 % 4 = 0)
  · exact (by decide : 0 ≤ nx (nx 0 2 5) 1 4 ∧ nx (nx 0 2 5) 1 4 ≤ 65536 ∧ nx (nx 0 2 5) 1 4 % 4 = 0)⟩
theorem made_in (W : World) : CFin (((W.alloc (.cells #[.int .i64 5, .bool false] 79)).alloc (.cells #[.bool false, .int .i64 2, .int .i64 5, .bool false, .int .i64 1, .int .i64 4] 81)).alloc (.cells #[.int .i64 1, .slice (some ⟨W.heap.size, 0, none⟩) 1 1, .slice none 0 0, .slice none 0 0, .slice none 0 0, .slice none 0 0, .slice (some ⟨W.heap.size + 1, 0, none⟩) 2 2, .slice none 0 0, .int .i64 0] 58)) (kc W.heap.size) := by
  refine kc_in ?_ ?_ fun j v hj => ?_
  · rw [World.cell?_alloc_past _ _ _ (by simp; omega), World.cell?_alloc_past _ _ _ (by simp), World.cell?_alloc_at _ _ _ _ rfl]; rfl
  · rw [World.cell?_alloc_past _ _ _ (by simp; omega), World.cell?_alloc_past _ _ _ (by simp), World.cell?_alloc_at _ _ _ _ rfl]; rfl
  · rw [World.cell?_alloc_past _ _ _ (by simp), World.cell?_alloc_at _ _ _ _ (by simp)]
    exact hj
theorem made_box (W : World) (j : Nat) (v : Value) (h : (kc W.heap.size).vals[j]? = some v) : World.cell? (((W.alloc (.cells #[.int .i64 5, .bool false] 79)).alloc (.cells #[.bool false, .int .i64 2, .int .i64 5, .bool false, .int .i64 1, .int .i64 4] 81)).alloc (.cells #[.int .i64 1, .slice (some ⟨W.heap.size, 0, none⟩) 1 1, .slice none 0 0, .slice none 0 0, .slice none 0 0, .slice none 0 0, .slice (some ⟨W.heap.size + 1, 0, none⟩) 2 2, .slice none 0 0, .int .i64 0] 58)) ⟨W.heap.size + 1 + 1, j, none⟩ = some v := by
  rw [World.cell?_alloc_at _ _ _ _ (by simp)]
  exact h
theorem made_mc (W : World) : CFin ((W.alloc (.cells #[.int .i64 5, .bool false] 79)).alloc (.cells #[.int .i64 9, .int .i64 0] 89)) (mc W.heap.size) := by
  refine mc_in ?_ ?_ ?_ ?_
  · rw [World.cell?_alloc_past _ _ _ (by simp), World.cell?_alloc_at _ _ _ _ rfl]; rfl
  · rw [World.cell?_alloc_past _ _ _ (by simp), World.cell?_alloc_at _ _ _ _ rfl]; rfl
  · rw [World.cell?_alloc_at _ _ _ _ (by simp)]; rfl
  · rw [World.cell?_alloc_at _ _ _ _ (by simp)]; rfl
set_option maxHeartbeats 1000000 in
theorem known_calls (W : World) : Calls Try.prog 31 #[] W fun e w' => e = .returned (.bool true) ∧ Below W.heap.size W w' := by
  have HM := Aside0.mk (made_in W)
  go_enter Try.func31, Try.ntmps31
  go_wp2_with fail
  refine (check_calls (c := kc W.heap.size) HM.out).mono ?_
  rintro e w1 ⟨⟨a, n, r, rfl, hans⟩, hbe⟩
  have hans : Says (kc W.heap.size).parts a n r := by unfold Ans at hans; rwa [if_pos ⟨(by decide : (1 : Int) ≤ 1), (by decide : (1 : Int) ≤ 1000)⟩] at hans
  obtain ⟨rfl, rfl, rfl⟩ := hans.unique (kc_says _)
  clear hans
  have B1 := Aside0.mk hbe; clear hbe
  have M1 := Aside0.mk (HM.out.below B1.out)
  have f : ∀ j v, (kc W.heap.size).vals[j]? = some v → w1.cell? ⟨W.heap.size + 1 + 1, j, none⟩ = some v := fun j v h => (B1.out.cell (p := ⟨W.heap.size + 1 + 1, j, none⟩) (by simp)).trans (made_box W j v h)
  have f0 := f 0 (.int .i64 1) rfl
  have f1 := f 1 (.slice (some ⟨W.heap.size, 0, none⟩) 1 1) rfl
  have f2 := f 2 (.slice none 0 0) rfl
  have f3 := f 3 (.slice none 0 0) rfl
  have f4 := f 4 (.slice none 0 0) rfl
  have f5 := f 5 (.slice none 0 0) rfl
  have f6 := f 6 (.slice (some ⟨W.heap.size + 1, 0, none⟩) 2 2) rfl
  have f7 := f 7 (.slice none 0 0) rfl
  have f8 := f 8 (.int .i64 0) rfl
  clear f
  go_wp2_with fail
  refine (layout_calls (c := kc W.heap.size) M1.out (kc_pg _)).mono ?_
  rintro e w2 ⟨⟨A, cc, he, hrd⟩, hbe⟩
  have he : e = .returned (.slice A 2 cc) := he
  subst he
  have B2 := Aside0.mk (below_next B1.out hbe); clear hbe
  have hrd : ReadsInt w2 .i64 A 2 [0, 16] := hrd
  have HRD := Aside0.mk hrd; clear hrd
  have M2 := Aside0.mk (HM.out.below B2.out)
  clear f0 f1 f2 f3 f4 f5 f6 f7 f8
  go_wp2_with fail
  have B3a := Aside0.mk (below_alloc (below_alloc (Below.refl w2.heap.size w2) (.cells #[.int .i64 5, .bool false] 79)) (.cells #[.int .i64 9, .int .i64 0] 89))
  refine (check_calls (c := mc w2.heap.size) (made_mc w2)).mono ?_
  rintro e w3 ⟨⟨a, n, r, rfl, hans⟩, hbe⟩
  have hans : Says (mc w2.heap.size).parts a n r := by unfold Ans at hans; rwa [if_pos ⟨(by decide : (1 : Int) ≤ 1), (by decide : (1 : Int) ≤ 1000)⟩] at hans
  obtain ⟨rfl, rfl, rfl⟩ := hans.unique (mc_says _)
  clear hans
  have B3 := Aside0.mk (below_up B3a.out hbe B3a.out.size); clear hbe
  have B4 := Aside0.mk (below_next B2.out B3.out)
  have M3 := Aside0.mk (HM.out.below B4.out)
  have HRD3 := HRD.out.below B3.out
  obtain ⟨ad, rfl, hcell⟩ := HRD3.2.2 (by decide)
  have hc1 : w3.cell? ⟨ad.block, ad.off + 1, none⟩ = some (.int .i64 16) := hcell 1 (by decide)
  clear hcell HRD3
  have g : ∀ j v, (kc W.heap.size).vals[j]? = some v → w3.cell? ⟨W.heap.size + 1 + 1, j, none⟩ = some v := fun j v h => (B4.out.cell (p := ⟨W.heap.size + 1 + 1, j, none⟩) (by simp)).trans (made_box W j v h)
  have g0 := g 0 (.int .i64 1) rfl
  have g1 := g 1 (.slice (some ⟨W.heap.size, 0, none⟩) 1 1) rfl
  have g2 := g 2 (.slice none 0 0) rfl
  have g3 := g 3 (.slice none 0 0) rfl
  have g4 := g 4 (.slice none 0 0) rfl
  have g5 := g 5 (.slice none 0 0) rfl
  have g6 := g 6 (.slice (some ⟨W.heap.size + 1, 0, none⟩) 2 2) rfl
  have g7 := g 7 (.slice none 0 0) rfl
  have g8 := g 8 (.int .i64 0) rfl
  clear g
  go_wp2_with fail
  refine (bytes_calls (c := kc W.heap.size) M3.out (kc_pg _)).mono ?_
  rintro e w4 ⟨he, hbe⟩
  have he : e = .returned (.int .i64 20) := he
  subst he
  have B5 := Aside0.mk (below_up (below_alloc (below_alloc (below_alloc (Below.refl W.heap.size W) (.cells #[.int .i64 5, .bool false] 79)) (.cells #[.bool false, .int .i64 2, .int .i64 5, .bool false, .int .i64 1, .int .i64 4] 81)) (.cells (kc W.heap.size).vals 58)) (below_next B4.out hbe) (by simp; omega)); clear hbe
  go_wp2
  go_ret
  exact ⟨rfl, B5.out⟩
end Go.Proofs.Yteiepbjajennkaa.ConfHand
