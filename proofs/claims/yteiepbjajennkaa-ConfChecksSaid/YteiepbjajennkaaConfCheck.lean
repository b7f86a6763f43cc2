/- What is wrong of a configuration, the program's way. Conditions: none. -/
import Derived.Test.YteiepbjajennkaaConfCheck0
namespace Go.Proofs.Yteiepbjajennkaa.ConfHand
set_option linter.unusedVariables false
set_option linter.unusedSimpArgs false
open Go.RowKit Go.Proofs.YteiepbjajennkaaW.PrintWords Go.Proofs.YteiepbjajennkaaW.PrintMore
theorem parts_bd (c : CF) (k : Nat) (hk : k < 8) : 0 ≤ (c.parts.getD k default).lo ∧ (c.parts.getD k default).hi ≤ 1000 := by
  have hk' : k = 0 ∨ k = 1 ∨ k = 2 ∨ k = 3 ∨ k = 4 ∨ k = 5 ∨ k = 6 ∨ k = 7 := by omega
  rcases hk' with rfl | rfl | rfl | rfl | rfl | rfl | rfl | rfl
  · exact ⟨(by decide : (0 : Int) ≤ 1), (by decide : (16 : Int) ≤ 1000)⟩
  all_goals exact ⟨(by decide : (0 : Int) ≤ 0), (by decide : (8 : Int) ≤ 1000)⟩
def partsA (c : CF) (b a7 h5 : Nat) : Array Value := #[
  .string ⟨#[116, 97, 115, 107]⟩, .string ⟨#[116, 97, 115, 107, 115]⟩, .int .i64 (c.t.n : Int), .int .i64 1, .int .i64 16, .func (.func 51) #[] #[.pointer (some ⟨b, 0, none⟩)],
  .string ⟨#[115, 101, 109]⟩, .string ⟨#[115, 101, 109]⟩, .int .i64 (c.s.n : Int), .int .i64 0, .int .i64 8, .func (.func 53) #[] #[.pointer (some ⟨b, 0, none⟩)],
  .string ⟨#[102, 108, 97, 103]⟩, .string ⟨#[102, 108, 97, 103]⟩, .int .i64 (c.f.n : Int), .int .i64 0, .int .i64 8, .func (.func 55) #[] #[],
  .string ⟨#[100, 97, 116, 97]⟩, .string ⟨#[100, 97, 116, 97]⟩, .int .i64 (c.d.n : Int), .int .i64 0, .int .i64 8, .func (.func 56) #[] #[.pointer (some ⟨b, 0, none⟩)],
  .string ⟨#[109, 116, 120]⟩, .string ⟨#[109, 116, 120]⟩, .int .i64 (c.m.n : Int), .int .i64 0, .int .i64 8, .func (.func 58) #[] #[.pointer (some ⟨b, 0, none⟩)],
  .string ⟨#[112, 111, 111, 108]⟩, .string ⟨#[112, 111, 111, 108]⟩, .int .i64 (c.p.n : Int), .int .i64 0, .int .i64 8, .func (.func 60) #[] #[.pointer (some ⟨a7, 0, none⟩), .pointer (some ⟨b, 0, none⟩)],
  .string ⟨#[99, 121, 99]⟩, .string ⟨#[99, 121, 99]⟩, .int .i64 (c.y.n : Int), .int .i64 0, .int .i64 8, .func (.func 63) #[] #[.pointer (some ⟨b, 0, none⟩), .pointer (some ⟨h5, 0, none⟩)],
  .string ⟨#[97, 108, 97, 114, 109]⟩, .string ⟨#[97, 108, 97, 114, 109]⟩, .int .i64 c.al, .int .i64 0, .int .i64 8, .func (.func 55) #[] #[]]
theorem parts_lie (c : CF) (b a7 h5 : Nat) (w : World) (k : Nat) (hk : k < 8) (j : Nat) (v : Value) (hv : (partV (c.parts.getD k default) (fidOf k) (capsOf b a7 h5 k))[j]? = some v) : (w.alloc (.cells (partsA c b a7 h5) 119)).cell? ⟨w.heap.size, k * 6 + j, none⟩ = some v := by
  rw [World.cell?_alloc_at _ _ _ _ rfl]
  show (partsA c b a7 h5)[k * 6 + j]? = some v
  have hj : j < 6 := by
    have := (List.getElem?_eq_some_iff.1 hv).1
    exact this
  have hj' : j = 0 ∨ j = 1 ∨ j = 2 ∨ j = 3 ∨ j = 4 ∨ j = 5 := by omega
  have hk' : k = 0 ∨ k = 1 ∨ k = 2 ∨ k = 3 ∨ k = 4 ∨ k = 5 ∨ k = 6 ∨ k = 7 := by omega
  rcases hk' with rfl | rfl | rfl | rfl | rfl | rfl | rfl | rfl <;> rcases hj' with rfl | rfl | rfl | rfl | rfl | rfl <;> exact hv
/-- What is said of a configuration. -/
def Ans (c : CF) (a : ByteArray) (n r : Int) : Prop := if 1 ≤ c.tic ∧ c.tic ≤ 1000 then Says c.parts a n r else a = ⟨#[116, 105, 99]⟩ ∧ n = 0 ∧ r = -17
def CheckSays (c : CF) (W : World) (e : Ending) (w' : World) : Prop := (∃ a n r, e = .returned (.tuple #[.string a, .int .i64 n, .int .i64 r]) ∧ Ans c a n r) ∧ Below W.heap.size W w'
theorem check_no {c : CF} {W : World} (h : ¬ (1 ≤ c.tic ∧ c.tic ≤ 1000)) : Calls Try.prog 33 #[.agg #[.int .i64 c.tic, .slice c.t.A c.t.n c.t.c, .slice c.s.A c.s.n c.s.c, .slice c.f.A c.f.n c.f.c, .slice c.d.A c.d.n c.d.c, .slice c.m.A c.m.n c.m.c, .slice c.p.A c.p.n c.p.c, .slice c.y.A c.y.n c.y.c, .int .i64 c.al]] W (CheckSays c W) := by
  have H := Aside0.mk h; clear h
  go_enter Try.func33, Try.ntmps33
  go_wp2_with fail
  refine (hands_no c.tic (by have := H.out; omega) _).mono ?_
  rintro e w' ⟨rfl, rfl⟩
  go_wp2
  go_ret3
  exact ⟨⟨_, _, _, rfl, by unfold Ans; rw [if_neg H.out]; exact ⟨rfl, rfl, rfl⟩⟩, below_alloc (below_alloc (Below.refl _ _) _) _⟩
set_option maxHeartbeats 1000000 in
set_option maxRecDepth 100000 in
theorem check_yes {c : CF} {W : World} (h : CFin W c) (h0 : 1 ≤ c.tic) (h1 : c.tic ≤ 1000) : Calls Try.prog 33 #[.agg #[.int .i64 c.tic, .slice c.t.A c.t.n c.t.c, .slice c.s.A c.s.n c.s.c, .slice c.f.A c.f.n c.f.c, .slice c.d.A c.d.n c.d.c, .slice c.m.A c.m.n c.m.c, .slice c.p.A c.p.n c.p.c, .slice c.y.A c.y.n c.y.c, .int .i64 c.al]] W (CheckSays c W) := by
  have HF := Aside0.mk h; clear h
  have HT := Aside0.mk (And.intro h0 h1); clear h0 h1
  go_enter Try.func33, Try.ntmps33
  go_wp2_with fail
  refine (hands_yes c.tic HT.out.1 HT.out.2 _).mono ?_
  rintro e w1 ⟨rfl, hd, q, hs⟩
  have hs : w1.heap.size = W.heap.size + 4 := by simpa using hs
  have HE := Aside0.mk (env_made (c := c) (w1 := w1) HF.out (fun C hC => by have := hd C (by simp; omega); simpa using this) (show Below (W.heap.size + 1) (W.alloc (.cells c.vals 58)) w1 by rw [World.size_alloc] at q; exact q) hs)
  have HQ := Aside0.mk (below_up (below_alloc (Below.refl W.heap.size W) (.cells c.vals 58)) q (by simp))
  have HS := Aside0.mk hs
  clear hd q hs
  go_wp2
  refine Rgn.wp_region_grow [0, 1, 2, 3, 4, 5, 6, 7, 8, 9, 10, 11, 12, 13, 14, 15, 16, 17, 18, 19, 20, 21, 22, 23, 24, 25, 26, 27, 28, 29, 30, 31, 32, 33, 34, 35, 36] [37, 38] 39 (by kernel_rfl) (by kernel_rfl) ?_
  simp only [List.map_cons, List.map_nil, List.getD_cons_succ, List.getD_cons_zero, List.drop_succ_cons, List.drop_zero]
  intro W2 B2 hW2 hB2
  rw [← hW2] at HE
  have HB := Aside0.mk hB2
  have HQ2 := Aside0.mk (show Below W.heap.size W W2 by rw [hW2]; exact below_alloc (below_alloc HQ.out _) _)
  have f : ∀ (j : Nat) v, c.vals[j]? = some v → ∀ x : Rgn.Old W2 B2, x.now.cell? ⟨W.heap.size, j, none⟩ = some v := fun j v hj x =>
    (x.be.cell (p := ⟨W.heap.size, j, none⟩) (by rw [HB.out]; exact World.block_lt_of_cell? _ _ (HE.out.box j v hj))).trans (HE.out.box j v hj)
  have f1 := f 1 (.slice c.t.A c.t.n c.t.c) rfl
  have f2 := f 2 (.slice c.s.A c.s.n c.s.c) rfl
  have f3 := f 3 (.slice c.f.A c.f.n c.f.c) rfl
  have f4 := f 4 (.slice c.d.A c.d.n c.d.c) rfl
  have f5 := f 5 (.slice c.m.A c.m.n c.m.c) rfl
  have f6 := f 6 (.slice c.p.A c.p.n c.p.c) rfl
  have f7 := f 7 (.slice c.y.A c.y.n c.y.c) rfl
  have f8 := f 8 (.int .i64 c.al) rfl
  clear f hW2 hB2
  repeat (go_big_quiet_step (exact objects_grown _ _ _ _ _ HB.out _))
  refine wpQuiet_nil ?_
  intro x
  have HX := Aside0.mk x.be
  generalize x.now = w3 at HX
  clear f1 f2 f3 f4 f5 f6 f7 f8
  go_wp2_with fail
  have HE4 := Aside0.mk (HE.out.below (w' := w3.alloc (.cells (partsA c W.heap.size (W.heap.size + 5) (W.heap.size + 4)) 119)) (below_alloc (by rw [← HB.out]; exact HX.out) _))
  have hszz : W2.heap.size ≤ w3.heap.size := HX.out.size
  have ha7 : W.heap.size + 5 < W2.heap.size := World.block_lt_of_cell? _ _ HE.out.at_
  refine (first_calls (runner HE4.out) rfl (parts_bd c) w3.heap.size (by rintro (e | e) <;> omega) (parts_lie c W.heap.size (W.heap.size + 5) (W.heap.size + 4) w3)).mono ?_
  rintro e w5 ⟨⟨a, n, r, rfl, hsay⟩, hfr⟩
  have HFR := Aside0.mk (below_up (below_up HQ2.out (below_alloc (by rw [← HB.out]; exact HX.out) (.cells (partsA c W.heap.size (W.heap.size + 5) (W.heap.size + 4)) 119) : Below W2.heap.size W2 _) HQ2.out.size) (hfr.below (C := W.heap.size) (by rw [World.size_alloc]; omega) (by rintro i hi (e | e) <;> omega)) (Nat.le_refl _))
  have HSAY := Aside0.mk hsay
  clear hfr hsay
  go_wp2
  refine Rgn.rest_walk ?_
  repeat (go_big_quiet_step (fail))
  refine wpQuiet_nil ?_
  go_wp2
  go_ret3
  exact ⟨⟨_, _, _, rfl, by unfold Ans; rw [if_pos HT.out]; exact HSAY.out⟩, HFR.out⟩
theorem check_calls {c : CF} {W : World} (h : CFin W c) : Calls Try.prog 33 #[.agg #[.int .i64 c.tic, .slice c.t.A c.t.n c.t.c, .slice c.s.A c.s.n c.s.c, .slice c.f.A c.f.n c.f.c, .slice c.d.A c.d.n c.d.c, .slice c.m.A c.m.n c.m.c, .slice c.p.A c.p.n c.p.c, .slice c.y.A c.y.n c.y.c, .int .i64 c.al]] W (CheckSays c W) := by
  by_cases ht : 1 ≤ c.tic ∧ c.tic ≤ 1000
  · exact check_yes h ht.1 ht.2
  · exact check_no ht
end Go.Proofs.Yteiepbjajennkaa.ConfHand
