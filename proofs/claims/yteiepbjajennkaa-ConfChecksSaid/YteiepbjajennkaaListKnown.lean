/- The calls on linked rows, short; a row of three is known. Conditions: none. -/
import Derived.Test.YteiepbjajennkaaListNew
namespace Go.Proofs.Yteiepbjajennkaa.ListHand
set_option linter.unusedVariables false
open Go.RowKit Go.Proofs.YteiepbjajennkaaW.PrintWords Go.Proofs.YteiepbjajennkaaW.PrintMore
variable {w0 W : World} {g a b N H : Nat} {R : Nat → List Nat}
theorem reads_two (w : World) (x y : Int) : ReadsInt (w.alloc (.cells #[.int .i64 x, .int .i64 y] 3)) .i64 (some ⟨w.heap.size, 0, none⟩) 2 [x, y] :=
  ⟨rfl, by simp, fun _ => ⟨_, rfl, fun j hj => by
    have hb : (w.alloc (.cells #[.int .i64 x, .int .i64 y] 3)).heap[w.heap.size]? = some (.cells #[.int .i64 x, .int .i64 y] 3 (0, 0)) := heap_alloc_new w _
    have : j = 0 ∨ j = 1 := by omega
    rcases this with rfl | rfl
    · exact (blk_cell hb 0).trans rfl
    · exact (blk_cell hb 1).trans rfl⟩⟩
/-- One node is put behind a row, out of a slice that was just made. -/
theorem LR.back1 (h : LR w0 W g a b N H R) (x n : Nat) (hx : x < H) (hn : n < N) (hfree : ∀ j, j < H → n ∉ R j) :
    Calls Try.prog 15 #[.pointer (some ⟨g, 0, none⟩), .int .i64 x, .slice (some ⟨W.heap.size, 0, none⟩) 1 1] (W.alloc (.cells #[.int .i64 n] 3)) fun e w' => e = .returned (.int .i64 0) ∧ LR w0 w' g a b N H (setR R x (R x ++ [n])) ∧ KB W w' a b := by
  have hl := h.lt
  refine (back_calls (h.alloc (.cells #[.int .i64 n] 3)) x hx [n] (fun m hm => by rw [List.mem_singleton] at hm; subst hm; exact hn) (fun m hm j hj => by rw [List.mem_singleton] at hm; subst hm; exact hfree j hj) (by simp) (by simp) _ 1 1 rfl (reads_one W n) (fun ad e => by cases e; exact ⟨by show W.heap.size ≠ a; omega, by show W.heap.size ≠ b; omega⟩)).mono ?_
  rintro e w' ⟨h1, h2, h3⟩
  exact ⟨h1, h2, (KB.of_below (below_alloc (Below.refl _ _) _) a b).trans h3⟩
theorem LR.back2 (h : LR w0 W g a b N H R) (x n m : Nat) (hx : x < H) (hn : n < N) (hm : m < N) (hne : n ≠ m) (hfree : ∀ j, j < H → n ∉ R j) (hfree' : ∀ j, j < H → m ∉ R j) :
    Calls Try.prog 15 #[.pointer (some ⟨g, 0, none⟩), .int .i64 x, .slice (some ⟨W.heap.size, 0, none⟩) 2 2] (W.alloc (.cells #[.int .i64 n, .int .i64 m] 3)) fun e w' => e = .returned (.int .i64 0) ∧ LR w0 w' g a b N H (setR R x (R x ++ [n, m])) ∧ KB W w' a b := by
  have hl := h.lt
  refine (back_calls (h.alloc (.cells #[.int .i64 n, .int .i64 m] 3)) x hx [n, m] (fun y hy => by simp at hy; rcases hy with rfl | rfl <;> assumption) (fun y hy j hj => by simp at hy; rcases hy with rfl | rfl; exact hfree j hj; exact hfree' j hj) (by simp [hne]) (by simp) _ 2 2 rfl (reads_two W n m) (fun ad e => by cases e; exact ⟨by show W.heap.size ≠ a; omega, by show W.heap.size ≠ b; omega⟩)).mono ?_
  rintro e w' ⟨h1, h2, h3⟩
  exact ⟨h1, h2, (KB.of_below (below_alloc (Below.refl _ _) _) a b).trans h3⟩
/-- .. it is refused: one that is none, a head that is none; one that stands in a row. -/
theorem LR.back1_head (h : LR w0 W g a b N H R) (x n : Int) (hx : x < 0 ∨ H ≤ x) :
    Calls Try.prog 15 #[.pointer (some ⟨g, 0, none⟩), .int .i64 x, .slice (some ⟨W.heap.size, 0, none⟩) 1 1] (W.alloc (.cells #[.int .i64 n] 3)) fun e w' => e = .returned (.int .i64 (-17)) ∧ LR w0 w' g a b N H R ∧ Below W.heap.size W w' := by
  have h2 := h.alloc (.cells #[.int .i64 n] 3)
  have hb := below_alloc (Below.refl W.heap.size W) (.cells #[.int .i64 n] 3)
  obtain ⟨ca, cb, l1, l2⟩ := h2
  refine (back_no (by decide) ((may_head l1 x [n] _ 1 hx).mono fun e w' ⟨e1, e2⟩ => ⟨e1, by rw [← e2]; exact Below.refl _ _⟩)).mono ?_
  rintro e w' ⟨e1, e2⟩
  exact ⟨e1, ⟨ca, cb, l1.below e2, l2⟩, hb.trans ⟨e2.os, e2.tape, e2.output, e2.size, fun i hi => e2.block i (Nat.lt_of_lt_of_le hi (by simp))⟩⟩
theorem LR.back1_node (h : LR w0 W g a b N H R) (x : Nat) (n : Int) (hx : x < H) (hn : n < 0 ∨ N ≤ n) :
    Calls Try.prog 15 #[.pointer (some ⟨g, 0, none⟩), .int .i64 x, .slice (some ⟨W.heap.size, 0, none⟩) 1 1] (W.alloc (.cells #[.int .i64 n] 3)) fun e w' => e = .returned (.int .i64 (-17)) ∧ LR w0 w' g a b N H R ∧ Below W.heap.size W w' := by
  have h2 := h.alloc (.cells #[.int .i64 n] 3)
  have hb := below_alloc (Below.refl W.heap.size W) (.cells #[.int .i64 n] 3)
  obtain ⟨ca, cb, l1, l2⟩ := h2
  refine (back_no (by decide) ((may_node l1 x hx [n] (by simp) _ 1 1 rfl (reads_one W n) 0 (by simp) hn (fun j hj => by omega)).mono fun e w' ⟨e1, e2⟩ => ⟨e1, by rw [← e2]; exact Below.refl _ _⟩)).mono ?_
  rintro e w' ⟨e1, e2⟩
  exact ⟨e1, ⟨ca, cb, l1.below e2, l2⟩, hb.trans ⟨e2.os, e2.tape, e2.output, e2.size, fun i hi => e2.block i (Nat.lt_of_lt_of_le hi (by simp))⟩⟩
theorem LR.back1_in (h : LR w0 W g a b N H R) (x n y : Nat) (hx : x < H) (hn : n < N) (hy : y < H) (hin : n ∈ R y) :
    Calls Try.prog 15 #[.pointer (some ⟨g, 0, none⟩), .int .i64 x, .slice (some ⟨W.heap.size, 0, none⟩) 1 1] (W.alloc (.cells #[.int .i64 n] 3)) fun e w' => e = .returned (.int .i64 (-41)) ∧ LR w0 w' g a b N H R ∧ Below W.heap.size W w' := by
  have h2 := h.alloc (.cells #[.int .i64 n] 3)
  have hb := below_alloc (Below.refl W.heap.size W) (.cells #[.int .i64 n] 3)
  obtain ⟨ca, cb, l1, l2⟩ := h2
  refine (back_no (by decide) (may_all l1 x hx [(n : Int)] (by simp) _ 1 1 rfl (reads_one W n) (fun z hz => by rw [List.mem_singleton] at hz; subst hz; exact ⟨by omega, by omega⟩) 0 (by simp) (fun j hj => by omega)
    (fun _ => .inl (by
      show ca (((n : Int)).toNat * 3) ≠ -1
      rw [Int.toNat_natCast]
      have := (l2.head hy hin).2
      have e : ca (n * 3) = (y : Int) := this
      rw [e]; omega)) (-41) (by simp))).mono ?_
  rintro e w' ⟨e1, e2⟩
  exact ⟨e1, ⟨ca, cb, l1.below e2, l2⟩, hb.trans ⟨e2.os, e2.tape, e2.output, e2.size, fun i hi => e2.block i (Nat.lt_of_lt_of_le hi (by simp))⟩⟩
theorem LR.next (h : LR w0 W g a b N H R) {x k n : Nat} (hx : x < H) (hk : (R x)[k]? = some n) (v : Int) (hv : atI (R x) (k + 1) = v) :
    Calls Try.prog 21 #[.pointer (some ⟨g, 0, none⟩), .int .i64 n] W fun e w' => e = .returned (.tuple #[.int .i64 (toldI v), .bool (toldB v)]) ∧ W = w' := by
  obtain ⟨ca, cb, h1, h2⟩ := h
  obtain ⟨hn, e⟩ := h2.nodes x hx k n hk
  exact next_in h1 n hn v ((congrArg (·.2.1) e).trans hv)
theorem LR.of (h : LR w0 W g a b N H R) {x n : Nat} (hx : x < H) (hin : n ∈ R x) :
    Calls Try.prog 30 #[.pointer (some ⟨g, 0, none⟩), .int .i64 n] W fun e w' => e = .returned (.tuple #[.int .i64 x, .bool true]) ∧ W = w' := by
  obtain ⟨ca, cb, h1, h2⟩ := h
  obtain ⟨hn, e⟩ := h2.head hx hin
  have := of_in h1 n hn (x : Int) e
  rw [toldI_nat, toldB_nat] at this
  exact this
theorem LR.first (h : LR w0 W g a b N H R) {x : Nat} (hx : x < H) (v : Int) (hv : atI (R x) 0 = v) :
    Calls Try.prog 29 #[.pointer (some ⟨g, 0, none⟩), .int .i64 x] W fun e w' => e = .returned (.tuple #[.int .i64 (toldI v), .bool (toldB v)]) ∧ W = w' := by
  obtain ⟨ca, cb, h1, h2⟩ := h
  exact first_in h1 x hx v ((congrArg (·.1) (h2.heads x hx)).trans hv)
theorem LR.lenIs (h : LR w0 W g a b N H R) {x : Nat} (hx : x < H) (v : Int) (hv : ((R x).length : Int) = v) :
    Calls Try.prog 16 #[.pointer (some ⟨g, 0, none⟩), .int .i64 x] W fun e w' => e = .returned (.int .i64 v) ∧ W = w' := by
  obtain ⟨ca, cb, h1, h2⟩ := h
  exact len_in h1 x hx v ((congrArg (·.2.2) (h2.heads x hx)).trans hv)
theorem LR.removed_out (h : LR w0 W g a b N H R) (n : Int) (hn : n < 0 ∨ N ≤ n) :
    Calls Try.prog 19 #[.pointer (some ⟨g, 0, none⟩), .int .i64 n] W fun e w' => e = .returned (.int .i64 (-17)) ∧ W = w' := by
  obtain ⟨ca, cb, h1, h2⟩ := h
  exact remove_out h1 n hn
theorem LR.removed_free (h : LR w0 W g a b N H R) (n : Nat) (hn : n < N) (hm : ∀ j, j < H → n ∉ R j) :
    Calls Try.prog 19 #[.pointer (some ⟨g, 0, none⟩), .int .i64 n] W fun e w' => e = .returned (.int .i64 (-41)) ∧ W = w' := by
  obtain ⟨ca, cb, h1, h2⟩ := h
  exact remove_free h1 n hn ((h2.inn hn).2 hm)
theorem LR.congr {R' : Nat → List Nat} (h : LR w0 W g a b N H R) (e : R = R') : LR w0 W g a b N H R' := e ▸ h
/-- A row's slice: what it is, what it holds. -/
theorem row_slice {B n : Nat} {v : Value} {xs : List Nat} (h : W.ownsRow B 3 1 v n (nums .i64 (ints xs))) : ∃ A c, v = .slice A n c ∧ ReadsInt W .i64 A n (ints xs) ∧ n = xs.length := by
  have e : n = xs.length := by
    have := h.1
    rw [nums_length, ints_len] at this; omega
  obtain ⟨A, c, e1, h2⟩ := own_reads h
  exact ⟨A, c, e1, h2, e⟩
set_option maxHeartbeats 2000000 in
set_option maxRecDepth 100000 in
theorem known_calls (w : World) : Calls Try.prog 13 #[] w fun e w' => e = .returned (.bool true) ∧ Below w.heap.size w w' := by
  go_enter Try.func13, Try.ntmps13
  go_wp2_with fail
  refine (new_calls (w0 := w) 5 2 (by omega) (by omega) (Below.refl _ _)).mono ?_
  rintro e w1 ⟨g, a, b, rfl, h1, _⟩
  have H1 := Aside0.mk h1; clear h1
  go_wp2_with fail
  refine (H1.out.back2 0 3 1 (by omega) (by omega) (by omega) (by omega) (fun j _ => by simp) (fun j _ => by simp)).mono ?_
  rintro e w2 ⟨rfl, h2, _⟩
  have H2 := Aside0.mk h2; clear h2
  go_wp2_with fail
  refine (before_calls H2.out 4 (by omega) (fun j _ => by unfold setR; split <;> simp) 0 1 1 (by omega) (by rw [setR_at]; rfl)).mono ?_
  rintro e w3 ⟨rfl, h3, _⟩
  rw [setR_setR, setR_at] at h3
  have H3 := Aside0.mk (h3.congr (R' := setR (fun _ => []) 0 [3, 4, 1]) rfl); clear h3
  go_wp2_with fail
  refine (H3.out.next (x := 0) (k := 0) (n := 3) (by omega) (by rw [setR_at]; rfl) 4 (by rw [setR_at]; rfl)).mono ?_
  rintro e w4 ⟨rfl, rfl⟩
  have e1 : toldI 4 = 4 := rfl
  have e2 : toldB 4 = true := rfl
  rw [e1, e2]
  go_wp2_with fail
  refine (H3.out.of (x := 0) (n := 1) (by omega) (by rw [setR_at]; simp)).mono ?_
  rintro e w5 ⟨rfl, rfl⟩
  go_wp2_with fail
  refine (H3.out.back1_in 1 3 0 (by omega) (by omega) (by omega) (by rw [setR_at]; simp)).mono ?_
  rintro e w6 ⟨rfl, h6, _⟩
  have H6 := Aside0.mk h6; clear h6
  go_wp2_with fail
  refine (H6.out.lenIs (x := 0) (by omega) 3 (by rw [setR_at]; rfl)).mono ?_
  rintro e w7 ⟨rfl, rfl⟩
  go_wp2_with fail
  refine (row_calls H6.out 0 (by omega)).mono ?_
  rintro e w8 ⟨v, rfl, ho, hb⟩
  rw [setR_at] at ho
  obtain ⟨A, c, rfl, _, _⟩ := row_slice ho
  have HB := Aside0.mk (H6.out.below hb).be; clear ho hb
  go_wp2
  go_ret
  exact ⟨rfl, HB.out⟩
end Go.Proofs.Yteiepbjajennkaa.ListHand
