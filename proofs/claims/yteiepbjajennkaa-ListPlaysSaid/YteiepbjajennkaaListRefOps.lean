/- The document's lists: Front, Before. Conditions: none. -/
import Derived.Test.YteiepbjajennkaaListRefSet
namespace Go.Proofs.Yteiepbjajennkaa.ListHand
set_option linter.unusedVariables false
open Go.RowKit Go.Proofs.YteiepbjajennkaaW.PrintWords Go.Proofs.YteiepbjajennkaaW.PrintMore
variable {w0 W w1 : World} {lo q s N H : Nat} {R : Nat → List Nat} {v : Value}
theorem of_free (h : Rf w0 lo W q s N H R) (n : Nat) (hf : ∀ j, j < H → n ∉ R j) :
    Calls Try.prog 47 #[.pointer (some ⟨q, 0, none⟩), .int .i64 n] W fun e w' => e = .returned (.tuple #[.int .i64 (-1), .int .i64 (-1)]) ∧ W = w' := by
  refine (ref_of h n).mono ?_
  rintro e w' ⟨⟨r1, r2, rfl, ⟨⟨rfl, rfl⟩, _⟩ | ⟨i, k, hi, _, x, hx, e⟩⟩, rfl⟩
  · exact ⟨rfl, rfl⟩
  · have : x = n := by omega
    subst this
    exact (hf i hi (List.mem_of_getElem? hx)).elim
theorem of_at (h : Rf w0 lo W q s N H R) (n x k : Nat) (hx : x < H) (hk : (R x)[k]? = some n) :
    Calls Try.prog 47 #[.pointer (some ⟨q, 0, none⟩), .int .i64 n] W fun e w' => e = .returned (.tuple #[.int .i64 x, .int .i64 k]) ∧ W = w' := by
  refine (ref_of h n).mono ?_
  rintro e w' ⟨⟨r1, r2, rfl, ⟨_, h1⟩ | ⟨i, j, hi, ⟨rfl, rfl⟩, y, hy, e⟩⟩, rfl⟩
  · exact (h1 x hx n (List.mem_of_getElem? hk) rfl).elim
  · have : y = n := by omega
    subst this
    obtain rfl : i = x := h.one i x y hi hx (List.mem_of_getElem? hy) (List.mem_of_getElem? hk)
    have hj : j < (R i).length := (List.getElem?_eq_some_iff.1 hy).1
    obtain rfl : j = k := (List.getElem?_inj hj (h.dup i hi)).1 (hy.trans hk.symm)
    exact ⟨rfl, rfl⟩
theorem of_far (h : Rf w0 lo W q s N H R) (n : Int) (hn : n < 0 ∨ N ≤ n) :
    Calls Try.prog 47 #[.pointer (some ⟨q, 0, none⟩), .int .i64 n] W fun e w' => e = .returned (.tuple #[.int .i64 (-1), .int .i64 (-1)]) ∧ W = w' := by
  refine (ref_of h n).mono ?_
  rintro e w' ⟨⟨r1, r2, rfl, ⟨⟨rfl, rfl⟩, _⟩ | ⟨i, k, hi, _, x, hx, e⟩⟩, rfl⟩
  · exact ⟨rfl, rfl⟩
  · have := h.nod i hi x (List.mem_of_getElem? hx)
    omega
theorem front_ref (h : Rf w0 lo W q s N H R) (x n : Nat) (hx : x < H) (hn : n < N) (hf : ∀ j, j < H → n ∉ R j) :
    Calls Try.prog 25 #[.pointer (some ⟨q, 0, none⟩), .int .i64 x, .int .i64 n] W fun e w' => e = .returned (.int .i64 0) ∧ Rf w0 lo w' q s N H (setR R x (n :: R x)) ∧ KB W w' s s := by
  have HL := Aside0.mk h; clear h
  have HX := Aside0.mk hx; have HN := Aside0.mk hn; have HF := Aside0.mk hf; clear hx hn hf
  go_enter Try.func25, Try.ntmps25
  go_wp2_with fail
  refine (ref_head HL.out x true (by have := HX.out; simp; omega)).mono ?_
  rintro e w' ⟨rfl, rfl⟩
  go_wp2_with fail
  refine (ref_node HL.out n true (by have := HN.out; simp; omega)).mono ?_
  rintro e w' ⟨rfl, rfl⟩
  go_wp2_with fail
  refine (of_free HL.out n HF.out).mono ?_
  rintro e w' ⟨rfl, rfl⟩
  go_wp2_with fail
  refine (put_in HL.out x 0 n HX.out (Nat.zero_le _) HN.out HF.out).mono ?_
  rintro e w' ⟨rfl, h1, h2⟩
  have H1 := Aside0.mk h1; have H2 := Aside0.mk h2; clear h1 h2
  go_wp2
  go_ret
  exact ⟨rfl, H1.out, H2.out⟩
theorem front_bad (h : Rf w0 lo W q s N H R) (x n : Int) (hb : ¬(0 ≤ x ∧ x < H) ∨ ¬(0 ≤ n ∧ n < N)) :
    Calls Try.prog 25 #[.pointer (some ⟨q, 0, none⟩), .int .i64 x, .int .i64 n] W fun e w' => e = .returned (.int .i64 (-17)) ∧ W = w' := by
  have HL := Aside0.mk h; clear h
  have HB := Aside0.mk hb; clear hb
  by_cases hx : 0 ≤ x ∧ x < H
  · have HX := Aside0.mk hx; clear hx
    go_enter Try.func25, Try.ntmps25
    go_wp2_with fail
    refine (ref_head HL.out x true (decide_eq_true HX.out)).mono ?_
    rintro e w' ⟨rfl, rfl⟩
    go_wp2_with fail
    refine (ref_node HL.out n false (decide_eq_false (HB.out.resolve_left (fun e => e HX.out)))).mono ?_
    rintro e w' ⟨rfl, rfl⟩
    go_wp2
    go_ret
    exact ⟨rfl, rfl⟩
  · have HX := Aside0.mk hx; clear hx
    go_enter Try.func25, Try.ntmps25
    go_wp2_with fail
    refine (ref_head HL.out x false (decide_eq_false HX.out)).mono ?_
    rintro e w' ⟨rfl, rfl⟩
    go_wp2
    go_ret
    exact ⟨rfl, rfl⟩
theorem front_held (h : Rf w0 lo W q s N H R) (x n y k : Nat) (hx : x < H) (hn : n < N) (hy : y < H) (hk : (R y)[k]? = some n) :
    Calls Try.prog 25 #[.pointer (some ⟨q, 0, none⟩), .int .i64 x, .int .i64 n] W fun e w' => e = .returned (.int .i64 (-41)) ∧ W = w' := by
  have HL := Aside0.mk h; clear h
  have HX := Aside0.mk hx; have HN := Aside0.mk hn; have HK := Aside0.mk hk; have HY := Aside0.mk hy; clear hx hn hk hy
  go_enter Try.func25, Try.ntmps25
  go_wp2_with fail
  refine (ref_head HL.out x true (by have := HX.out; simp; omega)).mono ?_
  rintro e w' ⟨rfl, rfl⟩
  go_wp2_with fail
  refine (ref_node HL.out n true (by have := HN.out; simp; omega)).mono ?_
  rintro e w' ⟨rfl, rfl⟩
  go_wp2_with fail
  refine (of_at HL.out n y k HY.out HK.out).mono ?_
  rintro e w' ⟨rfl, rfl⟩
  go_wp2
  go_ret
  exact ⟨rfl, rfl⟩
theorem before_ref (h : Rf w0 lo W q s N H R) (a n x k : Nat) (hn : n < N) (hf : ∀ j, j < H → n ∉ R j) (hx : x < H) (hk : (R x)[k]? = some a) :
    Calls Try.prog 26 #[.pointer (some ⟨q, 0, none⟩), .int .i64 n, .int .i64 a] W fun e w' => e = .returned (.int .i64 0) ∧ Rf w0 lo w' q s N H (setR R x ((R x).insertIdx k n)) ∧ KB W w' s s := by
  have ha : a < N := h.nod x hx a (List.mem_of_getElem? hk)
  have HL := Aside0.mk h; clear h
  have HX := Aside0.mk hx; have HN := Aside0.mk hn; have HF := Aside0.mk hf; have HK := Aside0.mk hk; have HA := Aside0.mk ha; clear hx hn hf hk ha
  go_enter Try.func26, Try.ntmps26
  go_wp2_with fail
  refine (ref_node HL.out n true (by have := HN.out; simp; omega)).mono ?_
  rintro e w' ⟨rfl, rfl⟩
  go_wp2_with fail
  refine (ref_node HL.out a true (by have := HA.out; simp; omega)).mono ?_
  rintro e w' ⟨rfl, rfl⟩
  go_wp2_with fail
  refine (of_at HL.out a x k HX.out HK.out).mono ?_
  rintro e w' ⟨rfl, rfl⟩
  go_wp2_with fail
  refine (of_free HL.out n HF.out).mono ?_
  rintro e w' ⟨rfl, rfl⟩
  go_wp2_with fail
  refine (put_in HL.out x k n HX.out (Nat.le_of_lt (List.getElem?_eq_some_iff.1 HK.out).1) HN.out HF.out).mono ?_
  rintro e w' ⟨rfl, h1, h2⟩
  have H1 := Aside0.mk h1; have H2 := Aside0.mk h2; clear h1 h2
  go_wp2
  go_ret
  exact ⟨rfl, H1.out, H2.out⟩
theorem before_bad (h : Rf w0 lo W q s N H R) (n a : Int) (hb : ¬(0 ≤ n ∧ n < N) ∨ ¬(0 ≤ a ∧ a < N)) :
    Calls Try.prog 26 #[.pointer (some ⟨q, 0, none⟩), .int .i64 n, .int .i64 a] W fun e w' => e = .returned (.int .i64 (-17)) ∧ W = w' := by
  have HL := Aside0.mk h; clear h
  have HB := Aside0.mk hb; clear hb
  by_cases hx : 0 ≤ n ∧ n < N
  · have HX := Aside0.mk hx; clear hx
    go_enter Try.func26, Try.ntmps26
    go_wp2_with fail
    refine (ref_node HL.out n true (decide_eq_true HX.out)).mono ?_
    rintro e w' ⟨rfl, rfl⟩
    go_wp2_with fail
    refine (ref_node HL.out a false (decide_eq_false (HB.out.resolve_left (fun e => e HX.out)))).mono ?_
    rintro e w' ⟨rfl, rfl⟩
    go_wp2
    go_ret
    exact ⟨rfl, rfl⟩
  · have HX := Aside0.mk hx; clear hx
    go_enter Try.func26, Try.ntmps26
    go_wp2_with fail
    refine (ref_node HL.out n false (decide_eq_false HX.out)).mono ?_
    rintro e w' ⟨rfl, rfl⟩
    go_wp2
    go_ret
    exact ⟨rfl, rfl⟩
/-- The node ahead of which it is to go is in no row, or the node itself is in one. -/
theorem before_held (h : Rf w0 lo W q s N H R) (n a : Nat) (hn : n < N) (ha : a < N) (hh : (∀ j, j < H → a ∉ R j) ∨ ∃ y k : Nat, y < H ∧ (R y)[k]? = some n) :
    Calls Try.prog 26 #[.pointer (some ⟨q, 0, none⟩), .int .i64 n, .int .i64 a] W fun e w' => e = .returned (.int .i64 (-41)) ∧ W = w' := by
  have HL := Aside0.mk h; clear h
  have HN := Aside0.mk hn; have HA := Aside0.mk ha; have HH := Aside0.mk hh; clear hn ha hh
  by_cases hf : ∀ j, j < H → a ∉ R j
  · have HF := Aside0.mk hf; clear hf
    by_cases hg : ∀ j, j < H → n ∉ R j
    · have HG := Aside0.mk hg; clear hg
      go_enter Try.func26, Try.ntmps26
      go_wp2_with fail
      refine (ref_node HL.out n true (by have := HN.out; simp; omega)).mono ?_
      rintro e w' ⟨rfl, rfl⟩
      go_wp2_with fail
      refine (ref_node HL.out a true (by have := HA.out; simp; omega)).mono ?_
      rintro e w' ⟨rfl, rfl⟩
      go_wp2_with fail
      refine (of_free HL.out a HF.out).mono ?_
      rintro e w' ⟨rfl, rfl⟩
      go_wp2_with fail
      refine (of_free HL.out n HG.out).mono ?_
      rintro e w' ⟨rfl, rfl⟩
      go_wp2
      go_ret
      exact ⟨rfl, rfl⟩
    · obtain ⟨y, hy, hm⟩ : ∃ y, y < H ∧ n ∈ R y := by
        refine Classical.byContradiction fun e => hg fun j hj hm => e ⟨j, hj, hm⟩
      obtain ⟨k, hk⟩ := List.getElem?_of_mem hm
      have HK := Aside0.mk (And.intro hy hk); clear hg hy hm hk
      go_enter Try.func26, Try.ntmps26
      go_wp2_with fail
      refine (ref_node HL.out n true (by have := HN.out; simp; omega)).mono ?_
      rintro e w' ⟨rfl, rfl⟩
      go_wp2_with fail
      refine (ref_node HL.out a true (by have := HA.out; simp; omega)).mono ?_
      rintro e w' ⟨rfl, rfl⟩
      go_wp2_with fail
      refine (of_free HL.out a HF.out).mono ?_
      rintro e w' ⟨rfl, rfl⟩
      go_wp2_with fail
      refine (of_at HL.out n y k HK.out.1 HK.out.2).mono ?_
      rintro e w' ⟨rfl, rfl⟩
      go_wp2
      go_ret
      exact ⟨rfl, rfl⟩
  · obtain ⟨z, hz, hm⟩ : ∃ y, y < H ∧ a ∈ R y := by
      refine Classical.byContradiction fun e => hf fun j hj hm => e ⟨j, hj, hm⟩
    obtain ⟨m, hm⟩ := List.getElem?_of_mem hm
    have HM := Aside0.mk (And.intro hz hm)
    obtain ⟨y, k, hy, hk⟩ := HH.out.resolve_left hf
    have HK := Aside0.mk (And.intro hy hk); clear hf hy hm hk hz
    go_enter Try.func26, Try.ntmps26
    go_wp2_with fail
    refine (ref_node HL.out n true (by have := HN.out; simp; omega)).mono ?_
    rintro e w' ⟨rfl, rfl⟩
    go_wp2_with fail
    refine (ref_node HL.out a true (by have := HA.out; simp; omega)).mono ?_
    rintro e w' ⟨rfl, rfl⟩
    go_wp2_with fail
    refine (of_at HL.out a z m HM.out.1 HM.out.2).mono ?_
    rintro e w' ⟨rfl, rfl⟩
    go_wp2_with fail
    refine (of_at HL.out n y k HK.out.1 HK.out.2).mono ?_
    rintro e w' ⟨rfl, rfl⟩
    go_wp2
    go_ret
    exact ⟨rfl, rfl⟩
end Go.Proofs.Yteiepbjajennkaa.ListHand
