/- What the calls that only look at linked rows tell. Conditions: none. -/
import Derived.Test.YteiepbjajennkaaListPut
namespace Go.Proofs.Yteiepbjajennkaa.ListHand
set_option linter.unusedVariables false
open Go.RowKit Go.Proofs.YteiepbjajennkaaW.PrintWords
variable {w0 W : World} {g a b N H : Nat} {ca cb : Nat → Int}
def toldI (v : Int) : Int := if v = -1 then 0 else v
def toldB (v : Int) : Bool := v != -1
theorem toldI_no : toldI (-1) = 0 := rfl
theorem toldB_no : toldB (-1) = false := rfl
theorem toldI_nat (n : Nat) : toldI (n : Int) = n := if_neg (by omega)
theorem toldB_nat (n : Nat) : toldB (n : Int) = true := by unfold toldB; simp only [bne_iff_ne, ne_eq]; omega
theorem tell_calls (n : Int) (W : World) : Calls Try.prog 44 #[.int .i64 n] W fun e w' => e = .returned (.tuple #[.int .i64 (toldI n), .bool (toldB n)]) ∧ W = w' := by
  refine (told_calls n).mono ?_
  rintro e w' ⟨rfl, rfl⟩
  refine ⟨?_, rfl⟩
  by_cases h : n = -1
  · subst h; rfl
  · rw [if_neg h]; unfold toldI toldB; rw [if_neg h]
    have : (n != -1) = true := by simpa using h
    rw [this]
theorem next_in (h : Ls w0 W g a b N H ca cb) (n : Nat) (hn : n < N) (v : Int) (hv : ca (n * 3 + 1) = v) :
    Calls Try.prog 21 #[.pointer (some ⟨g, 0, none⟩), .int .i64 n] W fun e w' => e = .returned (.tuple #[.int .i64 (toldI v), .bool (toldB v)]) ∧ W = w' := by
  subst hv
  have c := h.cg0
  have h1 := h.N1
  have c1 := h.ca (n * 3 + 1) (by omega)
  have HL := Aside0.mk h; clear h
  generalize ca (n * 3 + 1) = v at *
  go_enter Try.func21, Try.ntmps21
  go_wp2_with fail
  refine (node_calls HL.out n true (by simp; omega)).mono ?_
  rintro e w' ⟨rfl, rfl⟩
  go_wp2_with fail
  refine (tell_calls v W).mono ?_
  rintro e w' ⟨rfl, rfl⟩
  go_wp2
  go_ret2
  exact ⟨rfl, rfl⟩
theorem next_out (h : Ls w0 W g a b N H ca cb) (n : Int) (hn : n < 0 ∨ N ≤ n) :
    Calls Try.prog 21 #[.pointer (some ⟨g, 0, none⟩), .int .i64 n] W fun e w' => e = .returned (.tuple #[.int .i64 0, .bool false]) ∧ W = w' := by
  have HL := Aside0.mk h; clear h
  have HN := Aside0.mk hn; clear hn
  go_enter Try.func21, Try.ntmps21
  go_wp2_with fail
  refine (node_calls HL.out n false (by have := HN.out; simp; omega)).mono ?_
  rintro e w' ⟨rfl, rfl⟩
  go_wp2
  go_ret2
  exact ⟨rfl, rfl⟩
theorem of_in (h : Ls w0 W g a b N H ca cb) (n : Nat) (hn : n < N) (v : Int) (hv : ca (n * 3) = v) :
    Calls Try.prog 30 #[.pointer (some ⟨g, 0, none⟩), .int .i64 n] W fun e w' => e = .returned (.tuple #[.int .i64 (toldI v), .bool (toldB v)]) ∧ W = w' := by
  subst hv
  have c := h.cg0
  have h1 := h.N1
  have c1 := h.ca (n * 3) (by omega)
  have HL := Aside0.mk h; clear h
  generalize ca (n * 3) = v at *
  go_enter Try.func30, Try.ntmps30
  go_wp2_with fail
  refine (node_calls HL.out n true (by simp; omega)).mono ?_
  rintro e w' ⟨rfl, rfl⟩
  go_wp2_with fail
  refine (tell_calls v W).mono ?_
  rintro e w' ⟨rfl, rfl⟩
  go_wp2
  go_ret2
  exact ⟨rfl, rfl⟩
theorem of_out (h : Ls w0 W g a b N H ca cb) (n : Int) (hn : n < 0 ∨ N ≤ n) :
    Calls Try.prog 30 #[.pointer (some ⟨g, 0, none⟩), .int .i64 n] W fun e w' => e = .returned (.tuple #[.int .i64 0, .bool false]) ∧ W = w' := by
  have HL := Aside0.mk h; clear h
  have HN := Aside0.mk hn; clear hn
  go_enter Try.func30, Try.ntmps30
  go_wp2_with fail
  refine (node_calls HL.out n false (by have := HN.out; simp; omega)).mono ?_
  rintro e w' ⟨rfl, rfl⟩
  go_wp2
  go_ret2
  exact ⟨rfl, rfl⟩
theorem first_in (h : Ls w0 W g a b N H ca cb) (n : Nat) (hn : n < H) (v : Int) (hv : cb (n * 3) = v) :
    Calls Try.prog 29 #[.pointer (some ⟨g, 0, none⟩), .int .i64 n] W fun e w' => e = .returned (.tuple #[.int .i64 (toldI v), .bool (toldB v)]) ∧ W = w' := by
  subst hv
  have c := h.cg1
  have h1 := h.H1
  have c1 := h.cb (n * 3) (by omega)
  have HL := Aside0.mk h; clear h
  generalize cb (n * 3) = v at *
  go_enter Try.func29, Try.ntmps29
  go_wp2_with fail
  refine (head_calls HL.out n true (by simp; omega)).mono ?_
  rintro e w' ⟨rfl, rfl⟩
  go_wp2_with fail
  refine (tell_calls v W).mono ?_
  rintro e w' ⟨rfl, rfl⟩
  go_wp2
  go_ret2
  exact ⟨rfl, rfl⟩
theorem first_out (h : Ls w0 W g a b N H ca cb) (n : Int) (hn : n < 0 ∨ H ≤ n) :
    Calls Try.prog 29 #[.pointer (some ⟨g, 0, none⟩), .int .i64 n] W fun e w' => e = .returned (.tuple #[.int .i64 0, .bool false]) ∧ W = w' := by
  have HL := Aside0.mk h; clear h
  have HN := Aside0.mk hn; clear hn
  go_enter Try.func29, Try.ntmps29
  go_wp2_with fail
  refine (head_calls HL.out n false (by have := HN.out; simp; omega)).mono ?_
  rintro e w' ⟨rfl, rfl⟩
  go_wp2
  go_ret2
  exact ⟨rfl, rfl⟩
theorem len_in (h : Ls w0 W g a b N H ca cb) (n : Nat) (hn : n < H) (v : Int) (hv : cb (n * 3 + 2) = v) :
    Calls Try.prog 16 #[.pointer (some ⟨g, 0, none⟩), .int .i64 n] W fun e w' => e = .returned (.int .i64 v) ∧ W = w' := by
  subst hv
  have c := h.cg1
  have h1 := h.H1
  have c1 := h.cb (n * 3 + 2) (by omega)
  have HL := Aside0.mk h; clear h
  generalize cb (n * 3 + 2) = v at *
  go_enter Try.func16, Try.ntmps16
  go_wp2_with fail
  refine (head_calls HL.out n true (by simp; omega)).mono ?_
  rintro e w' ⟨rfl, rfl⟩
  go_wp2
  go_ret
  exact ⟨rfl, rfl⟩
theorem len_out (h : Ls w0 W g a b N H ca cb) (n : Int) (hn : n < 0 ∨ H ≤ n) :
    Calls Try.prog 16 #[.pointer (some ⟨g, 0, none⟩), .int .i64 n] W fun e w' => e = .returned (.int .i64 0) ∧ W = w' := by
  have HL := Aside0.mk h; clear h
  have HN := Aside0.mk hn; clear hn
  go_enter Try.func16, Try.ntmps16
  go_wp2_with fail
  refine (head_calls HL.out n false (by have := HN.out; simp; omega)).mono ?_
  rintro e w' ⟨rfl, rfl⟩
  go_wp2
  go_ret
  exact ⟨rfl, rfl⟩
end Go.Proofs.Yteiepbjajennkaa.ListHand
