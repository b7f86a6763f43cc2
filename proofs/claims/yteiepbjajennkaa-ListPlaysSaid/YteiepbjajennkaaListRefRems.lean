/- The document's lists: Remove, all its ways. Conditions: none. -/
import Derived.Test.YteiepbjajennkaaListRefRem
namespace Go.Proofs.Yteiepbjajennkaa.ListHand
set_option linter.unusedVariables false
open Go.RowKit Go.Proofs.YteiepbjajennkaaW.PrintWords Go.Proofs.YteiepbjajennkaaW.PrintMore
variable {w0 W : World} {lo q s N H : Nat} {R : Nat → List Nat}
theorem rem_in (h : Rf w0 lo W q s N H R) (x k n : Nat) (hx : x < H) (hk : (R x)[k]? = some n) :
    Calls Try.prog 27 #[.pointer (some ⟨q, 0, none⟩), .int .i64 n] W fun e w' => e = .returned (.int .i64 0) ∧ Rf w0 lo w' q s N H (setR R x ((R x).eraseIdx k)) ∧ KB W w' s s := by
  have hkl : k < (R x).length := (List.getElem?_eq_some_iff.1 hk).1
  have hsub : ((R x).eraseIdx k).Sublist (R x) := List.eraseIdx_sublist ..
  have hlen : ((R x).eraseIdx k).length = (R x).length - 1 := by rw [List.length_eraseIdx, if_pos hkl]
  refine (ref_rem h x k n hx hk).mono ?_
  rintro e w' ⟨rfl, v, w1, rfl, hb, ho⟩
  refine ⟨rfl, h.turn hx _ hb (by rw [hlen]; exact ho) (by have := h.len x hx; omega) (fun y hy => h.nod x hx y (hsub.subset hy)) (hsub.nodup (h.dup x hx)) fun j y hj hne hy hm => ?_⟩
  exact hne (h.one j x y hj hx hy (hsub.subset hm))
theorem rem_bad (h : Rf w0 lo W q s N H R) (n : Int) (hb : ¬(0 ≤ n ∧ n < N)) :
    Calls Try.prog 27 #[.pointer (some ⟨q, 0, none⟩), .int .i64 n] W fun e w' => e = .returned (.int .i64 (-17)) ∧ W = w' := by
  have HL := Aside0.mk h; clear h
  have HB := Aside0.mk hb; clear hb
  go_enter Try.func27, Try.ntmps27
  go_wp2_with fail
  refine (ref_node HL.out n false (decide_eq_false HB.out)).mono ?_
  rintro e w' ⟨rfl, rfl⟩
  go_wp2
  go_ret
  exact ⟨rfl, rfl⟩
theorem rem_free (h : Rf w0 lo W q s N H R) (n : Nat) (hn : n < N) (hf : ∀ j, j < H → n ∉ R j) :
    Calls Try.prog 27 #[.pointer (some ⟨q, 0, none⟩), .int .i64 n] W fun e w' => e = .returned (.int .i64 (-41)) ∧ W = w' := by
  have HL := Aside0.mk h; clear h
  have HN := Aside0.mk hn; have HF := Aside0.mk hf; clear hn hf
  go_enter Try.func27, Try.ntmps27
  go_wp2_with fail
  refine (ref_node HL.out n true (by have := HN.out; simp; omega)).mono ?_
  rintro e w' ⟨rfl, rfl⟩
  go_wp2_with fail
  refine (of_free HL.out n HF.out).mono ?_
  rintro e w' ⟨rfl, rfl⟩
  go_wp2
  go_ret
  exact ⟨rfl, rfl⟩
end Go.Proofs.Yteiepbjajennkaa.ListHand
