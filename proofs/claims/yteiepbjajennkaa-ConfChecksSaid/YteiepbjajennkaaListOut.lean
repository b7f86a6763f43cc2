/- What taking a node out of its row does, in memory. Conditions: none. -/
import Derived.Test.YteiepbjajennkaaListOps
import Derived.RegionTactic
import Derived.BigRegion
import Derived.ChangeAlike
namespace Go.Proofs.Yteiepbjajennkaa.ListHand
set_option linter.unusedVariables false
open Go.RowKit Go.Proofs.YteiepbjajennkaaW.PrintWords
def nextTo (ca : Nat → Int) (v : Int) : Option Nat → Nat → Int | none => ca | some y => updI ca (y * 3 + 1) v
def prevTo (ca : Nat → Int) (v : Int) : Option Nat → Nat → Int | none => ca | some y => updI ca (y * 3 + 2) v
def outCa (ca : Nat → Int) (n : Nat) (p q : Option Nat) : Nat → Int := updI (updI (updI (prevTo (nextTo ca (oi q) p) (oi p) q) (n * 3) (-1)) (n * 3 + 1) (-1)) (n * 3 + 2) (-1)
def firstTo (cb : Nat → Int) (x : Nat) (v : Int) : Option Nat → Nat → Int | none => updI cb (x * 3) v | some _ => cb
def lastTo (cb : Nat → Int) (x : Nat) (v : Int) : Option Nat → Nat → Int | none => updI cb (x * 3 + 1) v | some _ => cb
def outCb (cb : Nat → Int) (x : Nat) (p q : Option Nat) : Nat → Int := lastTo (firstTo (updI cb (x * 3 + 2) (cb (x * 3 + 2) - 1)) x (oi q) p) x (oi p) q
variable {w0 W : World} {g a b N H : Nat} {ca cb : Nat → Int}
theorem Ls.drew (h : Ls w0 W g a b N H ca cb) : Ls w0 W.drew g a b N H ca cb := h.below (below_drew (Below.refl _ _))
theorem KB.alloc {W w' : World} {a b : Nat} (h : KB W w' a b) (o : Obj) : KB W (w'.alloc o) a b := h.trans (KB.of_below (below_alloc (Below.refl _ _) o) a b)
theorem KB.drew {W w' : World} {a b : Nat} (h : KB W w' a b) : KB W w'.drew a b := h.trans (KB.of_below (below_drew (Below.refl _ _)) a b)
theorem remove_out (h : Ls w0 W g a b N H ca cb) (n : Int) (hn : n < 0 ∨ N ≤ n) :
    Calls Try.prog 19 #[.pointer (some ⟨g, 0, none⟩), .int .i64 n] W fun e w' => e = .returned (.int .i64 (-17)) ∧ W = w' := by
  have HL := Aside0.mk h; clear h
  have HN := Aside0.mk hn; clear hn
  go_enter Try.func19, Try.ntmps19
  go_wp2_with fail
  refine (node_calls HL.out n false (by have := HN.out; simp; omega)).mono ?_
  rintro e w' ⟨rfl, rfl⟩
  go_wp2
  go_ret
  exact ⟨rfl, rfl⟩
theorem remove_free (h : Ls w0 W g a b N H ca cb) (n : Nat) (hn : n < N) (hv : ca (n * 3) = -1) :
    Calls Try.prog 19 #[.pointer (some ⟨g, 0, none⟩), .int .i64 n] W fun e w' => e = .returned (.int .i64 (-41)) ∧ W = w' := by
  have HL := Aside0.mk h; clear h
  have HN := Aside0.mk hn; clear hn
  have HV := Aside0.mk hv; clear hv
  go_enter Try.func19, Try.ntmps19
  go_wp2_with fail
  refine (node_calls HL.out n true (by have := HN.out; simp; omega)).mono ?_
  rintro e w' ⟨rfl, rfl⟩
  go_wp2_with fail
  refine (in_calls HL.out n HN.out false (by rw [HV.out]; rfl)).mono ?_
  rintro e w' ⟨rfl, rfl⟩
  go_wp2
  go_ret
  exact ⟨rfl, rfl⟩
set_option maxHeartbeats 2000000 in
theorem remove_calls (h : Ls w0 W g a b N H ca cb) (x n : Nat) (hx : x < H) (hn : n < N) (p q : Option Nat) (hp : ∀ y, p = some y → y < N ∧ y ≠ n) (hq : ∀ y, q = some y → y < N ∧ y ≠ n) (hc : 0 ≤ cb (x * 3 + 2) ∧ cb (x * 3 + 2) ≤ 2000)
    (e0 : ca (n * 3) = x) (e1 : ca (n * 3 + 1) = oi q) (e2 : ca (n * 3 + 2) = oi p) :
    Calls Try.prog 19 #[.pointer (some ⟨g, 0, none⟩), .int .i64 n] W fun e w' => e = .returned (.int .i64 0) ∧ Ls w0 w' g a b N H (outCa ca n p q) (outCb cb x p q) ∧ KB W w' a b := by
  have c0 := h.cg0
  have c1 := h.cg1
  have ga := h.ga
  have gb := h.gb
  have ab := h.ab
  have N1 := h.N1
  have H1 := h.H1
  obtain ⟨gl, al, bl⟩ := h.lt
  have a0 := h.ca (n * 3) (by omega)
  have a1 := h.ca (n * 3 + 1) (by omega)
  have a2 := h.ca (n * 3 + 2) (by omega)
  rw [e0] at a0; rw [e1] at a1; rw [e2] at a2
  have b0 := h.cb (x * 3) (by omega)
  have b1 := h.cb (x * 3 + 1) (by omega)
  have b2 := h.cb (x * 3 + 2) (by omega)
  have f0 := h.fa (n * 3)
  have f1 := h.fa (n * 3 + 1)
  have f2 := h.fa (n * 3 + 2)
  have g0 := h.fb (x * 3)
  have g1 := h.fb (x * 3 + 1)
  have g2 := h.fb (x * 3 + 2)
  obtain ⟨hc0, hc1⟩ := hc
  have xb : ((x : Int) != -1) = true := by simp only [bne_iff_ne, ne_eq]; omega
  have HL := Aside0.mk h
  have HX := Aside0.mk e0
  have HF := Aside0.mk h.fa
  have HC := Aside0.mk h.ca
  clear h e0 e1 e2
  cases p with
  | none =>
    cases q with
    | none =>
      have HS := Aside0.mk ((((((HL.out.sb (x * 3 + 2) (by omega) (cb (x * 3 + 2) - 1)).sb (x * 3) (by omega) (-1)).sb (x * 3 + 1) (by omega) (-1)).sa (n * 3) (by omega) (-1)).sa (n * 3 + 1) (by omega) (-1)).sa (n * 3 + 2) (by omega) (-1))
      simp only [oi] at *
      go_enter Try.func19, Try.ntmps19
      go_wp2_with fail
      refine (node_calls HL.out n true (by simp; omega)).mono ?_
      rintro e w' ⟨rfl, rfl⟩
      go_wp2_with fail
      refine (in_calls HL.out n hn true (by rw [HX.out]; exact xb)).mono ?_
      rintro e w' ⟨rfl, rfl⟩
      go_wp2
      go_region
      go_wp2
      go_ret
      exact ⟨rfl, (HS.out.alloc _).drew, ((((((((KB.refl W a b).setb _ _).setb _ _).setb _ _).seta _ _).seta _ _).seta _ _).alloc _).drew⟩
    | some y =>
      obtain ⟨hy, hyn⟩ := hq y rfl
      have d := HC.out (y * 3 + 2) (by omega)
      have e := HF.out (y * 3 + 2)
      have HS := Aside0.mk ((((((HL.out.sb (x * 3 + 2) (by omega) (cb (x * 3 + 2) - 1)).sb (x * 3) (by omega) (y : Int)).sa (y * 3 + 2) (by omega) (-1)).sa (n * 3) (by omega) (-1)).sa (n * 3 + 1) (by omega) (-1)).sa (n * 3 + 2) (by omega) (-1))
      have qy : ((y : Int) == -1) = false := beq_eq_false_iff_ne.2 (by omega)
      simp only [oi] at *
      go_enter Try.func19, Try.ntmps19
      go_wp2_with fail
      refine (node_calls HL.out n true (by simp; omega)).mono ?_
      rintro e w' ⟨rfl, rfl⟩
      go_wp2_with fail
      refine (in_calls HL.out n hn true (by rw [HX.out]; exact xb)).mono ?_
      rintro e w' ⟨rfl, rfl⟩
      go_wp2
      go_region
      go_wp2
      go_region
      go_wp2
      go_ret
      exact ⟨rfl, (HS.out.alloc _).drew.drew, ((((((((KB.refl W a b).setb _ _).setb _ _).seta _ _).seta _ _).seta _ _).seta _ _).alloc _).drew.drew⟩
  | some z =>
    obtain ⟨hz, hzn⟩ := hp z rfl
    have d0 := HC.out (z * 3 + 1) (by omega)
    have e0 := HF.out (z * 3 + 1)
    have qz : ((z : Int) == -1) = false := beq_eq_false_iff_ne.2 (by omega)
    cases q with
    | none =>
      have HS := Aside0.mk ((((((HL.out.sb (x * 3 + 2) (by omega) (cb (x * 3 + 2) - 1)).sa (z * 3 + 1) (by omega) (-1)).sb (x * 3 + 1) (by omega) (z : Int)).sa (n * 3) (by omega) (-1)).sa (n * 3 + 1) (by omega) (-1)).sa (n * 3 + 2) (by omega) (-1))
      simp only [oi] at *
      go_enter Try.func19, Try.ntmps19
      go_wp2_with fail
      refine (node_calls HL.out n true (by simp; omega)).mono ?_
      rintro e w' ⟨rfl, rfl⟩
      go_wp2_with fail
      refine (in_calls HL.out n hn true (by rw [HX.out]; exact xb)).mono ?_
      rintro e w' ⟨rfl, rfl⟩
      go_wp2
      go_region
      go_wp2
      go_region
      go_wp2
      go_ret
      exact ⟨rfl, (HS.out.alloc _).drew.drew, ((((((((KB.refl W a b).setb _ _).seta _ _).setb _ _).seta _ _).seta _ _).seta _ _).alloc _).drew.drew⟩
    | some y =>
      obtain ⟨hy, hyn⟩ := hq y rfl
      have d := HC.out (y * 3 + 2) (by omega)
      have e := HF.out (y * 3 + 2)
      have HS := Aside0.mk ((((((HL.out.sb (x * 3 + 2) (by omega) (cb (x * 3 + 2) - 1)).sa (z * 3 + 1) (by omega) (y : Int)).sa (y * 3 + 2) (by omega) (z : Int)).sa (n * 3) (by omega) (-1)).sa (n * 3 + 1) (by omega) (-1)).sa (n * 3 + 2) (by omega) (-1))
      have qy : ((y : Int) == -1) = false := beq_eq_false_iff_ne.2 (by omega)
      simp only [oi] at *
      go_enter Try.func19, Try.ntmps19
      go_wp2_with fail
      refine (node_calls HL.out n true (by simp; omega)).mono ?_
      rintro e w' ⟨rfl, rfl⟩
      go_wp2_with fail
      refine (in_calls HL.out n hn true (by rw [HX.out]; exact xb)).mono ?_
      rintro e w' ⟨rfl, rfl⟩
      go_wp2
      go_region
      go_wp2
      go_region
      go_wp2
      go_region
      go_wp2
      go_ret
      exact ⟨rfl, (HS.out.alloc _).drew.drew.drew, ((((((((KB.refl W a b).setb _ _).seta _ _).seta _ _).seta _ _).seta _ _).seta _ _).alloc _).drew.drew.drew⟩
end Go.Proofs.Yteiepbjajennkaa.ListHand
