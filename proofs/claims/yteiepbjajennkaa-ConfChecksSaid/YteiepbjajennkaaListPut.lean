/- What putting a node between two of a row does, in memory. Conditions: none. -/
import Derived.Test.YteiepbjajennkaaListBase
namespace Go.Proofs.Yteiepbjajennkaa.ListHand
set_option linter.unusedVariables false
open Go.RowKit Go.Proofs.YteiepbjajennkaaW.PrintWords
def oi : Option Nat → Int | none => -1 | some y => (y : Int)
def setNext (ca : Nat → Int) (n : Nat) : Option Nat → Nat → Int | none => ca | some y => updI ca (y * 3 + 1) n
def setPrev (ca : Nat → Int) (n : Nat) : Option Nat → Nat → Int | none => ca | some y => updI ca (y * 3 + 2) n
def putCa (ca : Nat → Int) (x n : Nat) (p q : Option Nat) : Nat → Int := setPrev (setNext (updI (updI (updI ca (n * 3) (x : Int)) (n * 3 + 1) (oi q)) (n * 3 + 2) (oi p)) n p) n q
def setFirst (cb : Nat → Int) (x n : Nat) : Option Nat → Nat → Int | none => updI cb (x * 3) n | some _ => cb
def setLast (cb : Nat → Int) (x n : Nat) : Option Nat → Nat → Int | none => updI cb (x * 3 + 1) n | some _ => cb
def putCb (cb : Nat → Int) (x n : Nat) (p q : Option Nat) : Nat → Int := setLast (setFirst (updI cb (x * 3 + 2) (cb (x * 3 + 2) + 1)) x n p) x n q
variable {w0 W : World} {g a b N H : Nat} {ca cb : Nat → Int}
set_option maxHeartbeats 1000000 in
theorem put_calls (h : Ls w0 W g a b N H ca cb) (x n : Nat) (hx : x < H) (hn : n < N) (p q : Option Nat) (hp : ∀ y, p = some y → y < N ∧ y ≠ n) (hq : ∀ y, q = some y → y < N ∧ y ≠ n) (hc : 0 ≤ cb (x * 3 + 2) ∧ cb (x * 3 + 2) ≤ 2000) :
    Calls Try.prog 40 #[.pointer (some ⟨g, 0, none⟩), .int .i64 x, .int .i64 n, .int .i64 (oi p), .int .i64 (oi q)] W fun e w' => e = .returned (.tuple #[]) ∧ Ls w0 w' g a b N H (putCa ca x n p q) (putCb cb x n p q) ∧ KB W w' a b := by
  have c0 := h.cg0
  have c1 := h.cg1
  have ga := h.ga
  have gb := h.gb
  have ab := h.ab
  have N1 := h.N1
  have H1 := h.H1
  have a0 := h.ca (n * 3) (by omega)
  have a1 := h.ca (n * 3 + 1) (by omega)
  have a2 := h.ca (n * 3 + 2) (by omega)
  have b0 := h.cb (x * 3) (by omega)
  have b1 := h.cb (x * 3 + 1) (by omega)
  have b2 := h.cb (x * 3 + 2) (by omega)
  have f0 := h.fa (n * 3)
  have f1 := h.fa (n * 3 + 1)
  have f2 := h.fa (n * 3 + 2)
  have g0 := h.fb (x * 3)
  have g1 := h.fb (x * 3 + 1)
  have g2 := h.fb (x * 3 + 2)
  obtain ⟨hc0, hc1⟩ := hc
  have HK := Aside0.mk (((h.sa (n * 3) (by omega) (x : Int)).sa (n * 3 + 1) (by omega) (oi q)).sa (n * 3 + 2) (by omega) (oi p))
  have KK := Aside0.mk ((((KB.refl W a b).seta (n * 3) (.int .i64 x)).seta (n * 3 + 1) (.int .i64 (oi q))).seta (n * 3 + 2) (.int .i64 (oi p)))
  have HF := Aside0.mk h.fa
  have HC := Aside0.mk h.ca
  clear h
  cases p with
  | none =>
    cases q with
    | none =>
      have HS := Aside0.mk (((HK.out.sb (x * 3 + 2) (by omega) (cb (x * 3 + 2) + 1)).sb (x * 3) (by omega) (n : Int)).sb (x * 3 + 1) (by omega) (n : Int))
      simp only [oi] at *
      go_enter Try.func40, Try.ntmps40
      go_wp2
      go_end0
      exact ⟨rfl, HS.out, ((KK.out.setb _ _).setb _ _).setb _ _⟩
    | some y =>
      obtain ⟨hy, hyn⟩ := hq y rfl
      have d := HC.out (y * 3 + 2) (by omega)
      have e := HF.out (y * 3 + 2)
      have HS := Aside0.mk (((HK.out.sb (x * 3 + 2) (by omega) (cb (x * 3 + 2) + 1)).sb (x * 3) (by omega) (n : Int)).sa (y * 3 + 2) (by omega) (n : Int))
      have qy : ((y : Int) == -1) = false := beq_eq_false_iff_ne.2 (by omega)
      simp only [oi] at *
      go_enter Try.func40, Try.ntmps40
      go_wp2
      go_end0
      exact ⟨rfl, HS.out, ((KK.out.setb _ _).setb _ _).seta _ _⟩
  | some z =>
    obtain ⟨hz, hzn⟩ := hp z rfl
    have d0 := HC.out (z * 3 + 1) (by omega)
    have e0 := HF.out (z * 3 + 1)
    have qz : ((z : Int) == -1) = false := beq_eq_false_iff_ne.2 (by omega)
    cases q with
    | none =>
      have HS := Aside0.mk (((HK.out.sb (x * 3 + 2) (by omega) (cb (x * 3 + 2) + 1)).sa (z * 3 + 1) (by omega) (n : Int)).sb (x * 3 + 1) (by omega) (n : Int))
      simp only [oi] at *
      go_enter Try.func40, Try.ntmps40
      go_wp2
      go_end0
      exact ⟨rfl, HS.out, ((KK.out.setb _ _).seta _ _).setb _ _⟩
    | some y =>
      obtain ⟨hy, hyn⟩ := hq y rfl
      have d := HC.out (y * 3 + 2) (by omega)
      have e := HF.out (y * 3 + 2)
      have HS := Aside0.mk (((HK.out.sb (x * 3 + 2) (by omega) (cb (x * 3 + 2) + 1)).sa (z * 3 + 1) (by omega) (n : Int)).sa (y * 3 + 2) (by omega) (n : Int))
      have qy : ((y : Int) == -1) = false := beq_eq_false_iff_ne.2 (by omega)
      simp only [oi] at *
      go_enter Try.func40, Try.ntmps40
      go_wp2
      go_end0
      exact ⟨rfl, HS.out, ((KK.out.setb _ _).seta _ _).seta _ _⟩
end Go.Proofs.Yteiepbjajennkaa.ListHand
