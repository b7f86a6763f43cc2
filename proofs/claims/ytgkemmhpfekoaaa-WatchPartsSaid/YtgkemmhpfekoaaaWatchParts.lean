/- However what a task ran is parted, it is over in the part that brings it to its bound, and in no other one: the walk of WatchParts. Conditions: none. -/
import Derived.Test.YtgkemmhpfekoaaaWatchBase
namespace Go.Proofs.Ytgkemmhpfekoaaa.WatchHand
set_option linter.unusedVariables false
open Go.RowKit Go.Proofs.YtgkemmhpfekoaaaW.PrintWords Go.Proofs.YtgkemmhpfekoaaaW.PrintLast Go.Proofs.YtgkemmhpfekoaaaW.PrintMore
theorem bu16 {n : Int} (h : (Lit.int .u16 n).wf = true) : 0 ≤ n ∧ n ≤ 65535 := by
  simp [Lit.wf, IntKind.min, IntKind.max, IntKind.signed, IntKind.bits] at h
  omega
theorem bu8 {n : Int} (h : (Lit.int .u8 n).wf = true) : 0 ≤ n ∧ n ≤ 255 := by
  simp [Lit.wf, IntKind.min, IntKind.max, IntKind.signed, IntKind.bits] at h
  omega
theorem sum_snoc (xs : List Int) (k : Nat) (h : k < xs.length) : (xs.take (k + 1)).sum = (xs.take k).sum + xs[k] := by
  rw [List.take_succ_eq_append_getElem h, List.sum_append]
  simp
theorem sum_rg (xs : List Int) (h : ∀ x ∈ xs, 0 ≤ x ∧ x ≤ 255) : 0 ≤ xs.sum ∧ xs.sum ≤ xs.length * 255 := by
  induction xs with
  | nil => simp
  | cons x xs ih =>
    have h1 := ih (fun y hy => h y (List.mem_cons_of_mem _ hy))
    have h2 := h x List.mem_cons_self
    simp only [List.sum_cons, List.length_cons]
    omega
/-- What is left of a bound behind a sum. -/
def rest (b s : Int) : Int := if s < b then b - s else 0
theorem Wt.congr {w0 W : World} {g b n : Nat} {f f' : Nat → Int} (h : Wt w0 W g b n f) (e : ∀ i, i < n → f i = f' i) : Wt w0 W g b n f' :=
  ⟨h.cg, fun i hi => (h.c0 i hi).trans (by rw [e i hi]), fun i hi => (h.c1 i hi).trans (by rw [e i hi]), h.fr, h.ne, h.gw, h.bw, fun i hi => (e i hi) ▸ h.rg i hi, h.n0, h.n1, h.be⟩
set_option maxHeartbeats 2000000 in
set_option maxRecDepth 100000 in
theorem parts_core (b : Int) (b0 : 1 ≤ b) (b1 : b ≤ 65535) (xs : List Int) (hx : ∀ x ∈ xs, 0 ≤ x ∧ x ≤ 255) (hn : xs.length ≤ 200) (A : Option Addr) (c : Nat) (hc : xs.length ≤ c) (w : World) (hr : ReadsInt w .u8 A xs.length xs) :
    Calls Try.prog 3 #[.int .u16 b, .slice A xs.length c] w fun e w' => e = .returned (.bool true) ∧ Below w.heap.size w w' := by
  have qb : (b == 0) = false := by simp; omega
  have HX := Aside0.mk hx; clear hx
  have HR := Aside0.mk hr; clear hr
  go_enter Try.func3, Try.ntmps3
  go_wp2_with fail
  refine (known_calls w).mono ?_
  rintro e w1 ⟨rfl, h1⟩
  have H1 := Aside0.mk h1; clear h1
  go_wp2_with fail
  refine (new_calls 1 (by omega) (by omega) w1).mono ?_
  rintro e w2 ⟨rfl, h2⟩
  have h2' := Wt.made H1.out 1 (by omega) (by omega)
  rw [← h2] at h2'
  have H2 := Aside0.mk h2'; clear h2' h2
  go_wp2_with fail
  refine (start_in H2.out 0 (by omega) 1 b rfl b0 (by omega)).mono ?_
  rintro e w3 ⟨rfl, h3, _⟩
  have h3' : Wt w w3 (w1.heap.size + 1) w1.heap.size 1 (fun _ => rest b 0) := by
    have e : ∀ i, i < 1 → upd (fun _ => (0 : Int)) 0 b i = rest b 0 := by
      intro i hi
      have : i = 0 := by omega
      subst this
      rw [upd_at]; unfold rest; rw [if_pos (by omega)]; omega
    exact h3.congr e
  have H3 := Aside0.mk h3'; clear h3 h3'
  go_wp2
  go_loopw [7, 8] (fun s i w' => ∃ j : Nat, j ≤ xs.length ∧ i = .int .i64 j ∧ s = .int .i64 (xs.take j).sum ∧ Aside0 (Wt w w' (w1.heap.size + 1) w1.heap.size 1 (fun _ => rest b (xs.take j).sum))) (fun _ i _ => xs.length - (intOf i).toNat)
  case atStart => exact ⟨0, Nat.zero_le _, rfl, rfl, H3⟩
  case round =>
    clear H3
    obtain ⟨j, hj, rfl, rfl, HW⟩ := hrel
    by_cases hlt : j < xs.length
    · have HS := Aside0.mk (sum_snoc xs j hlt)
      have hrd := HR.out.below HW.out.be
      obtain ⟨ad, hA, hcell⟩ := hrd.2.2 (by omega)
      have hxj := hcell j hlt
      have hg : xs.getD j 0 = xs[j] := by simp [hlt]
      rw [hg] at hxj
      subst hA
      obtain ⟨x0, x1⟩ := HX.out xs[j] (List.getElem_mem hlt)
      obtain ⟨s0, s1⟩ := sum_rg (xs.take j) (fun y hy => HX.out y (List.mem_of_mem_take hy))
      have hl2 : (xs.take j).length ≤ 200 := by rw [List.length_take]; omega
      have s2 : (xs.take j).sum ≤ 51000 := by omega
      clear hcell hg s1 hl2 hrd
      generalize xs[j] = x at *
      generalize (xs.take j).sum = s at *
      by_cases c1 : s < b
      · by_cases c2 : s + x < b
        · have HC := Aside0.mk (show ∀ i, i < 1 → upd (fun _ => rest b s) 0 (b - (s + x)) i = rest b (s + x) from fun i hi => by
            obtain rfl : i = 0 := by omega
            rw [upd_at]; unfold rest; rw [if_pos c2])
          have HV := Aside0.mk (show rest b s = b - s from if_pos c1)
          go_wp2_with fail
          refine (ran_at HW.out 0 (by omega) 1 x rfl x0 (by omega) (b - s) HV.out false (by simp; omega) (b - (s + x)) (by rw [if_pos (by omega)]; omega)).mono ?_
          rintro e w4 ⟨rfl, h4, _⟩
          have H4 := Aside0.mk (h4.congr HC.out); clear h4
          go_wp2
          go_roundw
          case rel => exact ⟨j + 1, by omega, by go_num, by rw [HS.out], by rw [HS.out]; exact H4⟩
          case measure => simp [intOf]; omega
        · have c3 : b ≤ s + x := by omega
          have HC := Aside0.mk (show ∀ i, i < 1 → upd (fun _ => rest b s) 0 0 i = rest b (s + x) from fun i hi => by
            obtain rfl : i = 0 := by omega
            rw [upd_at]; unfold rest; rw [if_neg c2])
          have HV := Aside0.mk (show rest b s = b - s from if_pos c1)
          clear c2
          go_wp2_with fail
          refine (ran_at HW.out 0 (by omega) 1 x rfl x0 (by omega) (b - s) HV.out true (by simp; omega) 0 (by rw [if_neg (by omega)])).mono ?_
          rintro e w4 ⟨rfl, h4, _⟩
          have H4 := Aside0.mk (h4.congr HC.out); clear h4
          go_wp2
          go_roundw
          case rel => exact ⟨j + 1, by omega, by go_num, by rw [HS.out], by rw [HS.out]; exact H4⟩
          case measure => simp [intOf]; omega
      · have c3 : b ≤ s := by omega
        have HC := Aside0.mk (show ∀ i, i < 1 → upd (fun _ => rest b s) 0 0 i = rest b (s + x) from fun i hi => by
          obtain rfl : i = 0 := by omega
          rw [upd_at]; unfold rest; rw [if_neg (by omega)])
        have HV := Aside0.mk (show rest b s = 0 from if_neg c1)
        clear c1
        go_wp2_with fail
        refine (ran_at HW.out 0 (by omega) 1 x rfl x0 (by omega) 0 HV.out false (by simp) 0 (by rw [if_neg (by omega)])).mono ?_
        rintro e w4 ⟨rfl, h4, _⟩
        have H4 := Aside0.mk (h4.congr HC.out); clear h4
        go_wp2
        go_roundw
        case rel => exact ⟨j + 1, by omega, by go_num, by rw [HS.out], by rw [HS.out]; exact H4⟩
        case measure => simp [intOf]; omega
    · go_wp2
      go_ret
      exact ⟨rfl, HW.out.be⟩
theorem parts_out (b : Int) (hb : b = 0 ∨ (1 ≤ b ∧ b ≤ 65535)) (n : Nat) (h : b = 0 ∨ 200 < n) (A : Option Addr) (c : Nat) (hn : n ≤ 9223372036854775807) (w : World) :
    Calls Try.prog 3 #[.int .u16 b, .slice A n c] w fun e w' => e = .returned (.bool true) ∧ Below w.heap.size w w' := by
  by_cases z : b = 0
  · have qb : (b == 0) = true := by simp [z]
    clear hb h z
    go_enter Try.func3, Try.ntmps3
    go_wp2_with fail
    refine (known_calls w).mono ?_
    rintro e w1 ⟨rfl, h1⟩
    have H1 := Aside0.mk h1; clear h1
    go_wp2
    go_ret
    exact ⟨rfl, H1.out⟩
  · have qb : (b == 0) = false := by simp [z]
    have hn2 : 200 < n := by omega
    clear hb h z
    go_enter Try.func3, Try.ntmps3
    go_wp2_with fail
    refine (known_calls w).mono ?_
    rintro e w1 ⟨rfl, h1⟩
    have H1 := Aside0.mk h1; clear h1
    go_wp2
    go_ret
    exact ⟨rfl, H1.out⟩
theorem parts_walk (b : Int) (a0 : Option Addr) (len0 cap0 : Nat) (z0 : List Int) (w : World) (wb : (Lit.int .u16 b).wf = true) (w0 : (a0 = none ∧ len0 = 0 ∧ cap0 = 0 ∧ z0 = []) ∨ ∃ x, a0 = some x ∧ len0 ≤ cap0 ∧ cap0 ≤ maxLen ∧ z0.length = cap0 ∧ (∀ i, i < z0.length → w.cell? (x.add i) = some (.int .u8 (z0.getD i 0))) ∧ ∀ n ∈ z0, (Lit.int .u8 n).wf = true) (y0 : len0 * 1 ≤ 140737488351232) :
    Calls Try.prog 3 #[.int .u16 b, .slice a0 len0 cap0] w fun e w' => e = .returned (.bool true) ∧ Below w.heap.size w w' := by
  obtain ⟨l0, rfl, hr0, hm0, hw0, hc0⟩ := ReadsInt.ofRowC w0
  have hb := bu16 wb
  by_cases h : b = 0 ∨ 200 < l0.length
  · exact parts_out b (by omega) l0.length h a0 cap0 (by omega) w
  · exact parts_core b (by omega) (by omega) l0 (fun x hx => bu8 (hw0 x hx)) (by omega) a0 cap0 hc0 w hr0
end Go.Proofs.Ytgkemmhpfekoaaa.WatchHand
