/- The program's lists: what each call does, whatever it is handed. Conditions: none. -/
import Derived.Test.YteiepbjajennkaaListRefSame
namespace Go.Proofs.Yteiepbjajennkaa.ListHand
set_option linter.unusedVariables false
open Go.RowKit Go.Proofs.YteiepbjajennkaaW.PrintWords Go.Proofs.YteiepbjajennkaaW.PrintMore
variable {w0 W : World} {lo g a b q s N H : Nat} {R : Nat → List Nat}
set_option maxHeartbeats 2000000 in
theorem back_calls0 (h : LR w0 W g a b N H R) (x : Nat) (hx : x < H) (xs : List Nat) (hN : ∀ n ∈ xs, n < N) (hfree : ∀ n ∈ xs, ∀ j, j < H → n ∉ R j) (hdup : xs.Nodup) (hlen : xs.length ≤ 1000) (A : Option Addr) (c m : Nat) (hm : m = xs.length) (hr : ReadsInt W .i64 A xs.length (ints xs)) (hA : ∀ ad, A = some ad → 0 < xs.length → ad.block ≠ a ∧ ad.block ≠ b) :
    Calls Try.prog 15 #[.pointer (some ⟨g, 0, none⟩), .int .i64 x, .slice A m c] W fun e w' => e = .returned (.int .i64 0) ∧ LR w0 w' g a b N H (setR R x (R x ++ xs)) ∧ KB W w' a b := by
  subst hm
  have HL := Aside0.mk h; clear h
  have HR := Aside0.mk hr; clear hr
  have HN := Aside0.mk hN; clear hN
  have HF := Aside0.mk hfree; clear hfree
  have HD := Aside0.mk hdup; clear hdup
  have HA := Aside0.mk hA; clear hA
  obtain ⟨N0, N1, H0, H1⟩ := HL.out.bounds
  go_enter Try.func15, Try.ntmps15
  go_wp2_with fail
  obtain ⟨ca, cb, hl1, hl2⟩ := HL.out
  have hil := ints_len xs
  refine (may_all hl1 x hx (ints xs) (by omega) A c _ hil.symm (by rw [hil]; exact HR.out) (fun y hy => by
    obtain ⟨n, hn, rfl⟩ := List.mem_map.1 hy
    have := HN.out n hn
    exact ⟨by omega, by omega⟩) xs.length (by omega) (fun j hj => by
    have hj2 : j < xs.length := by omega
    rw [ints_get xs j hj2, Int.toNat_natCast]
    have hm := List.getElem_mem hj2
    refine ⟨(hl2.inn (HN.out _ hm)).2 (HF.out _ hm), fun hin => ?_⟩
    unfold ints at hin
    rw [← List.map_take] at hin
    obtain ⟨n, hn, e⟩ := List.mem_map.1 hin
    obtain ⟨i, hi, e2⟩ := List.mem_take_iff_getElem.1 hn
    have e3 : n = xs[j] := by omega
    have := (List.getElem_inj HD.out).1 (e2.trans e3)
    omega) (fun hj => by omega) 0 (by rw [if_neg (by omega)])).mono ?_
  rintro e w1 ⟨rfl, hb1⟩
  have HL1 := Aside0.mk (HL.out.below hb1)
  have HK1 := Aside0.mk (KB.of_below hb1 a b)
  have HR1 := Aside0.mk (HR.out.below hb1)
  clear hl1 hl2 hb1 hil
  go_wp2
  go_loopw [19] (fun i w' => ∃ j : Nat, j ≤ xs.length ∧ i = .int .i64 j ∧ Aside0 (LR w0 w' g a b N H (setR R x (R x ++ xs.take j))) ∧ Aside0 (KB W w' a b)) (fun i _ => xs.length - (intOf i).toNat)
  case atStart => exact ⟨0, Nat.zero_le _, rfl, ⟨by rw [List.take_zero, List.append_nil, setR_self]; exact HL1.out⟩, HK1⟩
  case round =>
    obtain ⟨j, hj, rfl, HLj, HKj⟩ := hrel
    by_cases hlt : j < xs.length
    · obtain ⟨ad, hAd, hcell⟩ := (ReadsInt.kb HR.out HKj.out (fun ad e => HA.out ad e (by omega))).2.2 (by omega)
      have hxj := hcell j hlt
      subst hAd
      have hg : (ints xs).getD j 0 = (xs[j] : Int) := by
        have : j < (ints xs).length := by rw [ints_len]; exact hlt
        rw [List.getD_eq_getElem?_getD, List.getElem?_eq_getElem this, Option.getD_some, ints_get xs j hlt]
      rw [hg] at hxj
      clear hcell hg
      obtain ⟨c1, c2, c3, c4⟩ := HLj.out.cells hx
      rw [setR_at] at c2 c3 c4
      have HT := Aside0.mk (List.take_succ_eq_append_getElem hlt)
      have hm := List.getElem_mem hlt
      have hnN := HN.out _ hm
      have HFR := Aside0.mk (show ∀ i, i < H → xs[j] ∉ setR R x (R x ++ xs.take j) i from fun i hi hin => by
        by_cases e : i = x
        · subst e
          rw [setR_at] at hin
          rcases List.mem_append.1 hin with q | q
          · exact HF.out _ hm i hi q
          · obtain ⟨i', hi', e2⟩ := List.mem_take_iff_getElem.1 q
            have := (List.getElem_inj HD.out).1 e2
            omega
        · rw [setR_ne _ _ e] at hin
          exact HF.out _ hm i hi hin)
      have HP := Aside0.mk (HLj.out.put x (R x ++ xs.take j).length xs[j] hx (by rw [setR_at]; exact Nat.le_refl _) hnN HFR.out _ (-1) rfl (by rw [setR_at]; exact atI_none (Nat.le_refl _)))
      rw [setR_at, insertIdx_end, setR_setR, List.append_assoc, ← HT.out] at HP
      clear HFR hm HT
      generalize xs[j] = n at *
      generalize preI (R x ++ xs.take j) (R x ++ xs.take j).length = v at *
      clear c2 c4
      go_wp2_with fail
      refine HP.out.mono ?_
      rintro e w2 ⟨rfl, h2, k2⟩
      have H2 := Aside0.mk h2
      have K2 := Aside0.mk (HKj.out.trans k2)
      clear h2 k2
      go_wp2
      go_roundw
      case rel => exact ⟨j + 1, by omega, by go_num, H2, K2⟩
      case measure => simp [intOf]; omega
    · obtain rfl : j = xs.length := by omega
      rw [List.take_length] at HLj
      go_wp2
      go_ret
      exact ⟨rfl, HLj.out, HKj.out⟩
/-- A node that stands already is not put again. -/
theorem before_in (h : LR w0 W g a b N H R) (n at_ x y : Nat) (hx : x < H) (hy : y < H) (hn : n ∈ R x) (hat : at_ ∈ R y) :
    Calls Try.prog 20 #[.pointer (some ⟨g, 0, none⟩), .int .i64 n, .int .i64 at_] W fun e w' => e = .returned (.int .i64 (-41)) ∧ W = w' := by
  have HL := Aside0.mk h; clear h
  obtain ⟨k, hk⟩ := List.getElem?_of_mem hn
  obtain ⟨k2, hk2⟩ := List.getElem?_of_mem hat
  have n1 := (HL.out.node hx hk).1
  have n2 := (HL.out.node hy hk2).1
  have HN := Aside0.mk hn; have HA := Aside0.mk hat; clear hn hat hk hk2
  go_enter Try.func20, Try.ntmps20
  go_wp2_with fail
  refine (HL.out.isNode n true (by simp; omega)).mono ?_
  rintro e w' ⟨rfl, rfl⟩
  go_wp2_with fail
  refine (HL.out.isNode at_ true (by simp; omega)).mono ?_
  rintro e w' ⟨rfl, rfl⟩
  go_wp2_with fail
  refine (HL.out.inIs at_ n2 hy HA.out).mono ?_
  rintro e w' ⟨rfl, rfl⟩
  go_wp2_with fail
  refine (HL.out.inIs n n1 hx HN.out).mono ?_
  rintro e w' ⟨rfl, rfl⟩
  go_wp2
  go_ret
  exact ⟨rfl, rfl⟩
theorem LR.back_head (h : LR w0 W g a b N H R) (x : Int) (hx : ¬ (0 ≤ x ∧ x < H)) (xs : List Int) (A : Option Addr) (c m : Nat) (hm : m = xs.length) :
    Calls Try.prog 15 #[.pointer (some ⟨g, 0, none⟩), .int .i64 x, .slice A m c] W fun e w' => e = .returned (.int .i64 (-17)) ∧ LR w0 w' g a b N H R ∧ KB W w' a b := by
  subst hm
  obtain ⟨ca, cb, l1, l2⟩ := h
  refine (back_no (by decide) ((may_head l1 x xs A c (by omega)).mono fun e w' ⟨e1, e2⟩ => ⟨e1, by rw [← e2]; exact Below.refl _ _⟩)).mono ?_
  rintro e w' ⟨e1, e2⟩
  exact ⟨e1, ⟨ca, cb, l1.below e2, l2⟩, KB.of_below e2 a b⟩
theorem LR.back_node (h : LR w0 W g a b N H R) (x : Nat) (hx : x < H) (xs : List Int) (hn : xs.length ≤ 1000) (A : Option Addr) (c m : Nat) (hm : m = xs.length) (hr : ReadsInt W .i64 A xs.length xs) (k : Nat) (hk : k < xs.length) (hbad : ¬ (0 ≤ xs[k] ∧ xs[k] < N)) (hok : ∀ j, (hj : j < k) → 0 ≤ xs[j] ∧ xs[j] < N) :
    Calls Try.prog 15 #[.pointer (some ⟨g, 0, none⟩), .int .i64 x, .slice A m c] W fun e w' => e = .returned (.int .i64 (-17)) ∧ LR w0 w' g a b N H R ∧ KB W w' a b := by
  obtain ⟨ca, cb, l1, l2⟩ := h
  refine (back_no (by decide) ((may_node l1 x hx xs hn A c m hm hr k hk (by omega) hok).mono fun e w' ⟨e1, e2⟩ => ⟨e1, by rw [← e2]; exact Below.refl _ _⟩)).mono ?_
  rintro e w' ⟨e1, e2⟩
  exact ⟨e1, ⟨ca, cb, l1.below e2, l2⟩, KB.of_below e2 a b⟩
theorem ints_mem {xs : List Nat} {n : Nat} : (n : Int) ∈ ints xs ↔ n ∈ xs := by
  unfold ints
  constructor
  · intro h
    obtain ⟨y, hy, e⟩ := List.mem_map.1 h
    have : y = n := by omega
    exact this ▸ hy
  · intro h; exact List.mem_map.2 ⟨n, h, rfl⟩
/-- Which of the nodes is the first that stands in a row, or comes twice. -/
def HeldAt (H : Nat) (R : Nat → List Nat) (xs : List Nat) (k : Nat) : Prop := ∃ hk : k < xs.length, (∀ j, (hj : j < k) → (∀ i, i < H → xs[j] ∉ R i) ∧ xs[j] ∉ xs.take j) ∧ ((∃ y, y < H ∧ xs[k] ∈ R y) ∨ xs[k] ∈ xs.take k)
theorem may_held {ca cb : Nat → Int} (l1 : Ls w0 W g a b N H ca cb) (l2 : Rep N H R (ndOf ca) (ndOf cb)) (x : Nat) (hx : x < H) (xs : List Nat) (hN : ∀ n ∈ xs, n < N) (hn : xs.length ≤ 1000) (A : Option Addr) (c m : Nat) (hm : m = xs.length) (hr : ReadsInt W .i64 A xs.length (ints xs)) (k : Nat) (hk : HeldAt H R xs k) :
    Calls Try.prog 39 #[.pointer (some ⟨g, 0, none⟩), .int .i64 x, .slice A m c] W fun e w' => e = .returned (.int .i64 (-41)) ∧ Below W.heap.size W w' := by
  obtain ⟨hk, hok, hbad⟩ := hk
  have hil := ints_len xs
  have ht : ∀ j, (ints xs).take j = ints (xs.take j) := fun j => by unfold ints; rw [List.map_take]
  refine may_all l1 x hx (ints xs) (by omega) A c m (by omega) (by rw [hil]; exact hr) (fun y hy => by
    obtain ⟨n, hn, rfl⟩ := List.mem_map.1 hy
    have := hN n hn
    exact ⟨by omega, by omega⟩) k (by omega) (fun j hj => ?_) (fun hj => ?_) (-41) (by rw [if_pos (by omega)])
  · obtain ⟨o1, o2⟩ := hok j hj
    rw [ints_get xs j (by omega), Int.toNat_natCast, ht, ints_mem]
    exact ⟨(l2.inn (hN _ (List.getElem_mem _))).2 o1, o2⟩
  · rw [ints_get xs k hk, Int.toNat_natCast, ht, ints_mem]
    rcases hbad with ⟨y, hy, hm⟩ | hm
    · left
      have := (l2.head hy hm).2
      have e : ca (xs[k] * 3) = (y : Int) := this
      rw [e]; omega
    · exact .inr hm
theorem LR.back_held (h : LR w0 W g a b N H R) (x : Nat) (hx : x < H) (xs : List Nat) (hN : ∀ n ∈ xs, n < N) (hn : xs.length ≤ 1000) (A : Option Addr) (c m : Nat) (hm : m = xs.length) (hr : ReadsInt W .i64 A xs.length (ints xs)) (k : Nat) (hk : HeldAt H R xs k) :
    Calls Try.prog 15 #[.pointer (some ⟨g, 0, none⟩), .int .i64 x, .slice A m c] W fun e w' => e = .returned (.int .i64 (-41)) ∧ LR w0 w' g a b N H R ∧ KB W w' a b := by
  obtain ⟨ca, cb, l1, l2⟩ := h
  refine (back_no (by decide) (may_held l1 l2 x hx xs hN hn A c m hm hr k hk)).mono ?_
  rintro e w' ⟨e1, e2⟩
  exact ⟨e1, ⟨ca, cb, l1.below e2, l2⟩, KB.of_below e2 a b⟩
theorem LR.front_bad (h : LR w0 W g a b N H R) (x n : Int) (hb : ¬(0 ≤ x ∧ x < H) ∨ ¬(0 ≤ n ∧ n < N)) :
    Calls Try.prog 22 #[.pointer (some ⟨g, 0, none⟩), .int .i64 x, .int .i64 n] W fun e w' => e = .returned (.int .i64 (-17)) ∧ LR w0 w' g a b N H R ∧ KB W w' a b := by
  obtain ⟨ca, cb, l1, l2⟩ := h
  have l3 := l1.alloc (.cells #[.int .i64 n] 3)
  by_cases hx : 0 ≤ x ∧ x < H
  · obtain ⟨y, rfl⟩ : ∃ y : Nat, x = y := ⟨x.toNat, by omega⟩
    refine (front_no (r := -17) (by decide) ((may_node l3 y (by omega) [n] (by simp) _ 1 1 rfl (reads_one W n) 0 (by simp) (show n < 0 ∨ (N : Int) ≤ n by omega) (fun j hj => by omega)).mono fun e w' ⟨e1, e2⟩ => ⟨e1, by rw [← e2]; exact Below.refl _ _⟩)).mono ?_
    rintro e w' ⟨e1, e2⟩
    exact ⟨e1, ⟨ca, cb, l1.below e2, l2⟩, KB.of_below e2 a b⟩
  · refine (front_no (r := -17) (by decide) ((may_head l3 x [n] _ 1 (by omega)).mono fun e w' ⟨e1, e2⟩ => ⟨e1, by rw [← e2]; exact Below.refl _ _⟩)).mono ?_
    rintro e w' ⟨e1, e2⟩
    exact ⟨e1, ⟨ca, cb, l1.below e2, l2⟩, KB.of_below e2 a b⟩
theorem LR.front_held (h : LR w0 W g a b N H R) (x n y : Nat) (hx : x < H) (hn : n < N) (hy : y < H) (hm : n ∈ R y) :
    Calls Try.prog 22 #[.pointer (some ⟨g, 0, none⟩), .int .i64 x, .int .i64 n] W fun e w' => e = .returned (.int .i64 (-41)) ∧ LR w0 w' g a b N H R ∧ KB W w' a b := by
  obtain ⟨ca, cb, l1, l2⟩ := h
  have l3 := l1.alloc (.cells #[.int .i64 n] 3)
  refine (front_no (r := -41) (by decide) (may_held l3 l2 x hx [n] (fun m hm => by rw [List.mem_singleton] at hm; subst hm; exact hn) (by simp) _ 1 1 rfl (reads_one W n) 0 ⟨by simp, fun j hj => by omega, .inl ⟨y, hy, hm⟩⟩)).mono ?_
  rintro e w' ⟨e1, e2⟩
  exact ⟨e1, ⟨ca, cb, l1.below e2, l2⟩, KB.of_below e2 a b⟩
theorem LR.before_bad (h : LR w0 W g a b N H R) (n c : Int) (hb : ¬(0 ≤ n ∧ n < N) ∨ ¬(0 ≤ c ∧ c < N)) :
    Calls Try.prog 20 #[.pointer (some ⟨g, 0, none⟩), .int .i64 n, .int .i64 c] W fun e w' => e = .returned (.int .i64 (-17)) ∧ W = w' := by
  have HL := Aside0.mk h; clear h
  have HB := Aside0.mk hb; clear hb
  by_cases hx : 0 ≤ n ∧ n < N
  · have HX := Aside0.mk hx; clear hx
    go_enter Try.func20, Try.ntmps20
    go_wp2_with fail
    refine (HL.out.isNode n true (decide_eq_true HX.out)).mono ?_
    rintro e w' ⟨rfl, rfl⟩
    go_wp2_with fail
    refine (HL.out.isNode c false (decide_eq_false (HB.out.resolve_left (fun e => e HX.out)))).mono ?_
    rintro e w' ⟨rfl, rfl⟩
    go_wp2
    go_ret
    exact ⟨rfl, rfl⟩
  · have HX := Aside0.mk hx; clear hx
    go_enter Try.func20, Try.ntmps20
    go_wp2_with fail
    refine (HL.out.isNode n false (decide_eq_false HX.out)).mono ?_
    rintro e w' ⟨rfl, rfl⟩
    go_wp2
    go_ret
    exact ⟨rfl, rfl⟩
/-- The node ahead of which it is to go is in no row, or the node itself is in one. -/
theorem LR.before_held (h : LR w0 W g a b N H R) (n c : Nat) (hn : n < N) (hc : c < N) (hh : (∀ j, j < H → c ∉ R j) ∨ ∃ y, y < H ∧ n ∈ R y) :
    Calls Try.prog 20 #[.pointer (some ⟨g, 0, none⟩), .int .i64 n, .int .i64 c] W fun e w' => e = .returned (.int .i64 (-41)) ∧ W = w' := by
  by_cases hf : ∀ j, j < H → c ∉ R j
  · have HL := Aside0.mk h; clear h
    have HN := Aside0.mk hn; have HC := Aside0.mk hc; have HF := Aside0.mk hf; clear hn hc hh hf
    go_enter Try.func20, Try.ntmps20
    go_wp2_with fail
    refine (HL.out.isNode n true (by have := HN.out; simp; omega)).mono ?_
    rintro e w' ⟨rfl, rfl⟩
    go_wp2_with fail
    refine (HL.out.isNode c true (by have := HC.out; simp; omega)).mono ?_
    rintro e w' ⟨rfl, rfl⟩
    go_wp2_with fail
    refine (HL.out.inNot c HC.out HF.out).mono ?_
    rintro e w' ⟨rfl, rfl⟩
    go_wp2
    go_ret
    exact ⟨rfl, rfl⟩
  · obtain ⟨z, hz, hm⟩ : ∃ y, y < H ∧ c ∈ R y := Classical.byContradiction fun e => hf fun j hj hm => e ⟨j, hj, hm⟩
    obtain ⟨y, hy, hk⟩ := hh.resolve_left hf
    exact before_in h n c y z hy hz hk hm
end Go.Proofs.Yteiepbjajennkaa.ListHand
