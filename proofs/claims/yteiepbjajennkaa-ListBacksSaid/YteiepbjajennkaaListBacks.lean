/- Nodes put behind at once, or one by one, make the same row; one twice among them puts none: the walk of ListBacks. Conditions: none. -/
import Derived.Test.YteiepbjajennkaaListAlone
import Derived.Test.YteiepbjajennkaaListSame
namespace Go.Proofs.Yteiepbjajennkaa.ListHand
set_option linter.unusedVariables false
open Go.RowKit Go.Proofs.YteiepbjajennkaaW.PrintWords Go.Proofs.YteiepbjajennkaaW.PrintMore
/-- Is one of the first i numbers there twice? -/
def twice (xs : List Nat) (i : Nat) : Bool := !decide (xs.take i).Nodup
theorem twice_0 (xs : List Nat) : twice xs 0 = false := by unfold twice; simp
theorem take_snoc (xs : List Nat) {i : Nat} (h : i < xs.length) : xs.take (i + 1) = xs.take i ++ [xs[i]] := List.take_succ_eq_append_getElem h
theorem nodup_snoc (l : List Nat) (y : Nat) : (!decide (l ++ [y]).Nodup) = (!decide l.Nodup || decide (y ∈ l)) := by
  have e : (l ++ [y]).Nodup ↔ l.Nodup ∧ y ∉ l := by
    rw [List.nodup_append]
    constructor
    · rintro ⟨h1, _, h2⟩
      exact ⟨h1, fun hm => h2 _ hm _ (List.mem_singleton.2 rfl) rfl⟩
    · rintro ⟨h1, h2⟩
      exact ⟨h1, by simp, fun a ha b hb => by rw [List.mem_singleton] at hb; subst hb; exact fun e => h2 (e ▸ ha)⟩
  by_cases h1 : l.Nodup <;> by_cases h2 : y ∈ l <;> simp [e, h1, h2]
theorem mem_snoc (l : List Nat) (x y : Nat) : decide (x ∈ l ++ [y]) = (decide (x ∈ l) || (y == x)) := by
  by_cases h1 : x ∈ l
  · simp [h1]
  · by_cases h2 : y = x
    · subst h2; simp
    · have h3 : ¬ x = y := fun e => h2 e.symm
      simp [h1, h2, h3]
theorem twice_next (xs : List Nat) {i : Nat} (h : i < xs.length) : twice xs (i + 1) = (twice xs i || decide (xs[i] ∈ xs.take i)) := by
  unfold twice
  rw [take_snoc xs h, nodup_snoc]
theorem mem_next (xs : List Nat) (x : Nat) {k : Nat} (h : k < xs.length) : decide (x ∈ xs.take (k + 1)) = (decide (x ∈ xs.take k) || (xs[k] == x)) := by
  rw [take_snoc xs h, mem_snoc]
theorem first_twice (xs : List Nat) : ∀ n, n ≤ xs.length → (xs.take n).Nodup ∨ ∃ k, ∃ hk : k < xs.length, xs[k] ∈ xs.take k ∧ ∀ j, (hj : j < k) → xs[j] ∉ xs.take j
  | 0, _ => .inl (by simp)
  | n + 1, h => by
    rcases first_twice xs n (by omega) with h1 | h1
    · by_cases h2 : xs[n]'(by omega) ∈ xs.take n
      · refine .inr ⟨n, by omega, h2, fun j hj hm => ?_⟩
        obtain ⟨i, hi, e⟩ := List.mem_take_iff_getElem.1 hm
        have hj2 : j < (xs.take n).length := by rw [List.length_take]; omega
        have hi2 : i < (xs.take n).length := by rw [List.length_take]; omega
        have e2 : (xs.take n)[i] = (xs.take n)[j] := by simpa using e
        have := (List.getElem_inj h1).1 e2
        omega
      · refine .inl ?_
        have := twice_next xs (i := n) (by omega)
        unfold twice at this
        rw [decide_eq_true h1, decide_eq_false h2] at this
        simpa using this
    · exact .inr h1
theorem tw_all (xs : List Nat) : twice xs xs.length = !decide xs.Nodup := by unfold twice; rw [List.take_length]
theorem own_drewN {w : World} {B e s n : Nat} {v : Value} {xs : List Value} (h : w.ownsRow B e s v n xs) (k : Nat) : (w.drewN k).ownsRow B e s v n xs := h
theorem ints_take (xs : List Nat) (j : Nat) : ints (xs.take j) = (ints xs).take j := by unfold ints; rw [List.map_take]
theorem ints_getD (xs : List Nat) {j : Nat} (h : j < xs.length) : (ints xs).getD j 0 = (xs[j] : Int) := by
  have : j < (ints xs).length := by rw [ints_len]; exact h
  rw [List.getD_eq_getElem?_getD, List.getElem?_eq_getElem this, Option.getD_some, ints_get xs j h]
theorem own_slice {W : World} {B n : Nat} {v : Value} {ys : List Value} (h : W.ownsRow B 3 1 v n ys) : ∃ A c, v = .slice A n c ∧ (n ≤ c) ∧ ∀ ad, A = some ad → B ≤ ad.block ∧ ad.block < W.heap.size := by
  rcases h.2 with ⟨rfl, rfl⟩ | ⟨g, cap, cur, rfl, hb, hh, hc, _⟩
  · exact ⟨none, 0, rfl, Nat.le_refl _, fun ad e => by cases e⟩
  · exact ⟨_, cap, rfl, hc, fun ad e => by cases e; exact ⟨hb, (Array.getElem?_eq_some_iff.1 hh).1⟩⟩
theorem below_up {B : Nat} {w w3 wr : World} (h : Below B w w3) (k : Below w3.heap.size w3 wr) (hB : B ≤ w3.heap.size) : Below B w wr :=
  h.trans ⟨k.os, k.tape, k.output, k.size, fun i hi => k.block i (Nat.lt_of_lt_of_le hi hB)⟩
theorem int_beq (u v : Nat) : ((u : Int) == (v : Int)) = (u == v) := by
  by_cases h : u = v
  · subst h; simp
  · have h2 : ¬ ((u : Int) = (v : Int)) := by omega
    rw [beq_eq_false_iff_ne.2 h, beq_eq_false_iff_ne.2 h2]
set_option maxHeartbeats 8000000 in
set_option maxRecDepth 100000 in
theorem backs_in (xs : List Nat) (hx : ∀ x ∈ xs, x < 256) (hl : xs.length ≤ 100) (A : Option Addr) (c : Nat) (w : World) (hr : ReadsInt w .u8 A xs.length (ints xs)) :
    Calls Try.prog 3 #[.slice A xs.length c] w fun e w' => e = .returned (.bool true) ∧ Below w.heap.size w w' := by
  obtain ⟨i0, hi, hz0, hz1, hz2⟩ := info_parts info3
  have HI := Aside0.mk (And.intro hi (And.intro hz0 (And.intro hz1 hz2))); clear hi hz0 hz1 hz2
  have HX := Aside0.mk hx; clear hx
  have HR := Aside0.mk hr; clear hr
  go_enter Try.func3, Try.ntmps3
  go_wp2_with fail
  refine (known_calls w).mono ?_
  rintro e w1 ⟨rfl, h1⟩
  have H1 := Aside0.mk h1; clear h1
  go_wp2_with fail
  refine (new_calls (w0 := w) 256 1 (by omega) (by omega) H1.out).mono ?_
  rintro e w2 ⟨g, a, b, rfl, h2, hb2, _⟩
  rw [row0_nil] at h2
  have H2 := Aside0.mk h2; have HB2 := Aside0.mk hb2; clear h2 hb2
  go_wp2_with fail
  refine (new_calls (w0 := w) 256 1 (by omega) (by omega) H2.out.be).mono ?_
  rintro e w3 ⟨g', a', b', rfl, h3, hb3, hg3, ha3, hbb3⟩
  rw [row0_nil] at h3
  have H3b := Aside0.mk h3
  have H3a := Aside0.mk (H2.out.below hb3)
  have HAP := Aside0.mk (show (g ≠ a' ∧ a ≠ a' ∧ b ≠ a') ∧ (g ≠ b' ∧ a ≠ b' ∧ b ≠ b') ∧ (g' ≠ a ∧ a' ≠ a ∧ b' ≠ a) ∧ (g' ≠ b ∧ a' ≠ b ∧ b' ≠ b) by
    have := H2.out.lt; omega)
  clear h3 hb3 hg3 ha3 hbb3 H2 HB2
  have HW0 := Aside0.mk (Below.refl w3.heap.size w3)
  go_wp2
  go_loopw [7, 8, 9] (fun l t i w' => ∃ j : Nat, j ≤ xs.length ∧ i = .int .i64 j ∧ t = .bool (twice xs j) ∧ Aside0 (Below w3.heap.size w3 w') ∧ w'.ownsRow w3.heap.size 3 1 l j (nums .i64 (ints (xs.take j)))) (fun _ _ i _ => xs.length - (intOf i).toNat)
  case atStart => exact ⟨0, Nat.zero_le _, rfl, by rw [twice_0], HW0, own_nil _ _ _ _⟩
  case round =>
    clear HW0
    obtain ⟨j, hj, rfl, rfl, HW, hown⟩ := hrel
    obtain ⟨A7, c7, hv7, hc7, hA7⟩ := own_slice hown
    subst hv7
    have HO := Aside0.mk hown; clear hown
    have HA7 := Aside0.mk hA7; clear hA7
    by_cases hlt : j < xs.length
    · go_wp2
      go_loopw [8, 10] (fun t k w' => ∃ q : Nat, q ≤ j ∧ k = .int .i64 q ∧ t = .bool (twice xs j || decide (xs[j] ∈ xs.take q)) ∧ Aside0 (Below w3.heap.size w3 w') ∧ Aside0 (w'.ownsRow w3.heap.size 3 1 (.slice A7 j c7) j (nums .i64 (ints (xs.take j))))) (fun _ k _ => xs.length - (intOf k).toNat)
      case atStart => exact ⟨0, Nat.zero_le _, rfl, by simp, HW, HO⟩
      case round =>
        clear HW HO
        obtain ⟨q, hq, rfl, rfl, HW, HO⟩ := hrel
        have hbe := below_up H3a.out.be HW.out (by have := H3a.out.be.size; omega)
        obtain ⟨ad, e1, hcell⟩ := (HR.out.below hbe).2.2 (by omega)
        subst e1
        have c2 := hcell j hlt
        rw [ints_getD xs hlt] at c2
        by_cases hqj : q < j
        · have c1 := hcell q (by omega)
          rw [ints_getD xs (show q < xs.length by omega)] at c1
          have HM := Aside0.mk (show (twice xs j || decide (xs[j] ∈ xs.take (q + 1))) = ((twice xs j || decide (xs[j] ∈ xs.take q)) || (xs[q] == xs[j])) by
            rw [mem_next xs xs[j] (show q < xs.length by omega), Bool.or_assoc])
          clear hcell
          generalize (twice xs j || decide (xs[j] ∈ xs.take q)) = t at *
          generalize xs[q] = u at *
          generalize hxj : xs[j] = v at *
          cases t with
          | true =>
            go_wp2
            go_quiet (fail)
            have HW2 := Aside0.mk (below_drewN HW.out nq)
            have HO2 := Aside0.mk (own_drewN HO.out nq)
            go_wp2
            go_roundw
            case rel => exact ⟨q + 1, by omega, by go_num, by rw [HM.out]; rfl, HW2, HO2⟩
            case measure => simp [intOf]; omega
          | false =>
            have eb := int_beq u v
            go_wp2
            go_quiet (fail)
            have HW2 := Aside0.mk (below_drewN HW.out nq)
            have HO2 := Aside0.mk (own_drewN HO.out nq)
            go_wp2
            go_roundw
            case rel => exact ⟨q + 1, by omega, by go_num, by rw [HM.out]; simp, HW2, HO2⟩
            case measure => simp [intOf]; omega
        · obtain rfl : q = j := by omega
          have HT := Aside0.mk (twice_next xs hlt)
          have HS := Aside0.mk (take_snoc xs hlt)
          have hv := HX.out _ (List.getElem_mem hlt)
          rw [← HT.out]
          clear hcell HT
          generalize xs[q] = v at *
          obtain ⟨hi, hz0, hz1, hz2⟩ := HI.out
          have HI0 := Aside0.mk hi; have HI1 := Aside0.mk hz0; have HI2 := Aside0.mk hz1; have HI3 := Aside0.mk hz2
          clear hi hz0 hz1 hz2 hbe
          have HQ := Aside0.mk (show q + 1 ≤ maxLen ∧ (q + 1) * 8 ≤ 140737488355328 by unfold maxLen; omega)
          have HCF := Aside0.mk (show ∀ (w1 w5 : World) (row : Option Nat), w1 = wr.alloc (.cells #[.int .i64 (v : Int)] 3) → w1.grownBy w5 row → (∀ k, row = some k → w3.heap.size ≤ k) → Below w3.heap.size w3 w5 from by
            rintro w1 w5 row rfl hg hr
            have b1 := below_alloc HW.out (.cells #[.int .i64 (v : Int)] 3)
            exact pw_below_grown b1 row b1.size hg hr)
          go_wp2_with (at_builtin; refine wpList_append_own _ rfl _ _ 28 rfl w3.heap.size 3 i0 (.int .i64 0) 1 8 Try.underlying28 HI0.out HI1.out HI2.out HI3.out rfl (by decide) _ _ _ rfl (HO.out.alloc _) ⟨wr.heap.size, 0, none⟩ 1 1 [.int .i64 (v : Int)] rfl rfl (one_new _ _ _) (by simp [Value.oneCell']) HQ.out.1 HQ.out.2 (by have := HW.out.size; simp; omega) ?_; intro v' w5 hown3 hgrow3 _; have hb3 := HCF.out _ _ _ rfl hgrow3 (fun k hk => own_base HO.out k hk); have hb3 := Aside0.mk hb3)
          go_roundw
          case rel => exact ⟨q + 1, by omega, by go_num, rfl, hb3, by rw [HS.out, ints, List.map_append, nums_append]; exact hown3⟩
          case measure => simp [intOf]; omega
    · obtain rfl : j = xs.length := by omega
      rw [List.take_length] at HO
      rw [tw_all]
      obtain ⟨A8, c8, e8, hr8⟩ := own_reads HO.out
      obtain ⟨rfl, _, rfl⟩ : A7 = A8 ∧ xs.length = xs.length ∧ c7 = c8 := by injection e8 with e1 e2 e3; exact ⟨e1, e2, e3⟩
      clear e8
      have HR8 := Aside0.mk hr8; clear hr8
      have HLa := Aside0.mk (H3a.out.below HW.out)
      have HLb := Aside0.mk (H3b.out.below HW.out)
      have hl3a := H3a.out.lt
      have hl3b := H3b.out.lt
      have HBL := Aside0.mk (show (∀ ad, A7 = some ad → ad.block ≠ a ∧ ad.block ≠ b) ∧ (∀ ad, A7 = some ad → ad.block ≠ a' ∧ ad.block ≠ b') from
        ⟨fun ad e => by have := (HA7.out ad e).1; omega, fun ad e => by have := (HA7.out ad e).1; omega⟩)
      clear hl3a hl3b
      by_cases hd : xs.Nodup
      · rw [decide_eq_true hd]
        have HD := Aside0.mk hd; clear hd
        go_wp2_with fail
        refine (back_calls HLa.out 0 (by omega) xs (fun n hn => HX.out n hn) (fun n hn i _ => row0_not (by simp) i) HD.out (by omega) A7 c7 _ rfl HR8.out HBL.out.1).mono ?_
        rintro e w4 ⟨rfl, h4, k4⟩
        rw [row0_at, row0_set, List.nil_append] at h4
        have H4 := Aside0.mk h4
        have K4b := Aside0.mk (HLb.out.keep k4 HAP.out.2.2.1 HAP.out.2.2.2 h4.be)
        have K4r := Aside0.mk (ReadsInt.kb HR8.out k4 HBL.out.1)
        have HA4 := Aside0.mk k4.size
        clear h4 k4
        go_wp2
        go_loopw [12] (fun i w' => ∃ k : Nat, k ≤ xs.length ∧ i = .int .i64 k ∧ Aside0 (LR w w' g a b 256 1 (row0 xs)) ∧ Aside0 (LR w w' g' a' b' 256 1 (row0 (xs.take k))) ∧ Aside0 (ReadsInt w' .i64 A7 xs.length (ints xs))) (fun i _ => xs.length - (intOf i).toNat)
        case atStart => exact ⟨0, Nat.zero_le _, rfl, H4, K4b, K4r⟩
        case round =>
          clear H4 K4b K4r
          obtain ⟨k, hk, rfl, HLak, HLbk, HRk⟩ := hrel
          by_cases hlt : k < xs.length
          · obtain ⟨ad, e1, hcell⟩ := HRk.out.2.2 (by omega)
            subst e1
            have c2 := hcell k hlt
            rw [ints_getD xs hlt] at c2
            have HS := Aside0.mk (take_snoc xs hlt)
            have hv := HX.out _ (List.getElem_mem hlt)
            have HNM := Aside0.mk (show xs[k] ∉ xs.take k from fun hm => by
              obtain ⟨i, hi, e⟩ := List.mem_take_iff_getElem.1 hm
              have := (List.getElem_inj HD.out).1 e
              omega)
            clear hcell
            generalize xs[k] = v at *
            go_wp2_with fail
            refine (HLbk.out.back1 0 v (by omega) hv (fun i _ => row0_not HNM.out i)).mono ?_
            rintro e w5 ⟨rfl, h5, k5⟩
            rw [row0_at, row0_set, ← HS.out] at h5
            have H5 := Aside0.mk h5
            have K5a := Aside0.mk (HLak.out.keep k5 HAP.out.1 HAP.out.2.1 h5.be)
            have K5r := Aside0.mk (ReadsInt.kb HRk.out k5 HBL.out.2)
            clear h5 k5
            go_wp2
            go_roundw
            case rel => exact ⟨k + 1, by omega, by go_num, K5a, H5, K5r⟩
            case measure => simp [intOf]; omega
          · obtain rfl : k = xs.length := by omega
            rw [List.take_length] at HLbk
            go_wp2_with fail
            refine (row_calls HLak.out 0 (by omega)).mono ?_
            rintro e w6 ⟨v1, rfl, ho1, hb1⟩
            rw [row0_at] at ho1
            obtain ⟨A1, c1, rfl, hr1, _⟩ := row_slice ho1
            have R1 := Aside0.mk hr1
            have L6a := Aside0.mk (HLak.out.below hb1)
            have L6b := Aside0.mk (HLbk.out.below hb1)
            have R6 := Aside0.mk (HRk.out.below hb1)
            clear ho1 hb1 hr1
            go_wp2_with fail
            refine (row_calls L6b.out 0 (by omega)).mono ?_
            rintro e w7 ⟨v2, rfl, ho2, hb2⟩
            rw [row0_at] at ho2
            obtain ⟨A2, c2, rfl, hr2, _⟩ := row_slice ho2
            have R2 := Aside0.mk hr2
            have R1' := Aside0.mk (R1.out.below hb2)
            have L7a := Aside0.mk (L6a.out.below hb2)
            have R7 := Aside0.mk (R6.out.below hb2)
            clear ho2 hb2 hr2
            go_wp2_with fail
            refine (same_calls (ints xs) (by rw [ints_len]; omega) A1 A2 _ _ c1 c2 (ints_len xs).symm (ints_len xs).symm w7 (by rw [ints_len]; exact R1'.out) (by rw [ints_len]; exact R2.out)).mono ?_
            rintro e w8 ⟨rfl, hb8⟩
            have L8a := Aside0.mk (L7a.out.below hb8)
            have R8 := Aside0.mk (R7.out.below hb8)
            clear hb8
            go_wp2_with fail
            refine (row_calls L8a.out 0 (by omega)).mono ?_
            rintro e w9 ⟨v3, rfl, ho3, hb3⟩
            rw [row0_at] at ho3
            obtain ⟨A3, c3, rfl, hr3, _⟩ := row_slice ho3
            have R3 := Aside0.mk hr3
            have R9 := Aside0.mk (R8.out.below hb3)
            have HB9 := Aside0.mk (L8a.out.below hb3).be
            clear ho3 hb3 hr3
            go_wp2_with fail
            refine (same_calls (ints xs) (by rw [ints_len]; omega) A3 A7 _ _ c3 c7 (ints_len xs).symm (ints_len xs).symm w9 (by rw [ints_len]; exact R3.out) (by rw [ints_len]; exact R9.out)).mono ?_
            rintro e w10 ⟨rfl, hb10⟩
            have HBf := Aside0.mk (below_up HB9.out hb10 (by have := HB9.out.size; omega))
            clear hb10
            go_wp2
            go_ret
            exact ⟨rfl, HBf.out⟩
      · rw [decide_eq_false hd]
        obtain ⟨k, hk, hk1, hk2⟩ : ∃ k, ∃ hk : k < xs.length, xs[k] ∈ xs.take k ∧ ∀ j, (hj : j < k) → xs[j] ∉ xs.take j := by
          rcases first_twice xs xs.length (Nat.le_refl _) with h | h
          · rw [List.take_length] at h; exact absurd h hd
          · exact h
        have HK := Aside0.mk (And.intro hk1 hk2); clear hk1 hk2 hd
        go_wp2_with fail
        refine (back_no (r := -41) (by decide) (by
          obtain ⟨ca, cb, l1, l2⟩ := HLa.out
          have hil := ints_len xs
          refine may_all l1 0 (by omega) (ints xs) (by omega) A7 c7 _ hil.symm (by rw [hil]; exact HR8.out) (fun y hy => by
            obtain ⟨n, hn, rfl⟩ := List.mem_map.1 hy
            have := HX.out n hn
            exact ⟨by omega, by omega⟩) k (by omega) (fun j hj => by
            have hj2 : j < xs.length := by omega
            rw [ints_get xs j hj2, Int.toNat_natCast]
            have hm := List.getElem_mem hj2
            refine ⟨(l2.inn (HX.out _ hm)).2 (fun i _ => row0_not (by simp) i), fun hin => ?_⟩
            rw [← ints_take] at hin
            obtain ⟨n, hn, e⟩ := List.mem_map.1 hin
            have e3 : n = xs[j] := by omega
            exact HK.out.2 j hj (e3 ▸ hn)) (fun hj => .inr (by
            rw [ints_get xs k hk, ← ints_take]
            exact List.mem_map.2 ⟨xs[k], HK.out.1, rfl⟩)) (-41) (by rw [if_pos (by omega)]))).mono ?_
        rintro e w4 ⟨rfl, hb4⟩
        have H4 := Aside0.mk (HLa.out.below hb4); clear hb4
        go_wp2_with fail
        refine (H4.out.lenIs (x := 0) (by omega) 0 (by rw [row0_at]; rfl)).mono ?_
        rintro e w5 ⟨rfl, rfl⟩
        have HB := Aside0.mk H4.out.be
        go_wp2
        go_ret
        exact ⟨rfl, HB.out⟩
set_option maxHeartbeats 1000000 in
theorem backs_long (n : Nat) (h : 100 < n) (A : Option Addr) (c : Nat) (hn : n ≤ 9223372036854775807) (w : World) :
    Calls Try.prog 3 #[.slice A n c] w fun e w' => e = .returned (.bool true) ∧ Below w.heap.size w w' := by
  go_enter Try.func3, Try.ntmps3
  go_wp2_with fail
  refine (known_calls w).mono ?_
  rintro e w1 ⟨rfl, h1⟩
  have H1 := Aside0.mk h1; clear h1
  go_wp2
  go_ret
  exact ⟨rfl, H1.out⟩
theorem bu8 {n : Int} (h : (Lit.int .u8 n).wf = true) : 0 ≤ n ∧ n ≤ 255 := by
  simp [Lit.wf, IntKind.min, IntKind.max, IntKind.signed, IntKind.bits] at h
  omega
theorem backs_walk (a0 : Option Addr) (len0 cap0 : Nat) (z0 : List Int) (w : World) (w0 : (a0 = none ∧ len0 = 0 ∧ cap0 = 0 ∧ z0 = []) ∨ ∃ x, a0 = some x ∧ len0 ≤ cap0 ∧ cap0 ≤ maxLen ∧ z0.length = cap0 ∧ (∀ i, i < z0.length → w.cell? (x.add i) = some (.int .u8 (z0.getD i 0))) ∧ ∀ n ∈ z0, (Lit.int .u8 n).wf = true) (y0 : len0 * 1 ≤ 140737488351232) :
    Calls Try.prog 3 #[.slice a0 len0 cap0] w fun e w' => e = .returned (.bool true) ∧ Below w.heap.size w w' := by
  obtain ⟨l0, rfl, hr0, hm0, hw0, hc0⟩ := ReadsInt.ofRowC w0
  by_cases h : 100 < l0.length
  · exact backs_long l0.length h a0 cap0 (by omega) w
  · have e : ints (l0.map Int.toNat) = l0 := by
      unfold ints
      rw [List.map_map]
      refine (List.map_congr_left fun x hx => ?_).trans (List.map_id _)
      have := bu8 (hw0 x hx)
      show ((x.toNat : Nat) : Int) = id x
      rw [Int.toNat_of_nonneg this.1]; rfl
    have el : (l0.map Int.toNat).length = l0.length := List.length_map _
    have key := backs_in (l0.map Int.toNat) (fun x hx => by
      obtain ⟨y, hy, rfl⟩ := List.mem_map.1 hx
      have := bu8 (hw0 y hy); omega) (by rw [el]; omega) a0 cap0 w (by rw [e, el]; exact hr0)
    rw [el] at key
    exact key
end Go.Proofs.Yteiepbjajennkaa.ListHand
