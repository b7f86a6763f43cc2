/- What was raised, however it was parted, is taken at once, each bit once: the walk of ExceptAll. Conditions: none. -/
import Derived.Test.YtphapbleailinaaExceptBase
import Derived.WalkSpells
namespace Go.Proofs.Ytphapbleailinaa.ExceptHand
set_option linter.unusedVariables false
open Go.RowKit Go.Proofs.YtphapbleailinaaW.PrintWords Go.Proofs.YtphapbleailinaaW.PrintLast Go.Proofs.YtphapbleailinaaW.PrintMore Go.Proofs.Ytphapbleailinaa.PExceptPlays
/-- All bits of a list, one after the other onto x. -/
def orFrom (x : Int) (l : List Int) : Int := l.foldl o32 x
theorem orFrom_U {l : List Int} (h : ∀ y ∈ l, U y) : ∀ {x : Int}, U x → U (orFrom x l) := by
  induction l with
  | nil => intro x hx; exact hx
  | cons y l ih => intro x hx; exact ih (fun z hz => h z (List.mem_cons_of_mem _ hz)) (hx.or (h y List.mem_cons_self))
theorem orFrom_eq {l : List Int} (h : ∀ y ∈ l, U y) : ∀ {x : Int}, U x → orFrom x l = o32 x (orFrom 0 l) := by
  induction l with
  | nil => intro x hx; exact (or_zero hx).symm
  | cons y l ih =>
    intro x hx
    have hy := h y List.mem_cons_self
    have hl : ∀ z ∈ l, U z := fun z hz => h z (List.mem_cons_of_mem _ hz)
    show orFrom (o32 x y) l = o32 x (orFrom (o32 0 y) l)
    rw [zero_or hy, ih hl (hx.or hy), ih hl hy, or_assoc hx hy (orFrom_U hl U.zero)]
theorem orFrom_append (x : Int) (l m : List Int) : orFrom x (l ++ m) = orFrom (orFrom x l) m := List.foldl_append
theorem orFrom_snoc (l : List Int) (k : Nat) (h : k < l.length) : orFrom 0 (l.take (k + 1)) = o32 (orFrom 0 (l.take k)) (l.getD k 0) := by
  rw [List.take_succ_eq_append_getElem h, orFrom_append]
  have : l.getD k 0 = l[k] := by simp [h]
  rw [this]; rfl
theorem raise_loop (xs : List Int) (h : ∀ y ∈ xs, U y) (hn : xs.length ≤ 100) (b : Int) (hb : U b) (e : Bool) (d : Int) (n : Nat) : ∀ (k : Nat) (x i : Int), U x → 0 ≤ i → i ≤ xs.length → (xs.length : Int) - i = n → n < k →
    ∃ c, tex_Task_Raise.l0 k x xs xs.length i b e d = some (c, o32 b (orFrom x (xs.drop i.toNat)), e, d) := by
  induction n with
  | zero =>
    intro k x i hx i0 i1 hd hk
    obtain ⟨k, rfl⟩ : ∃ m, k = m + 1 := ⟨k - 1, by omega⟩
    have hnil : xs.drop i.toNat = [] := List.drop_eq_nil_of_le (by omega)
    rw [hnil]
    simp only [tex_Task_Raise.l0]
    rw [if_neg (by omega)]
    show ∃ c, _ = some (c, o32 b x, e, d)
    by_cases c : x = 0
    · rw [if_pos c]; subst c; exact ⟨_, by rw [or_zero hb]⟩
    · rw [if_neg c]; exact ⟨_, rfl⟩
  | succ n ih =>
    intro k x i hx i0 i1 hd hk
    obtain ⟨k, rfl⟩ : ∃ m, k = m + 1 := ⟨k - 1, by omega⟩
    have hlt : i.toNat < xs.length := by omega
    have e1 : wrap64 (i + 1) = i + 1 := by unfold wrap64; omega
    have hr : rd xs i = xs[i.toNat] := by simp [rd, hlt]
    simp only [tex_Task_Raise.l0]
    rw [if_pos (by omega), if_pos i0, if_pos (by omega), e1, hr]
    have hy := h _ (List.getElem_mem hlt)
    obtain ⟨c, hc⟩ := ih k (o32 x xs[i.toNat]) (i + 1) (hx.or hy) (by omega) (by omega) (by omega) (by omega)
    refine ⟨c, hc.trans ?_⟩
    rw [List.drop_eq_getElem_cons hlt, show (i + 1).toNat = i.toNat + 1 by omega]
    rfl
theorem raise_list {w0 W : World} {g : Nat} {b : Int} {e : Bool} {d : Int} (h : T w0 W g b e d) (hb : U b) (xs : List Int) (hx : ∀ y ∈ xs, U y) (hn : xs.length ≤ 100) (A : Option Addr) (c n : Nat) (hl : n = xs.length)
    (hr : Kd.C (Kd.int .u32) W A xs.length xs) (hc : xs.length ≤ c) (hf : ∀ ad, A = some ad → 0 < xs.length → ad.block ≠ g) :
    Calls Try.prog 16 #[.pointer (some ⟨g, 0, none⟩), .slice A n c] W fun r w' => (∃ q, r = .returned (.int .i64 q)) ∧ T w0 w' g (o32 b (orFrom 0 xs)) e d ∧ KeepBut W w' g none := by
  subst hl
  obtain ⟨q, hq⟩ := raise_loop xs hx hn b hb e d xs.length (xs.length + 1) 0 0 U.zero (by omega) (by omega) (by omega) (by omega)
  refine (tex_Task_Raise.calls (xs.length + 1) g b e d A c xs q _ e d w0 W h.1 h.2 hr hc hf hq).mono ?_
  rintro r w' ⟨hr, hi, hb, hk⟩
  exact ⟨⟨q, hr⟩, ⟨hi, hb⟩, hk⟩
set_option maxHeartbeats 2000000 in
set_option maxRecDepth 100000 in
theorem all_core (l : List Int) (A : Option Addr) (c : Nat) (k : Nat) (hn : l.length ≤ 60) (hk : k ≤ l.length) (hlc : l.length ≤ c) (hc9 : c ≤ 9223372036854775807) (hu : ∀ y ∈ l, U y) (w : World) (hr : ReadsInt w .u32 A l.length l) :
    Calls Try.prog 3 #[.slice A l.length c, .int .i64 k] w fun e w' => e = .returned (.bool true) ∧ Below w.heap.size w w' := by
  have HU := Aside0.mk hu; clear hu
  have HR := Aside0.mk hr; clear hr
  go_enter Try.func3, Try.ntmps3
  go_wp2_with fail
  refine (known_calls w).mono ?_
  rintro e w1 ⟨rfl, h1⟩
  have HR1 := Aside0.mk (HR.out.below h1)
  have H1 := Aside0.mk h1; clear h1
  go_wp2_with fail
  have H2 := Aside0.mk (T.made H1.out)
  go_loop [6, 7] (fun a i => ∃ j : Nat, j ≤ l.length ∧ i = .int .i64 j ∧ a = .int .u32 (orFrom 0 (l.take j))) (fun _ i => l.length - (intOf i).toNat)
  case atStart => exact ⟨0, Nat.zero_le _, rfl, rfl⟩
  case round =>
    obtain ⟨j, hj, rfl, rfl⟩ := hrel
    by_cases hlt : j < l.length
    · obtain ⟨ad, hA, hcell⟩ := HR1.out.2.2 (by omega)
      have HS := Aside0.mk (orFrom_snoc l j hlt)
      have hx := (pw_cell_below (below_alloc (Below.refl _ _) (.cells #[.int .u32 0, .bool false, .int .i64 0] 27)) (hcell j hlt))
      subst hA
      clear hcell
      go_wp2
      go_round
      case rel => exact ⟨j + 1, by omega, by go_num, by rw [HS.out]; simp [hlt, o32]⟩
      case measure => simp [intOf]; omega
    · obtain rfl : j = l.length := by omega
      have ht : l.take l.length = l := List.take_length
      rw [ht]; clear ht
      clear hlt hj
      have hlk : (l.take k).length = k := by rw [List.length_take]; omega
      have hld : (l.drop k).length = l.length - k := List.length_drop
      have ut : ∀ y ∈ l.take k, U y := fun y hy => HU.out y (List.mem_of_mem_take hy)
      have ud : ∀ y ∈ l.drop k, U y := fun y hy => HU.out y (List.mem_of_mem_drop hy)
      have hsum : orFrom 0 l = o32 (orFrom 0 (l.take k)) (orFrom 0 (l.drop k)) := by
        have := orFrom_append 0 (l.take k) (l.drop k)
        rw [List.take_append_drop] at this
        rw [this, orFrom_eq ud (orFrom_U ut U.zero)]
      have uk := orFrom_U ut U.zero
      have ua := orFrom_U HU.out U.zero
      have HS := Aside0.mk (And.intro hlk (And.intro hld (And.intro ut (And.intro ud (And.intro hsum (And.intro uk ua))))))
      clear hlk hld ut ud hsum uk ua
      have hC : Kd.C (Kd.int .u32) w1 A l.length l := Kd.C_of_reads (d := 0) HR1.out
      have HC := Aside0.mk (Kd.C_alloc hC (.cells #[.int .u32 0, .bool false, .int .i64 0] 27)); clear hC
      have hfar := far_int HR1.out (Nat.le_refl _)
      have HF := Aside0.mk hfar; clear hfar
      go_wp2_with fail
      refine (raise_list H2.out U.zero (l.take k) HS.out.2.2.1 (by rw [HS.out.1]; omega) A c k HS.out.1.symm (Kd.C_take HC.out hk) (by rw [HS.out.1]; omega) (fun ad ha hp => HF.out ad ha (by rw [HS.out.1] at hp; omega))).mono ?_
      rintro e w2 ⟨⟨q, rfl⟩, h2, k2⟩
      rw [zero_or HS.out.2.2.2.2.2.1] at h2
      have H3 := Aside0.mk h2; clear h2
      have hC2 : Kd.C (Kd.int .u32) w2 A l.length l := Kd.C_keep 0 HC.out k2 HF.out
      have HC2 := Aside0.mk hC2; clear hC2 k2
      by_cases hck : c = k
      · have hd : Kd.C (Kd.int .u32) w2 A (l.drop k).length (l.drop k) := by
          have := Kd.C_drop HC2.out hk hlc
          rwa [if_pos hck] at this
        have HD := Aside0.mk hd; clear hd HC2
        have hlen : l.length - k = 0 := by omega
        have HN := Aside0.mk hlen; clear hlen
        go_wp2_with fail
        refine (raise_list H3.out HS.out.2.2.2.2.2.1 (l.drop k) HS.out.2.2.2.1 (by rw [HS.out.2.1]; omega) A 0 (l.length - k) HS.out.2.1.symm HD.out (by rw [HS.out.2.1, HN.out]; exact Nat.le_refl 0) (fun ad ha hp => by rw [HS.out.2.1, HN.out] at hp; exact absurd hp (Nat.lt_irrefl 0))).mono ?_
        rintro e w3 ⟨⟨q2, rfl⟩, h3, k3⟩
        rw [← HS.out.2.2.2.2.1] at h3
        have H4 := Aside0.mk h3; clear h3 k3
        go_wp2_with fail
        refine (enable_T H4.out).mono ?_
        rintro e w4 ⟨rfl, h4⟩
        have H5 := Aside0.mk h4; clear h4
        by_cases hz : orFrom 0 l = 0
        · rw [hz] at H5
          have qz : (orFrom 0 l == 0) = true := beq_iff_eq.2 hz
          have qn : (orFrom 0 l != 0) = false := bne_eq_false_iff_eq.2 hz
          have HZ := Aside0.mk hz; clear hz
          go_wp2_with fail
          refine (take_no H5.out (.inr rfl)).mono ?_
          rintro e w5 ⟨rfl, h5⟩
          have H6 := Aside0.mk h5; clear h5
          go_wp2_with fail
          refine (enable_T H6.out).mono ?_
          rintro e w6 ⟨rfl, h6⟩
          have H7 := Aside0.mk h6; clear h6
          go_wp2_with fail
          refine (take_no H7.out (.inr rfl)).mono ?_
          rintro e w7 ⟨rfl, h7⟩
          have H8 := Aside0.mk h7; clear h7
          have q0 : (0 == orFrom 0 l) = true := beq_iff_eq.2 HZ.out.symm
          go_wp2
          go_ret
          exact ⟨rfl, H8.out.2⟩
        · have qz : (orFrom 0 l == 0) = false := beq_eq_false_iff_ne.2 hz
          have qn : (orFrom 0 l != 0) = true := bne_iff_ne.2 hz
          have HZ := Aside0.mk hz; clear hz
          go_wp2_with fail
          refine (take_yes H5.out HZ.out rfl).mono ?_
          rintro e w5 ⟨rfl, h5⟩
          have H6 := Aside0.mk h5; clear h5
          go_wp2_with fail
          refine (enable_T H6.out).mono ?_
          rintro e w6 ⟨rfl, h6⟩
          have H7 := Aside0.mk h6; clear h6
          go_wp2_with fail
          refine (take_no H7.out (.inr rfl)).mono ?_
          rintro e w7 ⟨rfl, h7⟩
          have H8 := Aside0.mk h7; clear h7
          go_wp2
          go_ret
          exact ⟨rfl, H8.out.2⟩
      · have hd : Kd.C (Kd.int .u32) w2 (A.map (·.add k)) (l.drop k).length (l.drop k) := by
          have := Kd.C_drop HC2.out hk hlc
          rw [if_neg hck] at this
          have e : k * (Kd.int .u32).sz = k := Nat.mul_one k
          rwa [e] at this
        have HD := Aside0.mk hd; clear hd HC2
        have HK := Aside0.mk hck
        go_wp2_with fail
        refine (raise_list H3.out HS.out.2.2.2.2.2.1 (l.drop k) HS.out.2.2.2.1 (by rw [HS.out.2.1]; omega) (A.map (·.add k)) (c - k) (l.length - k) HS.out.2.1.symm HD.out (by rw [HS.out.2.1]; omega) (fun ad ha hp => by
          obtain ⟨ad', rfl, rfl⟩ := Option.map_eq_some_iff.1 ha
          rw [add_block]
          exact HF.out ad' rfl (by rw [HS.out.2.1] at hp; omega))).mono ?_
        rintro e w3 ⟨⟨q2, rfl⟩, h3, k3⟩
        rw [← HS.out.2.2.2.2.1] at h3
        have H4 := Aside0.mk h3; clear h3 k3
        go_wp2_with fail
        refine (enable_T H4.out).mono ?_
        rintro e w4 ⟨rfl, h4⟩
        have H5 := Aside0.mk h4; clear h4
        by_cases hz : orFrom 0 l = 0
        · rw [hz] at H5
          have qz : (orFrom 0 l == 0) = true := beq_iff_eq.2 hz
          have qn : (orFrom 0 l != 0) = false := bne_eq_false_iff_eq.2 hz
          have HZ := Aside0.mk hz; clear hz
          go_wp2_with fail
          refine (take_no H5.out (.inr rfl)).mono ?_
          rintro e w5 ⟨rfl, h5⟩
          have H6 := Aside0.mk h5; clear h5
          go_wp2_with fail
          refine (enable_T H6.out).mono ?_
          rintro e w6 ⟨rfl, h6⟩
          have H7 := Aside0.mk h6; clear h6
          go_wp2_with fail
          refine (take_no H7.out (.inr rfl)).mono ?_
          rintro e w7 ⟨rfl, h7⟩
          have H8 := Aside0.mk h7; clear h7
          have q0 : (0 == orFrom 0 l) = true := beq_iff_eq.2 HZ.out.symm
          go_wp2
          go_ret
          exact ⟨rfl, H8.out.2⟩
        · have qz : (orFrom 0 l == 0) = false := beq_eq_false_iff_ne.2 hz
          have qn : (orFrom 0 l != 0) = true := bne_iff_ne.2 hz
          have HZ := Aside0.mk hz; clear hz
          go_wp2_with fail
          refine (take_yes H5.out HZ.out rfl).mono ?_
          rintro e w5 ⟨rfl, h5⟩
          have H6 := Aside0.mk h5; clear h5
          go_wp2_with fail
          refine (enable_T H6.out).mono ?_
          rintro e w6 ⟨rfl, h6⟩
          have H7 := Aside0.mk h6; clear h6
          go_wp2_with fail
          refine (take_no H7.out (.inr rfl)).mono ?_
          rintro e w7 ⟨rfl, h7⟩
          have H8 := Aside0.mk h7; clear h7
          go_wp2
          go_ret
          exact ⟨rfl, H8.out.2⟩
theorem U.of {x : Int} (h : (Lit.int .u32 x).wf = true) : U x := by
  simp [Lit.wf, IntKind.min, IntKind.max, IntKind.signed, IntKind.bits] at h
  unfold U; omega
set_option maxHeartbeats 2000000 in
set_option maxRecDepth 100000 in
theorem all_out (l : List Int) (A : Option Addr) (c : Nat) (k : Int) (hk : 60 < l.length ∨ k < 0 ∨ l.length < k) (hc9 : c ≤ 9223372036854775807) (hl9 : l.length ≤ c) (w : World) :
    Calls Try.prog 3 #[.slice A l.length c, .int .i64 k] w fun e w' => e = .returned (.bool true) ∧ Below w.heap.size w w' := by
  by_cases c1 : 60 < l.length
  · clear hk
    go_enter Try.func3, Try.ntmps3
    go_wp2_with fail
    refine (known_calls w).mono ?_
    rintro e w1 ⟨rfl, h1⟩
    have H1 := Aside0.mk h1; clear h1
    go_wp2
    go_ret
    exact ⟨rfl, H1.out⟩
  by_cases c2 : k < 0
  · clear hk
    go_enter Try.func3, Try.ntmps3
    go_wp2_with fail
    refine (known_calls w).mono ?_
    rintro e w1 ⟨rfl, h1⟩
    have H1 := Aside0.mk h1; clear h1
    go_wp2
    go_ret
    exact ⟨rfl, H1.out⟩
  have c3 : (l.length : Int) < k := by omega
  clear hk
  go_enter Try.func3, Try.ntmps3
  go_wp2_with fail
  refine (known_calls w).mono ?_
  rintro e w1 ⟨rfl, h1⟩
  have H1 := Aside0.mk h1; clear h1
  go_wp2
  go_ret
  exact ⟨rfl, H1.out⟩
theorem all_walk (a0 : Option Addr) (len0 cap0 : Nat) (z0 : List Int) (k : Int) (w : World) (w0 : (a0 = none ∧ len0 = 0 ∧ cap0 = 0 ∧ z0 = []) ∨ ∃ x, a0 = some x ∧ len0 ≤ cap0 ∧ cap0 ≤ maxLen ∧ z0.length = cap0 ∧ (∀ i, i < z0.length → w.cell? (x.add i) = some (.int .u32 (z0.getD i 0))) ∧ ∀ n ∈ z0, (Lit.int .u32 n).wf = true) (y0 : len0 * 4 ≤ 140737488351232) (wk : (Lit.int .i64 k).wf = true) :
    Calls Try.prog 3 #[.slice a0 len0 cap0, .int .i64 k] w fun e w' => e = .returned (.bool true) ∧ Below w.heap.size w w' := by
  have hc9 : cap0 ≤ 9223372036854775807 := by
    rcases w0 with ⟨_, _, h, _⟩ | ⟨_, _, _, h, _⟩
    · omega
    · exact h
  obtain ⟨l0, rfl, hr0, hm0, hw0, hc0⟩ := ReadsInt.ofRowC w0
  by_cases h : l0.length ≤ 60 ∧ 0 ≤ k ∧ k ≤ l0.length
  · obtain ⟨h1, h2, h3⟩ := h
    obtain ⟨n, rfl⟩ := Int.eq_ofNat_of_zero_le h2
    exact all_core l0 a0 cap0 n h1 (by omega) hc0 hc9 (fun y hy => U.of (hw0 y hy)) w hr0
  · exact all_out l0 a0 cap0 k (by omega) hc9 hc0 w
end Go.Proofs.Ytphapbleailinaa.ExceptHand
