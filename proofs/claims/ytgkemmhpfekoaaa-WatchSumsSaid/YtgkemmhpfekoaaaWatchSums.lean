/- The sum over tasks, in any order, named again and again, is what is left of each, each time: the walk of WatchSums. Conditions: none. -/
import Derived.Test.YtgkemmhpfekoaaaWatchBase
import Derived.Laws.AppendOwn
import Derived.OwnWalk
import Derived.Laws.NewBlocks
namespace Go.Proofs.Ytgkemmhpfekoaaa.WatchHand
set_option linter.unusedVariables false
open Go.RowKit Go.Proofs.YtgkemmhpfekoaaaW.PrintWords Go.Proofs.YtgkemmhpfekoaaaW.PrintLast Go.Proofs.YtgkemmhpfekoaaaW.PrintMore
theorem bu16 {n : Int} (h : (Lit.int .u16 n).wf = true) : 0 ≤ n ∧ n ≤ 65535 := by
  simp [Lit.wf, IntKind.min, IntKind.max, IntKind.signed, IntKind.bits] at h
  omega
theorem bu8 {n : Int} (h : (Lit.int .u8 n).wf = true) : 0 ≤ n ∧ n ≤ 255 := by
  simp [Lit.wf, IntKind.min, IntKind.max, IntKind.signed, IntKind.bits] at h
  omega
theorem info3 : (Try.prog.info? 3).map (fun i => (i.zero, i.size, i.bytes)) = some (some (.int .i64 0), 1, 8) := by kernel_rfl
theorem Wt.congr {w0 W : World} {g b n : Nat} {f f' : Nat → Int} (h : Wt w0 W g b n f) (e : ∀ i, i < n → f i = f' i) : Wt w0 W g b n f' :=
  ⟨h.cg, fun i hi => (h.c0 i hi).trans (by rw [e i hi]), fun i hi => (h.c1 i hi).trans (by rw [e i hi]), h.fr, h.ne, h.gw, h.bw, fun i hi => (e i hi) ▸ h.rg i hi, h.n0, h.n1, h.be⟩
theorem Wt.grown {w0 W W1 : World} {g b n B : Nat} {f : Nat → Int} {row : Option Nat} (h : Wt w0 W g b n f) (hg : W.grownBy W1 row) (hr : ∀ k, row = some k → B ≤ k) (gB : g < B) (bB : b < B) (hB : w0.heap.size ≤ B) : Wt w0 W1 g b n f := by
  have gl := World.block_lt_of_cell? W _ h.cg
  have bl := World.block_lt_of_cell? W _ (h.c0 0 h.n0)
  have eg := hg.block g gl (fun e => by have := hr g e.symm; omega)
  have eb := hg.block b bl (fun e => by have := hr b e.symm; omega)
  refine ⟨(World.cell?_of_block (a := ⟨g, 0, none⟩) eg).trans h.cg, fun i hi => (World.cell?_of_block (a := ⟨b, i * 2, none⟩) eb).trans (h.c0 i hi), fun i hi => (World.cell?_of_block (a := ⟨b, i * 2 + 1, none⟩) eb).trans (h.c1 i hi),
    fun j => (World.frozen?_of_block (a := ⟨b, j, none⟩) eb).trans (h.fr j), h.ne, h.gw, h.bw, h.rg, h.n0, h.n1, pw_below_grown h.be row h.be.size hg (fun k hk => by have := hr k hk; omega)⟩
/-- The times of the first j tasks. -/
def tim (ts : List Int) (j : Nat) : Nat → Int := fun i => if i < j then ts.getD i 0 else 0
/-- The times. -/
def tm (ts : List Int) : Nat → Int := fun i => ts.getD i 0
/-- The tasks that the names tell. -/
def tsk (ns : List Int) (n : Nat) : List Int := ns.map fun x => 1 + x % (n : Int)
theorem tsk_snoc (ns : List Int) (n k : Nat) (h : k < ns.length) : tsk (ns.take (k + 1)) n = tsk (ns.take k) n ++ [1 + ns[k] % (n : Int)] := by
  rw [List.take_succ_eq_append_getElem h, tsk, List.map_append]; rfl
theorem tsk_len (ns : List Int) (n : Nat) : (tsk ns n).length = ns.length := by simp [tsk]
theorem sumT_app (f : Nat → Int) (n : Nat) (xs : List Int) (y : Int) : sumT f n (xs ++ [y]) = sumT f n xs + ofT f n y := by
  simp only [sumT, List.map_append, List.sum_append, List.map_cons, List.map_nil, List.sum_cons, List.sum_nil, Int.add_zero]
theorem one_new (w : World) (v : Value) (e : TypeId) : ∀ (j : Nat) (u : Value), [v][j]? = some u → (w.alloc (.cells #[v] e)).cell? ((⟨w.heap.size, 0, none⟩ : Addr).add j) = some u := by
  intro j u hj
  have hb : (w.alloc (.cells #[v] e)).heap[w.heap.size]? = some (.cells #[v] e (0, 0)) := heap_alloc_new w _
  have h0 : j = 0 := by
    by_cases h : j = 0
    · exact h
    · rw [List.getElem?_eq_none (by simp; omega)] at hj; cases hj
  subst h0
  have : v = u := by simpa using hj
  subst this
  exact (blk_cell hb 0).trans rfl
set_option maxHeartbeats 4000000 in
set_option maxRecDepth 100000 in
theorem sums_core (ts ns : List Int) (ht : ∀ x ∈ ts, 0 ≤ x ∧ x ≤ 65535) (hx : ∀ x ∈ ns, 0 ≤ x ∧ x ≤ 255) (t0 : 1 ≤ ts.length) (t1 : ts.length ≤ 16) (hn : ns.length ≤ 100) (A B : Option Addr) (c d : Nat) (hc : ts.length ≤ c) (hd : ns.length ≤ d)
    (w : World) (hr : ReadsInt w .u16 A ts.length ts) (hs : ReadsInt w .u8 B ns.length ns) :
    Calls Try.prog 4 #[.slice A ts.length c, .slice B ns.length d] w fun e w' => e = .returned (.bool true) ∧ Below w.heap.size w w' := by
  obtain ⟨i0, hi, hz0, hz1, hz2⟩ := info_parts info3
  have HI := Aside0.mk (And.intro hi (And.intro hz0 (And.intro hz1 hz2))); clear hi hz0 hz1 hz2
  have qb : ((ts.length : Int) == 0) = false := beq_eq_false_iff_ne.2 (by omega)
  have HX := Aside0.mk hx; clear hx
  have HT := Aside0.mk ht; clear ht
  have HR := Aside0.mk hr; clear hr
  have HS := Aside0.mk hs; clear hs
  go_enter Try.func4, Try.ntmps4
  go_wp2_with fail
  refine (known_calls w).mono ?_
  rintro e w1 ⟨rfl, h1⟩
  have H1 := Aside0.mk h1; clear h1
  go_wp2_with fail
  refine (new_calls ts.length t0 t1 w1).mono ?_
  rintro e w2 ⟨rfl, h2⟩
  have h2' := Wt.made H1.out ts.length t0 t1
  have hsz : w1.heap.size + 1 < w2.heap.size := by rw [h2]; simp
  rw [← h2] at h2'
  have H2 := Aside0.mk (h2'.congr (f' := tim ts 0) (fun i _ => rfl)); clear h2' h2
  go_wp2
  go_loopw [9] (fun i w' => ∃ j : Nat, j ≤ ts.length ∧ i = .int .i64 j ∧ Aside0 (Wt w w' (w1.heap.size + 1) w1.heap.size ts.length (tim ts j)) ∧ Aside0 (w2.heap.size ≤ w'.heap.size)) (fun i _ => ts.length - (intOf i).toNat)
  case atStart => exact ⟨0, Nat.zero_le _, rfl, H2, ⟨Nat.le_refl _⟩⟩
  case round =>
    clear H2
    obtain ⟨j, hj, rfl, HW, HZ⟩ := hrel
    by_cases hlt : j < ts.length
    · have hrd := HR.out.below HW.out.be
      obtain ⟨ad, hA, hcell⟩ := hrd.2.2 (by omega)
      have hxj := hcell j hlt
      have hg : ts.getD j 0 = ts[j] := by simp [hlt]
      have HC0 := Aside0.mk (show ∀ i, i < ts.length → upd (tim ts j) j ts[j] i = tim ts (j + 1) i from fun i hi => by
        unfold tim
        by_cases e : i = j
        · subst e; rw [upd_at, if_pos (by omega), hg]
        · rw [upd_other _ _ e]
          by_cases e2 : i < j
          · rw [if_pos e2, if_pos (by omega)]
          · rw [if_neg e2, if_neg (by omega)])
      rw [hg] at hxj
      subst hA
      obtain ⟨x0, x1⟩ := HT.out ts[j] (List.getElem_mem hlt)
      have HL := Aside0.mk hlt
      clear hcell hg hrd
      generalize ts[j] = x at *
      by_cases hp : 0 < x
      · go_wp2_with fail
        refine (start_in HW.out j HL.out _ x rfl (by omega) (by omega)).mono ?_
        rintro e w4 ⟨rfl, h4, k4⟩
        have H4 := Aside0.mk (h4.congr HC0.out); clear h4
        have HZ4 := Aside0.mk (Nat.le_trans HZ.out k4.1); clear k4
        go_wp2
        go_roundw
        case rel => exact ⟨j + 1, by omega, by go_num, H4, HZ4⟩
        case measure => simp [intOf]; omega
      · obtain rfl : x = 0 := by omega
        have H4 := Aside0.mk (HW.out.congr (f' := tim ts (j + 1)) (fun i hi => by
          rw [← HC0.out i hi]
          by_cases e : i = j
          · subst e; rw [upd_at]; unfold tim; rw [if_neg (by omega)]
          · rw [upd_other _ _ e]))
        go_wp2
        go_roundw
        case rel => exact ⟨j + 1, by omega, by go_num, H4, HZ⟩
        case measure => simp [intOf]; omega
    · obtain rfl : j = ts.length := by omega
      have HW2 := Aside0.mk (HW.out.congr (f' := tm ts) (fun i hi => if_pos hi)); clear HW
      have hlen := HT
      go_wp2_with fail
      go_loopw [7, 8, 10] (fun l s i w' => ∃ j : Nat, j ≤ ns.length ∧ i = .int .i64 j ∧ s = .int .i64 (sumT (tm ts) ts.length (tsk (ns.take j) ts.length)) ∧ Aside0 (Wt w w' (w1.heap.size + 1) w1.heap.size ts.length (tm ts)) ∧ Aside0 (w2.heap.size ≤ w'.heap.size) ∧
          w'.ownsRow w2.heap.size 3 1 l j (nums .i64 (tsk (ns.take j) ts.length))) (fun _ _ i _ => ns.length - (intOf i).toNat)
      case atStart => exact ⟨0, Nat.zero_le _, rfl, rfl, HW2, HZ, own_nil _ _ _ _⟩
      case round =>
        clear HW2 HZ
        obtain ⟨j, hj, rfl, rfl, HW, HZ, hown⟩ := hrel
        by_cases hlt : j < ns.length
        · have hrd := HS.out.below HW.out.be
          obtain ⟨ad, hA, hcell⟩ := hrd.2.2 (by omega)
          have hxj := hcell j hlt
          have hg : ns.getD j 0 = ns[j] := by simp [hlt]
          rw [hg] at hxj
          subst hA
          have HSN := Aside0.mk (tsk_snoc ns ts.length j hlt)
          obtain ⟨x0, x1⟩ := HX.out ns[j] (List.getElem_mem hlt)
          have HB := Aside0.mk (sumT_rg HW.out (tsk (ns.take j) ts.length))
          have HLN := Aside0.mk (show (tsk (ns.take j) ts.length).length ≤ 100 by rw [tsk_len, List.length_take]; omega)
          have s0 := HB.out.1
          have s1 : sumT (tm ts) ts.length (tsk (ns.take j) ts.length) ≤ 214748364700 := by have := HB.out.2; have := HLN.out; omega
          clear hcell hg hrd HB HLN
          generalize ns[j] = x at *
          generalize tsk (ns.take j) ts.length = q at *
          have hm0 := Int.emod_nonneg x (show (ts.length : Int) ≠ 0 by omega)
          have hm1 := Int.emod_lt_of_pos x (show (0 : Int) < ts.length by omega)
          have HLN := Aside0.mk hlt
          have hlq : q.length = j := by
            have := hown.1
            rw [nums_length] at this; omega
          have HLQ := Aside0.mk hlq; clear hlq
          obtain ⟨hi, hz0, hz1, hz2⟩ := HI.out
          have HI0 := Aside0.mk hi; have HI1 := Aside0.mk hz0; have HI2 := Aside0.mk hz1; have HI3 := Aside0.mk hz2
          clear hi hz0 hz1 hz2
          have HO := Aside0.mk hown; clear hown
          have hrt := HR.out.below HW.out.be
          obtain ⟨ad2, hA2, hcell2⟩ := hrt.2.2 (by omega)
          subst hA2
          have HC2 := Aside0.mk hcell2
          have hmn : (x % (ts.length : Int)).toNat < ts.length := by omega
          have hx2 := hcell2 (x % (ts.length : Int)).toNat hmn
          have HMN := Aside0.mk hmn
          clear hcell2 hrt hmn
          have HQ := Aside0.mk (show j + 1 ≤ maxLen ∧ (j + 1) * 8 ≤ 140737488355328 by unfold maxLen; omega)
          have hin := HT.out _ (List.getElem_mem HMN.out)
          have hgd : ts.getD (x % (ts.length : Int)).toNat 0 = ts[(x % (ts.length : Int)).toNat]'HMN.out := by simp [HMN.out]
          rw [hgd] at hx2
          obtain ⟨y, hy⟩ : ∃ y, ts[(x % (ts.length : Int)).toNat]'HMN.out = y := ⟨_, rfl⟩
          rw [hy] at hx2 hin
          obtain ⟨y0, y1⟩ := hin
          have HOF := Aside0.mk (show ofT (tm ts) ts.length (1 + x % (ts.length : Int)) = y by
            unfold ofT tm
            rw [if_pos (by omega), ← hy, ← hgd]
            congr 1; omega)
          have HCF := Aside0.mk (show ∀ (W W3 : World) (row : Option Nat), W = wr.alloc (.cells #[.int .i64 (1 + x % (ts.length : Int))] 3) → W.grownBy W3 row → (∀ k, row = some k → w2.heap.size ≤ k) → W3.cell? (ad2.add ((1 + x % (ts.length : Int)).toNat - 1)) = some (.int .u16 y) by
            rintro W W3 row rfl hg hr
            have hb0 : ad2.block < w.heap.size := by
              obtain ⟨ad', e', h'⟩ := HR.out.2.2 (by omega)
              have hc0 := h' 0 (by omega)
              injection e' with e'
              subst e'
              have := World.block_lt_of_cell? _ _ hc0
              rwa [add_block] at this
            have hw := HW.out.be.size
            have hz := HZ.out
            have hw1 := H1.out.size
            have hq : (ad2.add ((1 + x % (ts.length : Int)).toNat - 1)).block = ad2.block := add_block _ _
            have he : W3.heap[ad2.block]? = (wr.alloc (.cells #[.int .i64 (1 + x % (ts.length : Int))] 3)).heap[ad2.block]? := hg.block _ (by simp; omega) (fun e => by have := hr _ e.symm; omega)
            refine (World.cell?_of_block (w := wr.alloc (.cells #[.int .i64 (1 + x % (ts.length : Int))] 3)) (w' := W3) (a := ad2.add ((1 + x % (ts.length : Int)).toNat - 1)) (by rw [hq]; exact he)).trans ?_
            have hne : (ad2.add ((1 + x % (ts.length : Int)).toNat - 1)).block ≠ wr.heap.size := by rw [hq]; omega
            refine (World.cell?_alloc_old wr (.cells #[.int .i64 (1 + x % (ts.length : Int))] 3) _ hne).trans ?_
            have e1 : (1 + x % (ts.length : Int)).toNat - 1 = (x % (ts.length : Int)).toNat := by omega
            rw [e1]; exact hx2)
          clear hx2 hgd hy
          go_wp2_with (at_builtin; refine wpList_append_own _ rfl _ _ 34 rfl w2.heap.size 3 i0 (.int .i64 0) 1 8 Try.underlying34 HI0.out HI1.out HI2.out HI3.out rfl (by decide) _ _ _ rfl (HO.out.alloc _) ⟨wr.heap.size, 0, none⟩ 1 1 [.int .i64 (1 + x % (ts.length : Int))] rfl rfl (one_new _ _ _) (by simp [Value.oneCell']) HQ.out.1 HQ.out.2 (Nat.le_trans HZ.out (by simp)) ?_; intro v' w3 hown3 hgrow3 _; have hcx := HCF.out _ _ _ rfl hgrow3 (fun k hk => own_base HO.out k hk))
          go_roundw
          case rel =>
            refine ⟨j + 1, by omega, by go_num, ?_, ⟨(HW.out.alloc _).grown hgrow3 (fun k hk => own_base HO.out k hk) (by omega) (by omega) (by have := H1.out.size; omega)⟩, ⟨Nat.le_trans HZ.out (Nat.le_trans (by simp) hgrow3.size)⟩, ?_⟩
            · rw [HSN.out, sumT_app, HOF.out]
            · rw [HSN.out, nums_append]; exact hown3
          case measure => simp [intOf]; omega
        · obtain rfl : j = ns.length := by omega
          have hlq : (tsk (ns.take ns.length) ts.length).length = ns.length := by rw [tsk_len, List.length_take]; omega
          generalize tsk (ns.take ns.length) ts.length = q at *
          have HLQ := Aside0.mk hlq; clear hlq
          obtain ⟨A', c', rfl, hrq⟩ := own_reads hown
          have hcq : ns.length ≤ c' := by
            rcases hown.2 with ⟨e, h0⟩ | ⟨g, cap, cur, e, _, _, h, _⟩
            · injection e; omega
            · injection e with _ _ e; omega
          have HRQ := Aside0.mk hrq; clear hrq hown
          go_wp2_with fail
          refine (sum_calls HW.out q (by rw [HLQ.out]; omega) A' c' ns.length HLQ.out.symm (by rw [HLQ.out]; exact HRQ.out) (by rw [HLQ.out]; exact hcq) _ rfl).mono ?_
          rintro e w5 ⟨rfl, rfl⟩
          go_wp2_with fail
          refine (sum_calls HW.out [] (by simp) none 0 0 rfl (ReadsInt.nil _ _) (by simp) 0 rfl).mono ?_
          rintro e w6 ⟨rfl, rfl⟩
          go_wp2
          go_ret
          exact ⟨rfl, HW.out.be⟩
theorem sums_out (n m : Nat) (h : n = 0 ∨ 16 < n ∨ 100 < m) (A B : Option Addr) (c d : Nat) (hn : n ≤ 9223372036854775807) (hm : m ≤ 9223372036854775807) (w : World) :
    Calls Try.prog 4 #[.slice A n c, .slice B m d] w fun e w' => e = .returned (.bool true) ∧ Below w.heap.size w w' := by
  by_cases z : n = 0
  · subst z
    clear h
    go_enter Try.func4, Try.ntmps4
    go_wp2_with fail
    refine (known_calls w).mono ?_
    rintro e w1 ⟨rfl, h1⟩
    have H1 := Aside0.mk h1; clear h1
    go_wp2
    go_ret
    exact ⟨rfl, H1.out⟩
  · have qb : ((n : Int) == 0) = false := beq_eq_false_iff_ne.2 (by omega)
    by_cases z2 : 16 < n
    · clear h z
      go_enter Try.func4, Try.ntmps4
      go_wp2_with fail
      refine (known_calls w).mono ?_
      rintro e w1 ⟨rfl, h1⟩
      have H1 := Aside0.mk h1; clear h1
      go_wp2
      go_ret
      exact ⟨rfl, H1.out⟩
    · have z3 : 100 < m := by omega
      have z4 : n ≤ 16 := by omega
      clear h z z2
      go_enter Try.func4, Try.ntmps4
      go_wp2_with fail
      refine (known_calls w).mono ?_
      rintro e w1 ⟨rfl, h1⟩
      have H1 := Aside0.mk h1; clear h1
      go_wp2
      go_ret
      exact ⟨rfl, H1.out⟩
theorem sums_walk (a0 : Option Addr) (len0 cap0 : Nat) (z0 : List Int) (a1 : Option Addr) (len1 cap1 : Nat) (z1 : List Int) (w : World) (w0 : (a0 = none ∧ len0 = 0 ∧ cap0 = 0 ∧ z0 = []) ∨ ∃ x, a0 = some x ∧ len0 ≤ cap0 ∧ cap0 ≤ maxLen ∧ z0.length = cap0 ∧ (∀ i, i < z0.length → w.cell? (x.add i) = some (.int .u16 (z0.getD i 0))) ∧ ∀ n ∈ z0, (Lit.int .u16 n).wf = true) (y0 : len0 * 2 ≤ 140737488351232)
    (w1 : (a1 = none ∧ len1 = 0 ∧ cap1 = 0 ∧ z1 = []) ∨ ∃ x, a1 = some x ∧ len1 ≤ cap1 ∧ cap1 ≤ maxLen ∧ z1.length = cap1 ∧ (∀ i, i < z1.length → w.cell? (x.add i) = some (.int .u8 (z1.getD i 0))) ∧ ∀ n ∈ z1, (Lit.int .u8 n).wf = true) (y1 : len1 * 1 ≤ 140737488351232) :
    Calls Try.prog 4 #[.slice a0 len0 cap0, .slice a1 len1 cap1] w fun e w' => e = .returned (.bool true) ∧ Below w.heap.size w w' := by
  obtain ⟨l0, rfl, hr0, hm0, hw0, hc0⟩ := ReadsInt.ofRowC w0
  obtain ⟨l1, rfl, hr1, hm1, hw1, hc1⟩ := ReadsInt.ofRowC w1
  by_cases h : l0.length = 0 ∨ 16 < l0.length ∨ 100 < l1.length
  · exact sums_out l0.length l1.length h a0 a1 cap0 cap1 (by omega) (by omega) w
  · exact sums_core l0 l1 (fun x hx => bu16 (hw0 x hx)) (fun x hx => bu8 (hw1 x hx)) (by omega) (by omega) (by omega) a0 a1 cap0 cap1 hc0 hc1 w hr0 hr1
end Go.Proofs.Ytgkemmhpfekoaaa.WatchHand
