/- The eventflag's kernel: calls that are carried out otherwise; out of the stations' runs, the loops; out of the loops, the call; out of the call, the law. Conditions: none. -/
import Derived.Test.YtjodpodmeobciaaGreatDoorUM
import Derived.Test.YtjodpodmeobciaaGreatDoorUIJ
import Derived.Test.YtjodpodmeobciaaGreatDoorUR
namespace Go.Proofs.YtjodpodmeobciaaGreatDoor
open Go.Rsf Go.RowKit
set_option linter.unusedVariables false
set_option linter.unusedSimpArgs false
section
variable {P : Program} {ρ : Rho}
/-- A call's state behind it may be told anew. -/
theorem ct_mat {f : Nat} {l : List AV} {s s1 s2 : St} {v v2 : AV} {rl : List (Pth × Pth)} (hct : CT P ρ f l s v s1) (hn1 : Num s1) (hc : s.cnt ≤ s1.cnt) (hm : matB s.cnt rl [] (.leaf v2) s2 (.leaf v) s1 = true) (h1 : s1.cnt ≤ s2.cnt) : CT P ρ f l s v2 s2 := by
  intro n0 w0 ν w vals R ra gl mw un hR
  refine hct ra gl mw (un.mono (Nat.le_refl _) h1) fun u ν' w' he hu hmw => ?_
  have kn : Kn s2.cnt 1 n0 w0 (.leaf v) s1 ρ ν' { tmps := #[u], defers := [] } w' := by
    refine ⟨fun id h2 h3 => ?_, ⟨rfl, fun p x hp => ?_, fun n hn => he.le _ _ (gl n hn)⟩, rfl, hmw⟩
    · rw [he.same id (by omega)]; exact un id (by omega) h3
    · cases p with
      | e => cases hp; exact ⟨u, rfl, hu⟩
      | z q => rw [show (Tr.leaf v).get (.z q) = Tr.nil.get q from rfl, Tr.get_nil] at hp; cases hp
      | s q => rw [show (Tr.leaf v).get (.s q) = Tr.nil.get q from rfl, Tr.get_nil] at hp; cases hp
  obtain ⟨ν2, hb, k2⟩ := mat_sound hm kn hn1 (Nat.le_refl _) (rhoIs_nil _) rfl rfl
  obtain ⟨y, hy, hr⟩ := k2.mt.2.1 .e v2 rfl
  have hy : some u = some y := hy
  cases hy
  refine hR u ν2 w' ⟨fun p x hp => ?_, fun id hid => ?_⟩ hr k2.mw
  · by_cases q : s.cnt ≤ p.nat ∧ p.nat < s2.cnt
    · rw [un p q.1 q.2] at hp; cases hp
    · rw [hb p (by omega), he.same p (by omega)]; exact hp
  · rw [hb id (by omega), he.same id (by omega)]
end
theorem fnX_ok {ρ : Rho} (hg : true = ρ.gl.isSome) {ck : CK} (hck : CKOK Tryz.prog ρ ck) {f : Nat} {x : XFn} (hx : FnOK Tryz.prog true f x) {sel : XCode → Bool} {fam : XCode → XM}
    (hfam : ∀ {m0 : Nat} {y : XCode} {c : Code} {t : Ts} {s : St} {k : KX}, y ∈ loopsOf x.body → chkCode Tryz.prog true m0 y c = true → sel y = true → Num s → IvOK ρ s.iv → fam y t s k = true → ∃ e t' s', k e t' s' = true ∧ Pure ρ s s' ∧ CTr Tryz.prog ρ m0 (WP Tryz.prog (.loop c)) t s e t' s')
    {l : List AV} {s : St} {k : KVS} (hn : Num s) (hi : IvOK ρ s.iv) (h : fnX ck sel fam x l s k = true) : ∃ v s', k v s' = true ∧ Pure ρ s s' ∧ CT Tryz.prog ρ f l s v s' :=
  fnO_sound hmix hg hck hx hfam hn hi (by cases x; exact h)
theorem ckP_ok {ρ : Rho} (hg : true = ρ.gl.isSome) : CKOK Tryz.prog ρ ckP := callN_sound hmix hg xs_get 400 100
end Go.Proofs.YtjodpodmeobciaaGreatDoor
namespace Go.Proofs.YtjodpodmeobciaaGreatDoor
open Go.Rsf Go.RowKit
set_option linter.unusedVariables false
set_option linter.unusedSimpArgs false
theorem only_of {f : Nat} {x : XFn} {z : XCode} (h : (loopsOf x.body).filter (callsB f) = [z]) {y : XCode} (hy : y ∈ loopsOf x.body) (hs : callsB f y = true) : y = z := by
  have : y ∈ (loopsOf x.body).filter (callsB f) := List.mem_filter.2 ⟨hy, hs⟩
  rw [h] at this
  simpa using this
set_option maxRecDepth 1000000 in
theorem onlyR : (loopsOf x103.body).filter (callsB 74) = [lpR] := by kernel_rfl
set_option maxRecDepth 1000000 in
theorem onlyF : (loopsOf x48.body).filter (callsB 99) = [lpF] := by kernel_rfl
set_option maxRecDepth 1000000 in
theorem onlyL : (loopsOf x10.body).filter (callsB 23) = [lpL] := by kernel_rfl
set_option maxRecDepth 1000000 in
theorem get103 : xs.get k103 = some x103 := by kernel_rfl
theorem step_false (N : Nat) (nxt : Pth) (nx : Ts → St → Bool) (k k' : KX) : stepK N nxt nx false k = stepK N nxt nx false k' := rfl
theorem beq_no {a b : Nat} (h : a ≠ b) : Nat.beq a b = false := by cases hb : Nat.beq a b with | false => rfl | true => exact absurd (Nat.eq_of_beq_eq_true hb) h
section
variable {L : LitS} {wt : Nat → Nat} {b : Nat} {μ : Nat → Bool} {gl : Option Nat} {mem : Nat → Option Obj} (H : Flg L.n wt b μ) (hg : gl.isSome = true)
include H
theorem want_of {s : St} (hw : wantB L.n s = true) (hi : IvOK (rhoV L.n wt b μ μ gl mem) s.iv) : ∀ i, i < L.n → 1 ≤ wt i := by
  intro i hin
  have h15 := H.n15
  obtain ⟨y, hy, hl⟩ := nthIv_true (allK_true hw i hin)
  rw [ileB_eq] at hl
  have hl : (1 : Int) ≤ y.lo := of_decide_eq_true hl
  obtain ⟨⟨hl2, _⟩, _⟩ := hi _ y hy
  have e : (rhoV L.n wt b μ μ gl mem).val (16 + i) = _ := vals_want (by omega)
  rw [if_pos hin] at e
  rw [e] at hl2
  omega
include hg
theorem famR2_ok (HR : ∀ j u, j ≤ L.n → u ≤ j → runR L (tR0 L) (sR0 L) j u = true) {m0 : Nat} {c : Code} {t : Ts} {s : St} {k : KX} {z : XCode} (hc : chkCode Tryz.prog true m0 lpR c = true) (hs : Num s)
    (hi : IvOK (rhoV L.n wt b μ μ gl mem) s.iv) (h : famR2 L z t s k = true) : ∃ e t' s', k e t' s' = true ∧ Pure (rhoV L.n wt b μ μ gl mem) s s' ∧ CTr Tryz.prog (rhoV L.n wt b μ μ gl mem) m0 (WP Tryz.prog (.loop c)) t s e t' s' := by
  have h15 := H.n15
  obtain ⟨hw, h1⟩ := guardK_true h
  obtain ⟨hcn, h2⟩ := guardK_true h1
  have hcn : s.cnt ≤ 1022 := Nat.le_of_ble_eq_true hcn
  rw [litR_eq] at h2
  obtain ⟨he, hall⟩ := guardK_true h2
  rw [staR_spec, matF_eq] at he
  have hw1 := want_of H hw hi
  have hu0 := cn_le (fun q => !μ q) L.n
  have hk := allK_true hall (cn (fun q => !μ q) L.n) (by omega)
  rw [staR_spec] at hk
  have vb : ∀ {j : Nat}, j < L.n → (rhoV L.n wt b μ μ gl mem).val (48 + j) = if μ j then 1 else 0 := fun hj => vals_b (by omega)
  have key0 : ∃ e t' s', kR L (cn (fun q => !μ q) L.n) e t' s' = true ∧ Pure (rhoV L.n wt b μ μ gl mem) s s' ∧ CTr Tryz.prog (rhoV L.n wt b μ μ gl mem) m0 (WP Tryz.prog (.loop c)) t s e t' s' := by
    refine fam_loop (ck := ckP) (nL := 400) (N := 2046) (nxt := nx11) (k := kR L (cn (fun q => !μ q) L.n)) hmix rfl hs (by omega) (I := Nat × Nat) (fun i => staRt (sR0 L) (tR0 L) i.1 i.2) (fun i => staRs L.n (tR0 L) (sR0 L) i.1 i.2) (fun _ => rhoV L.n wt b μ μ gl mem)
      (fun i => i.1 ≤ L.n ∧ i.2 = cn (fun q => !μ q) i.1 ∧ Num (staRs L.n (tR0 L) (sR0 L) i.1 i.2)) (fun i => i.1) L.n (fun i => nxR L.n (tR0 L) (sR0 L) i.1 i.2) (fun i => Nat.beq i.1 L.n) hc (fun _ _ => hg.symm) (fun _ _ => ckP_ok hg.symm) (fun i hi => hi.2.2)
      (fun i hi => by rw [hi.2.1]; exact ivR_ok H hw1 hi.1) (fun i hi => by show s.cnt ≤ 1024; omega) (fun i hi => hi.1) (fun _ _ _ => rfl)
      (fun i hok t1 s1 hnx hn1 hi1 hwl hcN => ?_) (fun i hok => ?_) (i0 := (0, 0)) ⟨Nat.zero_le _, rfl, (mat_num he).1⟩ (mat_num he).2.2 (fun {m n0 w0 ν ac w} kn => mat_sound he kn hs (by show (1024 : Nat) ≤ 2046; decide) (rhoIs_nil _) rfl rfl)
    · obtain ⟨j, u⟩ := i
      obtain ⟨hj, hu, _⟩ := hok
      have hj : j ≤ L.n := hj
      have hu : u = cn (fun q => !μ q) j := hu
      obtain ⟨hlt, h3⟩ := guardK_true (show nxR L.n (tR0 L) (sR0 L) j u t1 s1 = true from hnx)
      have hlt : j < L.n := Nat.le_of_ble_eq_true hlt
      obtain ⟨y, hy, h4⟩ := nthIv_true h3
      obtain ⟨⟨b1, b2⟩, _⟩ := hi1 _ y hy
      rw [vb hlt] at b1 b2
      have hsum := cn_sum μ j
      cases hb : ieqB y.lo (Int.ofNat 1) with
      | true =>
        rw [hb] at h4
        rw [ieqB_eq] at hb
        have hb : y.lo = 1 := of_decide_eq_true hb
        have hm : μ j = true := by
          cases hm : μ j with
          | true => rfl
          | false => rw [hm] at b1; simp at b1; omega
        have h5 := natK_true h4
        rw [staR_spec, matF_eq] at h5
        have hit := atN_hit (n := L.n) hm hlt
        refine ⟨(j + 1, u), ⟨hlt, ?_, (mat_num h5).1⟩, Nat.lt_succ_self _, (mat_num h5).2.2, fun {m n0 w0 ν ac w} kn => ?_⟩
        · show u = cn (fun q => !μ q) (j + 1)
          rw [cn_succ, hm, hu]; simp
        · obtain ⟨ν', v1, v2⟩ := mat_sound h5 kn hn1 (by show (1024 : Nat) ≤ 2046; decide) (rhoIs_one (by
            rw [show (rhoV L.n wt b μ μ gl mem).val (96 + (j - u)) = _ from vals_M (by omega)]
            have e : j - u = cn μ j := by omega
            rw [e, hit]; rfl)) rfl rfl
          exact ⟨ν', fun id hid => v1 id (by show id.nat < 1023 ∨ _; omega), v2⟩
      | false =>
        rw [hb] at h4
        obtain ⟨h5, h6⟩ := guardK_true h4
        rw [ieqB_eq] at h5
        have h5 : y.hi = 0 := of_decide_eq_true h5
        have hm : μ j = false := by
          cases hm : μ j with
          | false => rfl
          | true => rw [hm] at b2; simp at b2; omega
        have h7 := natK_true (natK_true h6)
        rw [staR_spec, matF_eq] at h7
        have hit := atN_hit (μ := fun q => !μ q) (n := L.n) (i := j) (by simp [hm]) hlt
        refine ⟨(j + 1, u + 1), ⟨hlt, ?_, (mat_num h7).1⟩, Nat.lt_succ_self _, (mat_num h7).2.2, fun {m n0 w0 ν ac w} kn => ?_⟩
        · show u + 1 = cn (fun q => !μ q) (j + 1)
          rw [cn_succ, hm, hu]; simp
        · have hle := cn_le (fun q => !μ q) j
          obtain ⟨ν', v1, v2⟩ := mat_sound h7 kn hn1 (by show (1024 : Nat) ≤ 2046; decide) (rhoIs_one (by
            rw [show (rhoV L.n wt b μ μ gl mem).val (112 + u) = _ from vals_U (by omega)]
            rw [hu, hit]; rfl)) rfl rfl
          exact ⟨ν', fun id hid => v1 id (by show id.nat < 1023 ∨ _; omega), v2⟩
    · obtain ⟨j, u⟩ := i
      obtain ⟨hj, hu, _⟩ := hok
      have hj : j ≤ L.n := hj
      have hu : u = cn (fun q => !μ q) j := hu
      have hle := cn_le (fun q => !μ q) j
      have h3 := HR j u hj (by omega)
      unfold runR at h3
      rw [staR_spec] at h3
      show codeK ckP 400 lpR (staRt (sR0 L) (tR0 L) j u) (staRs L.n (tR0 L) (sR0 L) j u) (stepK 2046 nx11 (nxR L.n (tR0 L) (sR0 L) j u) (Nat.beq j L.n) (kR L (cn (fun q => !μ q) L.n))) = true
      by_cases e : j = L.n
      · rw [← e, ← hu]; rw [← e] at h3; exact h3
      · rw [beq_no e] at h3 ⊢
        rw [step_false 2046 nx11 _ (kR L u) (kR L (cn (fun q => !μ q) L.n))] at h3
        exact h3
  obtain ⟨e, t', s', hkx, hp, hct⟩ := key0
  rcases exK_true hkx with ⟨_, h5⟩ | ⟨i, rfl, h5⟩ | ⟨_, h5⟩
  · cases h5
  · obtain ⟨h6, h7⟩ := guardK_true h5
    obtain ⟨h8, h9⟩ := guardK_true h7
    have e2 : i = 2 := Nat.eq_of_beq_eq_true h6
    subst e2
    rw [litR_eq, staR_spec, matF_eq] at h9
    have h8 : s'.cnt ≤ 2046 := Nat.le_of_ble_eq_true h8
    have h10 : matB 1023 [] [] (staRt (sR0 L) (tR0 L) L.n (cn (fun q => !μ q) L.n)) ⟨(staRs L.n (tR0 L) (sR0 L) L.n (cn (fun q => !μ q) L.n)).heap, nx11, 2046, 1, (staRs L.n (tR0 L) (sR0 L) L.n (cn (fun q => !μ q) L.n)).iv⟩ t' s' = true := h9
    refine ⟨.exit 2, _, _, hk, ⟨by show s.cnt ≤ 2046; omega, ?_, (mat_num h10).1, ivR_ok H hw1 (Nat.le_refl _)⟩, ?_⟩
    · show 1 = s.wlo
      rw [← hp.wlo]; exact (mat_num h9).2.2
    · exact ctr_mat (P := Tryz.prog) hct hp.num hp.cnt (by omega) h10 h8 (rhoIs_nil _)
  · cases h5
theorem famF2_ok (HF : ∀ m, m ≤ L.n → grpF L m = true) {m0 : Nat} {c : Code} {t : Ts} {s : St} {k : KX} {z : XCode} (hc : chkCode Tryz.prog true m0 lpF c = true) (hs : Num s)
    (hi : IvOK (rhoV L.n wt b μ μ gl mem) s.iv) (h : famF2 L z t s k = true) : ∃ e t' s', k e t' s' = true ∧ Pure (rhoV L.n wt b μ μ gl mem) s s' ∧ CTr Tryz.prog (rhoV L.n wt b μ μ gl mem) m0 (WP Tryz.prog (.loop c)) t s e t' s' := by
  have h15 := H.n15
  have h0 := natK_true h
  generalize rdN (rdS t q66) = m at h0
  obtain ⟨hm, h1⟩ := guardK_true h0
  obtain ⟨hmn, h2⟩ := guardK_true h1
  obtain ⟨hcn, h3⟩ := guardK_true h2
  have hcn : s.cnt ≤ 3070 := Nat.le_of_ble_eq_true hcn
  have hmn : m ≤ L.n := Nat.le_of_ble_eq_true hmn
  rw [litF_eq, layF_eq] at h3
  obtain ⟨he, h4⟩ := guardK_true h3
  rw [slF_eq, matF_eq] at he
  rw [slF_eq, ivAllK_eq] at h4
  have hgrp := HF m hmn
  unfold grpF at hgrp
  rw [litF_eq, layF_eq] at hgrp
  obtain ⟨hall, hlast⟩ := guardK_true hgrp
  have hm : m = cn μ L.n := by
    obtain ⟨y, hy, h5⟩ := nthIv_true hm
    obtain ⟨h6, h7⟩ := guardK_true h5
    rw [ieqB_eq] at h6 h7
    have h6 : y.lo = (m : Int) := of_decide_eq_true h6
    have h7 : y.hi = (m : Int) := of_decide_eq_true h7
    obtain ⟨⟨l, u⟩, _⟩ := hi _ y hy
    have e : (rhoV L.n wt b μ μ gl mem).val 81 = (cn μ L.n : Int) := rfl
    rw [e] at l u
    omega
  have tellT : ∀ k', k' ≤ cn μ L.n → ∃ t', (k' < cn μ L.n ∧ t' = atN μ k' L.n) ∨ (k' = cn μ L.n ∧ t' = 16) := by
    intro k' hk'
    by_cases e : k' < cn μ L.n
    · exact ⟨_, .inl ⟨e, rfl⟩⟩
    · exact ⟨16, .inr ⟨by omega, rfl⟩⟩
  obtain ⟨t0, ht0⟩ := tellT 0 (Nat.zero_le _)
  have hcap : (3071 : Nat) + L.n ≤ 4094 := by omega
  have key0 : ∃ e t' s', kF L m e t' s' = true ∧ Pure (rhoV L.n wt b μ μ gl mem) s s' ∧ CTr Tryz.prog (rhoV L.n wt b μ μ gl mem) m0 (WP Tryz.prog (.loop c)) t s e t' s' := by
    refine fam_loop (ck := ckP) (nL := 400) (N := 4094) (nxt := nx12) (ρ := rhoV L.n wt b μ μ gl mem) (k := kF L m) (t := t) hmix rfl hs (by omega) (I := Nat × Nat) (fun i => staFt (tF0 L m) i.1) (fun i => staFs L.n (tF0 L m) (sF0 L m) i.1 i.2) (fun i => rhoV L.n wt b μ (told μ i.1) gl mem)
      (fun i => (i.1 ≤ cn μ L.n ∧ ((i.1 < cn μ L.n ∧ i.2 = atN μ i.1 L.n) ∨ (i.1 = cn μ L.n ∧ i.2 = 16))) ∧ Num (staFs L.n (tF0 L m) (sF0 L m) i.1 i.2)) (fun i => i.1) (cn μ L.n)
      (fun i => @Bool.rec (fun _ => Ts → St → Bool) (fun _ _ => false) (nxF L.n (tF0 L m) (sF0 L m) (layL (updF L.n (rdId (rdS (tF0 L m) q0)) (sF0 L m).heap (sF0 L m).next) (sF0 L m).heap) (keyP (sF0 L m).next L.n) ((sF0 L m).cnt + L.n) i.1 i.2) (Nat.blt i.1 m)) (fun i => Nat.beq i.1 m) hc
      (fun _ _ => hg.symm) (fun _ _ => ckP_ok hg.symm) (fun i hi => hi.2) (fun i hi => ivF_ok H hi.1.1 hi.1.2) (fun i hi => by show s.cnt ≤ 3071 + L.n; omega) (fun i hi => hi.1.1) (fun i hi ho => ?_)
      (fun i hok t1 s1 hnx hn1 hi1 hwl hcN => ?_) (fun i hok => ?_) (i0 := (0, t0)) ⟨⟨Nat.zero_le _, ht0⟩, ⟨(mat_num he).1.next, (mat_num he).1.no⟩⟩ (mat_num he).2.2 (fun {m n0 w0 ν ac w} kn => ?_)
    · have e : i.1 = cn μ L.n := by rw [← hm]; exact Nat.eq_of_beq_eq_true ho
      rw [e, told_n H]
    · obtain ⟨k', t'⟩ := i
      obtain ⟨⟨hk, ht⟩, _⟩ := hok
      have hk : k' ≤ cn μ L.n := hk
      have ht : (k' < cn μ L.n ∧ t' = atN μ k' L.n) ∨ (k' = cn μ L.n ∧ t' = 16) := ht
      have hnx : @Bool.rec (fun _ => Ts → St → Bool) (fun _ _ => false) (nxF L.n (tF0 L m) (sF0 L m) (layL (updF L.n (rdId (rdS (tF0 L m) q0)) (sF0 L m).heap (sF0 L m).next) (sF0 L m).heap) (keyP (sF0 L m).next L.n) ((sF0 L m).cnt + L.n) k' t') (Nat.blt k' m) t1 s1 = true := hnx
      cases hb : Nat.blt k' m with
      | false => rw [hb] at hnx; cases hnx
      | true =>
        rw [hb] at hnx
        have hlt : k' < m := Nat.le_of_ble_eq_true hb
        rcases ht with ⟨h6, h7⟩ | ⟨h6, _⟩
        case inr => omega
        obtain ⟨i, i1, i2, i3⟩ := cn_hit h6
        have hit := atN_hit (n := L.n) i2 i1
        rw [i3, ← h7] at hit
        have h8 := natK_true (show nxF L.n (tF0 L m) (sF0 L m) _ _ _ k' t' t1 s1 = true from hnx)
        rw [slF_eq, matF_eq] at h8
        obtain ⟨t'', ht''⟩ := tellT (k' + 1) (by omega)
        refine ⟨(k' + 1, t''), ⟨⟨by show k' + 1 ≤ cn μ L.n; omega, ht''⟩, ⟨(mat_num h8).1.next, (mat_num h8).1.no⟩⟩, Nat.lt_succ_self _, (mat_num h8).2.2, fun {m n0 w0 ν ac w} kn => ?_⟩
        rw [hit] at h8
        obtain ⟨ν', v1, v2⟩ := mat_sound h8 kn hn1 (by show 3071 + L.n ≤ 4094; exact hcap) (rhoIs_next H i2 i3) rfl rfl
        exact ⟨ν', fun id hid => v1 id (by show id.nat < 3071 ∨ _; omega), ⟨v2.unm, v2.mt, v2.dfr, v2.mw⟩⟩
    · obtain ⟨k', t'⟩ := i
      obtain ⟨⟨hk, ht⟩, _⟩ := hok
      have ht : (k' < cn μ L.n ∧ t' = atN μ k' L.n) ∨ (k' = cn μ L.n ∧ t' = 16) := ht
      show codeK ckP 400 lpF (staFt (tF0 L m) k') (staFs L.n (tF0 L m) (sF0 L m) k' t') (stepK 4094 nx12 (@Bool.rec (fun _ => Ts → St → Bool) (fun _ _ => false) (nxF L.n (tF0 L m) (sF0 L m) (layL (updF L.n (rdId (rdS (tF0 L m) q0)) (sF0 L m).heap (sF0 L m).next) (sF0 L m).heap) (keyP (sF0 L m).next L.n) ((sF0 L m).cnt + L.n) k' t') (Nat.blt k' m)) (Nat.beq k' m) (kF L m)) = true
      rcases ht with ⟨h6, h7⟩ | ⟨h6, h7⟩
      · obtain ⟨i, i1, i2, i3⟩ := cn_hit h6
        have hit := atN_hit (n := L.n) i2 i1
        rw [i3, ← h7] at hit
        have hle := cn_le μ i
        have hsl := cn_slow μ (i := i + 1) (j := L.n) i1
        have hs1 : cn μ (i + 1) = cn μ i + 1 := by rw [cn_succ, if_pos i2]
        have hlt : k' < m := by omega
        have h8 := natK_true (allK_true (allK_true hall k' hlt) (i - k') (by omega))
        have e : k' + 1 + (i - k') = t' := by omega
        rw [e] at h8
        have hb1 : Nat.blt k' m = true := Nat.ble_eq_true_of_le hlt
        rw [hb1, beq_no (show k' ≠ m by omega)]
        rw [step_false 4094 nx12 _ (kF L m) (fun _ _ _ => false)]
        rw [slF_eq, ivAllK_eq] at h8
        exact h8
      · have e : k' = m := by omega
        have hb1 : Nat.blt k' m = false := by cases hb : Nat.blt k' m with | false => rfl | true => have : k' < m := Nat.le_of_ble_eq_true hb; omega
        have hb2 : Nat.beq k' m = true := by rw [e]; exact Nat.beq_refl _
        rw [hb1, hb2, h7, e]
        rw [slF_eq, ivAllK_eq] at hlast
        exact hlast
    · obtain ⟨ν', v1, v2⟩ := mat_sound he kn hs (by show 3071 + L.n ≤ 4094; exact hcap) (rhoIs_none H) rfl rfl
      exact ⟨ν', v1, ⟨v2.unm, v2.mt, v2.dfr, v2.mw⟩⟩
  obtain ⟨e, t', s', hkx, hp, hct⟩ := key0
  rcases exK_true hkx with ⟨_, h5⟩ | ⟨i, rfl, h5⟩ | ⟨_, h5⟩
  · cases h5
  · obtain ⟨h6, h7⟩ := guardK_true h5
    obtain ⟨h8, h9⟩ := guardK_true h7
    have e2 : i = 2 := Nat.eq_of_beq_eq_true h6
    subst e2
    rw [litF_eq, layF_eq, slF_eq, matF_eq] at h9
    have h8 : s'.cnt ≤ 4094 := Nat.le_of_ble_eq_true h8
    have h10 : matB 3071 [] [] (staFt (tF0 L m) m) ⟨layL (updF L.n (rdId (rdS (tF0 L m) q0)) (sF0 L m).heap (sF0 L m).next) (sF0 L m).heap, nx12, 4094, 1, ivAll (ivF m 16)⟩ t' s' = true := h9
    have hiv := ivF_ok (gl := gl) (mem := mem) H (k := m) (t' := 16) (by omega) (.inr ⟨hm, rfl⟩)
    rw [show told μ m = μ by rw [hm]; exact told_n H] at hiv
    refine ⟨.exit 2, _, _, h4, ⟨by show s.cnt ≤ 4094; omega, ?_, (mat_num h10).1, hiv⟩, ?_⟩
    · show 1 = s.wlo
      rw [← hp.wlo]; exact (mat_num h9).2.2
    · exact ctr_mat (P := Tryz.prog) hct hp.num hp.cnt (by omega) h10 h8 (rhoIs_nil _)
  · cases h5
end
end Go.Proofs.YtjodpodmeobciaaGreatDoor
namespace Go.Proofs.YtjodpodmeobciaaGreatDoor
open Go.Rsf Go.RowKit
set_option linter.unusedVariables false
set_option linter.unusedSimpArgs false
/-- ALL THE RUNS, for a number of tasks. -/
structure RunsOK (L : LitS) : Prop where
  R : ∀ j u, j ≤ L.n → u ≤ j → runR L (tR0 L) (sR0 L) j u = true
  F : ∀ m, m ≤ L.n → grpF L m = true
  C : flgN L = true
  E : ∀ p, p ≤ L.n → grpL L p = true
  P : lawP L = true
theorem len2_true {l : List AV} (h : len2 l = true) : ∃ x y, l = [x, y] := by
  unfold len2 at h
  split at h
  · exact ⟨_, _, rfl⟩
  · cases h
theorem args2 {x y : AV} {k : Ts → Bool} : argsK [x, y] .e .nil k = k (((Tr.nil : Ts).set .e x).set (.z .e) y) := by
  show setK .e .nil x (fun t => succK .e fun p => setK p t y fun t => succK p fun p => k t) = _
  rw [setK_eq, succK_eq, setK_eq, succK_eq]; rfl
section
variable {L : LitS} {wt : Nat → Nat} {b : Nat} {μ : Nat → Bool} {gl : Option Nat} {mem : Nat → Option Obj} (H : Flg L.n wt b μ) (hg : gl.isSome = true) (A : RunsOK L)
include H
theorem ivB1_ok (hw1 : ∀ i, i < L.n → 1 ≤ wt i) : IvOK (rhoV L.n wt b μ μ gl mem) (ivAll (ivB1 L.n)) := by
  refine ivAll_ok (h_bits H) (fun i hi => vals_z (by omega) (by omega)) (fun i hi => ?_) (fun i hi => h_a H hi) (fun i hi => h_b H hi) (fun i hi => ?_) h_W (h_C0 H) (fun i hi => vals_z2 hi) (fun i hi => h_M0 H hi) (fun i hi => h_U0 H hi)
  · show Holds _ _ (iv3 (ifB (Nat.blt i L.n) 1 0) 255 0)
    rw [ifB_lt]
    by_cases h : i < L.n
    · rw [if_pos h]
      have e : (rhoV L.n wt b μ μ gl mem).val (16 + i) = _ := vals_want hi
      rw [if_pos h] at e
      have h1 := hw1 i h
      have h2 := H.w255 i h
      refine holds0 ?_ ?_
      · rw [e]; omega
      · rw [e]; omega
    · rw [if_neg h]; exact h_want H hi
  · obtain ⟨h1, _⟩ := h_lv (β := μ) (gl := gl) (mem := mem) H hi
    refine ⟨h1, md_of (kd := 3) (x := 48 + i) (y := 0) (by omega) (by omega) (by omega) (by omega) (by omega) ?_⟩
    intro q
    rw [show (rhoV L.n wt b μ μ gl mem).val (48 + i) = _ from vals_b hi] at q
    rw [show (rhoV L.n wt b μ μ gl mem).val (64 + i) = _ from vals_lv hi]
    by_cases hm : μ i = true
    · rw [if_pos hm]; rfl
    · rw [if_neg hm] at q; cases q
theorem ivL_ok (hw1 : ∀ i, i < L.n → 1 ≤ wt i) {p : Nat} (h0 : ∀ i, i < p → μ i = false) (h1 : p < L.n → μ p = true) : IvOK (rhoV L.n wt b μ μ gl mem) (ivAll (ivL L.n p)) := by
  have hB := ivB1_ok (gl := gl) (mem := mem) H hw1
  refine ivAll_ok (h_bits H) (fun i hi => vals_z (by omega) (by omega)) (fun i hi => ?_) (fun i hi => h_a H hi) (fun i hi => ?_) (fun i hi => ?_) h_W (h_C0 H) (fun i hi => vals_z2 hi) (fun i hi => h_M0 H hi) (fun i hi => h_U0 H hi)
  · show Holds _ _ (iv3 (ifB (Nat.blt i L.n) 1 0) 255 0)
    rw [ifB_lt]
    by_cases h : i < L.n
    · rw [if_pos h]
      have e : (rhoV L.n wt b μ μ gl mem).val (16 + i) = _ := vals_want hi
      rw [if_pos h] at e
      have h1 := hw1 i h
      have h2 := H.w255 i h
      refine holds0 ?_ ?_
      · rw [e]; omega
      · rw [e]; omega
    · rw [if_neg h]; exact h_want H hi
  · obtain ⟨_, h3⟩ := h_b (gl := gl) (mem := mem) H hi
    have e : (rhoV L.n wt b μ μ gl mem).val (48 + i) = _ := vals_b hi
    refine ⟨?_, h3⟩
    show ((ifB (Nat.blt i L.n) (ifB (Nat.beq i p) 1 0) 0 : Nat) : Int) ≤ _ ∧ _ ≤ ((ifB (Nat.blt i L.n) (ifB (Nat.blt i p) 0 1) 0 : Nat) : Int)
    rw [e, ifB_lt, ifB_lt, ifB_eq, ifB_lt]
    by_cases h : i < L.n
    · rw [if_pos h, if_pos h]
      by_cases q : i = p
      · subst q
        rw [if_pos rfl, if_neg (Nat.lt_irrefl _), h1 h]; exact ⟨Int.le_refl _, Int.le_refl _⟩
      · rw [if_neg q]
        by_cases q2 : i < p
        · rw [if_pos q2, h0 i q2]; exact ⟨Int.le_refl _, Int.le_refl _⟩
        · rw [if_neg q2]; split <;> exact ⟨by decide, by decide⟩
    · rw [if_neg h, if_neg h, H.far (by omega)]; exact ⟨Int.le_refl _, Int.le_refl _⟩
  · obtain ⟨h1, _⟩ := h_lv (β := μ) (gl := gl) (mem := mem) H hi
    refine ⟨h1, md_of (kd := 3) (x := 48 + i) (y := 0) (by omega) (by omega) (by omega) (by omega) (by omega) ?_⟩
    intro q
    rw [show (rhoV L.n wt b μ μ gl mem).val (48 + i) = _ from vals_b hi] at q
    rw [show (rhoV L.n wt b μ μ gl mem).val (64 + i) = _ from vals_lv hi]
    by_cases hm : μ i = true
    · rw [if_pos hm]; rfl
    · rw [if_neg hm] at q; cases q
include hg A
theorem ckR2_ok : CKOK Tryz.prog (rhoV L.n wt b μ μ gl mem) (ckR2 L) := by
  intro f p args s k hp h hn hi
  have h : @Bool.rec (fun _ => Bool) (ckP f p args s k) (getK p xs fun x => fnX ckP (callsB 74) (famR2 L) x args s k) (Nat.beq f 103) = true := h
  cases hb : Nat.beq f 103 with
  | false => rw [hb] at h; exact ckP_ok hg.symm hp h hn hi
  | true =>
    rw [hb] at h
    have e := Nat.eq_of_beq_eq_true hb
    subst e
    have e2 : p = k103 := Pth.nat_inj (by rw [hp]; rfl)
    subst e2
    obtain ⟨x, hx, h1⟩ := getK_true (show getK k103 xs (fun x => fnX ckP (callsB 74) (famR2 L) x args s k) = true from h)
    rw [get103] at hx
    cases hx
    exact ⟨ok103.en, fnX_ok hg.symm (ckP_ok hg.symm) ok103 (fun hy hc hsel hs hi h => by
      have e := only_of onlyR hy hsel
      subst e
      exact famR2_ok H hg A.R hc hs hi h) hn hi h1⟩
/-- The call, from its beginning to its end. -/
theorem flag_ct (hw1 : ∀ i, i < L.n → 1 ≤ wt i) (hn : Num (⟨litH L, L.nx, L.cnt, 1, []⟩ : St)) : CT Tryz.prog (rhoV L.n wt b μ μ gl mem) 48 (fArgs L) ⟨litH L, L.nx, L.cnt, 1, ivAll (ivB1 L.n)⟩ vOK ⟨s2H L, nx13, 8190, 1, []⟩ ∧ Num (⟨s2H L, nx13, 8190, 1, []⟩ : St) := by
  have h := A.C
  unfold flgN at h
  rw [s2K_eq, ivAllK_eq] at h
  obtain ⟨v, s1, h5, hpu, hct⟩ := fnX_ok (ρ := rhoV L.n wt b μ μ gl mem) hg.symm (ckR2_ok H hg A) ok48 (fun hy hc hsel hs hi h => by
    have e := only_of onlyF hy hsel
    subst e
    exact famF2_ok H hg A.F hc hs hi h) (⟨hn.next, hn.no⟩ : Num (⟨litH L, L.nx, L.cnt, 1, ivAll (ivB1 L.n)⟩ : St)) (ivB1_ok H hw1) h
  obtain ⟨h6, h7⟩ := guardK_true h5
  rw [matF_eq] at h7
  have h6 : s1.cnt ≤ 8190 := Nat.le_of_ble_eq_true h6
  exact ⟨ct_mat hct hpu.num hpu.cnt h7 h6, (mat_num h7).1⟩
theorem flagOv2_ok {p : Pth} {l : List AV} {s : St} {k : KVS} (h : flagOv2 L l s k = true) (hn : Num s) (hi : IvOK (rhoV L.n wt b μ μ gl mem) s.iv) :
    Enters Tryz.prog 48 ∧ ∃ v s', k v s' = true ∧ Pure (rhoV L.n wt b μ μ gl mem) s s' ∧ CT Tryz.prog (rhoV L.n wt b μ μ gl mem) 48 l s v s' := by
  obtain ⟨h2, h3⟩ := guardK_true h
  obtain ⟨hcn, h4⟩ := guardK_true h3
  obtain ⟨hw, h5⟩ := guardK_true h4
  rw [s2K_eq] at h5
  obtain ⟨hm, hk⟩ := guardK_true h5
  obtain ⟨x, y, rfl⟩ := len2_true h2
  unfold fArgs at hm
  rw [args2, args2, matF_eq] at hm
  have hcn : s.cnt = L.cnt := Nat.eq_of_beq_eq_true hcn
  have hw1 := want_of H hw hi
  obtain ⟨hct, hn2⟩ := flag_ct (gl := gl) (mem := mem) H hg A hw1 (mat_num hm).1
  have hwl : 1 = s.wlo := (mat_num hm).2.2
  have hcc : L.cnt ≤ 8190 := by
    have h := A.C
    unfold flgN at h
    rw [s2K_eq, ivAllK_eq] at h
    obtain ⟨v, s1, h5, hpu, _⟩ := fnX_ok (ρ := rhoV L.n wt b μ μ gl mem) hg.symm (ckR2_ok H hg A) ok48 (fun hy hc hsel hs hi h => by
      have e := only_of onlyF hy hsel
      subst e
      exact famF2_ok H hg A.F hc hs hi h) (⟨(mat_num hm).1.next, (mat_num hm).1.no⟩ : Num (⟨litH L, L.nx, L.cnt, 1, ivAll (ivB1 L.n)⟩ : St)) (ivB1_ok H hw1) h
    obtain ⟨h6, h7⟩ := guardK_true h5
    have h6 : s1.cnt ≤ 8190 := Nat.le_of_ble_eq_true h6
    have := hpu.cnt
    have : L.cnt ≤ s1.cnt := this
    omega
  refine ⟨ok48.en, vOK, _, hk, ⟨by show s.cnt ≤ 8190; omega, hwl, ⟨hn2.next, hn2.no⟩, hi⟩, ?_⟩
  intro n0 w0 ν w vals R ra gl' mw un hR
  cases vals with
  | nil => exact ra.elim
  | cons u vals =>
  cases vals with
  | nil => exact ra.2.elim
  | cons u' vals =>
  cases vals with
  | cons _ _ => exact ra.2.2.elim
  | nil =>
  obtain ⟨r1, r2, _⟩ := ra
  have kn : Kn L.cnt 2 n0 w0 (((Tr.nil : Ts).set .e x).set (.z .e) y) s (rhoV L.n wt b μ μ gl mem) ν { tmps := #[u, u'], defers := [] } w := by
    refine ⟨fun id h3 h4 => by omega, ⟨rfl, fun q v hq => ?_, gl'⟩, rfl, mw⟩
    rw [Tr.get_set] at hq
    split at hq
    · rename_i e
      cases hq
      subst e
      exact ⟨u', rfl, r2⟩
    · rw [Tr.get_set] at hq
      split at hq
      · rename_i e
        cases hq
        subst e
        exact ⟨u, rfl, r1⟩
      · rw [Tr.get_nil] at hq; cases hq
  obtain ⟨ν', v1, v2⟩ := mat_sound hm kn hn (Nat.le_refl _) (rhoIs_nil _) rfl rfl
  have e : ν' = ν := by
    funext id
    exact v1 id (by omega)
  subst e
  obtain ⟨a1, ha1, ra1⟩ := v2.mt.2.1 .e _ (by rw [Tr.get_set, if_neg (fun e => by cases e), Tr.get_set, if_pos rfl])
  obtain ⟨a2, ha2, ra2⟩ := v2.mt.2.1 (.z .e) _ (by rw [Tr.get_set, if_pos rfl])
  have ha1 : some u = some a1 := ha1
  have ha2 : some u' = some a2 := ha2
  cases ha1; cases ha2
  exact hct (vals := [u, u']) ⟨ra1, ra2, trivial⟩ gl' v2.mw (by rw [hcn] at un; exact un) (fun u2 ν2 w2 he hu hm2 => hR u2 ν2 w2 (by rw [hcn]; exact he) hu hm2)
theorem ov2_ok {d : CK} (hd : CKOK Tryz.prog (rhoV L.n wt b μ μ gl mem) d) : CKOK Tryz.prog (rhoV L.n wt b μ μ gl mem) (ov2 L d) := by
  intro f p args s k hp h hn hi
  have h : @Bool.rec (fun _ => Bool) (d f p args s k) (flagOv2 L args s k) (isSet f args) = true := h
  cases hb : isSet f args with
  | false => rw [hb] at h; exact hd hp h hn hi
  | true =>
    rw [hb] at h
    have hf : f = 48 := by
      have hb2 : (Nat.beq f 48 && _) = true := hb
      rw [Bool.and_eq_true] at hb2
      exact Nat.eq_of_beq_eq_true hb2.1
    subst hf
    exact flagOv2_ok (p := p) H hg A h hn hi
theorem callO_ok (fuel : Nat) : CKOK Tryz.prog (rhoV L.n wt b μ μ gl mem) (callO xs 400 (ov2 L) fuel) := by
  induction fuel with
  | zero => intro f p args s k hp h; cases h
  | succ fuel ih =>
    refine ov2_ok H hg A (d := fun f p l s k => getK p xs fun fn => @XFn.rec (fun _ => Bool) (fnF (callO xs 400 (ov2 L) fuel) 400 l s k) fn) ?_
    intro f p args s k hp h hn hi
    obtain ⟨x, hx, h1⟩ := getK_true (show getK p xs (fun fn => @XFn.rec (fun _ => Bool) (fnF (callO xs 400 (ov2 L) fuel) 400 args s k) fn) = true from h)
    have ok := xs_get p x hx
    rw [hp] at ok
    have h2 : fnF (callO xs 400 (ov2 L) fuel) 400 args s k x.n x.body x.res = true := by cases x; exact h1
    exact ⟨ok.en, fn_sound hmix hg.symm ih ok hn hi h2⟩
theorem famL2_ok {m0 : Nat} {c : Code} {t : Ts} {s : St} {k : KX} {z : XCode} (hc : chkCode Tryz.prog true m0 lpL c = true) (hs : Num s)
    (hi : IvOK (rhoV L.n wt b μ μ gl mem) s.iv) (h : famL2 L z t s k = true) : ∃ e t' s', k e t' s' = true ∧ Pure (rhoV L.n wt b μ μ gl mem) s s' ∧ CTr Tryz.prog (rhoV L.n wt b μ μ gl mem) m0 (WP Tryz.prog (.loop c)) t s e t' s' := by
  have h15 := H.n15
  have h0 := natK_true h
  generalize rdN (rdC (rdRow s.heap L.kp) 12) - 1 = p at h0
  obtain ⟨hp, h1⟩ := guardK_true h0
  obtain ⟨hf, h2⟩ := guardK_true h1
  obtain ⟨hw, h3⟩ := guardK_true h2
  obtain ⟨hcn, h4⟩ := guardK_true h3
  have hp : p ≤ L.n := Nat.le_of_ble_eq_true hp
  have hcn : s.cnt ≤ 9000 := Nat.le_of_ble_eq_true hcn
  rw [litL_eq] at h4
  obtain ⟨he, hk⟩ := guardK_true h4
  rw [putsK_spec, matF_eq] at he
  rw [putsK_spec, ivAllK_eq] at hk
  have hw1 := want_of H hw hi
  obtain ⟨f1, f2⟩ := guardK_true hf
  have hz : ∀ i, i < p → μ i = false := by
    intro i hip
    obtain ⟨y, hy, hl⟩ := nthIv_true (allK_true f1 i hip)
    rw [ileB_eq] at hl
    have hl : y.hi ≤ 0 := of_decide_eq_true hl
    obtain ⟨⟨_, hu⟩, _⟩ := hi _ y hy
    have e : (rhoV L.n wt b μ μ gl mem).val (48 + i) = _ := vals_b (by omega)
    rw [e] at hu
    cases hm : μ i with
    | false => rfl
    | true => rw [hm] at hu; simp at hu; omega
  have ho : p < L.n → μ p = true := by
    intro hlt
    rw [ifB_lt, if_pos hlt] at f2
    obtain ⟨y, hy, hl⟩ := nthIv_true f2
    rw [ileB_eq] at hl
    have hl : (1 : Int) ≤ y.lo := of_decide_eq_true hl
    obtain ⟨⟨hu, _⟩, _⟩ := hi _ y hy
    have e : (rhoV L.n wt b μ μ gl mem).val (48 + p) = _ := vals_b (by omega)
    rw [e] at hu
    cases hm : μ p with
    | true => rfl
    | false => rw [hm] at hu; simp at hu; omega
  have hiv := ivL_ok (gl := gl) (mem := mem) H hw1 hz ho
  have hgrp := A.E p hp
  unfold grpL at hgrp
  rw [litL_eq, ivAllK_eq] at hgrp
  have hn0 : Num (⟨hL L p, p9000, 9000, 1, ivAll (ivL L.n p)⟩ : St) := ⟨(mat_num he).1.next, (mat_num he).1.no⟩
  have key0 : ∃ e t' s', kL L p e t' s' = true ∧ Pure (rhoV L.n wt b μ μ gl mem) s s' ∧ CTr Tryz.prog (rhoV L.n wt b μ μ gl mem) m0 (WP Tryz.prog (.loop c)) t s e t' s' := by
    refine fam_loop (ck := ckP) (nL := 400) (N := 16382) (nxt := nx14) (ρ := rhoV L.n wt b μ μ gl mem) (k := kL L p) (t := t) hmix rfl hs (by omega) (I := Nat) (fun i => putsL (vL L i) .nil) (fun _ => ⟨hL L p, p9000, 9000, 1, ivAll (ivL L.n p)⟩) (fun _ => rhoV L.n wt b μ μ gl mem) (fun i => i ≤ L.n) (fun i => i) L.n
      (fun i => nxL2 L (hL L p) i) (fun i => Nat.beq i L.n) hc (fun _ _ => hg.symm) (fun _ _ => ckP_ok hg.symm) (fun _ _ => hn0) (fun _ _ => hiv) (fun _ _ => hcn) (fun _ h => h) (fun _ _ _ => rfl)
      (fun i hok t1 s1 hnx hn1 hi1 hwl hcN => ?_) (fun i hok => ?_) (i0 := 0) (Nat.zero_le _) (mat_num he).2.2 (fun {m n0 w0 ν ac w} kn => ?_)
    · obtain ⟨hlt, h2⟩ := guardK_true (show nxL2 L (hL L p) i t1 s1 = true from hnx)
      have hlt : i < L.n := Nat.le_of_ble_eq_true hlt
      have h3 := natK_true h2
      rw [putsK_spec, matF_eq] at h3
      refine ⟨i + 1, hlt, Nat.lt_succ_self _, hwl.symm, fun {m n0 w0 ν ac w} kn => ?_⟩
      obtain ⟨ν', v1, v2⟩ := mat_sound h3 kn hn1 (by show (9000 : Nat) ≤ 16382; decide) (rhoIs_nil _) rfl rfl
      exact ⟨ν', fun id hid => v1 id (by omega), ⟨v2.unm, v2.mt, v2.dfr, v2.mw⟩⟩
    · have h2 := allK_true hgrp i (by omega)
      rw [putsK_spec] at h2
      exact h2
    · obtain ⟨ν', v1, v2⟩ := mat_sound he kn hs (by show (9000 : Nat) ≤ 16382; decide) (rhoIs_nil _) rfl rfl
      exact ⟨ν', fun id hid => v1 id (by omega), ⟨v2.unm, v2.mt, v2.dfr, v2.mw⟩⟩
  obtain ⟨e, t', s', hkx, hpu, hct⟩ := key0
  rcases exK_true hkx with ⟨_, h5⟩ | ⟨i, rfl, h5⟩ | ⟨_, h5⟩
  · cases h5
  · obtain ⟨h6, h7⟩ := guardK_true h5
    obtain ⟨h8, h9⟩ := guardK_true h7
    have e2 : i = 4 := Nat.eq_of_beq_eq_true h6
    subst e2
    rw [litL_eq, putsK_spec, matF_eq] at h9
    have h8 : s'.cnt ≤ 16382 := Nat.le_of_ble_eq_true h8
    have h10 : matB 9000 [] [] (putsL (vL L L.n) .nil) ⟨hL L p, nx14, 16382, 1, ivAll (ivL L.n p)⟩ t' s' = true := h9
    refine ⟨.exit 4, _, _, hk, ⟨by show s.cnt ≤ 16382; omega, ?_, (mat_num h10).1, hiv⟩, ?_⟩
    · show 1 = s.wlo
      rw [← hpu.wlo]; exact (mat_num h9).2.2
    · exact ctr_mat (P := Tryz.prog) hct hpu.num hpu.cnt hcn h10 h8 (rhoIs_nil _)
  · cases h5
end
/-- A LAW'S RUN. -/
theorem law_run {L : LitS} {wt : Nat → Nat} {b : Nat} {μ : Nat → Bool} (H : Flg L.n wt b μ) (A : RunsOK L) {a : Option Addr} {cap : Nat} {z : List Int} {W : World} (w0 : RowIn .u8 W a L.n cap z) (hz : ∀ i, i < L.n → z.getD i 0 = (wt i : Int)) (hT : TabIs W 64 tab) :
    Calls Tryz.prog 10 #[.slice a L.n cap, .int .u8 (b : Int)] W fun e W' => e = .returned (.bool true) ∧ Below W.heap.size W W' := by
  have hr := A.P
  unfold lawP at hr
  rw [cellsF_eq, ivAllK_eq] at hr
  have hn : Num (st0 tab (ivAll (ivB L.n))) := ⟨rfl, fun id B e => by
    have e : (Tr.leaf (⟨0, .tab tab⟩ : Blk)).get id = some B := e
    cases id with
    | e => cases e; exact ⟨Nat.lt_succ_self _, rfl⟩
    | z q => rw [show (Tr.leaf (⟨0, .tab tab⟩ : Blk)).get (.z q) = Tr.nil.get q from rfl, Tr.get_nil] at e; cases e
    | s q => rw [show (Tr.leaf (⟨0, .tab tab⟩ : Blk)).get (.s q) = Tr.nil.get q from rfl, Tr.get_nil] at e; cases e⟩
  obtain ⟨v, s', hk, hpu, hct⟩ := fnX_ok (ρ := rhoV L.n wt b μ μ (some 64) (fun b => W.heap[b]?)) rfl (callO_ok H rfl A 100) ok10 (fun hy hc hsel hs hi h => by
    have e := only_of onlyL hy hsel
    subst e
    exact famL2_ok H rfl A hc hs hi h) hn (ivB_ok H) hr
  have e := isT_true hk
  subst e
  have hrow : AR (nu0 64) (rhoW (vals L.n wt b μ μ) (some 64) W) (.inS (.int .i64 (Int.ofNat L.n)) .u8 (.all 16)) (.slice a L.n cap) := by
    refine inS_row (ν := nu0 64) (val := vals L.n wt b μ μ) (gl := some 64) w0 (ln := .int .i64 (Int.ofNat L.n)) (show Value.int .i64 (L.n : Int) = .int .i64 (Int.ofNat L.n) from rfl) (m := .all 16) fun j hj => ?_
    have h15 := H.n15
    have e2 : (rhoW (vals L.n wt b μ μ) (some 64) W).val (16 + j) = _ := vals_want (by omega)
    rw [e2, if_pos hj]
    exact hz j hj
  refine hct (n0 := W.heap.size) (w0 := W) (vals := [.slice a L.n cap, .int .u8 (b : Int)]) ⟨hrow, ?_, trivial⟩ (fun m hm => by cases hm; rfl) (st0_mw hT) (fun id h1 h2 => ?_) fun u ν' w' he hu hm => ⟨by rw [show u = .bool true from hu], hm.below⟩
  · show Value.int .u8 (b : Int) = .int .u8 (1 * (b : Int) + 0)
    rw [Int.one_mul, Int.add_zero]
  · cases id with
    | e => exact absurd h1 (by show ¬ (1 ≤ 0); omega)
    | z q => rfl
    | s q => rfl
end Go.Proofs.YtjodpodmeobciaaGreatDoor
