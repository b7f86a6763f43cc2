/- The first that is wrong of several parts: what it is, and how it is found. Conditions: none. -/
import Derived.Test.YteiepbjajennkaaConfPart
import Derived.Laws.EntriesVeiled

namespace Go.Proofs.Yteiepbjajennkaa.ConfHand
set_option linter.unusedVariables false
set_option linter.unusedSimpArgs false
open Go.RowKit Go.Proofs.YteiepbjajennkaaW.PrintWords Go.Proofs.YteiepbjajennkaaW.PrintMore
/-- A part: its name, its number's name, how many, the fewest, the most, what is wrong of each. -/
structure PS where
  nm : ByteArray
  al : ByteArray
  n : Int
  lo : Int
  hi : Int
  code : Nat → Int
instance : Inhabited PS := ⟨⟨⟨#[]⟩, ⟨#[]⟩, 0, 0, 0, fun _ => 0⟩⟩
/-- The first that is wrong. -/
inductive Says : List PS → ByteArray → Int → Int → Prop
  | none : Says [] ⟨#[]⟩ 0 0
  | num {p : PS} {r : List PS} (h : p.n < p.lo ∨ p.hi < p.n) : Says (p :: r) p.al 0 (-17)
  | one {p : PS} {r : List PS} {i : Nat} (h0 : p.lo ≤ p.n) (h1 : p.n ≤ p.hi) (h2 : (i : Int) < p.n) (h3 : p.code i ≠ 0) (h4 : ∀ j, j < i → p.code j = 0) : Says (p :: r) p.nm ((i : Int) + 1) (p.code i)
  | next {p : PS} {r : List PS} {a : ByteArray} {b c : Int} (h0 : p.lo ≤ p.n) (h1 : p.n ≤ p.hi) (h2 : ∀ i : Nat, (i : Int) < p.n → p.code i = 0) (h3 : Says r a b c) : Says (p :: r) a b c
theorem Says.unique : ∀ {l : List PS} {a a' : ByteArray} {b b' c c' : Int}, Says l a b c → Says l a' b' c' → a = a' ∧ b = b' ∧ c = c'
  | [], _, _, _, _, _, _, .none, .none => ⟨rfl, rfl, rfl⟩
  | p :: r, _, _, _, _, _, _, h, h' => by
    cases h with
    | num h =>
      cases h' with
      | num h' => exact ⟨rfl, rfl, rfl⟩
      | one h0 h1 => omega
      | next h0 h1 => omega
    | one h0 h1 h2 h3 h4 =>
      rename_i i
      cases h' with
      | num h' => omega
      | one k0 k1 k2 k3 k4 =>
        rename_i j
        have : i = j := by
          rcases Nat.lt_trichotomy i j with h | h | h
          · exact absurd (k4 i h) h3
          · exact h
          · exact absurd (h4 j h) k3
        subst this
        exact ⟨rfl, rfl, rfl⟩
      | next k0 k1 k2 k3 => exact absurd (k2 i h2) h3
    | next h0 h1 h2 h3 =>
      cases h' with
      | num h' => omega
      | one k0 k1 k2 k3 k4 => exact absurd (h2 _ k2) k3
      | next k0 k1 k2 k3 => exact Says.unique h3 k3
/-- How the parts are run. -/
structure Runner (W : World) (ps : List PS) (fid : Nat → Nat) (caps : Nat → Array Value) (X : Nat → Prop) (Sk : Nat → World → Prop) (Si : Nat → Nat → Nat → World → Prop) : Prop where
  hX : ∀ i, X i → i < W.heap.size
  start : Sk 0 W
  calls : ∀ k, k < ps.length → ∀ args w, (callFunc (fid k) args).run Try.prog w = .ok (.enter (fid k) args) w
  keep : ∀ k w w', Sk k w → Below w.heap.size w w' → Sk k w'
  ahead : ∀ k w, k < ps.length → (ps.getD k default).lo ≤ (ps.getD k default).n → (ps.getD k default).n ≤ (ps.getD k default).hi → Sk k w → Si w.heap.size k 0 w
  big : ∀ B k i w, Si B k i w → B ≤ w.heap.size
  step : ∀ B k (i : Nat) w, k < ps.length → (ps.getD k default).lo ≤ (ps.getD k default).n → (ps.getD k default).n ≤ (ps.getD k default).hi → (i : Int) < (ps.getD k default).n → Si B k i w →
    Calls Try.prog (fid k) (#[.int .i64 i] ++ caps k) w fun e w' => e = .returned (.int .i64 ((ps.getD k default).code i)) ∧ ((ps.getD k default).code i = 0 → Si B k (i + 1) w') ∧ Fr B X w w'
  over : ∀ B k w, k < ps.length → Si B k (ps.getD k default).n.toNat w → Sk (k + 1) w
/-- A part, as it lies in memory. -/
def partV (p : PS) (f : Nat) (cs : Array Value) : List Value := [.string p.nm, .string p.al, .int .i64 p.n, .int .i64 p.lo, .int .i64 p.hi, .func (.func f) #[] cs]
def RunSays (ps : List PS) (X : Nat → Prop) (W : World) (e : Ending) (w' : World) : Prop := (∃ a b c, e = .returned (.tuple #[.string a, .int .i64 b, .int .i64 c]) ∧ Says ps a b c) ∧ Fr W.heap.size X W w'
set_option maxHeartbeats 1000000 in
set_option maxRecDepth 100000 in
theorem first_calls {W : World} {ps : List PS} {fid : Nat → Nat} {caps : Nat → Array Value} {X : Nat → Prop} {Sk : Nat → World → Prop} {Si : Nat → Nat → Nat → World → Prop} (R : Runner W ps fid caps X Sk Si) (hl : ps.length = 8) (hh : ∀ k, k < 8 → 0 ≤ (ps.getD k default).lo ∧ (ps.getD k default).hi ≤ 1000)
    (pb : Nat) (hpX : ¬ X pb) (hp : ∀ k, k < 8 → ∀ j v, (partV (ps.getD k default) (fid k) (caps k))[j]? = some v → W.cell? ⟨pb, k * 6 + j, none⟩ = some v) :
    Calls Try.prog 50 #[.slice (some ⟨pb, 0, none⟩) 8 8] W (RunSays ps X W) := by
  have HR := Aside0.mk R; clear R
  have HP := Aside0.mk hp; clear hp
  have HL := Aside0.mk hl; clear hl
  have HH := Aside0.mk hh; clear hh
  have HX := Aside0.mk hpX; clear hpX
  have HPL := Aside0.mk (World.block_lt_of_cell? W ⟨pb, 0 * 6 + 0, none⟩ (HP.out 0 (by omega) 0 _ rfl))
  go_enter Try.func50, Try.ntmps50
  go_wp2
  go_loopw [11, 6, 7, 8, 31] (fun i _ _ _ _ w' => ∃ k : Nat, k ≤ 8 ∧ i = .int .i64 k ∧ Aside0 (Sk k w' ∧ Fr W.heap.size X W w' ∧ ∀ a b c, Says (ps.drop k) a b c → Says ps a b c)) (fun i _ _ _ _ _ => 8 - (intOf i).toNat)
  case atStart => exact ⟨0, Nat.zero_le _, rfl, ⟨HR.out.start, Fr.refl _ _ _, fun a b c h => h⟩⟩
  case round =>
    obtain ⟨k, hk, rfl, HI⟩ := hrel
    by_cases hlt : k < 8
    · have mv : ∀ j v, (partV (ps.getD k default) (fid k) (caps k))[j]? = some v → wr.cell? ⟨pb, k * 6 + j, none⟩ = some v := fun j v hj =>
        (HI.out.2.1.cell (p := ⟨pb, k * 6 + j, none⟩) HPL.out HX.out).trans (HP.out k hlt j v hj)
      have x0 : wr.cell? ⟨pb, k * 6, none⟩ = some (.string (ps.getD k default).nm) := mv 0 _ rfl
      have x1 := mv 1 _ rfl
      have x2 := mv 2 _ rfl
      have x3 := mv 3 _ rfl
      have x4 := mv 4 _ rfl
      have x5 := mv 5 _ rfl
      clear mv
      have HD := Aside0.mk (show ps.drop k = ps.getD k default :: ps.drop (k + 1) by
        rw [List.drop_eq_getElem_cons (by rw [HL.out]; exact hlt)]
        congr 1
        rw [List.getD_eq_getElem?_getD, List.getElem?_eq_getElem (by rw [HL.out]; exact hlt)]; rfl)
      have HKL := Aside0.mk (show k < ps.length by rw [HL.out]; exact hlt)
      obtain ⟨hlo, hhk⟩ := HH.out k hlt
      have HPK := Aside0.mk (show ∃ p, ps.getD k default = p from ⟨_, rfl⟩)
      obtain ⟨p, hpk⟩ := HPK.out
      rw [hpk] at x0 x1 x2 x3 x4 hlo hhk HD
      have HPP := Aside0.mk hpk; clear hpk HPK
      obtain ⟨nm, al, n, lo, hi, code⟩ := p
      dsimp only at hlo hhk
      have x0 : wr.cell? ⟨pb, k * 6, none⟩ = some (.string nm) := x0
      have x1 : wr.cell? ⟨pb, k * 6 + 1, none⟩ = some (.string al) := x1
      have x2 : wr.cell? ⟨pb, k * 6 + 2, none⟩ = some (.int .i64 n) := x2
      have x3 : wr.cell? ⟨pb, k * 6 + 3, none⟩ = some (.int .i64 lo) := x3
      have x4 : wr.cell? ⟨pb, k * 6 + 4, none⟩ = some (.int .i64 hi) := x4
      have HFA := Aside0.mk (HI.out.2.1.trans (Fr.of_below (X := X) (below_alloc (Below.refl wr.heap.size wr) (.cells #[.string nm, .string al, .int .i64 n, .int .i64 lo, .int .i64 hi, .func (.func (fid k)) #[] (caps k)] 119)) HI.out.2.1.size))
      by_cases hn0 : n < lo
      · as_aux_lemma =>
          go_wp2
          go_ret3
          exact ⟨⟨al, 0, -17, rfl, HI.out.2.2 _ _ _ (by rw [HD.out]; exact .num (p := ⟨nm, al, n, lo, hi, code⟩) (.inl hn0))⟩, HFA.out⟩
      · by_cases hn1 : hi < n
        · as_aux_lemma =>
            go_wp2
            go_ret3
            exact ⟨⟨al, 0, -17, rfl, HI.out.2.2 _ _ _ (by rw [HD.out]; exact .num (p := ⟨nm, al, n, lo, hi, code⟩) (.inr hn1))⟩, HFA.out⟩
        · obtain ⟨m, rfl⟩ : ∃ m : Nat, n = m := ⟨n.toNat, by omega⟩
          obtain ⟨B, hB⟩ : ∃ B, B = (wr.alloc (.cells #[.string nm, .string al, .int .i64 (m : Int), .int .i64 lo, .int .i64 hi, .func (.func (fid k)) #[] (caps k)] 119)).heap.size := ⟨_, rfl⟩
          have HBE := Aside0.mk hB
          have HS0 := Aside0.mk (HR.out.ahead k _ HKL.out (by rw [HPP.out]; show lo ≤ (m : Int); omega) (by rw [HPP.out]; show (m : Int) ≤ hi; omega) (HR.out.keep k wr _ HI.out.1 (below_alloc (Below.refl wr.heap.size wr) (.cells #[.string nm, .string al, .int .i64 (m : Int), .int .i64 lo, .int .i64 hi, .func (.func (fid k)) #[] (caps k)] 119))))
          rw [← hB] at HS0
          have HG := Aside0.mk (And.intro (show lo ≤ (m : Int) by omega) (show (m : Int) ≤ hi by omega))
          have h12 := hB
          rw [World.size_alloc] at h12
          have HBS := Aside0.mk h12
          have HC := Aside0.mk (fun j v (h : #[.string nm, .string al, .int .i64 (m : Int), .int .i64 lo, .int .i64 hi, Value.func (.func (fid k)) #[] (caps k)][j]? = some v) => show (wr.alloc (.cells #[.string nm, .string al, .int .i64 (m : Int), .int .i64 lo, .int .i64 hi, .func (.func (fid k)) #[] (caps k)] 119)).cell? ⟨wr.heap.size, j, none⟩ = some v by rw [World.cell?_alloc_at _ _ _ _ rfl]; exact h)
          have HXW := Aside0.mk (show ¬ X wr.heap.size from fun h => by have := HR.out.hX _ h; have := HI.out.2.1.size; omega)
          clear hB h12 x0 x1 x3 x4
          obtain ⟨wo, hwo⟩ : ∃ wo : World, wo = wr := ⟨_, rfl⟩
          as_aux_lemma =>
            subst hwo
            have c2 := HC.out 2 _ rfl
            have c3 := HC.out 3 _ rfl
            have c4 := HC.out 4 _ rfl
            go_wp2
            go_loopw [31, 7, 8] (fun i _ _ w' => ∃ j : Nat, j ≤ m ∧ i = .int .i64 j ∧ Aside0 (Si B k j w' ∧ Fr B X (wo.alloc (.cells #[.string nm, .string al, .int .i64 (m : Int), .int .i64 lo, .int .i64 hi, .func (.func (fid k)) #[] (caps k)] 119)) w' ∧ ∀ i, i < j → code i = 0)) (fun i _ _ _ => m - (intOf i).toNat)
            case atStart => exact ⟨0, Nat.zero_le _, rfl, ⟨HS0.out, Fr.refl _ _ _, fun i hi => by omega⟩⟩
            case round =>
              obtain ⟨j, hj, rfl, HJ⟩ := hrel
              have cl : ∀ o v, #[.string nm, .string al, .int .i64 (m : Int), .int .i64 lo, .int .i64 hi, Value.func (.func (fid k)) #[] (caps k)][o]? = some v → wr.cell? ⟨wo.heap.size, o, none⟩ = some v := fun o v h =>
                (HJ.out.2.1.cell (p := ⟨wo.heap.size, o, none⟩) (by rw [HBS.out]; exact Nat.lt_succ_self _) HXW.out).trans (HC.out o v h)
              have y2 := cl 2 _ rfl
              have y5 := cl 5 _ rfl
              have HY0 := Aside0.mk (cl 0 _ rfl)
              clear cl c2 c3 c4
              by_cases hjm : j < m
              · have hst := HR.out.step B k j wr HKL.out (by rw [HPP.out]; exact HG.out.1) (by rw [HPP.out]; exact HG.out.2) (by rw [HPP.out]; show (j : Int) < m; omega) HJ.out.1
                rw [HPP.out] at hst
                dsimp only at hst
                have HST := Aside0.mk hst; clear hst
                have hcf := HR.out.calls k HKL.out
                by_cases hc0 : code j = 0
                · have HC0 := Aside0.mk hc0
                  rw [hc0] at HST
                  clear hc0
                  go_wp2_with fail
                  refine HST.out.mono ?_
                  rintro e w2 ⟨rfl, h1, h2⟩
                  have HN := Aside0.mk (show Si B k (j + 1) w2 ∧ Fr B X (wo.alloc (.cells #[.string nm, .string al, .int .i64 (m : Int), .int .i64 lo, .int .i64 hi, .func (.func (fid k)) #[] (caps k)] 119)) w2 ∧ ∀ i, i < j + 1 → code i = 0 from ⟨h1 trivial, HJ.out.2.1.trans h2, fun i hi => by
                    by_cases e : i = j
                    · exact e ▸ HC0.out
                    · exact HJ.out.2.2 i (by omega)⟩)
                  clear h1 h2
                  go_wp2
                  go_roundw
                  case rel => exact ⟨j + 1, by omega, by go_num, HN⟩
                  case measure => simp [intOf]; omega
                · have HC0 := Aside0.mk hc0
                  obtain ⟨cj, hcj⟩ : ∃ cj, code j = cj := ⟨_, rfl⟩
                  have HCJ := Aside0.mk hcj
                  rw [hcj] at HST hc0
                  have b0 : (cj == 0) = false := beq_eq_false_iff_ne.2 hc0
                  have b1 : (cj != 0) = true := bne_iff_ne.2 hc0
                  clear hcj hc0
                  go_wp2_with fail
                  refine HST.out.mono ?_
                  rintro e w2 ⟨rfl, h1, h2⟩
                  have z0 := (h2.cell (p := ⟨wo.heap.size, 0, none⟩) (by rw [HBS.out]; exact Nat.lt_succ_self _) HXW.out).trans HY0.out
                  have H2 := Aside0.mk h2
                  clear h1 h2
                  go_wp2
                  go_ret3
                  refine ⟨⟨nm, (j : Int) + 1, cj, rfl, HI.out.2.2 _ _ _ ?_⟩, HFA.out.trans ((HJ.out.2.1.trans H2.out).less (by rw [HBS.out]; have := HI.out.2.1.size; omega))⟩
                  rw [HD.out, ← HCJ.out]
                  exact .one (p := ⟨nm, al, (m : Int), lo, hi, code⟩) HG.out.1 HG.out.2 (show (j : Int) < m by omega) HC0.out HJ.out.2.2
              · obtain rfl : j = m := by omega
                have HN := Aside0.mk (show Sk (k + 1) wr ∧ Fr W.heap.size X W wr ∧ ∀ a b c, Says (ps.drop (k + 1)) a b c → Says ps a b c from
                  ⟨HR.out.over B k wr HKL.out (by rw [HPP.out]; exact HJ.out.1), HFA.out.trans (HJ.out.2.1.less (by rw [HBS.out]; have := HI.out.2.1.size; omega)), fun a b c h => HI.out.2.2 a b c (by
                    rw [HD.out]
                    exact .next (p := ⟨nm, al, (j : Int), lo, hi, code⟩) HG.out.1 HG.out.2 (fun i hi => HJ.out.2.2 i (by have hi : (i : Int) < j := hi; omega)) h)⟩)
                go_wp2
                go_roundw
                case rel => exact ⟨k + 1, by omega, by go_num, HN⟩
                case measure => simp [intOf]; omega
    · obtain rfl : k = 8 := by omega
      as_aux_lemma =>
        go_wp2
        go_ret3
        exact ⟨⟨_, 0, 0, rfl, HI.out.2.2 _ _ _ (by rw [List.drop_eq_nil_of_le (by rw [HL.out]; exact Nat.le_refl _)]; exact .none)⟩, HI.out.2.1⟩
theorem enter51 (args : Array Value) (w : World) : (callFunc 51 args).run Try.prog w = .ok (.enter 51 args) w := by kernel_rfl
theorem enter53 (args : Array Value) (w : World) : (callFunc 53 args).run Try.prog w = .ok (.enter 53 args) w := by kernel_rfl
theorem enter55 (args : Array Value) (w : World) : (callFunc 55 args).run Try.prog w = .ok (.enter 55 args) w := by kernel_rfl
theorem enter56 (args : Array Value) (w : World) : (callFunc 56 args).run Try.prog w = .ok (.enter 56 args) w := by kernel_rfl
theorem enter58 (args : Array Value) (w : World) : (callFunc 58 args).run Try.prog w = .ok (.enter 58 args) w := by kernel_rfl
theorem enter60 (args : Array Value) (w : World) : (callFunc 60 args).run Try.prog w = .ok (.enter 60 args) w := by kernel_rfl
theorem enter63 (args : Array Value) (w : World) : (callFunc 63 args).run Try.prog w = .ok (.enter 63 args) w := by kernel_rfl
end Go.Proofs.Yteiepbjajennkaa.ConfHand
