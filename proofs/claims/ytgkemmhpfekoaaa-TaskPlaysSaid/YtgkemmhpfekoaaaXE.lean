/- An executor over a program's operations: numbers. Conditions: none. -/
import Derived.Test.YtgkemmhpfekoaaaXD
namespace Go.Rse
open Go.RowKit
set_option linter.unusedVariables false
set_option linter.unusedSimpArgs false

theorem guardK_true {b r : Bool} (h : guardK b r = true) : b = true ∧ r = true := by rw [guardK_eq] at h; simpa using h
theorem natK_true {n : Nat} {k : Nat → Bool} (h : natK n k = true) : k n = true := by rw [natK_eq] at h; exact h
theorem intK_true {n : Int} {k : Int → Bool} (h : intK n k = true) : k n = true := by rw [intK_eq] at h; exact h
theorem boolK_true {n : Bool} {k : Bool → Bool} (h : boolK n k = true) : k n = true := by rw [boolK_eq] at h; exact h
theorem kindB_true {a b : IntKind} (h : kindB a b = true) : a = b := by cases a <;> cases b <;> first | rfl | cases h
theorem ileB_eq (a b : Int) : ileB a b = decide (a ≤ b) := by
  cases a with
  | ofNat m => cases b with
    | ofNat n =>
      show Nat.ble m n = _
      rw [Bool.eq_iff_iff, Nat.ble_eq, decide_eq_true_iff]
      exact Int.ofNat_le.symm
    | negSucc n => show false = _; symm; rw [decide_eq_false_iff_not]; have := Int.negSucc_lt_zero n; simp only [Int.ofNat_eq_natCast]; omega
  | negSucc m => cases b with
    | ofNat n => show true = _; symm; rw [decide_eq_true_iff]; have := Int.negSucc_lt_zero m; simp only [Int.ofNat_eq_natCast]; omega
    | negSucc n =>
      show Nat.ble n m = _
      rw [Bool.eq_iff_iff, Nat.ble_eq, decide_eq_true_iff]
      simp only [Int.negSucc_eq]; omega
theorem ieqB_eq (a b : Int) : ieqB a b = decide (a = b) := by
  cases a with
  | ofNat m => cases b with
    | ofNat n =>
      show Nat.beq m n = _
      rw [Bool.eq_iff_iff, Nat.beq_eq, decide_eq_true_iff]
      simp only [Int.ofNat_eq_natCast]; omega
    | negSucc n => show false = _; symm; rw [decide_eq_false_iff_not]; simp
  | negSucc m => cases b with
    | ofNat n => show false = _; symm; rw [decide_eq_false_iff_not]; simp
    | negSucc n =>
      show Nat.beq n m = _
      rw [Bool.eq_iff_iff, Nat.beq_eq, decide_eq_true_iff]
      simp [eq_comm]
theorem inB_iff (k : IntKind) (n : Int) : inB k n = true ↔ kmin k ≤ n ∧ n ≤ kmax k := by
  unfold inB
  rw [ileB_eq, ileB_eq]
  by_cases h : kmin k ≤ n <;> by_cases h' : n ≤ kmax k <;> simp [h, h']
theorem wrap_in {k : IntKind} {n : Int} (h : inB k n = true) : k.wrap n = n := by
  rw [inB_iff] at h
  cases k <;> simp [kmin, kmax] at h <;> simp [IntKind.wrap, IntKind.signed, IntKind.bits] <;> omega
theorem wrapK_true {k : IntKind} {n : Int} {f : Int → Bool} (h : wrapK k n f = true) : f (k.wrap n) = true := by
  have h := intK_true h
  cases hb : inB k n with
  | true => rw [wrap_in hb]; rw [hb] at h; exact h
  | false => rw [hb] at h; exact intK_true h
def AOp.bin : AOp → BinOp | .add => .add | .sub => .sub | .mul => .mul | .quo => .quo | .rem => .rem | .and => .and | .or => .or | .andNot => .andNot
def COp.bin : COp → BinOp | .eql => .eql | .neq => .neq | .lss => .lss | .leq => .leq | .gtr => .gtr | .geq => .geq
theorem bitK_true {f : Nat → Nat → Nat} {k : IntKind} {a b : Int} {r : Int → Bool} (h : bitK f k a b r = true) :
    ∃ m n : Nat, a = m ∧ b = n ∧ inB k m = true ∧ inB k n = true ∧ inB k (f m n : Nat) = true ∧ r (f m n : Nat) = true := by
  cases a with
  | negSucc _ => cases h
  | ofNat m => cases b with
    | negSucc _ => cases h
    | ofNat n =>
      have h : guardK (inB k (Int.ofNat m)) (guardK (inB k (Int.ofNat n)) (natK (f m n) fun x => guardK (inB k (Int.ofNat x)) (r (Int.ofNat x)))) = true := h
      obtain ⟨h1, h⟩ := guardK_true h
      obtain ⟨h2, h⟩ := guardK_true h
      obtain ⟨h3, h⟩ := guardK_true (natK_true h)
      exact ⟨m, n, rfl, rfl, h1, h2, h3, h⟩
theorem lt_bits {k : IntKind} {m : Nat} (h : inB k m = true) : m < 2 ^ k.bits := by
  rw [inB_iff] at h
  cases k <;> simp [kmin, kmax] at h <;> simp [IntKind.bits] <;> omega
theorem ofInt_nat {k : IntKind} {m : Nat} (h : inB k m = true) : (BitVec.ofInt k.bits (m : Int)).toNat = m := by
  have := lt_bits h
  rw [BitVec.ofInt_natCast, BitVec.toNat_ofNat, Nat.mod_eq_of_lt this]
section
variable {P : Program} {w : World}
theorem eqGuard_ints (op : BinOp) (t : TypeId) (x y : Operand) (k k' : IntKind) (a b : Int) : (eqGuard op t x y (.int k a) (.int k' b)).run P w = .ok () w := by
  unfold eqGuard
  cases op <;> rfl
theorem arithK_true {op : AOp} {k : IntKind} {a b : Int} {f : Int → Bool} (h : arithK op k a b f = true) (t : TypeId) :
    ∃ r, f r = true ∧ ∀ w, (binOp op.bin t (.int k a) (.int k b)).run P w = .ok (.int k r) w := by
  cases op with
  | add => exact ⟨_, wrapK_true (show wrapK k (a + b) f = true from h), fun w => by simp [AOp.bin, binOp, Op.intArith]⟩
  | sub => exact ⟨_, wrapK_true (show wrapK k (a - b) f = true from h), fun w => by simp [AOp.bin, binOp, Op.intArith]⟩
  | mul => exact ⟨_, wrapK_true (show wrapK k (a * b) f = true from h), fun w => by simp [AOp.bin, binOp, Op.intArith]⟩
  | quo =>
    have hb : ieqB b (Int.ofNat 0) = false := by
      cases hb : ieqB b (Int.ofNat 0) with
      | false => rfl
      | true => have h : @Bool.rec (fun _ => Bool) (wrapK k (Int.tdiv a b) f) false (ieqB b (Int.ofNat 0)) = true := h; rw [hb] at h; cases h
    have h : @Bool.rec (fun _ => Bool) (wrapK k (Int.tdiv a b) f) false (ieqB b (Int.ofNat 0)) = true := h
    rw [hb] at h
    rw [ieqB_eq, decide_eq_false_iff_not] at hb
    have hb : b ≠ 0 := hb
    exact ⟨_, wrapK_true h, fun w => by simp [AOp.bin, binOp, Op.intDiv, hb]⟩
  | rem =>
    have hb : ieqB b (Int.ofNat 0) = false := by
      cases hb : ieqB b (Int.ofNat 0) with
      | false => rfl
      | true => have h : @Bool.rec (fun _ => Bool) (intK (Int.tmod a b) f) false (ieqB b (Int.ofNat 0)) = true := h; rw [hb] at h; cases h
    have h : @Bool.rec (fun _ => Bool) (intK (Int.tmod a b) f) false (ieqB b (Int.ofNat 0)) = true := h
    rw [hb] at h
    rw [ieqB_eq, decide_eq_false_iff_not] at hb
    have hb : b ≠ 0 := hb
    exact ⟨_, intK_true h, fun w => by simp [AOp.bin, binOp, Op.intDiv, hb]⟩
  | and =>
    obtain ⟨m, n, rfl, rfl, h1, h2, h3, h4⟩ := bitK_true (show bitK Nat.land k a b f = true from h)
    refine ⟨_, h4, fun w => ?_⟩
    have : ((BitVec.ofInt k.bits (m : Int) &&& BitVec.ofInt k.bits (n : Int)).toNat : Int) = (Nat.land m n : Nat) := by
      rw [BitVec.toNat_and, ofInt_nat h1, ofInt_nat h2]; rfl
    simp only [AOp.bin, binOp, ne_eq, not_true_eq_false, if_false, Op.intBits, Sem.run_pure]
    rw [this, wrap_in h3]
  | or =>
    obtain ⟨m, n, rfl, rfl, h1, h2, h3, h4⟩ := bitK_true (show bitK Nat.lor k a b f = true from h)
    refine ⟨_, h4, fun w => ?_⟩
    have : ((BitVec.ofInt k.bits (m : Int) ||| BitVec.ofInt k.bits (n : Int)).toNat : Int) = (Nat.lor m n : Nat) := by
      rw [BitVec.toNat_or, ofInt_nat h1, ofInt_nat h2]; rfl
    simp only [AOp.bin, binOp, ne_eq, not_true_eq_false, if_false, Op.intBits, Sem.run_pure]
    rw [this, wrap_in h3]
  | andNot =>
    obtain ⟨m, n, rfl, rfl, h1, h2, h3, h4⟩ := bitK_true (show bitK notAnd k a b f = true from h)
    refine ⟨_, h4, fun w => ?_⟩
    have : ((BitVec.ofInt k.bits (m : Int) &&& ~~~ BitVec.ofInt k.bits (n : Int)).toNat : Int) = (notAnd m n : Nat) := by
      have e : BitVec.ofInt k.bits (m : Int) &&& ~~~ BitVec.ofInt k.bits (n : Int) = BitVec.ofInt k.bits (m : Int) ^^^ (BitVec.ofInt k.bits (m : Int) &&& BitVec.ofInt k.bits (n : Int)) := by
        apply BitVec.eq_of_getLsbD_eq
        intro i hi
        simp only [BitVec.getLsbD_and, BitVec.getLsbD_not, BitVec.getLsbD_xor, hi, decide_true, Bool.true_and]
        cases (BitVec.ofInt k.bits (m : Int)).getLsbD i <;> cases (BitVec.ofInt k.bits (n : Int)).getLsbD i <;> rfl
      rw [e, BitVec.toNat_xor, BitVec.toNat_and, ofInt_nat h1, ofInt_nat h2]; rfl
    simp only [AOp.bin, binOp, ne_eq, not_true_eq_false, if_false, Op.intBits, Sem.run_pure]
    rw [this, wrap_in h3]
theorem cmpB_run (op : COp) (t : TypeId) (k : IntKind) (a b : Int) : (binOp op.bin t (.int k a) (.int k b)).run P w = .ok (.bool (cmpB op a b)) w := by
  cases op <;> simp [COp.bin, binOp, Op.intCmp, cmpB, ieqB_eq, ileB_eq]
  · rfl
  · rw [Bool.eq_iff_iff]; simp
  · rw [Bool.eq_iff_iff]; simp
  · rw [Bool.eq_iff_iff]; simp
end
variable {P : Program} {ρ : Rho} {g : Bool} {o : Oper} {t : Ts} {s : St} {k : KVS}
theorem nthIv_true : ∀ {l : List Iv} {n : Nat} {k : Iv → Bool}, nthIv l n k = true → ∃ x, l[n]? = some x ∧ k x = true
  | [], n, k, h => by cases h
  | x :: l, 0, k, h => ⟨x, rfl, h⟩
  | x :: l, n + 1, k, h => by
    obtain ⟨y, h1, h2⟩ := nthIv_true (l := l) (n := n) (k := k) h
    exact ⟨y, by simpa using h1, h2⟩
theorem setIvK_true : ∀ {l : List Iv} {n : Nat} {y : Iv} {k : List Iv → Bool}, setIvK l n y k = true → n < l.length ∧ k (l.set n y) = true
  | [], n, y, k, h => by cases h
  | x :: l, 0, y, k, h => ⟨by simp, h⟩
  | x :: l, n + 1, y, k, h => by
    obtain ⟨h1, h2⟩ := setIvK_true (l := l) (n := n) (y := y) (k := fun l => k (x :: l)) h
    exact ⟨by simp; omega, h2⟩
theorem linK_true {iv : List Iv} {k : IntKind} {a : Int} {sy : Nat} {c : Int} {f : Cell → Bool} (hi : IvOK ρ iv) (h : linK iv k a sy c f = true) : f (.lin k a sy c) = true ∧ inB k (a * ρ.val sy + c) = true := by
  obtain ⟨x, hx, h1⟩ := nthIv_true (intK_true (intK_true h))
  obtain ⟨h2, h3⟩ := guardK_true h1
  obtain ⟨h4, h5⟩ := guardK_true h3
  refine ⟨h5, ?_⟩
  have h2 : inB k (a * x.lo + c) = true := h2
  have h4 : inB k (a * x.hi + c) = true := h4
  rw [inB_iff] at h2 h4 ⊢
  obtain ⟨⟨l, u⟩, _⟩ := hi sy x hx
  rcases Int.le_total 0 a with ha | ha
  · have e1 := Int.mul_le_mul_of_nonneg_left l ha
    have e2 := Int.mul_le_mul_of_nonneg_left u ha
    omega
  · have e1 := Int.mul_le_mul_of_nonpos_left ha l
    have e2 := Int.mul_le_mul_of_nonpos_left ha u
    omega
theorem remLin_true {iv : List Iv} {k : IntKind} {a : Int} {sy : Nat} {c n : Int} {f : Cell → Bool} (hi : IvOK ρ iv) (h : remLin iv k a sy c n f = true) : n ≠ 0 ∧ ∃ r, f r = true ∧ ∀ ν, CR ν ρ r (.int k (Int.tmod (a * ρ.val sy + c) n)) := by
  cases ha : ieqB a (Int.ofNat 1) with
  | true =>
    have h0 : guardK (ieqB c (Int.ofNat 0)) (nthIv iv (Nat.succ sy) fun y => guardK (Nat.blt 0 y.md) (guardK (Bool.not (Nat.beq y.md LT)) (guardK (ieqB n (Int.ofNat y.md)) (f (.lin k (Int.ofNat 1) (Nat.succ sy) (Int.ofNat 0)))))) = true := by
      unfold remLin at h; rw [ha] at h; exact h
    obtain ⟨hc, h1⟩ := guardK_true h0
    obtain ⟨y, hy, h2⟩ := nthIv_true h1
    obtain ⟨h3, h4⟩ := guardK_true h2
    obtain ⟨hlt, h4⟩ := guardK_true h4
    obtain ⟨h5, h6⟩ := guardK_true h4
    rw [ieqB_eq] at ha hc h5
    have ha := of_decide_eq_true ha
    have hc := of_decide_eq_true hc
    have h5 := of_decide_eq_true h5
    subst ha; subst hc; subst h5
    have h3 : 0 < y.md := Nat.le_of_ble_eq_true h3
    obtain ⟨_, hm⟩ := hi _ y hy
    have hlt : y.md ≠ LT := fun e => by rw [e] at hlt; cases hlt
    obtain ⟨j, hj, e⟩ := hm.1 h3 hlt
    have hj : sy = j := by omega
    subst hj
    refine ⟨by show ((y.md : Nat) : Int) ≠ 0; omega, _, h6, fun ν => ?_⟩
    show Value.int k (Int.tmod (1 * ρ.val sy + 0) (y.md : Int)) = Value.int k (1 * ρ.val (Nat.succ sy) + 0)
    rw [show ρ.val (Nat.succ sy) = _ from e]
    simp
  | false =>
    have h0 : (nthIv iv sy fun x => guardK (ileB (Int.ofNat 0) x.lo) (@Int.rec (fun _ => Bool) (fun a => @Int.rec (fun _ => Bool) (fun c => @Int.rec (fun _ => Bool) (fun n => guardK (Nat.beq (Nat.mod a n) 0) (guardK (Nat.blt c n) (f (.int k (Int.ofNat c))))) (fun _ => false) n) (fun _ => false) c) (fun _ => false) a)) = true := by
      unfold remLin at h; rw [ha] at h; exact h
    obtain ⟨x, hx, h1⟩ := nthIv_true h0
    obtain ⟨h2, h3⟩ := guardK_true h1
    rw [ileB_eq] at h2
    have h4 : (0 : Int) ≤ x.lo := of_decide_eq_true h2
    have hv : 0 ≤ ρ.val sy := Int.le_trans h4 (hi sy x hx).1.1
    cases a with
    | negSucc _ => cases h3
    | ofNat a =>
      cases c with
      | negSucc _ => cases h3
      | ofNat c =>
        cases n with
        | negSucc _ => cases h3
        | ofNat n =>
          obtain ⟨e1, h5⟩ := guardK_true h3
          obtain ⟨e2, h6⟩ := guardK_true h5
          have e1 := Nat.eq_of_beq_eq_true e1
          have e2 : c < n := Nat.le_of_ble_eq_true e2
          refine ⟨by show ((n : Nat) : Int) ≠ 0; omega, _, h6, fun ν => ?_⟩
          have hd : n ∣ a := Nat.dvd_of_mod_eq_zero e1
          obtain ⟨q, rfl⟩ := hd
          have key : Int.tmod (((n * q : Nat) : Int) * ρ.val sy + (c : Int)) (n : Int) = (c : Int) := by
            have h0 : (0 : Int) ≤ ((n * q : Nat) : Int) * ρ.val sy + (c : Int) := Int.add_nonneg (Int.mul_nonneg (Int.natCast_nonneg _) hv) (Int.natCast_nonneg _)
            rw [Int.tmod_eq_emod_of_nonneg h0]
            have e3 : ((n * q : Nat) : Int) * ρ.val sy + (c : Int) = (c : Int) + (n : Int) * ((q : Int) * ρ.val sy) := by
              rw [Int.natCast_mul, Int.mul_assoc, Int.add_comm]
            rw [e3, Int.add_mul_emod_self_left]
            exact Int.emod_eq_of_lt (Int.natCast_nonneg _) (by omega)
          show Value.int k (Int.tmod (((n * q : Nat) : Int) * ρ.val sy + (c : Int)) (n : Int)) = Value.int k (c : Int)
          rw [key]
theorem wrapK_in {k : IntKind} {n : Int} {f : Int → Bool} (h : inB k n = true) (hf : f n = true) : wrapK k n f = true := by
  unfold wrapK
  rw [intK_eq]
  show @Bool.rec (fun _ => Bool) (intK (k.wrap n) f) (f n) (inB k n) = true
  rw [h]; exact hf
/-- What a sum, a difference, a rest of a line is. -/
theorem linOp_true {op : AOp} {iv : List Iv} {k : IntKind} {a : Int} {sy : Nat} {c n : Int} {f : Cell → Bool} (hi : IvOK ρ iv) (h : linOp op iv k a sy c n f = true) :
    ∃ r z, f r = true ∧ (∀ ν, CR ν ρ r (.int k z)) ∧ ∀ g : Int → Bool, g z = true → arithK op k (a * ρ.val sy + c) n g = true := by
  cases op <;> first | (cases h; done) | skip
  · obtain ⟨h1, h2⟩ := linK_true hi (show linK iv k a sy (c + n) f = true from h)
    rw [← Int.add_assoc] at h2
    exact ⟨_, a * ρ.val sy + c + n, h1, fun ν => by show Value.int k _ = .int k (a * ρ.val sy + (c + n)); rw [Int.add_assoc], fun g hg => wrapK_in h2 hg⟩
  · obtain ⟨h1, h2⟩ := linK_true hi (show linK iv k a sy (c - n) f = true from h)
    have e : a * ρ.val sy + (c - n) = a * ρ.val sy + c - n := by omega
    rw [e] at h2
    exact ⟨_, a * ρ.val sy + c - n, h1, fun ν => by show Value.int k _ = .int k (a * ρ.val sy + (c - n)); rw [e], fun g hg => wrapK_in h2 hg⟩
  · obtain ⟨hn, r, hr, hc⟩ := remLin_true hi (show remLin iv k a sy c n f = true from h)
    refine ⟨r, _, hr, hc, fun g hg => ?_⟩
    have hne : ieqB n (Int.ofNat 0) = false := by rw [ieqB_eq]; exact decide_eq_false hn
    show @Bool.rec (fun _ => Bool) (intK (Int.tmod (a * ρ.val sy + c) n) g) false (ieqB n (Int.ofNat 0)) = true
    rw [hne]
    show intK _ g = true
    rw [intK_eq]; exact hg
theorem intOp_true {op : AOp} {iv : List Iv} {k : IntKind} {m a : Int} {sy : Nat} {c : Int} {f : Cell → Bool} (hi : IvOK ρ iv) (h : intOp op iv k m a sy c f = true) :
    ∃ r z, f r = true ∧ (∀ ν, CR ν ρ r (.int k z)) ∧ ∀ g : Int → Bool, g z = true → arithK op k m (a * ρ.val sy + c) g = true := by
  cases op <;> first | (cases h; done) | skip
  · obtain ⟨h1, h2⟩ := linK_true hi (show linK iv k a sy (m + c) f = true from h)
    have e : a * ρ.val sy + (m + c) = m + (a * ρ.val sy + c) := by omega
    rw [e] at h2
    exact ⟨_, m + (a * ρ.val sy + c), h1, fun ν => by show Value.int k _ = .int k (a * ρ.val sy + (m + c)); rw [e], fun g hg => wrapK_in h2 hg⟩
  · obtain ⟨h1, h2⟩ := linK_true hi (show linK iv k (0 - a) sy (m - c) f = true from h)
    have e : (0 - a) * ρ.val sy + (m - c) = m - (a * ρ.val sy + c) := by rw [Int.sub_mul]; omega
    rw [e] at h2
    exact ⟨_, m - (a * ρ.val sy + c), h1, fun ν => by show Value.int k _ = .int k ((0 - a) * ρ.val sy + (m - c)); rw [e], fun g hg => wrapK_in h2 hg⟩
theorem ar_sem (hg : g = ρ.gl.isSome) (hi : IvOK ρ s.iv) {op : AOp} {ty ty' : TypeId} {x y : Operand} {xa ya : XA} (hx : xaOf g x = some xa) (hy : xaOf g y = some ya) (ho : o.op = .binOp op.bin ty x y ty') (h : arF op xa ya t s k = true) :
    ∃ v, k v s = true ∧ WSem P ρ o t v := by
  obtain ⟨c, h1, hc⟩ := ev1K_sound hx h
  obtain ⟨d, h2, hd⟩ := ev1K_sound hy h1
  have fin : ∀ {ka : IntKind} {m n z : Int} {r : Cell}, (∀ {m' ν a}, MT m' ν ρ t a → a.eval x = .int ka m ∧ a.eval y = .int ka n) → (∀ ν, CR ν ρ r (.int ka z)) → (∀ g : Int → Bool, g z = true → arithK op ka m n g = true) → WSem P ρ o t (.v (.one r)) := by
    intro ka m n z r hv hr har
    obtain ⟨r2, hr2, run⟩ := arithK_true (P := P) (har (fun r => @decide (r = z) (Classical.propDecidable _)) (@decide_eq_true _ (Classical.propDecidable _) rfl)) ty
    have e3 : r2 = z := @of_decide_eq_true _ (Classical.propDecidable _) hr2
    subst e3
    intro m' ν a q
    obtain ⟨e1, e2⟩ := hv q
    exact ⟨.int ka r2, hr ν, fun w => by simp [execOp, ho, e1, e2, eqGuard_ints, run]⟩
  rcases numK_true h2 with ⟨ka, m, rfl, h3⟩ | ⟨ka, a, sy, cc, rfl, h3⟩
  · rcases numK_true h3 with ⟨kb, n, rfl, h4⟩ | ⟨kb, a, sy, cc, rfl, h4⟩
    · obtain ⟨e, h9⟩ := guardK_true h4
      have e := kindB_true e
      subst e
      obtain ⟨r, hr, run⟩ := arithK_true (P := P) h9 ty
      refine ⟨_, hr, fun q => ⟨_, (show AR _ ρ (.v (.one (.int ka r))) (.int ka r) from rfl), fun w => ?_⟩⟩
      have e1 : _ = Value.int ka m := hc hg q
      have e2 : _ = Value.int ka n := hd hg q
      simp [execOp, ho, e1, e2, eqGuard_ints, run]
    · obtain ⟨e, h9⟩ := guardK_true h4
      have e := kindB_true e
      subst e
      obtain ⟨r, z, hr, hcr, har⟩ := intOp_true hi h9
      exact ⟨_, hr, fin (fun q => ⟨hc hg q, hd hg q⟩) hcr har⟩
  · obtain ⟨kb, n, rfl, h4⟩ := isInt_true h3
    obtain ⟨e, h9⟩ := guardK_true h4
    have e := kindB_true e
    subst e
    obtain ⟨x, hx, h10⟩ := nthIv_true h9
    cases hs : ieqB x.lo x.hi with
    | false =>
      rw [hs] at h10
      obtain ⟨r, z, hr, hcr, har⟩ := linOp_true hi h10
      exact ⟨_, hr, fin (fun q => ⟨hc hg q, hd hg q⟩) hcr har⟩
    | true =>
      rw [hs] at h10
      rw [ieqB_eq] at hs
      have hs := of_decide_eq_true hs
      obtain ⟨⟨l, u⟩, _⟩ := hi sy x hx
      have ev : ρ.val sy = x.lo := by omega
      have h11 := intK_true (show intK (Int.add (Int.mul a x.lo) cc) (fun m => arithK op ka m n fun r => k (.v (.one (.int ka r))) s) = true from h10)
      have h12 : arithK op ka (a * ρ.val sy + cc) n (fun r => k (.v (.one (.int ka r))) s) = true := by rw [ev]; exact h11
      obtain ⟨r, hr, run⟩ := arithK_true (P := P) h12 ty
      refine ⟨_, hr, fun q => ⟨_, (show AR _ ρ (.v (.one (.int ka r))) (.int ka r) from rfl), fun w => ?_⟩⟩
      have e1 : _ = Value.int ka (a * ρ.val sy + cc) := hc hg q
      have e2 : _ = Value.int ka n := hd hg q
      simp [execOp, ho, e1, e2, eqGuard_ints, run]
theorem imin_eq (a b : Int) : iminB a b = min a b := by
  unfold iminB
  rw [ileB_eq]
  by_cases h : a ≤ b
  · rw [decide_eq_true h, Int.min_eq_left h]
  · rw [decide_eq_false h, Int.min_eq_right (by omega)]
theorem imax_eq (a b : Int) : imaxB a b = max a b := by
  unfold imaxB
  rw [ileB_eq]
  by_cases h : a ≤ b
  · rw [decide_eq_true h, Int.max_eq_right h]
  · rw [decide_eq_false h, Int.max_eq_left (by omega)]
theorem setIv_eq (s : St) (iv : List Iv) : s.setIv iv = ⟨s.heap, s.next, s.cnt, s.wlo, iv⟩ := by cases s; rfl
theorem brK_true {sy md : Nat} {r : Bool} {lo hi : Int} {x : Iv} (hiv : IvOK ρ s.iv) (hx : s.iv[sy]? = some x) (hmd : md = x.md) (h : brK s sy md k r lo hi = true) (h1 : lo ≤ ρ.val sy) (h2 : ρ.val sy ≤ hi) :
    ∃ iv, k (.v (.one (.bool r))) (s.setIv iv) = true ∧ IvOK ρ iv := by
  have h3 := intK_true (intK_true h)
  have hle : ileB lo hi = true := by rw [ileB_eq]; exact decide_eq_true (by omega)
  rw [hle] at h3
  obtain ⟨hlt, h4⟩ := setIvK_true (show setIvK s.iv sy ⟨lo, hi, md⟩ (fun iv => k (.v (.one (.bool r))) (s.setIv iv)) = true from h3)
  refine ⟨_, h4, fun i y hy => ?_⟩
  rw [List.getElem?_set] at hy
  split at hy
  · rename_i e
    subst e
    simp only [hlt, if_true, Option.some.injEq] at hy
    subst hy
    exact ⟨⟨h1, h2⟩, by
      have := (hiv sy x hx).2
      rw [← hmd] at this; exact this⟩
  · exact hiv i y hy
theorem ltF_true {sy : Nat} {r r' : Bool} {b : Int} {x : Iv} (hiv : IvOK ρ s.iv) (hx : s.iv[sy]? = some x) (h : ltF s sy k x r r' b = true) : ∃ iv, k (.v (.one (.bool (if ρ.val sy < b then r else r')))) (s.setIv iv) = true ∧ IvOK ρ iv := by
  obtain ⟨h1, h2⟩ := guardK_true h
  rw [imin_eq] at h1
  rw [imax_eq] at h2
  obtain ⟨⟨l, u⟩, _⟩ := hiv sy x hx
  by_cases hb : ρ.val sy < b
  · rw [if_pos hb]; exact brK_true hiv hx rfl h1 l (by show _ ≤ min x.hi (b - 1); omega)
  · rw [if_neg hb]; exact brK_true hiv hx rfl h2 (by omega) u
theorem eqF_true {sy : Nat} {r r' : Bool} {b : Int} {x : Iv} (hiv : IvOK ρ s.iv) (hx : s.iv[sy]? = some x) (h : eqF s sy k x r r' b = true) : ∃ iv, k (.v (.one (.bool (if ρ.val sy = b then r else r')))) (s.setIv iv) = true ∧ IvOK ρ iv := by
  obtain ⟨h1, h2⟩ := guardK_true h
  obtain ⟨h3, h4⟩ := guardK_true h2
  rw [imin_eq] at h1 h3
  rw [imax_eq] at h3 h4
  obtain ⟨⟨l, u⟩, _⟩ := hiv sy x hx
  by_cases hb : ρ.val sy = b
  · rw [if_pos hb]; exact brK_true hiv hx rfl h3 (by omega) (by omega)
  · rw [if_neg hb]
    by_cases hlt : ρ.val sy < b
    · exact brK_true hiv hx rfl h1 l (by show _ ≤ min x.hi (b - 1); omega)
    · exact brK_true hiv hx rfl h4 (by show max x.lo (b + 1) ≤ _; omega) u
/-- A TEST OF A SYMBOL: what is known behind it. -/
theorem forkK_true {op : COp} {sy : Nat} {b : Int} (hiv : IvOK ρ s.iv) (h : forkK op s sy b k = true) : ∃ iv, k (.v (.one (.bool (cmpB op (ρ.val sy) b)))) (s.setIv iv) = true ∧ IvOK ρ iv := by
  obtain ⟨x, hx, h1⟩ := nthIv_true (intK_true h)
  cases op with
  | eql =>
    obtain ⟨iv, h2, h3⟩ := eqF_true hiv hx h1
    refine ⟨iv, ?_, h3⟩
    rw [show cmpB .eql (ρ.val sy) b = ieqB (ρ.val sy) b from rfl, ieqB_eq]
    by_cases e : ρ.val sy = b <;> simp only [e, if_true, if_false] at h2 <;> simpa [e] using h2
  | neq =>
    obtain ⟨iv, h2, h3⟩ := eqF_true hiv hx h1
    refine ⟨iv, ?_, h3⟩
    rw [show cmpB .neq (ρ.val sy) b = Bool.not (ieqB (ρ.val sy) b) from rfl, ieqB_eq]
    by_cases e : ρ.val sy = b <;> simp only [e, if_true, if_false] at h2 <;> simpa [e] using h2
  | lss =>
    obtain ⟨iv, h2, h3⟩ := ltF_true hiv hx h1
    refine ⟨iv, ?_, h3⟩
    rw [show cmpB .lss (ρ.val sy) b = Bool.not (ileB b (ρ.val sy)) from rfl, ileB_eq]
    by_cases e : ρ.val sy < b
    · rw [if_pos e] at h2; rw [decide_eq_false (by omega)]; exact h2
    · rw [if_neg e] at h2; rw [decide_eq_true (by omega)]; exact h2
  | leq =>
    obtain ⟨iv, h2, h3⟩ := ltF_true hiv hx h1
    refine ⟨iv, ?_, h3⟩
    have h2 : k (.v (.one (.bool (if ρ.val sy < b + 1 then true else false)))) (s.setIv iv) = true := h2
    rw [show cmpB .leq (ρ.val sy) b = ileB (ρ.val sy) b from rfl, ileB_eq]
    by_cases e : ρ.val sy < b + 1
    · rw [if_pos e] at h2; rw [decide_eq_true (by omega)]; exact h2
    · rw [if_neg e] at h2; rw [decide_eq_false (by omega)]; exact h2
  | gtr =>
    obtain ⟨iv, h2, h3⟩ := ltF_true hiv hx h1
    refine ⟨iv, ?_, h3⟩
    have h2 : k (.v (.one (.bool (if ρ.val sy < b + 1 then false else true)))) (s.setIv iv) = true := h2
    rw [show cmpB .gtr (ρ.val sy) b = Bool.not (ileB (ρ.val sy) b) from rfl, ileB_eq]
    by_cases e : ρ.val sy < b + 1
    · rw [if_pos e] at h2; rw [decide_eq_true (by omega)]; exact h2
    · rw [if_neg e] at h2; rw [decide_eq_false (by omega)]; exact h2
  | geq =>
    obtain ⟨iv, h2, h3⟩ := ltF_true hiv hx h1
    refine ⟨iv, ?_, h3⟩
    rw [show cmpB .geq (ρ.val sy) b = ileB b (ρ.val sy) from rfl, ileB_eq]
    by_cases e : ρ.val sy < b
    · rw [if_pos e] at h2; rw [decide_eq_false (by omega)]; exact h2
    · rw [if_neg e] at h2; rw [decide_eq_true (by omega)]; exact h2
theorem cmpB_shift (op : COp) (v c n : Int) : cmpB op v (n - c) = cmpB op (v + c) n := by
  have h1 : ∀ a b a' b' : Int, (a ≤ b ↔ a' ≤ b') → ileB a b = ileB a' b' := fun a b a' b' h => by rw [ileB_eq, ileB_eq]; exact decide_eq_decide.2 h
  have h2 : ieqB v (n - c) = ieqB (v + c) n := by rw [ieqB_eq, ieqB_eq]; exact decide_eq_decide.2 (by omega)
  cases op
  · exact h2
  · exact congrArg Bool.not h2
  · exact congrArg Bool.not (h1 _ _ _ _ (by omega))
  · exact h1 _ _ _ _ (by omega)
  · exact congrArg Bool.not (h1 _ _ _ _ (by omega))
  · exact h1 _ _ _ _ (by omega)
theorem cmpB_flip (op : COp) (a b : Int) : cmpB (flipC op) a b = cmpB op b a := by
  have h2 : ieqB a b = ieqB b a := by rw [ieqB_eq, ieqB_eq]; exact decide_eq_decide.2 eq_comm
  cases op
  · exact h2
  · exact congrArg Bool.not h2
  all_goals rfl
theorem br2K_true {r : Bool} {x y : Nat} {mx my : Nat} {lx hx ly hy : Int} {X Y : Iv} (hiv : IvOK ρ s.iv) (hX : s.iv[x]? = some X) (hY : s.iv[y]? = some Y) (hne : x ≠ y) (e1 : MdOK ρ x mx) (e2 : my = Y.md) (h : br2K s k r x mx lx hx y my ly hy = true)
    (h1 : lx ≤ ρ.val x) (h2 : ρ.val x ≤ hx) (h3 : ly ≤ ρ.val y) (h4 : ρ.val y ≤ hy) : ∃ iv, k (.v (.one (.bool r))) (s.setIv iv) = true ∧ IvOK ρ iv := by
  have h5 := intK_true (intK_true (intK_true (intK_true h)))
  have hle : ileB lx hx = true := by rw [ileB_eq]; exact decide_eq_true (by omega)
  have hle2 : ileB ly hy = true := by rw [ileB_eq]; exact decide_eq_true (by omega)
  rw [hle, hle2] at h5
  obtain ⟨hlt, h6⟩ := setIvK_true (show setIvK s.iv x ⟨lx, hx, mx⟩ (fun iv => setIvK iv y ⟨ly, hy, my⟩ fun iv => k (.v (.one (.bool r))) (s.setIv iv)) = true from h5)
  obtain ⟨hlt2, h7⟩ := setIvK_true h6
  refine ⟨_, h7, fun i z hz => ?_⟩
  rw [List.getElem?_set] at hz
  split at hz
  · rename_i e
    subst e
    simp only [hlt2, if_true, Option.some.injEq] at hz
    subst hz
    exact ⟨⟨h3, h4⟩, by
      have := (hiv y Y hY).2
      rw [← e2] at this; exact this⟩
  · rw [List.getElem?_set] at hz
    split at hz
    · rename_i e
      subst e
      simp only [hlt, if_true, Option.some.injEq] at hz
      subst hz
      exact ⟨⟨h1, h2⟩, e1⟩
    · exact hiv i z hz
theorem leK_true {r : Bool} {x y : Nat} {X Y : Iv} {d : Int} (hiv : IvOK ρ s.iv) (hX : s.iv[x]? = some X) (hY : s.iv[y]? = some Y) (hne : x ≠ y) (h : leK s k r x X y Y d = true) (hd : ρ.val x + d ≤ ρ.val y) :
    ∃ iv, k (.v (.one (.bool r))) (s.setIv iv) = true ∧ IvOK ρ iv := by
  obtain ⟨⟨l, u⟩, _⟩ := hiv x X hX
  obtain ⟨⟨l', u'⟩, _⟩ := hiv y Y hY
  unfold leK at h
  rw [imin_eq, imax_eq] at h
  have hm : MdOK ρ x (@Bool.rec (fun _ => Nat) X.md LT (Bool.and (Nat.beq X.md 0) (Bool.and (Nat.beq y (Nat.succ x)) (ieqB d (Int.ofNat 1))))) := by
    cases hb : Bool.and (Nat.beq X.md 0) (Bool.and (Nat.beq y (Nat.succ x)) (ieqB d (Int.ofNat 1))) with
    | false => exact (hiv x X hX).2
    | true =>
      have hb2 : (Nat.beq X.md 0 && (Nat.beq y (Nat.succ x) && ieqB d (Int.ofNat 1))) = true := hb
      simp only [Bool.and_eq_true, ieqB_eq] at hb2
      have q1 := Nat.eq_of_beq_eq_true hb2.2.1
      have q2 : d = 1 := of_decide_eq_true hb2.2.2
      refine ⟨fun _ hn => absurd rfl hn, fun _ => ?_⟩
      subst q1
      show ρ.val x < ρ.val (x + 1)
      have hd : ρ.val x + d ≤ ρ.val (x + 1) := hd
      omega
  exact br2K_true hiv hX hY hne hm rfl h l (by show _ ≤ min X.hi (Y.hi - d); omega) (by show max Y.lo (X.lo + d) ≤ _; omega) u'
theorem twoK_true {op : COp} {x y : Nat} {c e : Int} (hiv : IvOK ρ s.iv) (hne : x ≠ y) (h : twoK op s x c y e k = true) : ∃ iv, k (.v (.one (.bool (cmpB op (ρ.val x + c) (ρ.val y + e))))) (s.setIv iv) = true ∧ IvOK ρ iv := by
  obtain ⟨X, hX, h1⟩ := nthIv_true h
  obtain ⟨Y, hY, h2⟩ := nthIv_true h1
  have both : ∀ r : Bool, guardK (k (.v (.one (.bool true))) s) (k (.v (.one (.bool false))) s) = true → ∃ iv, k (.v (.one (.bool r))) (s.setIv iv) = true ∧ IvOK ρ iv := by
    intro r hh
    obtain ⟨g1, g2⟩ := guardK_true hh
    refine ⟨s.iv, ?_, hiv⟩
    rw [setIv_eq]
    cases r
    · exact g2
    · exact g1
  cases op with
  | eql => exact both _ h2
  | neq => exact both _ h2
  | lss =>
    obtain ⟨g1, g2⟩ := guardK_true h2
    rw [show cmpB .lss (ρ.val x + c) (ρ.val y + e) = Bool.not (ileB (ρ.val y + e) (ρ.val x + c)) from rfl, ileB_eq]
    by_cases q : ρ.val y + e ≤ ρ.val x + c
    · rw [decide_eq_true q]; exact leK_true hiv hY hX (Ne.symm hne) g2 (by show ρ.val y + (e - c) ≤ _; omega)
    · rw [decide_eq_false q]; exact leK_true hiv hX hY hne g1 (by show ρ.val x + (c - e + 1) ≤ _; omega)
  | leq =>
    obtain ⟨g1, g2⟩ := guardK_true h2
    rw [show cmpB .leq (ρ.val x + c) (ρ.val y + e) = ileB (ρ.val x + c) (ρ.val y + e) from rfl, ileB_eq]
    by_cases q : ρ.val x + c ≤ ρ.val y + e
    · rw [decide_eq_true q]; exact leK_true hiv hX hY hne g1 (by show ρ.val x + (c - e) ≤ _; omega)
    · rw [decide_eq_false q]; exact leK_true hiv hY hX (Ne.symm hne) g2 (by show ρ.val y + (e - c + 1) ≤ _; omega)
  | gtr =>
    obtain ⟨g1, g2⟩ := guardK_true h2
    rw [show cmpB .gtr (ρ.val x + c) (ρ.val y + e) = Bool.not (ileB (ρ.val x + c) (ρ.val y + e)) from rfl, ileB_eq]
    by_cases q : ρ.val x + c ≤ ρ.val y + e
    · rw [decide_eq_true q]; exact leK_true hiv hX hY hne g2 (by show ρ.val x + (c - e) ≤ _; omega)
    · rw [decide_eq_false q]; exact leK_true hiv hY hX (Ne.symm hne) g1 (by show ρ.val y + (e - c + 1) ≤ _; omega)
  | geq =>
    obtain ⟨g1, g2⟩ := guardK_true h2
    rw [show cmpB .geq (ρ.val x + c) (ρ.val y + e) = ileB (ρ.val y + e) (ρ.val x + c) from rfl, ileB_eq]
    by_cases q : ρ.val y + e ≤ ρ.val x + c
    · rw [decide_eq_true q]; exact leK_true hiv hY hX (Ne.symm hne) g1 (by show ρ.val y + (e - c) ≤ _; omega)
    · rw [decide_eq_false q]; exact leK_true hiv hX hY hne g2 (by show ρ.val x + (c - e + 1) ≤ _; omega)
theorem linlin_true {op : COp} {a b c e : Int} {x y : Nat} (hiv : IvOK ρ s.iv) (h : linlin op s a x c b y e k = true) : ∃ iv, k (.v (.one (.bool (cmpB op (a * ρ.val x + c) (b * ρ.val y + e))))) (s.setIv iv) = true ∧ IvOK ρ iv := by
  unfold linlin at h
  cases hs : Bool.and (Nat.beq x y) (ieqB a b) with
  | true =>
    rw [hs] at h
    have h1 := boolK_true (show boolK (cmpB op c e) (fun r => k (.v (.one (.bool r))) s) = true from h)
    have hs : (Nat.beq x y && ieqB a b) = true := hs
    rw [Bool.and_eq_true, ieqB_eq] at hs
    have e1 := Nat.eq_of_beq_eq_true hs.1
    have e2 := of_decide_eq_true hs.2
    subst e1; subst e2
    refine ⟨s.iv, ?_, hiv⟩
    rw [setIv_eq]
    have key : cmpB op c e = cmpB op (a * ρ.val x + c) (a * ρ.val x + e) := by
      rw [← cmpB_shift op (a * ρ.val x) c (a * ρ.val x + e)]
      have : a * ρ.val x + e - c = a * ρ.val x - (c - e) := by omega
      rw [this, cmpB_shift op (a * ρ.val x) (c - e) (a * ρ.val x)]
      have h3 : ∀ z : Int, cmpB op (z + (c - e)) z = cmpB op c e := by
        intro z
        have l : ∀ p q p' q' : Int, (p ≤ q ↔ p' ≤ q') → ileB p q = ileB p' q' := fun p q p' q' hh => by rw [ileB_eq, ileB_eq]; exact decide_eq_decide.2 hh
        have m : ieqB (z + (c - e)) z = ieqB c e := by rw [ieqB_eq, ieqB_eq]; exact decide_eq_decide.2 (by omega)
        cases op
        · exact m
        · exact congrArg Bool.not m
        · exact congrArg Bool.not (l _ _ _ _ (by omega))
        · exact l _ _ _ _ (by omega)
        · exact congrArg Bool.not (l _ _ _ _ (by omega))
        · exact l _ _ _ _ (by omega)
      exact (h3 _).symm
    rw [← key]; exact h1
  | false =>
    rw [hs] at h
    obtain ⟨g1, h2⟩ := guardK_true h
    obtain ⟨g2, h3⟩ := guardK_true h2
    obtain ⟨g3, h4⟩ := guardK_true h3
    rw [ieqB_eq] at g1 g2
    have g1 : a = 1 := of_decide_eq_true g1
    have g2 : b = 1 := of_decide_eq_true g2
    subst g1; subst g2
    rw [Int.one_mul, Int.one_mul]
    refine twoK_true hiv (fun q => ?_) h4
    subst q
    rw [Nat.beq_refl] at g3; cases g3
theorem cmp_sem (hg : g = ρ.gl.isSome) (hi : IvOK ρ s.iv) {op : COp} {ty ty' : TypeId} {x y : Operand} {xa ya : XA} (hx : xaOf g x = some xa) (hy : xaOf g y = some ya) (ho : o.op = .binOp op.bin ty x y ty') (h : cmpF op xa ya t s k = true) :
    ∃ v iv, k v (s.setIv iv) = true ∧ IvOK ρ iv ∧ WSem P ρ o t v := by
  obtain ⟨c, h1, hc⟩ := ev1K_sound hx h
  obtain ⟨d, h2, hd⟩ := ev1K_sound hy h1
  have fin : ∀ {ka : IntKind} {m n : Int}, (∀ {m' ν a}, MT m' ν ρ t a → a.eval x = .int ka m ∧ a.eval y = .int ka n) → WSem P ρ o t (.v (.one (.bool (cmpB op m n)))) := by
    intro ka m n hv m' ν a q
    obtain ⟨e1, e2⟩ := hv q
    exact ⟨.bool (cmpB op m n), rfl, fun w => by simp [execOp, ho, e1, e2, eqGuard_ints, cmpB_run]⟩
  rcases numK_true h2 with ⟨ka, m, rfl, h3⟩ | ⟨ka, a, sy, cc, rfl, h3⟩
  · rcases numK_true h3 with ⟨kb, n, rfl, h4⟩ | ⟨kb, a, sy, cc, rfl, h4⟩
    · obtain ⟨e, h9⟩ := guardK_true h4
      have e := kindB_true e
      subst e
      exact ⟨_, s.iv, boolK_true h9, hi, fin fun q => ⟨hc hg q, hd hg q⟩⟩
    · obtain ⟨e, h9⟩ := guardK_true h4
      have e := kindB_true e
      subst e
      obtain ⟨ea, h10⟩ := guardK_true h9
      rw [ieqB_eq] at ea
      have ea : a = 1 := of_decide_eq_true ea
      subst ea
      obtain ⟨iv, h11, h12⟩ := forkK_true hi h10
      rw [cmpB_flip] at h11
      have e3 : cmpB op (Int.sub m cc) (ρ.val sy) = cmpB op m (1 * ρ.val sy + cc) := by
        rw [← cmpB_flip, ← cmpB_flip op (1 * ρ.val sy + cc), Int.one_mul]
        exact cmpB_shift (flipC op) (ρ.val sy) cc m
      rw [e3] at h11
      exact ⟨_, iv, h11, h12, fin fun q => ⟨hc hg q, hd hg q⟩⟩
  · rcases numK_true h3 with ⟨kb, n, rfl, h4⟩ | ⟨kb, b, sz, ce, rfl, h4⟩
    · obtain ⟨e, h9⟩ := guardK_true h4
      have e := kindB_true e
      subst e
      obtain ⟨ea, h10⟩ := guardK_true h9
      rw [ieqB_eq] at ea
      have ea : a = 1 := of_decide_eq_true ea
      subst ea
      obtain ⟨iv, h11, h12⟩ := forkK_true hi h10
      have e3 : cmpB op (ρ.val sy) (Int.sub n cc) = cmpB op (1 * ρ.val sy + cc) n := by
        rw [Int.one_mul]; exact cmpB_shift op (ρ.val sy) cc n
      rw [e3] at h11
      exact ⟨_, iv, h11, h12, fin fun q => ⟨hc hg q, hd hg q⟩⟩
    · obtain ⟨e, h9⟩ := guardK_true h4
      have e := kindB_true e
      subst e
      obtain ⟨iv, h11, h12⟩ := linlin_true hi h9
      exact ⟨_, iv, h11, h12, fin fun q => ⟨hc hg q, hd hg q⟩⟩
def shBin : Bool → BinOp | true => .shl | false => .shr
theorem sh_sem (hg : g = ρ.gl.isSome) {left : Bool} {ty ty' : TypeId} {x y : Operand} {xa ya : XA} (hx : xaOf g x = some xa) (hy : xaOf g y = some ya) (ho : o.op = .binOp (shBin left) ty x y ty') (h : shF left xa ya t s k = true) :
    ∃ v, k v s = true ∧ WSem P ρ o t v := by
  obtain ⟨c, h, hc⟩ := ev1K_sound hx h
  obtain ⟨ka, m, rfl, h⟩ := isInt_true h
  obtain ⟨d, h, hd⟩ := ev1K_sound hy h
  obtain ⟨kb, n, rfl, h⟩ := isInt_true h
  cases m with
  | negSucc _ => cases h
  | ofNat m => cases n with
    | negSucc _ => cases h
    | ofNat n =>
      have eg : ∀ w, (eqGuard (shBin left) ty x y (.int ka (m : Int)) (.int kb (n : Int))).run P w = .ok () w := fun w => eqGuard_ints _ _ _ _ _ _ _ _
      cases left with
      | false =>
        have h : guardK (Nat.ble n ka.bits) (intK (Int.ofNat (Nat.div m (Nat.pow 2 n))) fun r => k (.v (.one (.int ka r))) s) = true := h
        obtain ⟨hn, h⟩ := guardK_true h
        rw [Nat.ble_eq] at hn
        refine ⟨_, intK_true h, fun q => ⟨_, (show AR _ ρ (.v (.one (.int ka (Int.ofNat (Nat.div m (Nat.pow 2 n)))))) (.int ka (Int.ofNat (Nat.div m (Nat.pow 2 n)))) from rfl), fun w => ?_⟩⟩
        have e1 : _ = Value.int ka m := hc hg q
        have e2 : _ = Value.int kb n := hd hg q
        have e3 : (m : Int).fdiv (2 ^ n) = ((m / 2 ^ n : Nat) : Int) := by rw [show (2 : Int) ^ n = ((2 ^ n : Nat) : Int) by push_cast; rfl]; exact Int.ofNat_fdiv m (2 ^ n) |>.symm
        have hmin : min n ka.bits = n := Nat.min_eq_left hn
        have run : (Op.shift .shr ka (m : Int) kb (n : Int)).run P w = .ok (.int ka (Int.ofNat (Nat.div m (Nat.pow 2 n)))) w := by
          unfold Op.shift
          rw [if_neg (by omega)]
          simp only [Int.toNat_natCast, hmin]
          rw [e3]; rfl
        have eg := eg w
        simp only [shBin] at eg ho
        simp [execOp, ho, e1, e2, eg, binOp, run]
      | true =>
        have h : guardK (Nat.ble n ka.bits) (wrapK ka (Int.ofNat (Nat.mul m (Nat.pow 2 n))) fun r => k (.v (.one (.int ka r))) s) = true := h
        obtain ⟨hn, h⟩ := guardK_true h
        rw [Nat.ble_eq] at hn
        refine ⟨_, wrapK_true h, fun q => ⟨_, (show AR _ ρ (.v (.one (.int ka (ka.wrap (Int.ofNat (Nat.mul m (Nat.pow 2 n))))))) (.int ka (ka.wrap (Int.ofNat (Nat.mul m (Nat.pow 2 n))))) from rfl), fun w => ?_⟩⟩
        have e1 : _ = Value.int ka m := hc hg q
        have e2 : _ = Value.int kb n := hd hg q
        have e3 : (m : Int) * 2 ^ n = Int.ofNat (Nat.mul m (Nat.pow 2 n)) := by show _ = ((m * 2 ^ n : Nat) : Int); push_cast; rfl
        have hmin : min n ka.bits = n := Nat.min_eq_left hn
        have run : (Op.shift .shl ka (m : Int) kb (n : Int)).run P w = .ok (.int ka (ka.wrap (Int.ofNat (Nat.mul m (Nat.pow 2 n))))) w := by
          unfold Op.shift
          rw [if_neg (by omega)]
          simp only [Int.toNat_natCast, hmin]
          rw [e3]; rfl
        have eg := eg w
        simp only [shBin] at eg ho
        simp [execOp, ho, e1, e2, eg, binOp, run]
theorem not_sem (hg : g = ρ.gl.isSome) {ty : TypeId} {x : Operand} {xa : XA} (hx : xaOf g x = some xa) (ho : o.op = .unOp .not ty x) (h : notF xa t s k = true) : ∃ v, k v s = true ∧ WSem P ρ o t v := by
  obtain ⟨c, h, hc⟩ := ev1K_sound hx h
  obtain ⟨b, rfl, h⟩ := isBoo_true h
  refine ⟨_, boolK_true h, fun q => ⟨_, (show AR _ ρ (.v (.one (.bool (Bool.not b)))) (.bool (Bool.not b)) from rfl), fun w => ?_⟩⟩
  have e1 : _ = Value.bool b := hc hg q
  simp [execOp, ho, e1, Op.unary]
theorem neg_sem (hg : g = ρ.gl.isSome) {ty : TypeId} {x : Operand} {xa : XA} (hx : xaOf g x = some xa) (ho : o.op = .unOp .neg ty x) (h : negF xa t s k = true) : ∃ v, k v s = true ∧ WSem P ρ o t v := by
  obtain ⟨c, h, hc⟩ := ev1K_sound hx h
  obtain ⟨kd, n, rfl, h⟩ := isInt_true h
  refine ⟨_, wrapK_true h, fun q => ⟨_, (show AR _ ρ (.v (.one (.int kd (kd.wrap (0 - n))))) (.int kd (kd.wrap (0 - n))) from rfl), fun w => ?_⟩⟩
  have e1 : _ = Value.int kd n := hc hg q
  simp [execOp, ho, e1, Op.unary, Op.intArith]
theorem conv_sem (hg : g = ρ.gl.isSome) (hi : IvOK ρ s.iv) {a b : TypeId} {d : TypeDesc} {kd : IntKind} {x : Operand} {xa : XA} (hx : xaOf g x = some xa) (ha : P.underlying a = some d) (hb : P.underlying b = some (.int kd)) (ho : o.op = .convert a b x) (h : convF kd xa t s k = true) :
    ∃ v, k v s = true ∧ WSem P ρ o t v := by
  obtain ⟨c, h1, hc⟩ := ev1K_sound hx h
  rcases numK_true h1 with ⟨ka, n, rfl, h2⟩ | ⟨ka, aa, sy, cc, rfl, h2⟩
  · refine ⟨_, wrapK_true h2, fun q => ⟨_, (show AR _ ρ (.v (.one (.int kd (kd.wrap n)))) (.int kd (kd.wrap n)) from rfl), fun w => ?_⟩⟩
    have e1 : _ = Value.int ka n := hc hg q
    simp [execOp, ho, e1, convert, r_und ha, r_und hb, Conv.intToInt]
  · obtain ⟨h3, h4⟩ := linK_true hi h2
    refine ⟨_, h3, fun q => ⟨.int kd (aa * ρ.val sy + cc), rfl, fun w => ?_⟩⟩
    have e1 : _ = Value.int ka (aa * ρ.val sy + cc) := hc hg q
    simp [execOp, ho, e1, convert, r_und ha, r_und hb, Conv.intToInt, wrap_in h4]
end Go.Rse
