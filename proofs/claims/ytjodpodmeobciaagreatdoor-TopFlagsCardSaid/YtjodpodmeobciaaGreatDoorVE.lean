/- An executor over a program's operations: numbers. Conditions: none. -/
import Derived.Test.YtjodpodmeobciaaGreatDoorVF
namespace Go.Rsf
open Go.RowKit
set_option linter.unusedVariables false
set_option linter.unusedSimpArgs false

theorem guardK_true {b r : Bool} (h : guardK b r = true) : b = true ∧ r = true := by rw [guardK_eq] at h; simpa using h
theorem natK_true {n : Nat} {k : Nat → Bool} (h : natK n k = true) : k n = true := by rw [natK_eq] at h; exact h
theorem intK_true {n : Int} {k : Int → Bool} (h : intK n k = true) : k n = true := by rw [intK_eq] at h; exact h
theorem boolK_true {n : Bool} {k : Bool → Bool} (h : boolK n k = true) : k n = true := by rw [boolK_eq] at h; exact h
theorem kindB_true {a b : IntKind} (h : kindB a b = true) : a = b := by cases a <;> cases b <;> first | rfl | cases h
theorem ileB_eq (a b : Int) : ileB a b = decide (a ≤ b) := by
  cases a with
  | ofNat m => cases b with
    | ofNat n =>
      show Nat.ble m n = _
      rw [Bool.eq_iff_iff, Nat.ble_eq, decide_eq_true_iff]
      exact Int.ofNat_le.symm
    | negSucc n => show false = _; symm; rw [decide_eq_false_iff_not]; have := Int.negSucc_lt_zero n; simp only [Int.ofNat_eq_natCast]; omega
  | negSucc m => cases b with
    | ofNat n => show true = _; symm; rw [decide_eq_true_iff]; have := Int.negSucc_lt_zero m; simp only [Int.ofNat_eq_natCast]; omega
    | negSucc n =>
      show Nat.ble n m = _
      rw [Bool.eq_iff_iff, Nat.ble_eq, decide_eq_true_iff]
      simp only [Int.negSucc_eq]; omega
theorem ieqB_eq (a b : Int) : ieqB a b = decide (a = b) := by
  cases a with
  | ofNat m => cases b with
    | ofNat n =>
      show Nat.beq m n = _
      rw [Bool.eq_iff_iff, Nat.beq_eq, decide_eq_true_iff]
      simp only [Int.ofNat_eq_natCast]; omega
    | negSucc n => show false = _; symm; rw [decide_eq_false_iff_not]; simp
  | negSucc m => cases b with
    | ofNat n => show false = _; symm; rw [decide_eq_false_iff_not]; simp
    | negSucc n =>
      show Nat.beq n m = _
      rw [Bool.eq_iff_iff, Nat.beq_eq, decide_eq_true_iff]
      simp [eq_comm]
theorem inB_iff (k : IntKind) (n : Int) : inB k n = true ↔ kmin k ≤ n ∧ n ≤ kmax k := by
  unfold inB
  rw [ileB_eq, ileB_eq]
  by_cases h : kmin k ≤ n <;> by_cases h' : n ≤ kmax k <;> simp [h, h']
theorem wrap_in {k : IntKind} {n : Int} (h : inB k n = true) : k.wrap n = n := by
  rw [inB_iff] at h
  cases k <;> simp [kmin, kmax] at h <;> simp [IntKind.wrap, IntKind.signed, IntKind.bits] <;> omega
theorem wrapK_true {k : IntKind} {n : Int} {f : Int → Bool} (h : wrapK k n f = true) : f (k.wrap n) = true := by
  have h := intK_true h
  cases hb : inB k n with
  | true => rw [wrap_in hb]; rw [hb] at h; exact h
  | false => rw [hb] at h; exact intK_true h
def AOp.bin : AOp → BinOp | .add => .add | .sub => .sub | .mul => .mul | .quo => .quo | .rem => .rem | .and => .and | .or => .or | .andNot => .andNot
def COp.bin : COp → BinOp | .eql => .eql | .neq => .neq | .lss => .lss | .leq => .leq | .gtr => .gtr | .geq => .geq
theorem bitK_true {f : Nat → Nat → Nat} {k : IntKind} {a b : Int} {r : Int → Bool} (h : bitK f k a b r = true) :
    ∃ m n : Nat, a = m ∧ b = n ∧ inB k m = true ∧ inB k n = true ∧ inB k (f m n : Nat) = true ∧ r (f m n : Nat) = true := by
  cases a with
  | negSucc _ => cases h
  | ofNat m => cases b with
    | negSucc _ => cases h
    | ofNat n =>
      have h : guardK (inB k (Int.ofNat m)) (guardK (inB k (Int.ofNat n)) (natK (f m n) fun x => guardK (inB k (Int.ofNat x)) (r (Int.ofNat x)))) = true := h
      obtain ⟨h1, h⟩ := guardK_true h
      obtain ⟨h2, h⟩ := guardK_true h
      obtain ⟨h3, h⟩ := guardK_true (natK_true h)
      exact ⟨m, n, rfl, rfl, h1, h2, h3, h⟩
theorem lt_bits {k : IntKind} {m : Nat} (h : inB k m = true) : m < 2 ^ k.bits := by
  rw [inB_iff] at h
  cases k <;> simp [kmin, kmax] at h <;> simp [IntKind.bits] <;> omega
theorem ofInt_nat {k : IntKind} {m : Nat} (h : inB k m = true) : (BitVec.ofInt k.bits (m : Int)).toNat = m := by
  have := lt_bits h
  rw [BitVec.ofInt_natCast, BitVec.toNat_ofNat, Nat.mod_eq_of_lt this]
section
variable {P : Program} {w : World}
theorem eqGuard_ints (op : BinOp) (t : TypeId) (x y : Operand) (k k' : IntKind) (a b : Int) : (eqGuard op t x y (.int k a) (.int k' b)).run P w = .ok () w := by
  unfold eqGuard
  cases op <;> rfl
theorem arithK_true {op : AOp} {k : IntKind} {a b : Int} {f : Int → Bool} (h : arithK op k a b f = true) (t : TypeId) :
    ∃ r, f r = true ∧ ∀ w, (binOp op.bin t (.int k a) (.int k b)).run P w = .ok (.int k r) w := by
  cases op with
  | add => exact ⟨_, wrapK_true (show wrapK k (a + b) f = true from h), fun w => by simp [AOp.bin, binOp, Op.intArith]⟩
  | sub => exact ⟨_, wrapK_true (show wrapK k (a - b) f = true from h), fun w => by simp [AOp.bin, binOp, Op.intArith]⟩
  | mul => exact ⟨_, wrapK_true (show wrapK k (a * b) f = true from h), fun w => by simp [AOp.bin, binOp, Op.intArith]⟩
  | quo =>
    have hb : ieqB b (Int.ofNat 0) = false := by
      cases hb : ieqB b (Int.ofNat 0) with
      | false => rfl
      | true => have h : @Bool.rec (fun _ => Bool) (wrapK k (Int.tdiv a b) f) false (ieqB b (Int.ofNat 0)) = true := h; rw [hb] at h; cases h
    have h : @Bool.rec (fun _ => Bool) (wrapK k (Int.tdiv a b) f) false (ieqB b (Int.ofNat 0)) = true := h
    rw [hb] at h
    rw [ieqB_eq, decide_eq_false_iff_not] at hb
    have hb : b ≠ 0 := hb
    exact ⟨_, wrapK_true h, fun w => by simp [AOp.bin, binOp, Op.intDiv, hb]⟩
  | rem =>
    have hb : ieqB b (Int.ofNat 0) = false := by
      cases hb : ieqB b (Int.ofNat 0) with
      | false => rfl
      | true => have h : @Bool.rec (fun _ => Bool) (intK (Int.tmod a b) f) false (ieqB b (Int.ofNat 0)) = true := h; rw [hb] at h; cases h
    have h : @Bool.rec (fun _ => Bool) (intK (Int.tmod a b) f) false (ieqB b (Int.ofNat 0)) = true := h
    rw [hb] at h
    rw [ieqB_eq, decide_eq_false_iff_not] at hb
    have hb : b ≠ 0 := hb
    exact ⟨_, intK_true h, fun w => by simp [AOp.bin, binOp, Op.intDiv, hb]⟩
  | and =>
    obtain ⟨m, n, rfl, rfl, h1, h2, h3, h4⟩ := bitK_true (show bitK Nat.land k a b f = true from h)
    refine ⟨_, h4, fun w => ?_⟩
    have : ((BitVec.ofInt k.bits (m : Int) &&& BitVec.ofInt k.bits (n : Int)).toNat : Int) = (Nat.land m n : Nat) := by
      rw [BitVec.toNat_and, ofInt_nat h1, ofInt_nat h2]; rfl
    simp only [AOp.bin, binOp, ne_eq, not_true_eq_false, if_false, Op.intBits, Sem.run_pure]
    rw [this, wrap_in h3]
  | or =>
    obtain ⟨m, n, rfl, rfl, h1, h2, h3, h4⟩ := bitK_true (show bitK Nat.lor k a b f = true from h)
    refine ⟨_, h4, fun w => ?_⟩
    have : ((BitVec.ofInt k.bits (m : Int) ||| BitVec.ofInt k.bits (n : Int)).toNat : Int) = (Nat.lor m n : Nat) := by
      rw [BitVec.toNat_or, ofInt_nat h1, ofInt_nat h2]; rfl
    simp only [AOp.bin, binOp, ne_eq, not_true_eq_false, if_false, Op.intBits, Sem.run_pure]
    rw [this, wrap_in h3]
  | andNot =>
    obtain ⟨m, n, rfl, rfl, h1, h2, h3, h4⟩ := bitK_true (show bitK notAnd k a b f = true from h)
    refine ⟨_, h4, fun w => ?_⟩
    have : ((BitVec.ofInt k.bits (m : Int) &&& ~~~ BitVec.ofInt k.bits (n : Int)).toNat : Int) = (notAnd m n : Nat) := by
      have e : BitVec.ofInt k.bits (m : Int) &&& ~~~ BitVec.ofInt k.bits (n : Int) = BitVec.ofInt k.bits (m : Int) ^^^ (BitVec.ofInt k.bits (m : Int) &&& BitVec.ofInt k.bits (n : Int)) := by
        apply BitVec.eq_of_getLsbD_eq
        intro i hi
        simp only [BitVec.getLsbD_and, BitVec.getLsbD_not, BitVec.getLsbD_xor, hi, decide_true, Bool.true_and]
        cases (BitVec.ofInt k.bits (m : Int)).getLsbD i <;> cases (BitVec.ofInt k.bits (n : Int)).getLsbD i <;> rfl
      rw [e, BitVec.toNat_xor, BitVec.toNat_and, ofInt_nat h1, ofInt_nat h2]; rfl
    simp only [AOp.bin, binOp, ne_eq, not_true_eq_false, if_false, Op.intBits, Sem.run_pure]
    rw [this, wrap_in h3]
theorem cmpB_run (op : COp) (t : TypeId) (k : IntKind) (a b : Int) : (binOp op.bin t (.int k a) (.int k b)).run P w = .ok (.bool (cmpB op a b)) w := by
  cases op <;> simp [COp.bin, binOp, Op.intCmp, cmpB, ieqB_eq, ileB_eq]
  · rfl
  · rw [Bool.eq_iff_iff]; simp
  · rw [Bool.eq_iff_iff]; simp
  · rw [Bool.eq_iff_iff]; simp
end
variable {P : Program} {ρ : Rho} {g : Bool} {o : Oper} {t : Ts} {s : St} {k : KVS}
theorem setIv_eq (s : St) (iv : List Iv) : s.setIv iv = ⟨s.heap, s.next, s.cnt, s.wlo, iv⟩ := by cases s; rfl
theorem nthIv_true : ∀ {l : List Iv} {n : Nat} {k : Iv → Bool}, nthIv l n k = true → ∃ x, l[n]? = some x ∧ k x = true
  | [], n, k, h => by cases h
  | x :: l, 0, k, h => ⟨x, rfl, h⟩
  | x :: l, n + 1, k, h => by
    obtain ⟨y, h1, h2⟩ := nthIv_true (l := l) (n := n) (k := k) h
    exact ⟨y, by simpa using h1, h2⟩
theorem normK_true {iv : List Iv} (hi : IvOK ρ iv) {c : Cell} {k : Cell → Bool} (h : normK iv c k = true) : ∃ c', k c' = true ∧ ∀ {ν : Nu} {v : Value}, CR ν ρ c v → CR ν ρ c' v := by
  cases c <;> first | exact ⟨_, h, fun r => r⟩ | skip
  · rename_i kd a sy e
    obtain ⟨x, hx, h1⟩ := nthIv_true (show nthIv iv sy (fun x => @Bool.rec (fun _ => Bool) (k (.lin kd a sy e)) (intK (Int.add (Int.mul a x.lo) e) fun n => k (.int kd n)) (ieqB x.lo x.hi)) = true from h)
    cases hb : ieqB x.lo x.hi with
    | false => rw [hb] at h1; exact ⟨_, h1, fun r => r⟩
    | true =>
      rw [hb] at h1
      have h2 := intK_true h1
      rw [ieqB_eq] at hb
      have hb := of_decide_eq_true hb
      obtain ⟨⟨l, u⟩, _⟩ := hi sy x hx
      have ev : ρ.val sy = x.lo := by omega
      refine ⟨_, h2, fun {ν v} r => ?_⟩
      have r : v = .int kd (a * ρ.val sy + e) := r
      show v = .int kd (a * x.lo + e)
      rw [r, ev]
  · rename_i id off sy sz
    obtain ⟨x, hx, h1⟩ := nthIv_true (show nthIv iv sy (fun x => @Bool.rec (fun _ => Bool) (k (.slL id off sy sz)) (@Int.rec (fun _ => Bool) (fun n => k (.slU id off n sz)) (fun _ => false) x.lo) (ieqB x.lo x.hi)) = true from h)
    cases hb : ieqB x.lo x.hi with
    | false => rw [hb] at h1; exact ⟨_, h1, fun r => r⟩
    | true =>
      rw [hb] at h1
      rw [ieqB_eq] at hb
      have hb := of_decide_eq_true hb
      obtain ⟨⟨l, u⟩, _⟩ := hi sy x hx
      have ev : ρ.val sy = x.lo := by omega
      cases hl : x.lo with
      | negSucc _ => rw [hl] at h1; cases h1
      | ofNat n =>
        rw [hl] at h1
        refine ⟨_, h1, fun {ν v} r => ?_⟩
        obtain ⟨b, m, c, len, e1, e2, e3, e4, e5⟩ := r
        have e6 : len = n := by rw [ev, hl] at e4; exact Int.ofNat.inj e4
        subst e6
        exact ⟨b, m, c, e1, e2, e3, e5⟩
theorem setIvK_true : ∀ {l : List Iv} {n : Nat} {y : Iv} {k : List Iv → Bool}, setIvK l n y k = true → n < l.length ∧ k (l.set n y) = true
  | [], n, y, k, h => by cases h
  | x :: l, 0, y, k, h => ⟨by simp, h⟩
  | x :: l, n + 1, y, k, h => by
    obtain ⟨h1, h2⟩ := setIvK_true (l := l) (n := n) (y := y) (k := fun l => k (x :: l)) h
    exact ⟨by simp; omega, h2⟩
theorem linK_true {iv : List Iv} {k : IntKind} {a : Int} {sy : Nat} {c : Int} {f : Cell → Bool} (hi : IvOK ρ iv) (h : linK iv k a sy c f = true) : f (.lin k a sy c) = true ∧ inB k (a * ρ.val sy + c) = true := by
  obtain ⟨x, hx, h1⟩ := nthIv_true (intK_true (intK_true h))
  obtain ⟨h2, h3⟩ := guardK_true h1
  obtain ⟨h4, h5⟩ := guardK_true h3
  refine ⟨h5, ?_⟩
  have h2 : inB k (a * x.lo + c) = true := h2
  have h4 : inB k (a * x.hi + c) = true := h4
  rw [inB_iff] at h2 h4 ⊢
  obtain ⟨⟨l, u⟩, _⟩ := hi sy x hx
  rcases Int.le_total 0 a with ha | ha
  · have e1 := Int.mul_le_mul_of_nonneg_left l ha
    have e2 := Int.mul_le_mul_of_nonneg_left u ha
    omega
  · have e1 := Int.mul_le_mul_of_nonpos_left ha l
    have e2 := Int.mul_le_mul_of_nonpos_left ha u
    omega
theorem remLin_true {iv : List Iv} {k : IntKind} {a : Int} {sy : Nat} {c n : Int} {f : Cell → Bool} (hi : IvOK ρ iv) (h : remLin iv k a sy c n f = true) : n ≠ 0 ∧ ∃ r, f r = true ∧ ∀ ν, CR ν ρ r (.int k (Int.tmod (a * ρ.val sy + c) n)) := by
  cases ha : ieqB a (Int.ofNat 1) with
  | true =>
    have h0 : guardK (ieqB c (Int.ofNat 0)) (nthIv iv (Nat.succ sy) fun y => guardK (Nat.blt 0 y.md) (guardK (Nat.blt y.md LT) (guardK (ieqB n (Int.ofNat y.md)) (f (.lin k (Int.ofNat 1) (Nat.succ sy) (Int.ofNat 0)))))) = true := by
      unfold remLin at h; rw [ha] at h; exact h
    obtain ⟨hc, h1⟩ := guardK_true h0
    obtain ⟨y, hy, h2⟩ := nthIv_true h1
    obtain ⟨h3, h4⟩ := guardK_true h2
    obtain ⟨hlt, h4⟩ := guardK_true h4
    obtain ⟨h5, h6⟩ := guardK_true h4
    rw [ieqB_eq] at ha hc h5
    have ha := of_decide_eq_true ha
    have hc := of_decide_eq_true hc
    have h5 := of_decide_eq_true h5
    subst ha; subst hc; subst h5
    have h3 : 0 < y.md := Nat.le_of_ble_eq_true h3
    obtain ⟨_, hm⟩ := hi _ y hy
    have hlt : y.md < LT := Nat.le_of_ble_eq_true hlt
    obtain ⟨j, hj, e⟩ := hm.1 h3 hlt
    have hj : sy = j := by omega
    subst hj
    refine ⟨by show ((y.md : Nat) : Int) ≠ 0; omega, _, h6, fun ν => ?_⟩
    show Value.int k (Int.tmod (1 * ρ.val sy + 0) (y.md : Int)) = Value.int k (1 * ρ.val (Nat.succ sy) + 0)
    rw [show ρ.val (Nat.succ sy) = _ from e]
    simp
  | false =>
    have h0 : (nthIv iv sy fun x => guardK (ileB (Int.ofNat 0) x.lo) (@Int.rec (fun _ => Bool) (fun a => @Int.rec (fun _ => Bool) (fun c => @Int.rec (fun _ => Bool) (fun n => guardK (Nat.beq (Nat.mod a n) 0) (guardK (Nat.blt c n) (f (.int k (Int.ofNat c))))) (fun _ => false) n) (fun _ => false) c) (fun _ => false) a)) = true := by
      unfold remLin at h; rw [ha] at h; exact h
    obtain ⟨x, hx, h1⟩ := nthIv_true h0
    obtain ⟨h2, h3⟩ := guardK_true h1
    rw [ileB_eq] at h2
    have h4 : (0 : Int) ≤ x.lo := of_decide_eq_true h2
    have hv : 0 ≤ ρ.val sy := Int.le_trans h4 (hi sy x hx).1.1
    cases a with
    | negSucc _ => cases h3
    | ofNat a =>
      cases c with
      | negSucc _ => cases h3
      | ofNat c =>
        cases n with
        | negSucc _ => cases h3
        | ofNat n =>
          obtain ⟨e1, h5⟩ := guardK_true h3
          obtain ⟨e2, h6⟩ := guardK_true h5
          have e1 := Nat.eq_of_beq_eq_true e1
          have e2 : c < n := Nat.le_of_ble_eq_true e2
          refine ⟨by show ((n : Nat) : Int) ≠ 0; omega, _, h6, fun ν => ?_⟩
          have hd : n ∣ a := Nat.dvd_of_mod_eq_zero e1
          obtain ⟨q, rfl⟩ := hd
          have key : Int.tmod (((n * q : Nat) : Int) * ρ.val sy + (c : Int)) (n : Int) = (c : Int) := by
            have h0 : (0 : Int) ≤ ((n * q : Nat) : Int) * ρ.val sy + (c : Int) := Int.add_nonneg (Int.mul_nonneg (Int.natCast_nonneg _) hv) (Int.natCast_nonneg _)
            rw [Int.tmod_eq_emod_of_nonneg h0]
            have e3 : ((n * q : Nat) : Int) * ρ.val sy + (c : Int) = (c : Int) + (n : Int) * ((q : Int) * ρ.val sy) := by
              rw [Int.natCast_mul, Int.mul_assoc, Int.add_comm]
            rw [e3, Int.add_mul_emod_self_left]
            exact Int.emod_eq_of_lt (Int.natCast_nonneg _) (by omega)
          show Value.int k (Int.tmod (((n * q : Nat) : Int) * ρ.val sy + (c : Int)) (n : Int)) = Value.int k (c : Int)
          rw [key]
theorem wrapK_in {k : IntKind} {n : Int} {f : Int → Bool} (h : inB k n = true) (hf : f n = true) : wrapK k n f = true := by
  unfold wrapK
  rw [intK_eq]
  show @Bool.rec (fun _ => Bool) (intK (k.wrap n) f) (f n) (inB k n) = true
  rw [h]; exact hf
theorem bitK_in {f : Nat → Nat → Nat} {k : IntKind} {m n : Nat} {g : Int → Bool} (h1 : inB k m = true) (h2 : inB k n = true) (h3 : inB k (f m n : Nat) = true) (h : g (f m n : Nat) = true) : bitK f k m n g = true := by
  show guardK (inB k (Int.ofNat m)) (guardK (inB k (Int.ofNat n)) (natK (f m n) fun x => guardK (inB k (Int.ofNat x)) (g (Int.ofNat x)))) = true
  rw [natK_eq, guardK_eq, guardK_eq, guardK_eq]
  simp only [Bool.and_eq_true]
  exact ⟨h1, h2, h3, h⟩
theorem mdB_true {kd x y md i : Nat} (h : mdB kd x y md = true) (hm : MdOK ρ i md) : DfOK ρ i x y kd := by
  have h : (Nat.blt LT md && (Nat.beq (Nat.mod (Nat.mod md LT) 8) kd && (Nat.beq (Nat.mod (Nat.div (Nat.mod md LT) 8) 256) x && Nat.beq (Nat.div (Nat.mod md LT) 2048) y))) = true := h
  simp only [Bool.and_eq_true] at h
  obtain ⟨h1, h2, h3, h4⟩ := h
  have h1 : LT < md := Nat.le_of_ble_eq_true h1
  have := hm.2.2 h1
  rw [show mdK md = kd from Nat.eq_of_beq_eq_true h2, show mdX md = x from Nat.eq_of_beq_eq_true h3, show mdY md = y from Nat.eq_of_beq_eq_true h4] at this
  exact this
theorem mdKB_true {kd md i : Nat} (h : mdKB kd md = true) (hm : MdOK ρ i md) : DfOK ρ i (mdX md) (mdY md) kd := by
  have h : (Nat.blt LT md && Nat.beq (Nat.mod (Nat.mod md LT) 8) kd) = true := h
  rw [Bool.and_eq_true] at h
  obtain ⟨h1, h2⟩ := h
  have h1 : LT < md := Nat.le_of_ble_eq_true h1
  have := hm.2.2 h1
  rw [show mdK md = kd from Nat.eq_of_beq_eq_true h2] at this
  exact this
theorem bitFind_true {iv : List Iv} (hi : IvOK ρ iv) {base : Nat} {n : Int} {r : Bool} : ∀ {q : Nat}, bitFind iv base n r q = true → r = true ∧ ∃ j, j < q ∧ n = ((2 ^ j : Nat) : Int) ∧ ρ.val (base + j) = 0
  | 0, h => by cases h
  | q + 1, h => by
    have h : @Bool.rec (fun _ => Bool) (bitFind iv base n r q) (nthIv iv (Nat.add base q) fun x => guardK (ieqB x.lo (Int.ofNat 0)) (guardK (ieqB x.hi (Int.ofNat 0)) r)) (ieqB n (Int.ofNat (Nat.pow 2 q))) = true := h
    cases hb : ieqB n (Int.ofNat (Nat.pow 2 q)) with
    | false =>
      rw [hb] at h
      obtain ⟨h1, j, h2, h3, h4⟩ := bitFind_true hi h
      exact ⟨h1, j, by omega, h3, h4⟩
    | true =>
      rw [hb] at h
      obtain ⟨x, hx, h1⟩ := nthIv_true h
      obtain ⟨e1, h2⟩ := guardK_true h1
      obtain ⟨e2, h3⟩ := guardK_true h2
      rw [ieqB_eq] at hb e1 e2
      have hb := of_decide_eq_true hb
      have e1 := of_decide_eq_true e1
      have e2 := of_decide_eq_true e2
      obtain ⟨⟨l, u⟩, _⟩ := hi _ x hx
      have l : x.lo ≤ ρ.val (base + q) := l
      have u : ρ.val (base + q) ≤ x.hi := u
      have e1 : x.lo = 0 := e1
      have e2 : x.hi = 0 := e2
      exact ⟨h3, q, by omega, hb, by omega⟩
theorem word_lt (ρ : Rho) (x : Nat) : wN (bitsOf ρ x) 16 < 65536 := wN_lt _ 16
theorem word_testBit (ρ : Rho) (x : Nat) {j : Nat} (hj : j < 15) : (wN (bitsOf ρ x) 16).testBit j = decide (ρ.val (x + j) = 1) := by
  rw [wN_bit]
  have h1 : j < 16 := by omega
  have h2 : ¬ j = 15 := by omega
  simp [bitsOf, h1, h2]
theorem orBit_true {iv : List Iv} {k : IntKind} {a : Int} {sy : Nat} {c n : Int} {f : Cell → Bool} (hi : IvOK ρ iv) (h : orBit iv k a sy c n f = true) :
    ∃ r z, f r = true ∧ (∀ ν, CR ν ρ r (.int k z)) ∧ ∀ g : Int → Bool, g z = true → arithK .or k (a * ρ.val sy + c) n g = true := by
  obtain ⟨ha, h1⟩ := guardK_true h
  obtain ⟨hc, h2⟩ := guardK_true h1
  obtain ⟨x, hx, h3⟩ := nthIv_true h2
  obtain ⟨hm, h4⟩ := guardK_true h3
  obtain ⟨h5, j, hj, hn, hb⟩ := bitFind_true hi h4
  rw [ieqB_eq] at ha hc
  have ha : a = 1 := of_decide_eq_true ha
  have hc : c = 0 := of_decide_eq_true hc
  subst ha; subst hc
  obtain ⟨h6, h7⟩ := linK_true hi h5
  have hd := mdKB_true hm (hi _ x hx).2
  have hw := word_nat hd
  have hbit : (wN (bitsOf ρ (mdX x.md)) 16).testBit j = false := by
    rw [word_testBit _ _ hj, decide_eq_false_iff_not]
    rw [show ρ.val (mdX x.md + j) = 0 from hb]; decide
  have h7 : inB k (1 * ρ.val sy + n) = true := h7
  rw [Int.one_mul, hw, hn] at h7
  have h8 := h7
  rw [inB_iff] at h8
  have hp : (0 : Int) < ((2 ^ j : Nat) : Int) := by have := Nat.two_pow_pos j; omega
  have hmin : kmin k ≤ 0 := by cases k <;> decide
  refine ⟨_, (wN (bitsOf ρ (mdX x.md)) 16 : Nat) + ((2 ^ j : Nat) : Int), h6, fun ν => ?_, fun g hg => ?_⟩
  · show Value.int k _ = .int k (1 * ρ.val sy + n)
    rw [Int.one_mul, hw, hn]
  · rw [Int.one_mul, Int.add_zero, hw, hn]
    have e : Nat.lor (wN (bitsOf ρ (mdX x.md)) 16) (2 ^ j) = wN (bitsOf ρ (mdX x.md)) 16 + 2 ^ j := or_bit hbit
    refine (show bitK Nat.lor k ((wN (bitsOf ρ (mdX x.md)) 16 : Nat) : Int) ((2 ^ j : Nat) : Int) g = true from bitK_in ?_ ?_ ?_ ?_)
    · rw [inB_iff]; omega
    · rw [inB_iff]; omega
    · rw [e]; push_cast; exact h7
    · rw [e]; push_cast; exact hg
/-- What a sum, a difference, a rest of a line is. -/
theorem linOp_true {op : AOp} {iv : List Iv} {k : IntKind} {a : Int} {sy : Nat} {c n : Int} {f : Cell → Bool} (hi : IvOK ρ iv) (h : linOp op iv k a sy c n f = true) :
    ∃ r z, f r = true ∧ (∀ ν, CR ν ρ r (.int k z)) ∧ ∀ g : Int → Bool, g z = true → arithK op k (a * ρ.val sy + c) n g = true := by
  cases op <;> first | (cases h; done) | skip
  · obtain ⟨h1, h2⟩ := linK_true hi (show linK iv k a sy (c + n) f = true from h)
    rw [← Int.add_assoc] at h2
    exact ⟨_, a * ρ.val sy + c + n, h1, fun ν => by show Value.int k _ = .int k (a * ρ.val sy + (c + n)); rw [Int.add_assoc], fun g hg => wrapK_in h2 hg⟩
  · obtain ⟨h1, h2⟩ := linK_true hi (show linK iv k a sy (c - n) f = true from h)
    have e : a * ρ.val sy + (c - n) = a * ρ.val sy + c - n := by omega
    rw [e] at h2
    exact ⟨_, a * ρ.val sy + c - n, h1, fun ν => by show Value.int k _ = .int k (a * ρ.val sy + (c - n)); rw [e], fun g hg => wrapK_in h2 hg⟩
  · obtain ⟨hn, r, hr, hc⟩ := remLin_true hi (show remLin iv k a sy c n f = true from h)
    refine ⟨r, _, hr, hc, fun g hg => ?_⟩
    have hne : ieqB n (Int.ofNat 0) = false := by rw [ieqB_eq]; exact decide_eq_false hn
    show @Bool.rec (fun _ => Bool) (intK (Int.tmod (a * ρ.val sy + c) n) g) false (ieqB n (Int.ofNat 0)) = true
    rw [hne]
    show intK _ g = true
    rw [intK_eq]; exact hg
  · exact orBit_true hi h
theorem unsigned_nat {k : IntKind} {z : Int} (hk : ieqB (kmin k) (Int.ofNat 0) = true) (h : inB k z = true) : ∃ m : Nat, z = m := by
  rw [ieqB_eq] at hk
  have hk : kmin k = 0 := of_decide_eq_true hk
  rw [inB_iff] at h
  exact ⟨z.toNat, by omega⟩
theorem zero_in (k : IntKind) : inB k (0 : Nat) = true := by cases k <;> rfl
theorem intOp_true {op : AOp} {iv : List Iv} {k : IntKind} {m a : Int} {sy : Nat} {c : Int} {f : Cell → Bool} (hi : IvOK ρ iv) (h : intOp op iv k m a sy c f = true) :
    ∃ r z, f r = true ∧ (∀ ν, CR ν ρ r (.int k z)) ∧ ∀ g : Int → Bool, g z = true → arithK op k m (a * ρ.val sy + c) g = true := by
  cases op <;> first | (cases h; done) | skip
  · obtain ⟨h1, h2⟩ := linK_true hi (show linK iv k a sy (m + c) f = true from h)
    have e : a * ρ.val sy + (m + c) = m + (a * ρ.val sy + c) := by omega
    rw [e] at h2
    exact ⟨_, m + (a * ρ.val sy + c), h1, fun ν => by show Value.int k _ = .int k (a * ρ.val sy + (m + c)); rw [e], fun g hg => wrapK_in h2 hg⟩
  · obtain ⟨h1, h2⟩ := linK_true hi (show linK iv k (0 - a) sy (m - c) f = true from h)
    have e : (0 - a) * ρ.val sy + (m - c) = m - (a * ρ.val sy + c) := by rw [Int.sub_mul]; omega
    rw [e] at h2
    exact ⟨_, m - (a * ρ.val sy + c), h1, fun ν => by show Value.int k _ = .int k ((0 - a) * ρ.val sy + (m - c)); rw [e], fun g hg => wrapK_in h2 hg⟩
  · obtain ⟨hm, h1⟩ := guardK_true h
    obtain ⟨hk, h2⟩ := guardK_true h1
    obtain ⟨h3, h4⟩ := linK_true hi h2
    rw [ieqB_eq] at hm
    have hm : m = 0 := of_decide_eq_true hm
    subst hm
    obtain ⟨q, hq⟩ := unsigned_nat hk h4
    refine ⟨_, 0, h3, fun ν => rfl, fun g hg => ?_⟩
    rw [hq] at h4 ⊢
    show bitK Nat.land k (0 : Nat) q g = true
    have e : Nat.land 0 q = 0 := Nat.zero_and q
    exact bitK_in (zero_in k) h4 (by rw [e]; exact zero_in k) (by rw [e]; exact hg)
  · obtain ⟨hm, h1⟩ := guardK_true h
    obtain ⟨hk, h2⟩ := guardK_true h1
    obtain ⟨h3, h4⟩ := linK_true hi h2
    rw [ieqB_eq] at hm
    have hm : m = 0 := of_decide_eq_true hm
    subst hm
    obtain ⟨q, hq⟩ := unsigned_nat hk h4
    refine ⟨_, a * ρ.val sy + c, h3, fun ν => rfl, fun g hg => ?_⟩
    rw [hq] at h4 hg ⊢
    show bitK Nat.lor k (0 : Nat) q g = true
    have e : Nat.lor 0 q = q := Nat.zero_or q
    exact bitK_in (zero_in k) h4 (by rw [e]; exact h4) (by rw [e]; exact hg)
theorem inB_mid {k : IntKind} {a b c : Int} (h1 : inB k a = true) (h2 : inB k c = true) (h3 : a ≤ b) (h4 : b ≤ c) : inB k b = true := by
  rw [inB_iff] at h1 h2 ⊢; omega
theorem andSy_true {iv : List Iv} {k : IntKind} {a : Int} {sy : Nat} {c b : Int} {sz : Nat} {d : Int} {f : Cell → Bool} (hi : IvOK ρ iv) (h : andSy iv k a sy c b sz d f = true) :
    ∃ r z, f r = true ∧ (∀ ν, CR ν ρ r (.int k z)) ∧ ∀ g : Int → Bool, g z = true → arithK .and k (a * ρ.val sy + c) (b * ρ.val sz + d) g = true := by
  obtain ⟨ha, h1⟩ := guardK_true h
  obtain ⟨hc, h2⟩ := guardK_true h1
  obtain ⟨hb, h3⟩ := guardK_true h2
  obtain ⟨hd, h4⟩ := guardK_true h3
  obtain ⟨hk, h5⟩ := guardK_true h4
  obtain ⟨x, hx, h6⟩ := nthIv_true h5
  obtain ⟨y, hy, h7⟩ := nthIv_true h6
  obtain ⟨x1, h8⟩ := guardK_true h7
  obtain ⟨x2, h9⟩ := guardK_true h8
  obtain ⟨y1, h10⟩ := guardK_true h9
  obtain ⟨y2, h11⟩ := guardK_true h10
  obtain ⟨z, hz, h12⟩ := nthIv_true h11
  obtain ⟨hm, h13⟩ := guardK_true h12
  rw [ieqB_eq] at ha hb hc hd
  have ha : a = 1 := of_decide_eq_true ha
  have hb : b = 1 := of_decide_eq_true hb
  have hc : c = 0 := of_decide_eq_true hc
  have hd : d = 0 := of_decide_eq_true hd
  subst ha; subst hb; subst hc; subst hd
  obtain ⟨h14, h15⟩ := linK_true hi h13
  have hdf : DfOK ρ (sz + 16) sy sz 0 := mdB_true hm (hi _ z hz).2
  have bx := (hi _ x hx).1
  have byy := (hi _ y hy).1
  obtain ⟨p, hp⟩ := unsigned_nat hk (inB_mid x1 x2 bx.1 bx.2)
  obtain ⟨q, hq⟩ := unsigned_nat hk (inB_mid y1 y2 byy.1 byy.2)
  have ix := inB_mid x1 x2 bx.1 bx.2
  have iy := inB_mid y1 y2 byy.1 byy.2
  have hv : ρ.val (sz + 16) = (Nat.land p q : Nat) := by
    have : ρ.val (sz + 16) = Int.ofNat (Nat.land (ρ.val sy).toNat (ρ.val sz).toNat) := hdf
    rw [this, hp, hq]; rfl
  have h15 : inB k (1 * ρ.val (sz + 16) + 0) = true := h15
  rw [Int.one_mul, Int.add_zero, hv] at h15
  refine ⟨_, (Nat.land p q : Nat), h14, fun ν => ?_, fun g hg => ?_⟩
  · show Value.int k _ = .int k (1 * ρ.val (sz + 16) + 0)
    rw [Int.one_mul, Int.add_zero, hv]
  · rw [Int.one_mul, Int.add_zero, Int.one_mul, Int.add_zero, hp, hq]
    rw [hp] at ix; rw [hq] at iy
    exact bitK_in ix iy h15 hg
theorem setIv_ok {iv : List Iv} {i : Nat} {x y : Iv} (hi : IvOK ρ iv) (hx : iv[i]? = some x) (hm : y.md = x.md) (h1 : y.lo ≤ ρ.val i) (h2 : ρ.val i ≤ y.hi) : IvOK ρ (iv.set i y) := by
  intro j z hz
  rw [List.getElem?_set] at hz
  by_cases e : i = j
  · subst e
    rw [if_pos rfl] at hz
    split at hz
    · cases hz; exact ⟨⟨h1, h2⟩, by rw [hm]; exact (hi _ x hx).2⟩
    · cases hz
  · rw [if_neg e] at hz; exact hi j z hz
theorem lowK_true {base : Nat} {k : List Iv → Int → Bool} (h01 : ∀ q, q < 15 → ρ.val (base + q) = 0 ∨ ρ.val (base + q) = 1) : ∀ {n p : Nat} {iv : List Iv}, IvOK ρ iv → p + n = 15 → (∀ i, i < p → ρ.val (base + i) = 0) → lowK base k n p iv = true →
    ∃ iv' q, IvOK ρ iv' ∧ k iv' ((2 ^ q : Nat) : Int) = true ∧ q ≤ 15 ∧ (∀ i, i < q → i < 15 → ρ.val (base + i) = 0) ∧ (q < 15 → ρ.val (base + q) = 1)
  | 0, p, iv, hi, hp, hz, h => ⟨iv, 15, hi, h, Nat.le_refl _, fun i h1 _ => hz i (by omega), fun h => absurd h (Nat.lt_irrefl _)⟩
  | n + 1, p, iv, hi, hp, hz, h => by
    obtain ⟨x, hx, h1⟩ := nthIv_true (show nthIv iv (base + p) (fun x => guardK (@Bool.rec (fun _ => Bool) true (setIvK iv (base + p) ⟨Int.ofNat 1, Int.ofNat 1, x.md⟩ fun iv => natK (Nat.pow 2 p) fun n => k iv (Int.ofNat n)) (ileB (Int.ofNat 1) x.hi))
      (@Bool.rec (fun _ => Bool) true (setIvK iv (base + p) ⟨Int.ofNat 0, Int.ofNat 0, x.md⟩ fun iv => natK (Nat.succ p) fun p => lowK base k n p iv) (ileB x.lo (Int.ofNat 0)))) = true from h)
    obtain ⟨h2, h3⟩ := guardK_true h1
    obtain ⟨⟨l, u⟩, _⟩ := hi _ x hx
    rcases h01 p (by omega) with e | e
    · have hb : ileB x.lo (Int.ofNat 0) = true := by rw [ileB_eq]; exact decide_eq_true (by show x.lo ≤ 0; omega)
      rw [hb] at h3
      obtain ⟨_, h4⟩ := setIvK_true (show setIvK iv (base + p) ⟨Int.ofNat 0, Int.ofNat 0, x.md⟩ (fun iv => natK (Nat.succ p) fun p => lowK base k n p iv) = true from h3)
      have h5 := natK_true h4
      exact lowK_true h01 (setIv_ok (y := ⟨Int.ofNat 0, Int.ofNat 0, x.md⟩) hi hx rfl (by show (0 : Int) ≤ _; omega) (by show _ ≤ (0 : Int); omega)) (by omega) (fun i hlt => by
        by_cases q : i = p
        · rw [q]; exact e
        · exact hz i (by omega)) h5
    · have hb : ileB (Int.ofNat 1) x.hi = true := by rw [ileB_eq]; exact decide_eq_true (by show (1 : Int) ≤ x.hi; omega)
      rw [hb] at h2
      obtain ⟨_, h4⟩ := setIvK_true (show setIvK iv (base + p) ⟨Int.ofNat 1, Int.ofNat 1, x.md⟩ (fun iv => natK (Nat.pow 2 p) fun n => k iv (Int.ofNat n)) = true from h2)
      have h5 := natK_true h4
      exact ⟨_, p, setIv_ok (y := ⟨Int.ofNat 1, Int.ofNat 1, x.md⟩) hi hx rfl (by show (1 : Int) ≤ _; omega) (by show _ ≤ (1 : Int); omega), h5, by omega, fun i h6 _ => hz i h6, fun _ => e⟩
theorem andLow_true {k : IntKind} {a : Int} {sy : Nat} {c b d : Int} {f : KVS} (hi : IvOK ρ s.iv) (h : andLow s k a sy c b d f = true) :
    ∃ iv z, f (.v (.one (.int k z))) (s.setIv iv) = true ∧ IvOK ρ iv ∧ ∀ g : Int → Bool, g z = true → arithK .and k (a * ρ.val sy + c) (b * ρ.val sy + d) g = true := by
  obtain ⟨hk, h0⟩ := guardK_true h
  obtain ⟨ha, h1⟩ := guardK_true h0
  obtain ⟨hc, h2⟩ := guardK_true h1
  obtain ⟨hb, h3⟩ := guardK_true h2
  obtain ⟨hd, h4⟩ := guardK_true h3
  obtain ⟨x, hx, h5⟩ := nthIv_true h4
  obtain ⟨hm, h6⟩ := guardK_true h5
  have hk := kindB_true hk
  rw [ieqB_eq] at ha hb hc hd
  have ha : a = 1 := of_decide_eq_true ha
  have hb : b = -1 := of_decide_eq_true hb
  have hc : c = 0 := of_decide_eq_true hc
  have hd : d = 18446744073709551616 := of_decide_eq_true hd
  subst hk; subst ha; subst hb; subst hc; subst hd
  have hdf := mdKB_true hm (hi _ x hx).2
  have hw := word_nat hdf
  obtain ⟨iv, q, hi2, hk2, hq, hz, ho⟩ := lowK_true (base := mdX x.md) (k := fun iv n => f (.v (.one (.int .u64 n))) (s.setIv iv)) hdf.1 hi rfl (fun i h => absurd h (Nat.not_lt_zero _)) h6
  refine ⟨iv, _, hk2, hi2, fun g hg => ?_⟩
  have hlt := word_lt ρ (mdX x.md)
  have hbit : (wN (bitsOf ρ (mdX x.md)) 16).testBit q = true := by
    by_cases e : q < 15
    · rw [word_testBit _ _ e, ho e]; rfl
    · have : q = 15 := by omega
      subst this
      rw [wN_bit]; simp [bitsOf]
  have hlow := low_bit (w := wN (bitsOf ρ (mdX x.md)) 16) (p := q) (fun i hi3 => by
    rw [word_testBit _ _ (by omega), hz i hi3 (by omega)]; rfl) hbit (by omega)
  have hpos : 0 < wN (bitsOf ρ (mdX x.md)) 16 := by
    rcases Nat.eq_zero_or_pos (wN (bitsOf ρ (mdX x.md)) 16) with e | e
    · rw [e] at hbit; simp at hbit
    · exact e
  have e2 : (-1 : Int) * ρ.val sy + 18446744073709551616 = ((2 ^ 64 - wN (bitsOf ρ (mdX x.md)) 16 : Nat) : Int) := by rw [hw]; omega
  rw [Int.one_mul, Int.add_zero, e2, hw]
  have hl2 : Nat.land (wN (bitsOf ρ (mdX x.md)) 16) (2 ^ 64 - wN (bitsOf ρ (mdX x.md)) 16) = 2 ^ q := hlow
  have hq2 : 2 ^ q ≤ 2 ^ 15 := Nat.pow_le_pow_right (by omega) hq
  refine bitK_in ?_ ?_ ?_ ?_
  · rw [inB_iff]; exact ⟨by show (0 : Int) ≤ _; omega, by show _ ≤ (18446744073709551615 : Int); omega⟩
  · rw [inB_iff]; exact ⟨by show (0 : Int) ≤ _; omega, by show _ ≤ (18446744073709551615 : Int); omega⟩
  · rw [hl2, inB_iff]; exact ⟨by show (0 : Int) ≤ _; omega, by show _ ≤ (18446744073709551615 : Int); omega⟩
  · rw [hl2]; exact hg
theorem ar_sem (hg : g = ρ.gl.isSome) (hi : IvOK ρ s.iv) {op : AOp} {ty ty' : TypeId} {x y : Operand} {xa ya : XA} (hx : xaOf g x = some xa) (hy : xaOf g y = some ya) (ho : o.op = .binOp op.bin ty x y ty') (h : arF op xa ya t s k = true) :
    ∃ v iv, k v (s.setIv iv) = true ∧ IvOK ρ iv ∧ WSem P ρ o t v := by
  have same : ∀ {v}, k v s = true → k v (s.setIv s.iv) = true := fun h => by rw [setIv_eq]; exact h
  obtain ⟨c, h1, hc⟩ := ev1K_sound hx h
  obtain ⟨d, h2, hd⟩ := ev1K_sound hy h1
  have fin : ∀ {ka : IntKind} {m n z : Int} {r : Cell}, (∀ {m' ν a}, MT m' ν ρ t a → a.eval x = .int ka m ∧ a.eval y = .int ka n) → (∀ ν, CR ν ρ r (.int ka z)) → (∀ g : Int → Bool, g z = true → arithK op ka m n g = true) → WSem P ρ o t (.v (.one r)) := by
    intro ka m n z r hv hr har
    obtain ⟨r2, hr2, run⟩ := arithK_true (P := P) (har (fun r => @decide (r = z) (Classical.propDecidable _)) (@decide_eq_true _ (Classical.propDecidable _) rfl)) ty
    have e3 : r2 = z := @of_decide_eq_true _ (Classical.propDecidable _) hr2
    subst e3
    intro m' ν a q
    obtain ⟨e1, e2⟩ := hv q
    exact ⟨.int ka r2, hr ν, fun w => by simp [execOp, ho, e1, e2, eqGuard_ints, run]⟩
  rcases numK_true h2 with ⟨ka, m, rfl, h3⟩ | ⟨ka, a, sy, cc, rfl, h3⟩
  · rcases numK_true h3 with ⟨kb, n, rfl, h4⟩ | ⟨kb, a, sy, cc, rfl, h4⟩
    · obtain ⟨e, h9⟩ := guardK_true h4
      have e := kindB_true e
      subst e
      obtain ⟨r, hr, run⟩ := arithK_true (P := P) h9 ty
      refine ⟨_, s.iv, same hr, hi, fun q => ⟨_, (show AR _ ρ (.v (.one (.int ka r))) (.int ka r) from rfl), fun w => ?_⟩⟩
      have e1 : _ = Value.int ka m := hc hg q
      have e2 : _ = Value.int ka n := hd hg q
      simp [execOp, ho, e1, e2, eqGuard_ints, run]
    · obtain ⟨e, h9⟩ := guardK_true h4
      have e := kindB_true e
      subst e
      obtain ⟨r, z, hr, hcr, har⟩ := intOp_true hi h9
      exact ⟨_, s.iv, same hr, hi, fin (fun q => ⟨hc hg q, hd hg q⟩) hcr har⟩
  · rcases numK_true h3 with ⟨kb, n, rfl, h4⟩ | ⟨kb, b, sz, d, rfl, h4⟩
    · obtain ⟨e, h9⟩ := guardK_true h4
      have e := kindB_true e
      subst e
      obtain ⟨x, hx, h10⟩ := nthIv_true h9
      cases hs : ieqB x.lo x.hi with
      | false =>
        rw [hs] at h10
        obtain ⟨r, z, hr, hcr, har⟩ := linOp_true hi h10
        exact ⟨_, s.iv, same hr, hi, fin (fun q => ⟨hc hg q, hd hg q⟩) hcr har⟩
      | true =>
        rw [hs] at h10
        rw [ieqB_eq] at hs
        have hs := of_decide_eq_true hs
        obtain ⟨⟨l, u⟩, _⟩ := hi sy x hx
        have ev : ρ.val sy = x.lo := by omega
        have h11 := intK_true (show intK (Int.add (Int.mul a x.lo) cc) (fun m => arithK op ka m n fun r => k (.v (.one (.int ka r))) s) = true from h10)
        have h12 : arithK op ka (a * ρ.val sy + cc) n (fun r => k (.v (.one (.int ka r))) s) = true := by rw [ev]; exact h11
        obtain ⟨r, hr, run⟩ := arithK_true (P := P) h12 ty
        refine ⟨_, s.iv, same hr, hi, fun q => ⟨_, (show AR _ ρ (.v (.one (.int ka r))) (.int ka r) from rfl), fun w => ?_⟩⟩
        have e1 : _ = Value.int ka (a * ρ.val sy + cc) := hc hg q
        have e2 : _ = Value.int ka n := hd hg q
        simp [execOp, ho, e1, e2, eqGuard_ints, run]
    · obtain ⟨e, h9⟩ := guardK_true h4
      have e := kindB_true e
      subst e
      cases op <;> first | (cases h9; done) | skip
      cases hs : Nat.beq sy sz with
      | false =>
        have h10 : @Bool.rec (fun _ => Bool) (andSy s.iv ka a sy cc b sz d fun r => k (.v (.one r)) s) (andLow s ka a sy cc b d k) (Nat.beq sy sz) = true := h9
        rw [hs] at h10
        obtain ⟨r, z, hr, hcr, har⟩ := andSy_true hi h10
        exact ⟨_, s.iv, same hr, hi, fin (fun q => ⟨hc hg q, hd hg q⟩) hcr har⟩
      | true =>
        have h10 : @Bool.rec (fun _ => Bool) (andSy s.iv ka a sy cc b sz d fun r => k (.v (.one r)) s) (andLow s ka a sy cc b d k) (Nat.beq sy sz) = true := h9
        rw [hs] at h10
        have e := Nat.eq_of_beq_eq_true hs
        subst e
        obtain ⟨iv, z, hr, hi2, har⟩ := andLow_true hi h10
        exact ⟨_, iv, hr, hi2, fin (r := .int ka z) (fun q => ⟨hc hg q, hd hg q⟩) (fun ν => rfl) har⟩
theorem imin_eq (a b : Int) : iminB a b = min a b := by
  unfold iminB
  rw [ileB_eq]
  by_cases h : a ≤ b
  · rw [decide_eq_true h, Int.min_eq_left h]
  · rw [decide_eq_false h, Int.min_eq_right (by omega)]
theorem imax_eq (a b : Int) : imaxB a b = max a b := by
  unfold imaxB
  rw [ileB_eq]
  by_cases h : a ≤ b
  · rw [decide_eq_true h, Int.max_eq_right h]
  · rw [decide_eq_false h, Int.max_eq_left (by omega)]
theorem brK_true {sy md : Nat} {r : Bool} {lo hi : Int} {x : Iv} (hiv : IvOK ρ s.iv) (hx : s.iv[sy]? = some x) (hmd : md = x.md) (h : brK s sy md k r lo hi = true) (h1 : lo ≤ ρ.val sy) (h2 : ρ.val sy ≤ hi) :
    ∃ iv, k (.v (.one (.bool r))) (s.setIv iv) = true ∧ IvOK ρ iv := by
  have h3 := intK_true (intK_true h)
  have hle : ileB lo hi = true := by rw [ileB_eq]; exact decide_eq_true (by omega)
  rw [hle] at h3
  obtain ⟨hlt, h4⟩ := setIvK_true (show setIvK s.iv sy ⟨lo, hi, md⟩ (fun iv => k (.v (.one (.bool r))) (s.setIv iv)) = true from h3)
  refine ⟨_, h4, fun i y hy => ?_⟩
  rw [List.getElem?_set] at hy
  split at hy
  · rename_i e
    subst e
    simp only [hlt, if_true, Option.some.injEq] at hy
    subst hy
    exact ⟨⟨h1, h2⟩, by
      have := (hiv sy x hx).2
      rw [← hmd] at this; exact this⟩
  · exact hiv i y hy
theorem ltF_true {sy : Nat} {r r' : Bool} {b : Int} {x : Iv} (hiv : IvOK ρ s.iv) (hx : s.iv[sy]? = some x) (h : ltF s sy k x r r' b = true) : ∃ iv, k (.v (.one (.bool (if ρ.val sy < b then r else r')))) (s.setIv iv) = true ∧ IvOK ρ iv := by
  obtain ⟨h1, h2⟩ := guardK_true h
  rw [imin_eq] at h1
  rw [imax_eq] at h2
  obtain ⟨⟨l, u⟩, _⟩ := hiv sy x hx
  by_cases hb : ρ.val sy < b
  · rw [if_pos hb]; exact brK_true hiv hx rfl h1 l (by show _ ≤ min x.hi (b - 1); omega)
  · rw [if_neg hb]; exact brK_true hiv hx rfl h2 (by omega) u
theorem eqF_true {sy : Nat} {r r' : Bool} {b : Int} {x : Iv} (hiv : IvOK ρ s.iv) (hx : s.iv[sy]? = some x) (h : eqF s sy k x r r' b = true) : ∃ iv, k (.v (.one (.bool (if ρ.val sy = b then r else r')))) (s.setIv iv) = true ∧ IvOK ρ iv := by
  obtain ⟨h1, h2⟩ := guardK_true h
  obtain ⟨h3, h4⟩ := guardK_true h2
  rw [imin_eq] at h1 h3
  rw [imax_eq] at h3 h4
  obtain ⟨⟨l, u⟩, _⟩ := hiv sy x hx
  by_cases hb : ρ.val sy = b
  · rw [if_pos hb]; exact brK_true hiv hx rfl h3 (by omega) (by omega)
  · rw [if_neg hb]
    by_cases hlt : ρ.val sy < b
    · exact brK_true hiv hx rfl h1 l (by show _ ≤ min x.hi (b - 1); omega)
    · exact brK_true hiv hx rfl h4 (by show max x.lo (b + 1) ≤ _; omega) u
/-- A TEST OF A SYMBOL: what is known behind it. -/
theorem forkK_true {op : COp} {sy : Nat} {b : Int} (hiv : IvOK ρ s.iv) (h : forkK op s sy b k = true) : ∃ iv, k (.v (.one (.bool (cmpB op (ρ.val sy) b)))) (s.setIv iv) = true ∧ IvOK ρ iv := by
  obtain ⟨x, hx, h1⟩ := nthIv_true (intK_true h)
  cases op with
  | eql =>
    obtain ⟨iv, h2, h3⟩ := eqF_true hiv hx h1
    refine ⟨iv, ?_, h3⟩
    rw [show cmpB .eql (ρ.val sy) b = ieqB (ρ.val sy) b from rfl, ieqB_eq]
    by_cases e : ρ.val sy = b <;> simp only [e, if_true, if_false] at h2 <;> simpa [e] using h2
  | neq =>
    obtain ⟨iv, h2, h3⟩ := eqF_true hiv hx h1
    refine ⟨iv, ?_, h3⟩
    rw [show cmpB .neq (ρ.val sy) b = Bool.not (ieqB (ρ.val sy) b) from rfl, ieqB_eq]
    by_cases e : ρ.val sy = b <;> simp only [e, if_true, if_false] at h2 <;> simpa [e] using h2
  | lss =>
    obtain ⟨iv, h2, h3⟩ := ltF_true hiv hx h1
    refine ⟨iv, ?_, h3⟩
    rw [show cmpB .lss (ρ.val sy) b = Bool.not (ileB b (ρ.val sy)) from rfl, ileB_eq]
    by_cases e : ρ.val sy < b
    · rw [if_pos e] at h2; rw [decide_eq_false (by omega)]; exact h2
    · rw [if_neg e] at h2; rw [decide_eq_true (by omega)]; exact h2
  | leq =>
    obtain ⟨iv, h2, h3⟩ := ltF_true hiv hx h1
    refine ⟨iv, ?_, h3⟩
    have h2 : k (.v (.one (.bool (if ρ.val sy < b + 1 then true else false)))) (s.setIv iv) = true := h2
    rw [show cmpB .leq (ρ.val sy) b = ileB (ρ.val sy) b from rfl, ileB_eq]
    by_cases e : ρ.val sy < b + 1
    · rw [if_pos e] at h2; rw [decide_eq_true (by omega)]; exact h2
    · rw [if_neg e] at h2; rw [decide_eq_false (by omega)]; exact h2
  | gtr =>
    obtain ⟨iv, h2, h3⟩ := ltF_true hiv hx h1
    refine ⟨iv, ?_, h3⟩
    have h2 : k (.v (.one (.bool (if ρ.val sy < b + 1 then false else true)))) (s.setIv iv) = true := h2
    rw [show cmpB .gtr (ρ.val sy) b = Bool.not (ileB (ρ.val sy) b) from rfl, ileB_eq]
    by_cases e : ρ.val sy < b + 1
    · rw [if_pos e] at h2; rw [decide_eq_true (by omega)]; exact h2
    · rw [if_neg e] at h2; rw [decide_eq_false (by omega)]; exact h2
  | geq =>
    obtain ⟨iv, h2, h3⟩ := ltF_true hiv hx h1
    refine ⟨iv, ?_, h3⟩
    rw [show cmpB .geq (ρ.val sy) b = ileB b (ρ.val sy) from rfl, ileB_eq]
    by_cases e : ρ.val sy < b
    · rw [if_pos e] at h2; rw [decide_eq_false (by omega)]; exact h2
    · rw [if_neg e] at h2; rw [decide_eq_true (by omega)]; exact h2
theorem cmpB_shift (op : COp) (v c n : Int) : cmpB op v (n - c) = cmpB op (v + c) n := by
  have h1 : ∀ a b a' b' : Int, (a ≤ b ↔ a' ≤ b') → ileB a b = ileB a' b' := fun a b a' b' h => by rw [ileB_eq, ileB_eq]; exact decide_eq_decide.2 h
  have h2 : ieqB v (n - c) = ieqB (v + c) n := by rw [ieqB_eq, ieqB_eq]; exact decide_eq_decide.2 (by omega)
  cases op
  · exact h2
  · exact congrArg Bool.not h2
  · exact congrArg Bool.not (h1 _ _ _ _ (by omega))
  · exact h1 _ _ _ _ (by omega)
  · exact congrArg Bool.not (h1 _ _ _ _ (by omega))
  · exact h1 _ _ _ _ (by omega)
theorem cmpB_flip (op : COp) (a b : Int) : cmpB (flipC op) a b = cmpB op b a := by
  have h2 : ieqB a b = ieqB b a := by rw [ieqB_eq, ieqB_eq]; exact decide_eq_decide.2 eq_comm
  cases op
  · exact h2
  · exact congrArg Bool.not h2
  all_goals rfl
theorem br2K_true {r : Bool} {x y : Nat} {mx my : Nat} {lx hx ly hy : Int} {X Y : Iv} (hiv : IvOK ρ s.iv) (hX : s.iv[x]? = some X) (hY : s.iv[y]? = some Y) (hne : x ≠ y) (e1 : MdOK ρ x mx) (e2 : my = Y.md) (h : br2K s k r x mx lx hx y my ly hy = true)
    (h1 : lx ≤ ρ.val x) (h2 : ρ.val x ≤ hx) (h3 : ly ≤ ρ.val y) (h4 : ρ.val y ≤ hy) : ∃ iv, k (.v (.one (.bool r))) (s.setIv iv) = true ∧ IvOK ρ iv := by
  have h5 := intK_true (intK_true (intK_true (intK_true h)))
  have hle : ileB lx hx = true := by rw [ileB_eq]; exact decide_eq_true (by omega)
  have hle2 : ileB ly hy = true := by rw [ileB_eq]; exact decide_eq_true (by omega)
  rw [hle, hle2] at h5
  obtain ⟨hlt, h6⟩ := setIvK_true (show setIvK s.iv x ⟨lx, hx, mx⟩ (fun iv => setIvK iv y ⟨ly, hy, my⟩ fun iv => k (.v (.one (.bool r))) (s.setIv iv)) = true from h5)
  obtain ⟨hlt2, h7⟩ := setIvK_true h6
  refine ⟨_, h7, fun i z hz => ?_⟩
  rw [List.getElem?_set] at hz
  split at hz
  · rename_i e
    subst e
    simp only [hlt2, if_true, Option.some.injEq] at hz
    subst hz
    exact ⟨⟨h3, h4⟩, by
      have := (hiv y Y hY).2
      rw [← e2] at this; exact this⟩
  · rw [List.getElem?_set] at hz
    split at hz
    · rename_i e
      subst e
      simp only [hlt, if_true, Option.some.injEq] at hz
      subst hz
      exact ⟨⟨h1, h2⟩, e1⟩
    · exact hiv i z hz
theorem leK_true {r : Bool} {x y : Nat} {X Y : Iv} {d : Int} (hiv : IvOK ρ s.iv) (hX : s.iv[x]? = some X) (hY : s.iv[y]? = some Y) (hne : x ≠ y) (h : leK s k r x X y Y d = true) (hd : ρ.val x + d ≤ ρ.val y) :
    ∃ iv, k (.v (.one (.bool r))) (s.setIv iv) = true ∧ IvOK ρ iv := by
  obtain ⟨⟨l, u⟩, _⟩ := hiv x X hX
  obtain ⟨⟨l', u'⟩, _⟩ := hiv y Y hY
  unfold leK at h
  rw [imin_eq, imax_eq] at h
  have hm : MdOK ρ x (@Bool.rec (fun _ => Nat) X.md LT (Bool.and (Nat.beq X.md 0) (Bool.and (Nat.beq y (Nat.succ x)) (ieqB d (Int.ofNat 1))))) := by
    cases hb : Bool.and (Nat.beq X.md 0) (Bool.and (Nat.beq y (Nat.succ x)) (ieqB d (Int.ofNat 1))) with
    | false => exact (hiv x X hX).2
    | true =>
      have hb2 : (Nat.beq X.md 0 && (Nat.beq y (Nat.succ x) && ieqB d (Int.ofNat 1))) = true := hb
      simp only [Bool.and_eq_true, ieqB_eq] at hb2
      have q1 := Nat.eq_of_beq_eq_true hb2.2.1
      have q2 : d = 1 := of_decide_eq_true hb2.2.2
      refine ⟨fun _ hn => absurd hn (Nat.lt_irrefl _), fun _ => ?_, fun hn => (Nat.lt_irrefl _ hn).elim⟩
      subst q1
      show ρ.val x < ρ.val (x + 1)
      have hd : ρ.val x + d ≤ ρ.val (x + 1) := hd
      omega
  exact br2K_true hiv hX hY hne hm rfl h l (by show _ ≤ min X.hi (Y.hi - d); omega) (by show max Y.lo (X.lo + d) ≤ _; omega) u'
theorem twoK_true {op : COp} {x y : Nat} {c e : Int} (hiv : IvOK ρ s.iv) (hne : x ≠ y) (h : twoK op s x c y e k = true) : ∃ iv, k (.v (.one (.bool (cmpB op (ρ.val x + c) (ρ.val y + e))))) (s.setIv iv) = true ∧ IvOK ρ iv := by
  obtain ⟨X, hX, h1⟩ := nthIv_true h
  obtain ⟨Y, hY, h2⟩ := nthIv_true h1
  have both : ∀ r : Bool, guardK (k (.v (.one (.bool true))) s) (k (.v (.one (.bool false))) s) = true → ∃ iv, k (.v (.one (.bool r))) (s.setIv iv) = true ∧ IvOK ρ iv := by
    intro r hh
    obtain ⟨g1, g2⟩ := guardK_true hh
    refine ⟨s.iv, ?_, hiv⟩
    rw [setIv_eq]
    cases r
    · exact g2
    · exact g1
  cases op with
  | eql => exact both _ h2
  | neq => exact both _ h2
  | lss =>
    obtain ⟨g1, g2⟩ := guardK_true h2
    rw [show cmpB .lss (ρ.val x + c) (ρ.val y + e) = Bool.not (ileB (ρ.val y + e) (ρ.val x + c)) from rfl, ileB_eq]
    by_cases q : ρ.val y + e ≤ ρ.val x + c
    · rw [decide_eq_true q]; exact leK_true hiv hY hX (Ne.symm hne) g2 (by show ρ.val y + (e - c) ≤ _; omega)
    · rw [decide_eq_false q]; exact leK_true hiv hX hY hne g1 (by show ρ.val x + (c - e + 1) ≤ _; omega)
  | leq =>
    obtain ⟨g1, g2⟩ := guardK_true h2
    rw [show cmpB .leq (ρ.val x + c) (ρ.val y + e) = ileB (ρ.val x + c) (ρ.val y + e) from rfl, ileB_eq]
    by_cases q : ρ.val x + c ≤ ρ.val y + e
    · rw [decide_eq_true q]; exact leK_true hiv hX hY hne g1 (by show ρ.val x + (c - e) ≤ _; omega)
    · rw [decide_eq_false q]; exact leK_true hiv hY hX (Ne.symm hne) g2 (by show ρ.val y + (e - c + 1) ≤ _; omega)
  | gtr =>
    obtain ⟨g1, g2⟩ := guardK_true h2
    rw [show cmpB .gtr (ρ.val x + c) (ρ.val y + e) = Bool.not (ileB (ρ.val x + c) (ρ.val y + e)) from rfl, ileB_eq]
    by_cases q : ρ.val x + c ≤ ρ.val y + e
    · rw [decide_eq_true q]; exact leK_true hiv hX hY hne g2 (by show ρ.val x + (c - e) ≤ _; omega)
    · rw [decide_eq_false q]; exact leK_true hiv hY hX (Ne.symm hne) g1 (by show ρ.val y + (e - c + 1) ≤ _; omega)
  | geq =>
    obtain ⟨g1, g2⟩ := guardK_true h2
    rw [show cmpB .geq (ρ.val x + c) (ρ.val y + e) = ileB (ρ.val y + e) (ρ.val x + c) from rfl, ileB_eq]
    by_cases q : ρ.val y + e ≤ ρ.val x + c
    · rw [decide_eq_true q]; exact leK_true hiv hY hX (Ne.symm hne) g1 (by show ρ.val y + (e - c) ≤ _; omega)
    · rw [decide_eq_false q]; exact leK_true hiv hX hY hne g2 (by show ρ.val x + (c - e + 1) ≤ _; omega)
theorem linlin1_true {op : COp} {a b c e : Int} {x y : Nat} (hiv : IvOK ρ s.iv) (h : linlin1 op s a x c b y e k = true) : ∃ iv, k (.v (.one (.bool (cmpB op (a * ρ.val x + c) (b * ρ.val y + e))))) (s.setIv iv) = true ∧ IvOK ρ iv := by
  unfold linlin1 at h
  cases hs : Bool.and (Nat.beq x y) (ieqB a b) with
  | true =>
    rw [hs] at h
    have h1 := boolK_true (show boolK (cmpB op c e) (fun r => k (.v (.one (.bool r))) s) = true from h)
    have hs : (Nat.beq x y && ieqB a b) = true := hs
    rw [Bool.and_eq_true, ieqB_eq] at hs
    have e1 := Nat.eq_of_beq_eq_true hs.1
    have e2 := of_decide_eq_true hs.2
    subst e1; subst e2
    refine ⟨s.iv, ?_, hiv⟩
    rw [setIv_eq]
    have key : cmpB op c e = cmpB op (a * ρ.val x + c) (a * ρ.val x + e) := by
      rw [← cmpB_shift op (a * ρ.val x) c (a * ρ.val x + e)]
      have : a * ρ.val x + e - c = a * ρ.val x - (c - e) := by omega
      rw [this, cmpB_shift op (a * ρ.val x) (c - e) (a * ρ.val x)]
      have h3 : ∀ z : Int, cmpB op (z + (c - e)) z = cmpB op c e := by
        intro z
        have l : ∀ p q p' q' : Int, (p ≤ q ↔ p' ≤ q') → ileB p q = ileB p' q' := fun p q p' q' hh => by rw [ileB_eq, ileB_eq]; exact decide_eq_decide.2 hh
        have m : ieqB (z + (c - e)) z = ieqB c e := by rw [ieqB_eq, ieqB_eq]; exact decide_eq_decide.2 (by omega)
        cases op
        · exact m
        · exact congrArg Bool.not m
        · exact congrArg Bool.not (l _ _ _ _ (by omega))
        · exact l _ _ _ _ (by omega)
        · exact congrArg Bool.not (l _ _ _ _ (by omega))
        · exact l _ _ _ _ (by omega)
      exact (h3 _).symm
    rw [← key]; exact h1
  | false =>
    rw [hs] at h
    obtain ⟨g1, h2⟩ := guardK_true h
    obtain ⟨g2, h3⟩ := guardK_true h2
    obtain ⟨g3, h4⟩ := guardK_true h3
    rw [ieqB_eq] at g1 g2
    have g1 : a = 1 := of_decide_eq_true g1
    have g2 : b = 1 := of_decide_eq_true g2
    subst g1; subst g2
    rw [Int.one_mul, Int.one_mul]
    refine twoK_true hiv (fun q => ?_) h4
    subst q
    rw [Nat.beq_refl] at g3; cases g3
theorem tellK_true {sy : Nat} {r r' : Bool} (hiv : IvOK ρ s.iv) (h01 : ρ.val sy = 0 ∨ ρ.val sy = 1) (h : tellK s sy k r r' = true) : ∃ iv, k (.v (.one (.bool (if ρ.val sy = 1 then r else r')))) (s.setIv iv) = true ∧ IvOK ρ iv := by
  obtain ⟨x, hx, h1⟩ := nthIv_true h
  obtain ⟨h2, h3⟩ := guardK_true h1
  rw [imin_eq] at h2
  rw [imax_eq] at h3
  obtain ⟨⟨l, u⟩, _⟩ := hiv sy x hx
  rcases h01 with e | e
  · rw [e, if_neg (by decide)]
    exact brK_true hiv hx rfl h2 l (by show _ ≤ min x.hi 0; omega)
  · rw [e, if_pos rfl]
    exact brK_true hiv hx rfl h3 (by show max x.lo 1 ≤ _; omega) u
theorem eqOnly_true {op : COp} {r : Bool → Bool} (h : eqOnly op r = true) : (op = .eql ∧ r true = true) ∨ (op = .neq ∧ r false = true) := by
  cases op <;> first | exact .inl ⟨rfl, h⟩ | exact .inr ⟨rfl, h⟩ | cases h
theorem toldB_true {kd : Nat} {op : COp} {c : Int} {x : Nat} {e : Int} {y : Nat} (hiv : IvOK ρ s.iv) (h : toldB kd s.iv op c x e y = true) : c = 0 ∧ e = 0 ∧ DfOK ρ (x + 16) x y kd := by
  have h : (isEq op && (ieqB c (Int.ofNat 0) && (ieqB e (Int.ofNat 0) && nthIv s.iv (Nat.add x 16) fun z => mdB kd x y z.md))) = true := h
  simp only [Bool.and_eq_true, ieqB_eq] at h
  obtain ⟨_, h1, h2, h3⟩ := h
  obtain ⟨z, hz, h4⟩ := nthIv_true h3
  exact ⟨of_decide_eq_true h1, of_decide_eq_true h2, mdB_true h4 (hiv _ z hz).2⟩
theorem linlin_true {op : COp} {a b c e : Int} {x y : Nat} (hiv : IvOK ρ s.iv) (h : linlin op s a x c b y e k = true) : ∃ iv, k (.v (.one (.bool (cmpB op (a * ρ.val x + c) (b * ρ.val y + e))))) (s.setIv iv) = true ∧ IvOK ρ iv := by
  unfold linlin at h
  cases hs : Bool.and (ieqB a (Int.ofNat 1)) (ieqB b (Int.ofNat 1)) with
  | false => rw [hs] at h; exact linlin1_true hiv h
  | true =>
    rw [hs] at h
    have hs : (ieqB a (Int.ofNat 1) && ieqB b (Int.ofNat 1)) = true := hs
    rw [Bool.and_eq_true, ieqB_eq, ieqB_eq] at hs
    have ea : a = 1 := of_decide_eq_true hs.1
    have eb : b = 1 := of_decide_eq_true hs.2
    cases ht : toldB 1 s.iv op c x e y with
    | true =>
      rw [ht] at h
      obtain ⟨hc, he, hd⟩ := toldB_true hiv ht
      have hd : ρ.val (x + 16) = if ρ.val x = ρ.val y then 1 else 0 := hd
      have h01 : ρ.val (x + 16) = 0 ∨ ρ.val (x + 16) = 1 := by rw [hd]; split <;> simp
      subst ea; subst eb; subst hc; subst he
      rw [Int.one_mul, Int.one_mul, Int.add_zero, Int.add_zero]
      rcases eqOnly_true h with ⟨rfl, h1⟩ | ⟨rfl, h1⟩
      · obtain ⟨iv, h2, h3⟩ := tellK_true hiv h01 h1
        refine ⟨iv, ?_, h3⟩
        rw [show cmpB .eql (ρ.val x) (ρ.val y) = ieqB (ρ.val x) (ρ.val y) from rfl, ieqB_eq]
        rw [show ρ.val (Nat.add x 16) = _ from hd] at h2
        by_cases q : ρ.val x = ρ.val y <;> simp only [q, if_true, if_false] at h2 ⊢ <;> simpa using h2
      · obtain ⟨iv, h2, h3⟩ := tellK_true hiv h01 h1
        refine ⟨iv, ?_, h3⟩
        rw [show cmpB .neq (ρ.val x) (ρ.val y) = Bool.not (ieqB (ρ.val x) (ρ.val y)) from rfl, ieqB_eq]
        rw [show ρ.val (Nat.add x 16) = _ from hd] at h2
        by_cases q : ρ.val x = ρ.val y <;> simp only [q, if_true, if_false] at h2 ⊢ <;> simpa using h2
    | false =>
      rw [ht] at h
      cases hq : sameB s.iv op c x e y with
      | false =>
        have h : @Bool.rec (fun _ => Bool) (linlin1 op s a x c b y e k) (eqOnly op fun r => k (.v (.one (.bool r))) s) (sameB s.iv op c x e y) = true := h
        rw [hq] at h
        exact linlin1_true hiv h
      | true =>
        have h : @Bool.rec (fun _ => Bool) (linlin1 op s a x c b y e k) (eqOnly op fun r => k (.v (.one (.bool r))) s) (sameB s.iv op c x e y) = true := h
        rw [hq] at h
        have hq : (isEq op && (ieqB c (Int.ofNat 0) && (ieqB e (Int.ofNat 0) && nthIv s.iv x fun z => Bool.and (mdB 3 (Nat.sub x 16) y z.md) (nthIv s.iv (Nat.sub x 16) fun u => Bool.and (ieqB u.lo (Int.ofNat 1)) (ieqB u.hi (Int.ofNat 1)))))) = true := hq
        simp only [Bool.and_eq_true] at hq
        obtain ⟨_, h1, h2, h3⟩ := hq
        rw [ieqB_eq] at h1 h2
        have hc : c = 0 := of_decide_eq_true h1
        have he : e = 0 := of_decide_eq_true h2
        obtain ⟨z, hz, h4⟩ := nthIv_true h3
        have h4 : (mdB 3 (Nat.sub x 16) y z.md && nthIv s.iv (Nat.sub x 16) fun u => Bool.and (ieqB u.lo (Int.ofNat 1)) (ieqB u.hi (Int.ofNat 1))) = true := h4
        rw [Bool.and_eq_true] at h4
        obtain ⟨h5, h6⟩ := h4
        obtain ⟨u, hu, h7⟩ := nthIv_true h6
        have h7 : (ieqB u.lo (Int.ofNat 1) && ieqB u.hi (Int.ofNat 1)) = true := h7
        rw [Bool.and_eq_true, ieqB_eq, ieqB_eq] at h7
        have l1 : u.lo = 1 := of_decide_eq_true h7.1
        have u1 : u.hi = 1 := of_decide_eq_true h7.2
        obtain ⟨⟨l, uu⟩, _⟩ := hiv _ u hu
        have hd : DfOK ρ x (Nat.sub x 16) y 3 := mdB_true h5 (hiv _ z hz).2
        have hv : ρ.val x = ρ.val y := hd (by omega)
        subst ea; subst eb; subst hc; subst he
        rw [hv]
        refine ⟨s.iv, ?_, hiv⟩
        rw [setIv_eq]
        rcases eqOnly_true h with ⟨rfl, h8⟩ | ⟨rfl, h8⟩
        · rw [show cmpB .eql (1 * ρ.val y + 0) (1 * ρ.val y + 0) = ieqB (1 * ρ.val y + 0) (1 * ρ.val y + 0) from rfl, ieqB_eq, decide_eq_true rfl]; exact h8
        · rw [show cmpB .neq (1 * ρ.val y + 0) (1 * ρ.val y + 0) = Bool.not (ieqB (1 * ρ.val y + 0) (1 * ρ.val y + 0)) from rfl, ieqB_eq, decide_eq_true rfl]; exact h8
theorem fork0_true {op : COp} {sy : Nat} {b : Int} (hiv : IvOK ρ s.iv) (h : fork0 op s sy b k = true) : ∃ iv, k (.v (.one (.bool (cmpB op (ρ.val sy) b)))) (s.setIv iv) = true ∧ IvOK ρ iv := by
  unfold fork0 at h
  cases ht : toldB 2 s.iv op b sy (Int.ofNat 0) 0 with
  | false => rw [ht] at h; exact forkK_true hiv h
  | true =>
    rw [ht] at h
    obtain ⟨hc, _, hd⟩ := toldB_true hiv ht
    have hd : ρ.val (sy + 16) = if ρ.val sy = 0 then 0 else 1 := hd
    have h01 : ρ.val (sy + 16) = 0 ∨ ρ.val (sy + 16) = 1 := by rw [hd]; split <;> simp
    subst hc
    rcases eqOnly_true h with ⟨rfl, h1⟩ | ⟨rfl, h1⟩
    · obtain ⟨iv, h2, h3⟩ := tellK_true hiv h01 h1
      refine ⟨iv, ?_, h3⟩
      rw [show cmpB .eql (ρ.val sy) 0 = ieqB (ρ.val sy) 0 from rfl, ieqB_eq]
      rw [show ρ.val (Nat.add sy 16) = _ from hd] at h2
      by_cases q : ρ.val sy = 0 <;> simp only [q, if_true, if_false] at h2 ⊢ <;> simpa using h2
    · obtain ⟨iv, h2, h3⟩ := tellK_true hiv h01 h1
      refine ⟨iv, ?_, h3⟩
      rw [show cmpB .neq (ρ.val sy) 0 = Bool.not (ieqB (ρ.val sy) 0) from rfl, ieqB_eq]
      rw [show ρ.val (Nat.add sy 16) = _ from hd] at h2
      by_cases q : ρ.val sy = 0 <;> simp only [q, if_true, if_false] at h2 ⊢ <;> simpa using h2
theorem cmp_sem (hg : g = ρ.gl.isSome) (hi : IvOK ρ s.iv) {op : COp} {ty ty' : TypeId} {x y : Operand} {xa ya : XA} (hx : xaOf g x = some xa) (hy : xaOf g y = some ya) (ho : o.op = .binOp op.bin ty x y ty') (h : cmpF op xa ya t s k = true) :
    ∃ v iv, k v (s.setIv iv) = true ∧ IvOK ρ iv ∧ WSem P ρ o t v := by
  obtain ⟨c, h1, hc⟩ := ev1K_sound hx h
  obtain ⟨d, h2, hd⟩ := ev1K_sound hy h1
  have fin : ∀ {ka : IntKind} {m n : Int}, (∀ {m' ν a}, MT m' ν ρ t a → a.eval x = .int ka m ∧ a.eval y = .int ka n) → WSem P ρ o t (.v (.one (.bool (cmpB op m n)))) := by
    intro ka m n hv m' ν a q
    obtain ⟨e1, e2⟩ := hv q
    exact ⟨.bool (cmpB op m n), rfl, fun w => by simp [execOp, ho, e1, e2, eqGuard_ints, cmpB_run]⟩
  rcases numK_true h2 with ⟨ka, m, rfl, h3⟩ | ⟨ka, a, sy, cc, rfl, h3⟩
  · rcases numK_true h3 with ⟨kb, n, rfl, h4⟩ | ⟨kb, a, sy, cc, rfl, h4⟩
    · obtain ⟨e, h9⟩ := guardK_true h4
      have e := kindB_true e
      subst e
      exact ⟨_, s.iv, boolK_true h9, hi, fin fun q => ⟨hc hg q, hd hg q⟩⟩
    · obtain ⟨e, h9⟩ := guardK_true h4
      have e := kindB_true e
      subst e
      obtain ⟨ea, h10⟩ := guardK_true h9
      rw [ieqB_eq] at ea
      have ea : a = 1 := of_decide_eq_true ea
      subst ea
      obtain ⟨iv, h11, h12⟩ := forkK_true hi h10
      rw [cmpB_flip] at h11
      have e3 : cmpB op (Int.sub m cc) (ρ.val sy) = cmpB op m (1 * ρ.val sy + cc) := by
        rw [← cmpB_flip, ← cmpB_flip op (1 * ρ.val sy + cc), Int.one_mul]
        exact cmpB_shift (flipC op) (ρ.val sy) cc m
      rw [e3] at h11
      exact ⟨_, iv, h11, h12, fin fun q => ⟨hc hg q, hd hg q⟩⟩
  · rcases numK_true h3 with ⟨kb, n, rfl, h4⟩ | ⟨kb, b, sz, ce, rfl, h4⟩
    · obtain ⟨e, h9⟩ := guardK_true h4
      have e := kindB_true e
      subst e
      obtain ⟨ea, h10⟩ := guardK_true h9
      rw [ieqB_eq] at ea
      have ea : a = 1 := of_decide_eq_true ea
      subst ea
      obtain ⟨iv, h11, h12⟩ := fork0_true hi (intK_true h10)
      have e3 : cmpB op (ρ.val sy) (Int.sub n cc) = cmpB op (1 * ρ.val sy + cc) n := by
        rw [Int.one_mul]; exact cmpB_shift op (ρ.val sy) cc n
      rw [e3] at h11
      exact ⟨_, iv, h11, h12, fin fun q => ⟨hc hg q, hd hg q⟩⟩
    · obtain ⟨e, h9⟩ := guardK_true h4
      have e := kindB_true e
      subst e
      obtain ⟨iv, h11, h12⟩ := linlin_true hi h9
      exact ⟨_, iv, h11, h12, fin fun q => ⟨hc hg q, hd hg q⟩⟩
def shBin : Bool → BinOp | true => .shl | false => .shr
theorem sh_sem (hg : g = ρ.gl.isSome) (hi : IvOK ρ s.iv) {left : Bool} {ty ty' : TypeId} {x y : Operand} {xa ya : XA} (hx : xaOf g x = some xa) (hy : xaOf g y = some ya) (ho : o.op = .binOp (shBin left) ty x y ty') (h : shF left xa ya t s k = true) :
    ∃ v, k v s = true ∧ WSem P ρ o t v := by
  obtain ⟨c, h, hc⟩ := ev1K_sound hx h
  obtain ⟨d, h, hd⟩ := ev1K_sound hy h
  obtain ⟨kb, n, rfl, h⟩ := isInt_true h
  rcases numK_true h with ⟨ka, m, rfl, h5⟩ | ⟨ka, a, sy, cc, rfl, h5⟩
  case inr =>
    obtain ⟨hn, h6⟩ := guardK_true h5
    rw [ieqB_eq] at hn
    have hn : n = 0 := of_decide_eq_true hn
    subst hn
    obtain ⟨h1, h2⟩ := linK_true hi h6
    refine ⟨_, h1, fun {m ν ac} q => ⟨.int ka (a * ρ.val sy + cc), rfl, fun w => ?_⟩⟩
    have e1 : _ = Value.int ka (a * ρ.val sy + cc) := hc hg q
    have e2 : _ = Value.int kb 0 := hd hg q
    have eg : ∀ w, (eqGuard (shBin left) ty x y (.int ka (a * ρ.val sy + cc)) (.int kb 0)).run P w = .ok () w := fun w => eqGuard_ints _ _ _ _ _ _ _ _
    have eg := eg w
    have hmin : min 0 ka.bits = 0 := Nat.zero_min _
    cases left with
    | false =>
      have run : (Op.shift .shr ka (a * ρ.val sy + cc) kb 0).run P w = .ok (.int ka (a * ρ.val sy + cc)) w := by
        unfold Op.shift
        rw [if_neg (by omega)]
        simp [hmin]
      simp only [shBin] at eg ho
      simp [execOp, ho, e1, e2, eg, binOp, run]
    | true =>
      have run : (Op.shift .shl ka (a * ρ.val sy + cc) kb 0).run P w = .ok (.int ka (a * ρ.val sy + cc)) w := by
        unfold Op.shift
        rw [if_neg (by omega)]
        simp [hmin, wrap_in h2]
      simp only [shBin] at eg ho
      simp [execOp, ho, e1, e2, eg, binOp, run]
  replace h := h5
  cases m with
  | negSucc _ => cases h
  | ofNat m => cases n with
    | negSucc _ => cases h
    | ofNat n =>
      have eg : ∀ w, (eqGuard (shBin left) ty x y (.int ka (m : Int)) (.int kb (n : Int))).run P w = .ok () w := fun w => eqGuard_ints _ _ _ _ _ _ _ _
      cases left with
      | false =>
        have h : guardK (Nat.ble n ka.bits) (intK (Int.ofNat (Nat.div m (Nat.pow 2 n))) fun r => k (.v (.one (.int ka r))) s) = true := h
        obtain ⟨hn, h⟩ := guardK_true h
        rw [Nat.ble_eq] at hn
        refine ⟨_, intK_true h, fun q => ⟨_, (show AR _ ρ (.v (.one (.int ka (Int.ofNat (Nat.div m (Nat.pow 2 n)))))) (.int ka (Int.ofNat (Nat.div m (Nat.pow 2 n)))) from rfl), fun w => ?_⟩⟩
        have e1 : _ = Value.int ka m := hc hg q
        have e2 : _ = Value.int kb n := hd hg q
        have e3 : (m : Int).fdiv (2 ^ n) = ((m / 2 ^ n : Nat) : Int) := by rw [show (2 : Int) ^ n = ((2 ^ n : Nat) : Int) by push_cast; rfl]; exact Int.ofNat_fdiv m (2 ^ n) |>.symm
        have hmin : min n ka.bits = n := Nat.min_eq_left hn
        have run : (Op.shift .shr ka (m : Int) kb (n : Int)).run P w = .ok (.int ka (Int.ofNat (Nat.div m (Nat.pow 2 n)))) w := by
          unfold Op.shift
          rw [if_neg (by omega)]
          simp only [Int.toNat_natCast, hmin]
          rw [e3]; rfl
        have eg := eg w
        simp only [shBin] at eg ho
        simp [execOp, ho, e1, e2, eg, binOp, run]
      | true =>
        have h : guardK (Nat.ble n ka.bits) (wrapK ka (Int.ofNat (Nat.mul m (Nat.pow 2 n))) fun r => k (.v (.one (.int ka r))) s) = true := h
        obtain ⟨hn, h⟩ := guardK_true h
        rw [Nat.ble_eq] at hn
        refine ⟨_, wrapK_true h, fun q => ⟨_, (show AR _ ρ (.v (.one (.int ka (ka.wrap (Int.ofNat (Nat.mul m (Nat.pow 2 n))))))) (.int ka (ka.wrap (Int.ofNat (Nat.mul m (Nat.pow 2 n))))) from rfl), fun w => ?_⟩⟩
        have e1 : _ = Value.int ka m := hc hg q
        have e2 : _ = Value.int kb n := hd hg q
        have e3 : (m : Int) * 2 ^ n = Int.ofNat (Nat.mul m (Nat.pow 2 n)) := by show _ = ((m * 2 ^ n : Nat) : Int); push_cast; rfl
        have hmin : min n ka.bits = n := Nat.min_eq_left hn
        have run : (Op.shift .shl ka (m : Int) kb (n : Int)).run P w = .ok (.int ka (ka.wrap (Int.ofNat (Nat.mul m (Nat.pow 2 n))))) w := by
          unfold Op.shift
          rw [if_neg (by omega)]
          simp only [Int.toNat_natCast, hmin]
          rw [e3]; rfl
        have eg := eg w
        simp only [shBin] at eg ho
        simp [execOp, ho, e1, e2, eg, binOp, run]
theorem not_sem (hg : g = ρ.gl.isSome) {ty : TypeId} {x : Operand} {xa : XA} (hx : xaOf g x = some xa) (ho : o.op = .unOp .not ty x) (h : notF xa t s k = true) : ∃ v, k v s = true ∧ WSem P ρ o t v := by
  obtain ⟨c, h, hc⟩ := ev1K_sound hx h
  obtain ⟨b, rfl, h⟩ := isBoo_true h
  refine ⟨_, boolK_true h, fun q => ⟨_, (show AR _ ρ (.v (.one (.bool (Bool.not b)))) (.bool (Bool.not b)) from rfl), fun w => ?_⟩⟩
  have e1 : _ = Value.bool b := hc hg q
  simp [execOp, ho, e1, Op.unary]
theorem neg_sem (hg : g = ρ.gl.isSome) (hi : IvOK ρ s.iv) {ty : TypeId} {x : Operand} {xa : XA} (hx : xaOf g x = some xa) (ho : o.op = .unOp .neg ty x) (h : negF xa t s k = true) : ∃ v, k v s = true ∧ WSem P ρ o t v := by
  obtain ⟨c, h, hc⟩ := ev1K_sound hx h
  rcases numK_true h with ⟨kd, n, rfl, h⟩ | ⟨kd, a, sy, cc, rfl, h⟩
  · refine ⟨_, wrapK_true h, fun q => ⟨_, (show AR _ ρ (.v (.one (.int kd (kd.wrap (0 - n))))) (.int kd (kd.wrap (0 - n))) from rfl), fun w => ?_⟩⟩
    have e1 : _ = Value.int kd n := hc hg q
    simp [execOp, ho, e1, Op.unary, Op.intArith]
  · obtain ⟨hk, h⟩ := guardK_true h
    have hk := kindB_true hk
    subst hk
    obtain ⟨h1, h2⟩ := linK_true hi h
    have h2 : inB .u64 ((0 - a) * ρ.val sy + (18446744073709551616 - cc)) = true := h2
    refine ⟨_, h1, fun {m ν ac} q => ⟨.int .u64 ((0 - a) * ρ.val sy + (18446744073709551616 - cc)), rfl, fun w => ?_⟩⟩
    have e1 : _ = Value.int .u64 (a * ρ.val sy + cc) := hc hg q
    have e2 : IntKind.wrap .u64 (0 - (a * ρ.val sy + cc)) = (0 - a) * ρ.val sy + (18446744073709551616 - cc) := by
      have e3 : (0 - a) * ρ.val sy = - (a * ρ.val sy) := by rw [Int.zero_sub, Int.neg_mul]
      rw [e3] at h2 ⊢
      have h3 := wrap_in h2
      simp only [IntKind.wrap, IntKind.signed, IntKind.bits] at h3 ⊢
      simp only [Bool.false_and, Bool.false_eq_true, if_false] at h3 ⊢
      omega
    have e4 : IntKind.wrap .u64 (-(a * ρ.val sy + cc)) = (0 - a) * ρ.val sy + (18446744073709551616 - cc) := by rw [← e2, Int.zero_sub]
    simp [execOp, ho, e1, Op.unary, Op.intArith, e4]
theorem conv_sem (hg : g = ρ.gl.isSome) (hi : IvOK ρ s.iv) {a b : TypeId} {d : TypeDesc} {kd : IntKind} {x : Operand} {xa : XA} (hx : xaOf g x = some xa) (ha : P.underlying a = some d) (hb : P.underlying b = some (.int kd)) (ho : o.op = .convert a b x) (h : convF kd xa t s k = true) :
    ∃ v, k v s = true ∧ WSem P ρ o t v := by
  obtain ⟨c, h1, hc⟩ := ev1K_sound hx h
  rcases numK_true h1 with ⟨ka, n, rfl, h2⟩ | ⟨ka, aa, sy, cc, rfl, h2⟩
  · refine ⟨_, wrapK_true h2, fun q => ⟨_, (show AR _ ρ (.v (.one (.int kd (kd.wrap n)))) (.int kd (kd.wrap n)) from rfl), fun w => ?_⟩⟩
    have e1 : _ = Value.int ka n := hc hg q
    simp [execOp, ho, e1, convert, r_und ha, r_und hb, Conv.intToInt]
  · obtain ⟨h3, h4⟩ := linK_true hi h2
    refine ⟨_, h3, fun q => ⟨.int kd (aa * ρ.val sy + cc), rfl, fun w => ?_⟩⟩
    have e1 : _ = Value.int ka (aa * ρ.val sy + cc) := hc hg q
    simp [execOp, ho, e1, convert, r_und ha, r_und hb, Conv.intToInt, wrap_in h4]
end Go.Rsf
