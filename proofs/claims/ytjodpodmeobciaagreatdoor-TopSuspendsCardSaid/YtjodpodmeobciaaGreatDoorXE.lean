/- An executor over a program's operations: numbers. Conditions: none. -/
import Derived.Test.YtjodpodmeobciaaGreatDoorXD
namespace Go.Rse
open Go.RowKit
set_option linter.unusedVariables false
set_option linter.unusedSimpArgs false

theorem guardK_true {b r : Bool} (h : guardK b r = true) : b = true ∧ r = true := by rw [guardK_eq] at h; simpa using h
theorem natK_true {n : Nat} {k : Nat → Bool} (h : natK n k = true) : k n = true := by rw [natK_eq] at h; exact h
theorem intK_true {n : Int} {k : Int → Bool} (h : intK n k = true) : k n = true := by rw [intK_eq] at h; exact h
theorem boolK_true {n : Bool} {k : Bool → Bool} (h : boolK n k = true) : k n = true := by rw [boolK_eq] at h; exact h
theorem kindB_true {a b : IntKind} (h : kindB a b = true) : a = b := by cases a <;> cases b <;> first | rfl | cases h
theorem ileB_eq (a b : Int) : ileB a b = decide (a ≤ b) := by
  cases a with
  | ofNat m => cases b with
    | ofNat n =>
      show Nat.ble m n = _
      rw [Bool.eq_iff_iff, Nat.ble_eq, decide_eq_true_iff]
      exact Int.ofNat_le.symm
    | negSucc n => show false = _; symm; rw [decide_eq_false_iff_not]; have := Int.negSucc_lt_zero n; simp only [Int.ofNat_eq_natCast]; omega
  | negSucc m => cases b with
    | ofNat n => show true = _; symm; rw [decide_eq_true_iff]; have := Int.negSucc_lt_zero m; simp only [Int.ofNat_eq_natCast]; omega
    | negSucc n =>
      show Nat.ble n m = _
      rw [Bool.eq_iff_iff, Nat.ble_eq, decide_eq_true_iff]
      simp only [Int.negSucc_eq]; omega
theorem ieqB_eq (a b : Int) : ieqB a b = decide (a = b) := by
  cases a with
  | ofNat m => cases b with
    | ofNat n =>
      show Nat.beq m n = _
      rw [Bool.eq_iff_iff, Nat.beq_eq, decide_eq_true_iff]
      simp only [Int.ofNat_eq_natCast]; omega
    | negSucc n => show false = _; symm; rw [decide_eq_false_iff_not]; simp
  | negSucc m => cases b with
    | ofNat n => show false = _; symm; rw [decide_eq_false_iff_not]; simp
    | negSucc n =>
      show Nat.beq n m = _
      rw [Bool.eq_iff_iff, Nat.beq_eq, decide_eq_true_iff]
      simp [eq_comm]
theorem inB_iff (k : IntKind) (n : Int) : inB k n = true ↔ kmin k ≤ n ∧ n ≤ kmax k := by
  unfold inB
  rw [ileB_eq, ileB_eq]
  by_cases h : kmin k ≤ n <;> by_cases h' : n ≤ kmax k <;> simp [h, h']
theorem wrap_in {k : IntKind} {n : Int} (h : inB k n = true) : k.wrap n = n := by
  rw [inB_iff] at h
  cases k <;> simp [kmin, kmax] at h <;> simp [IntKind.wrap, IntKind.signed, IntKind.bits] <;> omega
theorem wrapK_true {k : IntKind} {n : Int} {f : Int → Bool} (h : wrapK k n f = true) : f (k.wrap n) = true := by
  have h := intK_true h
  cases hb : inB k n with
  | true => rw [wrap_in hb]; rw [hb] at h; exact h
  | false => rw [hb] at h; exact intK_true h
def AOp.bin : AOp → BinOp | .add => .add | .sub => .sub | .mul => .mul | .quo => .quo | .rem => .rem | .and => .and | .or => .or | .andNot => .andNot
def COp.bin : COp → BinOp | .eql => .eql | .neq => .neq | .lss => .lss | .leq => .leq | .gtr => .gtr | .geq => .geq
theorem bitK_true {f : Nat → Nat → Nat} {k : IntKind} {a b : Int} {r : Int → Bool} (h : bitK f k a b r = true) :
    ∃ m n : Nat, a = m ∧ b = n ∧ inB k m = true ∧ inB k n = true ∧ inB k (f m n : Nat) = true ∧ r (f m n : Nat) = true := by
  cases a with
  | negSucc _ => cases h
  | ofNat m => cases b with
    | negSucc _ => cases h
    | ofNat n =>
      have h : guardK (inB k (Int.ofNat m)) (guardK (inB k (Int.ofNat n)) (natK (f m n) fun x => guardK (inB k (Int.ofNat x)) (r (Int.ofNat x)))) = true := h
      obtain ⟨h1, h⟩ := guardK_true h
      obtain ⟨h2, h⟩ := guardK_true h
      obtain ⟨h3, h⟩ := guardK_true (natK_true h)
      exact ⟨m, n, rfl, rfl, h1, h2, h3, h⟩
theorem lt_bits {k : IntKind} {m : Nat} (h : inB k m = true) : m < 2 ^ k.bits := by
  rw [inB_iff] at h
  cases k <;> simp [kmin, kmax] at h <;> simp [IntKind.bits] <;> omega
theorem ofInt_nat {k : IntKind} {m : Nat} (h : inB k m = true) : (BitVec.ofInt k.bits (m : Int)).toNat = m := by
  have := lt_bits h
  rw [BitVec.ofInt_natCast, BitVec.toNat_ofNat, Nat.mod_eq_of_lt this]
section
variable {P : Program} {w : World}
theorem eqGuard_ints (op : BinOp) (t : TypeId) (x y : Operand) (k k' : IntKind) (a b : Int) : (eqGuard op t x y (.int k a) (.int k' b)).run P w = .ok () w := by
  unfold eqGuard
  cases op <;> rfl
theorem arithK_true {op : AOp} {k : IntKind} {a b : Int} {f : Int → Bool} (h : arithK op k a b f = true) (t : TypeId) :
    ∃ r, f r = true ∧ ∀ w, (binOp op.bin t (.int k a) (.int k b)).run P w = .ok (.int k r) w := by
  cases op with
  | add => exact ⟨_, wrapK_true (show wrapK k (a + b) f = true from h), fun w => by simp [AOp.bin, binOp, Op.intArith]⟩
  | sub => exact ⟨_, wrapK_true (show wrapK k (a - b) f = true from h), fun w => by simp [AOp.bin, binOp, Op.intArith]⟩
  | mul => exact ⟨_, wrapK_true (show wrapK k (a * b) f = true from h), fun w => by simp [AOp.bin, binOp, Op.intArith]⟩
  | quo =>
    have hb : ieqB b (Int.ofNat 0) = false := by
      cases hb : ieqB b (Int.ofNat 0) with
      | false => rfl
      | true => have h : @Bool.rec (fun _ => Bool) (wrapK k (Int.tdiv a b) f) false (ieqB b (Int.ofNat 0)) = true := h; rw [hb] at h; cases h
    have h : @Bool.rec (fun _ => Bool) (wrapK k (Int.tdiv a b) f) false (ieqB b (Int.ofNat 0)) = true := h
    rw [hb] at h
    rw [ieqB_eq, decide_eq_false_iff_not] at hb
    have hb : b ≠ 0 := hb
    exact ⟨_, wrapK_true h, fun w => by simp [AOp.bin, binOp, Op.intDiv, hb]⟩
  | rem =>
    have hb : ieqB b (Int.ofNat 0) = false := by
      cases hb : ieqB b (Int.ofNat 0) with
      | false => rfl
      | true => have h : @Bool.rec (fun _ => Bool) (intK (Int.tmod a b) f) false (ieqB b (Int.ofNat 0)) = true := h; rw [hb] at h; cases h
    have h : @Bool.rec (fun _ => Bool) (intK (Int.tmod a b) f) false (ieqB b (Int.ofNat 0)) = true := h
    rw [hb] at h
    rw [ieqB_eq, decide_eq_false_iff_not] at hb
    have hb : b ≠ 0 := hb
    exact ⟨_, intK_true h, fun w => by simp [AOp.bin, binOp, Op.intDiv, hb]⟩
  | and =>
    obtain ⟨m, n, rfl, rfl, h1, h2, h3, h4⟩ := bitK_true (show bitK Nat.land k a b f = true from h)
    refine ⟨_, h4, fun w => ?_⟩
    have : ((BitVec.ofInt k.bits (m : Int) &&& BitVec.ofInt k.bits (n : Int)).toNat : Int) = (Nat.land m n : Nat) := by
      rw [BitVec.toNat_and, ofInt_nat h1, ofInt_nat h2]; rfl
    simp only [AOp.bin, binOp, ne_eq, not_true_eq_false, if_false, Op.intBits, Sem.run_pure]
    rw [this, wrap_in h3]
  | or =>
    obtain ⟨m, n, rfl, rfl, h1, h2, h3, h4⟩ := bitK_true (show bitK Nat.lor k a b f = true from h)
    refine ⟨_, h4, fun w => ?_⟩
    have : ((BitVec.ofInt k.bits (m : Int) ||| BitVec.ofInt k.bits (n : Int)).toNat : Int) = (Nat.lor m n : Nat) := by
      rw [BitVec.toNat_or, ofInt_nat h1, ofInt_nat h2]; rfl
    simp only [AOp.bin, binOp, ne_eq, not_true_eq_false, if_false, Op.intBits, Sem.run_pure]
    rw [this, wrap_in h3]
  | andNot =>
    obtain ⟨m, n, rfl, rfl, h1, h2, h3, h4⟩ := bitK_true (show bitK notAnd k a b f = true from h)
    refine ⟨_, h4, fun w => ?_⟩
    have : ((BitVec.ofInt k.bits (m : Int) &&& ~~~ BitVec.ofInt k.bits (n : Int)).toNat : Int) = (notAnd m n : Nat) := by
      have e : BitVec.ofInt k.bits (m : Int) &&& ~~~ BitVec.ofInt k.bits (n : Int) = BitVec.ofInt k.bits (m : Int) ^^^ (BitVec.ofInt k.bits (m : Int) &&& BitVec.ofInt k.bits (n : Int)) := by
        apply BitVec.eq_of_getLsbD_eq
        intro i hi
        simp only [BitVec.getLsbD_and, BitVec.getLsbD_not, BitVec.getLsbD_xor, hi, decide_true, Bool.true_and]
        cases (BitVec.ofInt k.bits (m : Int)).getLsbD i <;> cases (BitVec.ofInt k.bits (n : Int)).getLsbD i <;> rfl
      rw [e, BitVec.toNat_xor, BitVec.toNat_and, ofInt_nat h1, ofInt_nat h2]; rfl
    simp only [AOp.bin, binOp, ne_eq, not_true_eq_false, if_false, Op.intBits, Sem.run_pure]
    rw [this, wrap_in h3]
theorem cmpB_run (op : COp) (t : TypeId) (k : IntKind) (a b : Int) : (binOp op.bin t (.int k a) (.int k b)).run P w = .ok (.bool (cmpB op a b)) w := by
  cases op <;> simp [COp.bin, binOp, Op.intCmp, cmpB, ieqB_eq, ileB_eq]
  · rfl
  · rw [Bool.eq_iff_iff]; simp
  · rw [Bool.eq_iff_iff]; simp
  · rw [Bool.eq_iff_iff]; simp
end
variable {P : Program} {ρ : Rho} {g : Bool} {o : Oper} {t : Ts} {s : St} {k : KVS}
theorem nthIv_true : ∀ {l : List (Int × Int)} {n : Nat} {k : Int → Int → Bool}, nthIv l n k = true → ∃ x, l[n]? = some x ∧ k x.1 x.2 = true
  | [], n, k, h => by cases h
  | x :: l, 0, k, h => ⟨x, rfl, h⟩
  | x :: l, n + 1, k, h => by
    obtain ⟨y, h1, h2⟩ := nthIv_true (l := l) (n := n) (k := k) h
    exact ⟨y, by simpa using h1, h2⟩
theorem remLin_true {op : AOp} {iv : List (Int × Int)} {a : Int} {sy : Nat} {c n : Int} {f : Int → Bool} (hi : IvOK ρ iv) (h : remLin op iv a sy c n f = true) : op = .rem ∧ f c = true ∧ n ≠ 0 ∧ Int.tmod (a * ρ.val sy + c) n = c := by
  cases op <;> first | (cases h; done) | skip
  obtain ⟨x, hx, h1⟩ := nthIv_true (show nthIv iv sy (fun lo _ => guardK (ileB (Int.ofNat 0) lo) (@Int.rec (fun _ => Bool) (fun a => @Int.rec (fun _ => Bool) (fun c => @Int.rec (fun _ => Bool) (fun n => guardK (Nat.beq (Nat.mod a n) 0) (guardK (Nat.blt c n) (f (Int.ofNat c)))) (fun _ => false) n) (fun _ => false) c) (fun _ => false) a)) = true from h)
  obtain ⟨h2, h3⟩ := guardK_true h1
  rw [ileB_eq] at h2
  have h4 : (0 : Int) ≤ x.1 := of_decide_eq_true h2
  have hv : 0 ≤ ρ.val sy := Int.le_trans h4 (hi sy x hx).1
  cases a with
  | negSucc _ => cases h3
  | ofNat a =>
    cases c with
    | negSucc _ => cases h3
    | ofNat c =>
      cases n with
      | negSucc _ => cases h3
      | ofNat n =>
        obtain ⟨e1, h5⟩ := guardK_true h3
        obtain ⟨e2, h6⟩ := guardK_true h5
        have e1 := Nat.eq_of_beq_eq_true e1
        have e2 : c < n := Nat.le_of_ble_eq_true e2
        refine ⟨rfl, h6, ?_, ?_⟩
        · show ((n : Nat) : Int) ≠ 0
          omega
        · have hd : n ∣ a := Nat.dvd_of_mod_eq_zero e1
          obtain ⟨q, rfl⟩ := hd
          show Int.tmod (((n * q : Nat) : Int) * ρ.val sy + (c : Int)) (n : Int) = (c : Int)
          have h0 : (0 : Int) ≤ ((n * q : Nat) : Int) * ρ.val sy + (c : Int) := Int.add_nonneg (Int.mul_nonneg (Int.natCast_nonneg _) hv) (Int.natCast_nonneg _)
          rw [Int.tmod_eq_emod_of_nonneg h0]
          have e3 : ((n * q : Nat) : Int) * ρ.val sy + (c : Int) = (c : Int) + (n : Int) * ((q : Int) * ρ.val sy) := by
            rw [Int.natCast_mul, Int.mul_assoc, Int.add_comm]
          rw [e3, Int.add_mul_emod_self_left]
          exact Int.emod_eq_of_lt (Int.natCast_nonneg _) (by omega)
theorem ar_sem (hg : g = ρ.gl.isSome) (hi : IvOK ρ s.iv) {op : AOp} {ty ty' : TypeId} {x y : Operand} {xa ya : XA} (hx : xaOf g x = some xa) (hy : xaOf g y = some ya) (ho : o.op = .binOp op.bin ty x y ty') (h : arF op xa ya t s k = true) :
    ∃ v, k v s = true ∧ WSem P ρ o t v := by
  obtain ⟨c, h, hc⟩ := ev1K_sound hx h
  rcases numK_true h with ⟨ka, m, rfl, h⟩ | ⟨ka, a, sy, cc, rfl, h⟩
  · obtain ⟨d, h, hd⟩ := ev1K_sound hy h
    obtain ⟨kb, n, rfl, h⟩ := isInt_true h
    obtain ⟨e, h9⟩ := guardK_true h
    have e := kindB_true e
    subst e
    obtain ⟨r, hr, run⟩ := arithK_true (P := P) h9 ty
    refine ⟨_, hr, fun q => ⟨_, (show AR _ ρ (.v (.one (.int ka r))) (.int ka r) from rfl), fun w => ?_⟩⟩
    have e1 : _ = Value.int ka m := hc hg q
    have e2 : _ = Value.int ka n := hd hg q
    simp [execOp, ho, e1, e2, eqGuard_ints, run]
  · obtain ⟨d, h, hd⟩ := ev1K_sound hy h
    obtain ⟨kb, n, rfl, h⟩ := isInt_true h
    obtain ⟨e, h9⟩ := guardK_true h
    have e := kindB_true e
    subst e
    obtain ⟨rfl, hr, hn, hm⟩ := remLin_true hi h9
    have h10 : arithK .rem ka (a * ρ.val sy + cc) n (fun r => @decide (r = cc) (Classical.propDecidable _)) = true := by
      have hne : ieqB n (Int.ofNat 0) = false := by rw [ieqB_eq]; exact decide_eq_false hn
      show @Bool.rec (fun _ => Bool) (intK (Int.tmod (a * ρ.val sy + cc) n) (fun r => @decide (r = cc) (Classical.propDecidable _))) false (ieqB n (Int.ofNat 0)) = true
      rw [hne, hm]
      show intK cc _ = true
      rw [intK_eq]
      exact @decide_eq_true _ (Classical.propDecidable _) rfl
    obtain ⟨r, hr2, run⟩ := arithK_true (P := P) h10 ty
    have e3 : r = cc := @of_decide_eq_true _ (Classical.propDecidable _) hr2
    subst e3
    refine ⟨_, hr, fun q => ⟨_, (show AR _ ρ (.v (.one (.int ka r))) (.int ka r) from rfl), fun w => ?_⟩⟩
    have e1 : _ = Value.int ka (a * ρ.val sy + r) := hc hg q
    have e2 : _ = Value.int ka n := hd hg q
    simp [execOp, ho, e1, e2, eqGuard_ints, run]
theorem cmp_sem (hg : g = ρ.gl.isSome) {op : COp} {ty ty' : TypeId} {x y : Operand} {xa ya : XA} (hx : xaOf g x = some xa) (hy : xaOf g y = some ya) (ho : o.op = .binOp op.bin ty x y ty') (h : cmpF op xa ya t s k = true) :
    ∃ v, k v s = true ∧ WSem P ρ o t v := by
  obtain ⟨c, h, hc⟩ := ev1K_sound hx h
  obtain ⟨ka, m, rfl, h⟩ := isInt_true h
  obtain ⟨d, h, hd⟩ := ev1K_sound hy h
  obtain ⟨kb, n, rfl, h⟩ := isInt_true h
  obtain ⟨e, h9⟩ := guardK_true h
  have e := kindB_true e
  subst e
  refine ⟨_, boolK_true h9, fun q => ⟨_, (show AR _ ρ (.v (.one (.bool (cmpB op m n)))) (.bool (cmpB op m n)) from rfl), fun w => ?_⟩⟩
  have e1 : _ = Value.int ka m := hc hg q
  have e2 : _ = Value.int ka n := hd hg q
  simp [execOp, ho, e1, e2, eqGuard_ints, cmpB_run]
def shBin : Bool → BinOp | true => .shl | false => .shr
theorem sh_sem (hg : g = ρ.gl.isSome) {left : Bool} {ty ty' : TypeId} {x y : Operand} {xa ya : XA} (hx : xaOf g x = some xa) (hy : xaOf g y = some ya) (ho : o.op = .binOp (shBin left) ty x y ty') (h : shF left xa ya t s k = true) :
    ∃ v, k v s = true ∧ WSem P ρ o t v := by
  obtain ⟨c, h, hc⟩ := ev1K_sound hx h
  obtain ⟨ka, m, rfl, h⟩ := isInt_true h
  obtain ⟨d, h, hd⟩ := ev1K_sound hy h
  obtain ⟨kb, n, rfl, h⟩ := isInt_true h
  cases m with
  | negSucc _ => cases h
  | ofNat m => cases n with
    | negSucc _ => cases h
    | ofNat n =>
      have eg : ∀ w, (eqGuard (shBin left) ty x y (.int ka (m : Int)) (.int kb (n : Int))).run P w = .ok () w := fun w => eqGuard_ints _ _ _ _ _ _ _ _
      cases left with
      | false =>
        have h : guardK (Nat.ble n ka.bits) (intK (Int.ofNat (Nat.div m (Nat.pow 2 n))) fun r => k (.v (.one (.int ka r))) s) = true := h
        obtain ⟨hn, h⟩ := guardK_true h
        rw [Nat.ble_eq] at hn
        refine ⟨_, intK_true h, fun q => ⟨_, (show AR _ ρ (.v (.one (.int ka (Int.ofNat (Nat.div m (Nat.pow 2 n)))))) (.int ka (Int.ofNat (Nat.div m (Nat.pow 2 n)))) from rfl), fun w => ?_⟩⟩
        have e1 : _ = Value.int ka m := hc hg q
        have e2 : _ = Value.int kb n := hd hg q
        have e3 : (m : Int).fdiv (2 ^ n) = ((m / 2 ^ n : Nat) : Int) := by rw [show (2 : Int) ^ n = ((2 ^ n : Nat) : Int) by push_cast; rfl]; exact Int.ofNat_fdiv m (2 ^ n) |>.symm
        have hmin : min n ka.bits = n := Nat.min_eq_left hn
        have run : (Op.shift .shr ka (m : Int) kb (n : Int)).run P w = .ok (.int ka (Int.ofNat (Nat.div m (Nat.pow 2 n)))) w := by
          unfold Op.shift
          rw [if_neg (by omega)]
          simp only [Int.toNat_natCast, hmin]
          rw [e3]; rfl
        have eg := eg w
        simp only [shBin] at eg ho
        simp [execOp, ho, e1, e2, eg, binOp, run]
      | true =>
        have h : guardK (Nat.ble n ka.bits) (wrapK ka (Int.ofNat (Nat.mul m (Nat.pow 2 n))) fun r => k (.v (.one (.int ka r))) s) = true := h
        obtain ⟨hn, h⟩ := guardK_true h
        rw [Nat.ble_eq] at hn
        refine ⟨_, wrapK_true h, fun q => ⟨_, (show AR _ ρ (.v (.one (.int ka (ka.wrap (Int.ofNat (Nat.mul m (Nat.pow 2 n))))))) (.int ka (ka.wrap (Int.ofNat (Nat.mul m (Nat.pow 2 n))))) from rfl), fun w => ?_⟩⟩
        have e1 : _ = Value.int ka m := hc hg q
        have e2 : _ = Value.int kb n := hd hg q
        have e3 : (m : Int) * 2 ^ n = Int.ofNat (Nat.mul m (Nat.pow 2 n)) := by show _ = ((m * 2 ^ n : Nat) : Int); push_cast; rfl
        have hmin : min n ka.bits = n := Nat.min_eq_left hn
        have run : (Op.shift .shl ka (m : Int) kb (n : Int)).run P w = .ok (.int ka (ka.wrap (Int.ofNat (Nat.mul m (Nat.pow 2 n))))) w := by
          unfold Op.shift
          rw [if_neg (by omega)]
          simp only [Int.toNat_natCast, hmin]
          rw [e3]; rfl
        have eg := eg w
        simp only [shBin] at eg ho
        simp [execOp, ho, e1, e2, eg, binOp, run]
theorem not_sem (hg : g = ρ.gl.isSome) {ty : TypeId} {x : Operand} {xa : XA} (hx : xaOf g x = some xa) (ho : o.op = .unOp .not ty x) (h : notF xa t s k = true) : ∃ v, k v s = true ∧ WSem P ρ o t v := by
  obtain ⟨c, h, hc⟩ := ev1K_sound hx h
  obtain ⟨b, rfl, h⟩ := isBoo_true h
  refine ⟨_, boolK_true h, fun q => ⟨_, (show AR _ ρ (.v (.one (.bool (Bool.not b)))) (.bool (Bool.not b)) from rfl), fun w => ?_⟩⟩
  have e1 : _ = Value.bool b := hc hg q
  simp [execOp, ho, e1, Op.unary]
theorem neg_sem (hg : g = ρ.gl.isSome) {ty : TypeId} {x : Operand} {xa : XA} (hx : xaOf g x = some xa) (ho : o.op = .unOp .neg ty x) (h : negF xa t s k = true) : ∃ v, k v s = true ∧ WSem P ρ o t v := by
  obtain ⟨c, h, hc⟩ := ev1K_sound hx h
  obtain ⟨kd, n, rfl, h⟩ := isInt_true h
  refine ⟨_, wrapK_true h, fun q => ⟨_, (show AR _ ρ (.v (.one (.int kd (kd.wrap (0 - n))))) (.int kd (kd.wrap (0 - n))) from rfl), fun w => ?_⟩⟩
  have e1 : _ = Value.int kd n := hc hg q
  simp [execOp, ho, e1, Op.unary, Op.intArith]
theorem conv_sem (hg : g = ρ.gl.isSome) {a b : TypeId} {d : TypeDesc} {kd : IntKind} {x : Operand} {xa : XA} (hx : xaOf g x = some xa) (ha : P.underlying a = some d) (hb : P.underlying b = some (.int kd)) (ho : o.op = .convert a b x) (h : convF kd xa t s k = true) :
    ∃ v, k v s = true ∧ WSem P ρ o t v := by
  obtain ⟨c, h, hc⟩ := ev1K_sound hx h
  obtain ⟨ka, n, rfl, h⟩ := isInt_true h
  refine ⟨_, wrapK_true h, fun q => ⟨_, (show AR _ ρ (.v (.one (.int kd (kd.wrap n)))) (.int kd (kd.wrap n)) from rfl), fun w => ?_⟩⟩
  have e1 : _ = Value.int ka n := hc hg q
  simp [execOp, ho, e1, convert, r_und ha, r_und hb, Conv.intToInt]
end Go.Rse
