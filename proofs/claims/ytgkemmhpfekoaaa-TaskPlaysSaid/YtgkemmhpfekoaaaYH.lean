/- An executor over a program's operations: a law's own code, its loops and cuts by patterns, each pattern's run by itself. Conditions: none. -/
import Derived.Test.YtgkemmhpfekoaaaYF
namespace Go.Rse
open Go.RowKit
set_option linter.unusedVariables false
set_option linter.unusedSimpArgs false

noncomputable section
def mkTK : List (Pth × AV) → Ts → (Ts → Bool) → Bool :=
  @List.rec (Pth × AV) (fun _ => Ts → (Ts → Bool) → Bool) (fun t k => k t) (fun x _ ih t k => setK x.1 t x.2 fun t => ih t k)
def mkHK : List Bk → Nat → Pth → Tr Blk → (Nat → Pth → Tr Blk → Bool) → Bool :=
  @List.rec Bk (fun _ => Nat → Pth → Tr Blk → (Nat → Pth → Tr Blk → Bool) → Bool) (fun i p h k => k i p h)
    (fun b _ ih i p h k => setK p h ⟨i, b⟩ fun h => succK p fun p => natK (Nat.succ i) fun i => ih i p h k)
/-- A pattern's state. -/
def mkEK (el : Option El) (t : Ts) (k : Ts → Bool) : Bool := @Option.rec El (fun _ => Bool) (k t) (fun E => setK E.p t (.inS (.lin .i64 (Int.ofNat 1) (Nat.succ E.i) (Int.ofNat 0)) E.kd (.one E.i E.e)) k) el
def mkK (p : Pat) (k : Ts → St → Bool) : Bool := mkTK p.tl .nil fun t => mkEK p.el t fun t => mkHK p.hl 0 .e .nil fun n nx h => k t ⟨h, nx, n, 1, p.iv⟩
/-- Into which parts a symbol's bounds are split. -/
abbrev Spl := Option (Nat × List (Int × Int))
inductive TC where
  | base (c : XCode)
  | seq (a b : TC)
  | block (id : Nat) (b : TC)
  | loop (ps : List Pat) (sp : Spl) (ctr : Pth) (B : Int) (b : XCode)
  | cut (ps : List Pat) (sp : Spl) (b : TC)
  | pick (p : Pth) (a : TC)
def findT (p : Pth) : List (Pth × AV) → Option AV
  | [] => none
  | x :: l => if pthE x.1 p then some x.2 else findT p l
/-- The counter's number, and its bound. -/
def ctrB (B : Int) (ctr : Pth) (p : Pat) : Bool :=
  match findT ctr p.tl with
  | none => false
  | some v => match lineOf v with
    | none => false
    | some q => if ieqB q.1 0 then ileB q.2.2 B else
      match p.iv[q.2.1]? with
      | none => false
      | some y => ileB (q.1 * y.lo + q.2.2) B && ileB (q.1 * y.hi + q.2.2) B
def incB (ctr : Pth) (p : Pat) (t : Ts) : Bool :=
  match findT ctr p.tl, t.get ctr with
  | some v, some u => (match lineOf v, lineOf u with
    | some q, some r => ieqB q.1 r.1 && (ieqB q.1 0 || Nat.beq q.2.1 r.2.1) && !ileB r.2.2 q.2.2
    | _, _ => false)
  | _, _ => false
def entN (t : Ts) (s : St) : List Pat → Bool
  | [] => false
  | p :: l => (Nat.blt 0 p.hl.length && entB t s p) || entN t s l
/-- One value of a slot's symbol. -/
def pick1 (p : Pth) (kd : IntKind) (sy md : Nat) (c : Int) (a : XM) (t : Ts) (s : St) (k : KX) (v : Int) : Bool :=
  intK v fun v => intK (Int.add v c) fun z => setK p t (.v (.one (.int kd z))) fun t => setIvK s.iv sy ⟨v, v, md⟩ fun iv => a t (s.setIv iv) k
def pickN (p : Pth) (kd : IntKind) (sy md : Nat) (c lo : Int) (a : XM) (t : Ts) (s : St) (k : KX) (n : Nat) : Bool :=
  @Nat.rec (fun _ => Bool) (pick1 p kd sy md c a t s k lo) (fun j ih => guardK ih (pick1 p kd sy md c a t s k (Int.add lo (Int.ofNat (Nat.succ j))))) n
/-- A slot's number is each of those that it may be. -/
def pickT (p : Pth) (_ : TC) (a : XM) (t : Ts) (s : St) (k : KX) : Bool :=
  getK p t fun v => isOne v fun c => numK c (fun _ _ => false) fun kd b sy c => guardK (ieqB b (Int.ofNat 1)) (nthIv s.iv sy fun x => natK (Int.toNat (Int.sub x.hi x.lo)) fun n => pickN p kd sy x.md c x.lo a t s k n)
def topK (ck : CK) (n : Nat) (c : TC) : XM :=
  @TC.rec (fun _ => XM) (codeK ck n) (fun _ _ a b t s k => a t s fun e t s => exK e (b t s k) (fun i => k (.exit i) t s) (k .ret t s))
    (fun id _ a t s k => a t s fun e t s => exK e (k .normal t s) (fun i => @Bool.rec (fun _ => Bool) (k (.exit i) t s) (k .normal t s) (Nat.beq i id)) (k .ret t s))
    (fun ps _ _ _ _ t s _ => entN t s ps) (fun ps _ _ _ t s _ => entN t s ps) pickT c
def chkTop (P : Program) (g : Bool) (m : Nat) : TC → Code → Bool
  | .base x, c => chkCode P g m x c
  | .seq a b, .seq c d => chkTop P g m a c && chkTop P g m b d
  | .block i a, .block j c => Nat.beq i j && chkTop P g m a c
  | .pick p a, c => chkTop P g m a c
  | .loop _ _ _ _ b, .loop c => chkCode P g m b c
  | .cut _ _ a, c => chkTop P g m a c
  | _, _ => false
def Pat.withIv (p : Pat) (iv : List Iv) : Pat := ⟨p.tl, p.hl, iv, p.src, p.el⟩
def covR : Int → Int → List (Int × Int) → Bool
  | lo, hi, [] => !ileB lo hi
  | lo, hi, r :: l => ileB r.1 lo && covR (r.2 + 1) hi l
def covB (p : Pat) : Spl → Bool
  | none => true
  | some sp => match p.iv[sp.1]? with
    | none => false
    | some x => covR x.lo x.hi sp.2
/-- A pattern, its symbol in parts. -/
def splits (p : Pat) : Spl → List Pat
  | none => [p]
  | some sp => sp.2.map fun r => p.withIv (match p.iv[sp.1]? with | some x => p.iv.set sp.1 ⟨r.1, r.2, x.md⟩ | none => [])
def alls {α : Type} (f : α → Prop) : List α → Prop
  | [] => True
  | x :: l => f x ∧ alls f l
def kSeq (ck : CK) (n : Nat) (y : TC) (k : KX) : KX := fun e t s => exK e (topK ck n y t s k) (fun i => k (.exit i) t s) (k .ret t s)
def kBlk (id : Nat) (k : KX) : KX := fun e t s => exK e (k .normal t s) (fun i => @Bool.rec (fun _ => Bool) (k (.exit i) t s) (k .normal t s) (Nat.beq i id)) (k .ret t s)
def kLoop (ps : List Pat) (ctr : Pth) (p : Pat) (k : KX) : KX := fun e t s => exK e (guardK (incB ctr p t) (entN t s ps)) (fun i => k (.exit i) t s) (k .ret t s)
/-- WHAT IS LEFT TO SHOW: the run behind each pattern. -/
def obl (ck : CK) (n : Nat) : TC → KX → Prop
  | .base _, _ => True
  | .seq a b, k => obl ck n a (kSeq ck n b k) ∧ obl ck n b k
  | .block id a, k => obl ck n a (kBlk id k)
  | .pick _ a, k => obl ck n a k
  | .loop ps sp ctr B b, k => alls (fun p => (ctrB B ctr p = true ∧ covB p sp = true) ∧ alls (fun q => mkK q (fun t s => codeK ck n b t s (kLoop ps ctr p k)) = true) (splits p sp)) ps
  | .cut ps sp b, k => alls (fun p => covB p sp = true ∧ alls (fun q => mkK q (fun t s => topK ck n b t s k) = true) (splits p sp)) ps ∧ obl ck n b k
end
theorem alls_mem {α : Type} {f : α → Prop} : ∀ {l : List α}, alls f l → ∀ x, x ∈ l → f x
  | y :: l, h, x, hx => by
    cases hx with
    | head => exact h.1
    | tail _ hx => exact alls_mem h.2 x hx
theorem covR_true {v : Int} : ∀ {l : List (Int × Int)} {lo hi : Int}, covR lo hi l = true → lo ≤ v → v ≤ hi → ∃ r, r ∈ l ∧ r.1 ≤ v ∧ v ≤ r.2
  | [], lo, hi, h, h1, h2 => by
    unfold covR at h
    rw [Bool.not_eq_true', ileB_eq] at h
    have := of_decide_eq_false h
    omega
  | r :: l, lo, hi, h, h1, h2 => by
    unfold covR at h
    rw [Bool.and_eq_true, ileB_eq] at h
    have h3 := of_decide_eq_true h.1
    by_cases e : v ≤ r.2
    · exact ⟨r, List.mem_cons_self .., by omega, e⟩
    · obtain ⟨q, a, b, c⟩ := covR_true h.2 (by omega) h2
      exact ⟨q, List.mem_cons_of_mem _ a, b, c⟩
theorem splits_true {p : Pat} {sp : Spl} (hc : covB p sp = true) {ρ : Rho} (hi : IvOK ρ p.iv) : ∃ iv, p.withIv iv ∈ splits p sp ∧ IvOK ρ iv := by
  cases sp with
  | none => exact ⟨p.iv, List.mem_singleton.2 rfl, hi⟩
  | some sp =>
    unfold covB at hc
    simp only at hc
    split at hc
    · cases hc
    · rename_i x hx
      obtain ⟨⟨l, u⟩, hm⟩ := hi _ x hx
      obtain ⟨r, hr, r1, r2⟩ := covR_true hc l u
      refine ⟨p.iv.set sp.1 ⟨r.1, r.2, x.md⟩, ?_, fun i z hz => ?_⟩
      · unfold splits
        simp only [hx]
        exact List.mem_map.2 ⟨r, hr, rfl⟩
      · rw [List.getElem?_set] at hz
        by_cases e : sp.1 = i
        · subst e
          rw [if_pos rfl] at hz
          split at hz
          · cases hz; exact ⟨⟨r1, r2⟩, hm⟩
          · cases hz
        · rw [if_neg e] at hz
          exact hi i z hz
theorem mkTK_true {k : Ts → Bool} : ∀ {l : List (Pth × AV)} {t : Ts}, mkTK l t k = true → ∃ t', k t' = true ∧ ∀ q v, t'.get q = some v → (q, v) ∈ l ∨ t.get q = some v
  | [], t, h => ⟨t, h, fun q v hv => .inr hv⟩
  | x :: l, t, h => by
    have h : setK x.1 t x.2 (fun t => mkTK l t k) = true := h
    rw [setK_eq] at h
    obtain ⟨t', hk, ht⟩ := mkTK_true h
    refine ⟨t', hk, fun q v hv => ?_⟩
    rcases ht q v hv with h1 | h1
    · exact .inl (List.mem_cons_of_mem _ h1)
    · rw [Tr.get_set] at h1
      split at h1
      · rename_i e
        cases h1
        obtain ⟨a, b⟩ := x
        have e : a = q := e
        subst e
        exact .inl (List.mem_cons_self ..)
      · exact .inr h1
theorem mkHK_true {k : Nat → Pth → Tr Blk → Bool} : ∀ {l : List Bk} {i : Nat} {p : Pth} {h : Tr Blk}, mkHK l i p h k = true → p.nat = i → ∃ nx h', k (i + l.length) nx h' = true ∧ nx.nat = i + l.length ∧
    ∀ id B, h'.get id = some B → h.get id = some B ∨ ∃ j b, l[j]? = some b ∧ id = keyF (i + j) ∧ B = ⟨i + j, b⟩
  | [], i, p, h, hk, hp => ⟨p, h, hk, hp, fun id B e => .inl e⟩
  | b :: l, i, p, h, hk, hp => by
    have hk : setK p h ⟨i, b⟩ (fun h => succK p fun p => natK (Nat.succ i) fun i => mkHK l i p h k) = true := hk
    rw [setK_eq, succK_eq, natK_eq] at hk
    obtain ⟨nx, h', h1, h2, h3⟩ := mkHK_true hk (by rw [Pth.nat_succ, hp])
    have e : i + (b :: l).length = Nat.succ i + l.length := by simp; omega
    rw [e]
    refine ⟨nx, h', h1, h2, fun id B hB => ?_⟩
    rcases h3 id B hB with h4 | ⟨j, c, h4, h5, h6⟩
    · rw [Tr.get_set] at h4
      split at h4
      · rename_i e2
        cases h4
        refine .inr ⟨0, b, rfl, ?_, rfl⟩
        rw [← e2]
        exact Pth.nat_inj (by rw [keyF_nat, hp]; rfl)
      · exact .inl h4
    · refine .inr ⟨j + 1, c, by simpa using h4, ?_, ?_⟩
      · rw [h5]; congr 1; omega
      · rw [h6]; congr 1; omega
/-- WHAT IS KNOWN IN A LAW'S OWN CODE. -/
structure At (gl : Option Nat) (m n0 : Nat) (w0 : World) (t : Ts) (s : St) (ρ : Rho) (ν : Nu) (a : Act) (w : World) : Prop where
  gl : ρ.gl = gl
  iv : IvOK ρ s.iv
  num : Num s
  unm : ∀ id : Pth, s.cnt ≤ id.nat → ν id = none
  mt : MT m ν ρ t a
  dfr : a.defers = []
  mw : MW n0 w0 ν ρ s.h s.wlo w
theorem findT_mem {p : Pth} : ∀ {l : List (Pth × AV)} {v : AV}, findT p l = some v → (p, v) ∈ l
  | [], v, h => by cases h
  | x :: l, v, h => by
    unfold findT at h
    split at h
    · rename_i e
      cases h
      obtain ⟨a, b⟩ := x
      have e := pthE_true e
      simp only at e
      subst e
      exact List.mem_cons_self ..
    · exact List.mem_cons_of_mem _ (findT_mem h)
theorem lineOf_true {ν : Nu} {ρ : Rho} {v : AV} {q : Line} {u : Value} (h : lineOf v = some q) (r : AR ν ρ v u) : ∃ k, u = .int k (Line.at ρ q) := by
  unfold lineOf at h
  split at h
  · cases h
    rename_i k n
    have r : u = Value.int k n := r
    exact ⟨k, by rw [r]; simp [Line.at]⟩
  · cases h
    exact ⟨_, r⟩
  · cases h
section
variable {gl : Option Nat} {m n0 : Nat} {w0 : World} {t : Ts} {s : St} {ρ : Rho} {ν : Nu} {a : Act} {w : World}
theorem divB_true {a b : Int} (h : divB a b = true) : b * Int.tdiv a b = a := by
  unfold divB at h
  rw [ieqB_eq] at h
  have h := of_decide_eq_true h
  have := Int.mul_tdiv_add_tmod a b
  omega
theorem ivM_true {σ : List (Option Line)} {el : Option El} (hi : IvOK ρ s.iv) {ρ' : Rho} (hr : RhoIs ρ ρ' σ) (hf : ∀ i x, freeB el i x = true → σ[i]? = some none → (x.lo ≤ ρ'.val i ∧ ρ'.val i ≤ x.hi) ∧ MdOK ρ' i x.md) :
    ∀ {l : List Iv} {i : Nat}, ivM s.iv el σ i l = true → ∀ j x, l[j]? = some x → (x.lo ≤ ρ'.val (i + j) ∧ ρ'.val (i + j) ≤ x.hi) ∧ MdOK ρ' (i + j) x.md
  | [], i, h, j, x, hx => by simp at hx
  | y :: l, i, h, j, x, hx => by
    unfold ivM at h
    rw [Bool.and_eq_true] at h
    obtain ⟨h1, h2⟩ := h
    cases j with
    | succ j =>
      have := ivM_true hi hr hf h2 j x (by simpa using hx)
      rw [show i + 1 + j = i + (j + 1) by omega] at this
      exact this
    | zero =>
      simp only [List.getElem?_cons_zero, Option.some.injEq] at hx
      subst hx
      rw [Nat.add_zero]
      split at h1
      · cases h1
      · rename_i hq
        exact hf i y h1 hq
      · rename_i q hq
        rw [Bool.and_eq_true] at h1
        obtain ⟨h1, h3⟩ := h1
        split at h1
        · rename_i h0
          rw [ieqB_eq] at h0
          have h0' := of_decide_eq_true h0
          rw [Bool.and_eq_true, ileB_eq, ileB_eq] at h1
          have hv : ρ'.val i = q.2.2 := by rw [hr i q hq]; unfold Line.at; rw [h0', Int.zero_mul, Int.zero_add]
          have hm0 : y.md = 0 := by
            rw [Bool.or_eq_true] at h3
            rcases h3 with h3 | h3
            · exact Nat.eq_of_beq_eq_true h3
            · rw [ieqB_eq, h0] at h3; cases h3
          rw [hv, hm0]
          exact ⟨⟨of_decide_eq_true h1.1, of_decide_eq_true h1.2⟩, md_no _ _⟩
        · split at h1
          · cases h1
          · rename_i z hz
            simp only [Bool.and_eq_true, ileB_eq] at h1
            obtain ⟨⟨⟨⟨a1, a2⟩, a3⟩, a4⟩, a5⟩ := h1
            have a1 := of_decide_eq_true a1
            have a2 := of_decide_eq_true a2
            have a3 := of_decide_eq_true a3
            have a4 := of_decide_eq_true a4
            obtain ⟨⟨zl, zu⟩, zm⟩ := hi q.2.1 z hz
            constructor
            · rw [hr i q hq]
              unfold Line.at
              rcases Int.le_total 0 q.1 with hp | hp
              · have e1 := Int.mul_le_mul_of_nonneg_left zl hp
                have e2 := Int.mul_le_mul_of_nonneg_left zu hp
                omega
              · have e1 := Int.mul_le_mul_of_nonpos_left hp zl
                have e2 := Int.mul_le_mul_of_nonpos_left hp zu
                omega
            · rw [Bool.or_eq_true] at a5
              rcases a5 with a5 | a5
              · rw [Nat.eq_of_beq_eq_true a5]; exact md_no _ _
              · simp only [Bool.and_eq_true, Bool.not_eq_true'] at a5
                obtain ⟨⟨⟨⟨b0, b1⟩, b2⟩, b3⟩, b4⟩ := a5
                rw [ieqB_eq] at b1 b2
                have b1 := of_decide_eq_true b1
                have b2 := of_decide_eq_true b2
                have b3 := Nat.eq_of_beq_eq_true b3
                have b0 : y.md ≠ LT := fun e => by rw [e] at b0; cases b0
                refine ⟨fun hm hlt => ?_, fun e => absurd e b0⟩
                split at b4
                · rename_i i' r hr'
                  simp only [Bool.and_eq_true, ieqB_eq] at b4
                  obtain ⟨⟨c1, c2⟩, c3⟩ := b4
                  have c1 := of_decide_eq_true c1
                  have c2 := of_decide_eq_true c2
                  have c3 := Nat.eq_of_beq_eq_true c3
                  obtain ⟨k, hk1, hk2⟩ := zm.1 (by rw [← b3]; exact hm) (by rw [← b3]; exact hlt)
                  refine ⟨i', rfl, ?_⟩
                  have hr2 : σ[i']? = some (some r) := by simpa using hr'
                  rw [hr _ q hq, hr i' r hr2]
                  unfold Line.at
                  rw [b1, b2, c1, c2, hk2, b3]
                  have : r.2.1 = k := by omega
                  rw [this]; simp
                · cases b4
theorem wf_bounds {k : IntKind} {n : Int} (h : (Lit.int k n).wf = true) : kmin k ≤ n ∧ n ≤ kmax k := by
  cases k <;> (simp only [Lit.wf, Bool.and_eq_true, decide_eq_true_eq] at h; exact h)
theorem wf_zero (k : IntKind) : (Lit.int k 0).wf = true := by cases k <;> decide
/-- The element that the pattern speaks of. -/
theorem el_ok {σ : List (Option Line)} {el : Option El} (h : elB t σ el = true) (mt : MT m ν ρ t a) :
    ∃ g : Int, (∀ E, el = some E → (Lit.int E.kd g).wf = true ∧ σ[E.e]? = some none) ∧ ∀ ρ' : Rho, ρ'.mem = ρ.mem → RhoIs ρ ρ' σ → (∀ E, el = some E → ρ'.val E.e = g) →
      ∀ E, el = some E → ∃ u, a.tmps[E.p.nat]? = some u ∧ ∀ ν' : Nu, AR ν' ρ' (.inS (.lin .i64 (Int.ofNat 1) (Nat.succ E.i) (Int.ofNat 0)) E.kd (.one E.i E.e)) u := by
  cases el with
  | none => exact ⟨0, fun E e => (by cases e), fun ρ' _ _ _ E e => (by cases e)⟩
  | some E =>
    unfold elB at h
    simp only at h
    split at h
    case h_2 => cases h
    rename_i len kd md hs
    simp only [Bool.and_eq_true] at h
    obtain ⟨⟨⟨h1, h2⟩, h3⟩, h4⟩ := h
    have h1 := kindB_true h1
    obtain ⟨u, hu, ru⟩ := mt.2.1 _ _ hs
    obtain ⟨ad, n, cap, f, e1, rl, ⟨hwf, hat⟩, _⟩ := ru
    have hfr : σ[E.e]? = some none := by
      unfold freeAt at h2
      split at h2
      · assumption
      · cases h2
    have htl : ∃ q, σ[E.i]? = some (some q) := by
      unfold toldAt at h3
      split at h3
      · exact ⟨_, by assumption⟩
      · cases h3
    obtain ⟨q, hq⟩ := htl
    by_cases hv : 0 ≤ Line.at ρ q ∧ Line.at ρ q < n
    · refine ⟨f (Line.at ρ q).toNat, fun E' e => ?_, fun ρ' hm hr hg E' e => ?_⟩
      · cases e
        rw [h1]
        exact ⟨hwf _ (by omega), hfr⟩
      · cases e
        refine ⟨u, hu, fun ν' => ⟨ad, n, cap, f, e1, ?_, ?_, fun j hj hje => ?_⟩⟩
        · show Value.int .i64 (n : Int) = .int .i64 (1 * ρ'.val (E.i + 1) + 0)
          split at h4
          · rename_i k nn
            simp only [Bool.and_eq_true] at h4
            rw [sameLine_true hr h4.2]
            have rl : Value.int .i64 (n : Int) = .int k nn := rl
            have : (n : Int) = nn := by injection rl
            simp [Line.at, this]
          · rename_i k aa ss cc
            simp only [Bool.and_eq_true] at h4
            rw [sameLine_true hr h4.2]
            have rl : Value.int .i64 (n : Int) = .int k (aa * ρ.val ss + cc) := rl
            have : (n : Int) = aa * ρ.val ss + cc := by injection rl
            simp [Line.at, this]
          · cases h4
        · rw [h1]
          refine ⟨hwf, fun h0 => ?_⟩
          obtain ⟨b, o, c, ty, fz, g1, g2, g3⟩ := hat h0
          exact ⟨b, o, c, ty, fz, g1, by rw [hm]; exact g2, g3⟩
        · rw [hg E rfl]
          rw [hr E.i q hq] at hje
          congr 1
          omega
    · refine ⟨0, fun E' e => ?_, fun ρ' hm hr hg E' e => ?_⟩
      · cases e
        exact ⟨wf_zero _, hfr⟩
      · cases e
        refine ⟨u, hu, fun ν' => ⟨ad, n, cap, f, e1, ?_, ?_, fun j hj hje => ?_⟩⟩
        · show Value.int .i64 (n : Int) = .int .i64 (1 * ρ'.val (E.i + 1) + 0)
          split at h4
          · rename_i k nn
            simp only [Bool.and_eq_true] at h4
            rw [sameLine_true hr h4.2]
            have rl : Value.int .i64 (n : Int) = .int k nn := rl
            have : (n : Int) = nn := by injection rl
            simp [Line.at, this]
          · rename_i k aa ss cc
            simp only [Bool.and_eq_true] at h4
            rw [sameLine_true hr h4.2]
            have rl : Value.int .i64 (n : Int) = .int k (aa * ρ.val ss + cc) := rl
            have : (n : Int) = aa * ρ.val ss + cc := by injection rl
            simp [Line.at, this]
          · cases h4
        · rw [h1]
          refine ⟨hwf, fun h0 => ?_⟩
          obtain ⟨b, o, c, ty, fz, g1, g2, g3⟩ := hat h0
          exact ⟨b, o, c, ty, fz, g1, by rw [hm]; exact g2, g3⟩
        · rw [hr E.i q hq] at hje
          exact absurd ⟨by omega, by omega⟩ hv
/-- A STATE THAT A PATTERN STANDS FOR. -/
theorem ent_sound {p : Pat} (h : entB t s p = true) (h0 : 0 < p.hl.length) (A : At gl m n0 w0 t s ρ ν a w) {k : Ts → St → Bool} (hk : ∀ ρ' : Rho, IvOK ρ' p.iv → ∃ iv, IvOK ρ' iv ∧ mkK (p.withIv iv) k = true) :
    ∃ tp sp ρ' ν', k tp sp = true ∧ IvOK ρ' p.iv ∧ At gl m n0 w0 tp sp ρ' ν' a w ∧ ∀ q v, (q, v) ∈ p.tl → ∃ u, a.tmps[q.nat]? = some u ∧ AR ν' ρ' v u := by
  unfold entB at h
  split at h
  · cases h
  · rename_i σ hσ
    simp only [Bool.and_eq_true] at h
    obtain ⟨⟨⟨h1, h2⟩, hel⟩, h3⟩ := h
    split at h3
    · cases h3
    · rename_i m1 hm1
      split at h3
      · cases h3
      · rename_i m2 hm2
        obtain ⟨gg, hg1, hg2⟩ := el_ok hel A.mt
        let ρ' : Rho := ⟨fun i => match σ[i]? with | some (some q) => Line.at ρ q | _ => (match p.el with | none => 0 | some E => if i = E.e then gg else Int.tmod gg E.md), ρ.gl, ρ.mem⟩
        have hr : RhoIs ρ ρ' σ := fun i q hq => by show (match σ[i]? with | some (some q) => Line.at ρ q | _ => (match p.el with | none => 0 | some E => if i = E.e then gg else Int.tmod gg E.md)) = _; rw [hq]
        have hfree : ∀ i, σ[i]? = some none → ρ'.val i = (match p.el with | none => 0 | some E => if i = E.e then gg else Int.tmod gg E.md) := fun i hq => by
          show (match σ[i]? with | some (some q) => Line.at ρ q | _ => (match p.el with | none => 0 | some E => if i = E.e then gg else Int.tmod gg E.md)) = _
          rw [hq]
        have hee : ∀ E, p.el = some E → ρ'.val E.e = gg := fun E e => by rw [hfree E.e (hg1 E e).2, e]; simp
        have hiv : IvOK ρ' p.iv := by
          intro i x hx
          have := ivM_true A.iv hr (fun i x hx hq => by
            unfold freeB at hx
            split at hx
            · cases hx
            · rename_i E hE
              have hb := wf_bounds (hg1 E hE).1
              rw [Bool.or_eq_true] at hx
              rcases hx with hx | hx
              · simp only [Bool.and_eq_true, ileB_eq] at hx
                obtain ⟨⟨⟨x1, x2⟩, x3⟩, x4⟩ := hx
                have x1 := Nat.eq_of_beq_eq_true x1
                have x2 := Nat.eq_of_beq_eq_true x2
                have x3 := of_decide_eq_true x3
                have x4 := of_decide_eq_true x4
                subst x1
                rw [hee E hE, x2]
                exact ⟨⟨by omega, by omega⟩, md_no _ _⟩
              · simp only [Bool.and_eq_true, ileB_eq, Bool.not_eq_true'] at hx
                obtain ⟨⟨⟨⟨⟨⟨x1, x2⟩, x3⟩, x4⟩, x5⟩, x6⟩, x7⟩ := hx
                have x1 := Nat.eq_of_beq_eq_true x1
                have x2 : 0 < E.md := Nat.le_of_ble_eq_true x2
                have x3 := Nat.eq_of_beq_eq_true x3
                have x4 : E.md ≠ LT := fun e => by rw [e] at x4; cases x4
                have x5 := of_decide_eq_true x5
                have x6 : (E.md : Int) ≤ x.hi + 1 := of_decide_eq_true x6
                have x7 := of_decide_eq_true x7
                subst x1
                have hval : ρ'.val (E.e + 1) = Int.tmod gg E.md := by
                  rw [hfree _ hq, hE]; simp
                have g0 : 0 ≤ gg := by omega
                rw [x3]
                refine ⟨?_, md_rest x4 (by rw [hval, hee E hE])⟩
                rw [hval, Int.tmod_eq_emod_of_nonneg g0]
                have := Int.emod_nonneg gg (b := (E.md : Int)) (by omega)
                have := Int.emod_lt_of_pos gg (b := (E.md : Int)) (by omega)
                omega) h2 i x hx
          rw [Nat.zero_add] at this
          exact this
        have hinv0 : Inv2 ((.leaf .e, .leaf .e) : Maps) := by
          intro x y hxy
          have hxy : (Tr.leaf Pth.e).get x = some y := hxy
          cases x with
          | e => cases hxy; rfl
          | z q => rw [show (Tr.leaf Pth.e).get (.z q) = Tr.nil.get q from rfl, Tr.get_nil] at hxy; cases hxy
          | s q => rw [show (Tr.leaf Pth.e).get (.s q) = Tr.nil.get q from rfl, Tr.get_nil] at hxy; cases hxy
        obtain ⟨i1, l1, g1⟩ := tempsM_true hr hm1 hinv0
        obtain ⟨i2, l2, g2⟩ := blocksM_true hr hm2 i1
        obtain ⟨iv, hiv2, hk⟩ := hk ρ' hiv
        obtain ⟨tp0, hk0, ht⟩ := mkTK_true (show mkTK p.tl .nil (fun t => mkEK p.el t fun t => mkHK p.hl 0 .e .nil fun n nx h => k t ⟨h, nx, n, 1, iv⟩) = true from hk)
        have hE : ∃ tp : Ts, mkHK p.hl 0 .e .nil (fun n nx h => k tp ⟨h, nx, n, 1, iv⟩) = true ∧ ∀ q v, tp.get q = some v → tp0.get q = some v ∨ ∃ E, p.el = some E ∧ q = E.p ∧ v = .inS (.lin .i64 (Int.ofNat 1) (Nat.succ E.i) (Int.ofNat 0)) E.kd (.one E.i E.e) := by
          cases hel2 : p.el with
          | none => rw [hel2] at hk0; exact ⟨tp0, hk0, fun q v hv => .inl hv⟩
          | some E =>
            rw [hel2] at hk0
            have hk0 : setK E.p tp0 (.inS (.lin .i64 (Int.ofNat 1) (Nat.succ E.i) (Int.ofNat 0)) E.kd (.one E.i E.e)) (fun t => mkHK p.hl 0 .e .nil fun n nx h => k t ⟨h, nx, n, 1, iv⟩) = true := hk0
            rw [setK_eq] at hk0
            refine ⟨_, hk0, fun q v hv => ?_⟩
            rw [Tr.get_set] at hv
            split at hv
            · rename_i e; cases hv; exact .inr ⟨E, rfl, e.symm, rfl⟩
            · exact .inl hv
        obtain ⟨tp, hk1, htE⟩ := hE
        obtain ⟨nx, hp, hk2, hnx, hh⟩ := mkHK_true hk1 rfl
        rw [Nat.zero_add] at hk2 hnx
        let ν' := nuOf p.hl.length m2 ν
        have htm : ∀ q v, tp0.get q = some v → (q, v) ∈ p.tl := fun q v hv => by
          rcases ht q v hv with h4 | h4
          · exact h4
          · rw [Tr.get_nil] at h4; cases h4
        have hheap : ∀ id B, hp.get id = some B → ∃ j b, p.hl[j]? = some b ∧ id = keyF j ∧ B = ⟨j, b⟩ := fun id B hB => by
          rcases hh id B hB with h4 | ⟨j, b, e1, e2, e3⟩
          · rw [Tr.get_nil] at h4; cases h4
          · rw [Nat.zero_add] at e2 e3; exact ⟨j, b, e1, e2, e3⟩
        have htemps : ∀ q v, (q, v) ∈ p.tl → ∃ u, a.tmps[q.nat]? = some u ∧ AR ν' ρ' v u := fun q v hv => by
          obtain ⟨u, hu, hg⟩ := g1 q v hv
          obtain ⟨y, hy, ry⟩ := A.mt.2.1 q u hu
          exact ⟨y, hy, hg m2 ν y l2 ry⟩
        have hlt : ∀ j b, p.hl[j]? = some b → j < p.hl.length := fun j b hb => (List.getElem?_eq_some_iff.1 hb).1
        refine ⟨tp, _, ρ', ν', hk2, hiv, ⟨A.gl, hiv2, ⟨hnx, fun id B hB => ?_⟩, fun id hid => ?_, ⟨A.mt.1, fun q v hv => (by
          rcases htE q v hv with h5 | ⟨E, h5, rfl, rfl⟩
          · exact htemps q v (htm q v h5)
          · obtain ⟨u, hu, hA⟩ := hg2 ρ' rfl hr hee E h5
            exact ⟨u, hu, hA ν'⟩), fun kk hkk => ?_⟩, A.dfr, ?_⟩, htemps⟩
        · obtain ⟨j, b, e1, e2, e3⟩ := hheap id B hB
          subst e2; subst e3
          rw [keyF_nat]
          exact ⟨hlt j b e1, rfl⟩
        · show nuOf p.hl.length m2 ν id = none
          unfold nuOf
          rw [if_neg]
          have hid : p.hl.length ≤ id.nat := hid
          omega
        · have e1 : m2.1.get .e = some .e := l2 _ _ (l1 _ _ rfl)
          exact nuOf_get e1 (Le2.refl _) h0 (A.mt.2.2 kk hkk)
        · have blk : ∀ id B, hp.get id = some B → ∃ id' B' b n j c, m2.1.get id = some id' ∧ s.heap.get id' = some B' ∧ B'.k ≠ .dead ∧ ν id' = some (b, n) ∧ ν' id = some (b, n) ∧ b < w.heap.size ∧ BR ν' ρ' n w.heap[b]? B.k ∧ B = ⟨j, c⟩ ∧ (j = 0 ∨ s.wlo ≤ B'.no) := by
            intro id B hB
            obtain ⟨j, c, e1, e2, e3⟩ := hheap id B hB
            subst e2; subst e3
            obtain ⟨id', B', f1, f2, f3, f4, f5⟩ := g2 j c e1
            rw [Nat.zero_add] at f1 f4
            obtain ⟨b, n, v1, v2, v3⟩ := A.mw.blk id' B' f2
            exact ⟨id', B', b, n, j, c, f1, f2, f3, v1, nuOf_get f1 (Le2.refl _) (by rw [keyF_nat]; exact hlt j c e1) v1, v2, f5 m2 ν n _ (Le2.refl _) v3, rfl, f4⟩
          refine ⟨A.mw.below, A.mw.le, fun id B hB => ?_, fun id id' B B' b n n' hB hB' hd hd' hv hv' => ?_, fun id B b n hB hd hv hw => ?_, A.mw.mem⟩
          · obtain ⟨_, _, b, n, _, _, _, _, _, _, v2, v3, v4, _⟩ := blk id B hB
            exact ⟨b, n, v2, v3, v4⟩
          · obtain ⟨x, X, b1, n1, _, _, f1, f2, f3, f4, f5, _⟩ := blk id B hB
            obtain ⟨y, Y, b2, n2, _, _, g1', g2', g3', g4', g5', _⟩ := blk id' B' hB'
            rw [hv] at f5; cases f5
            rw [hv'] at g5'; cases g5'
            have e : x = y := A.mw.inj x y X Y b n n' f2 g2' f3 g3' f4 g4'
            subst e
            have r1 := i2 _ _ f1
            have r2 := i2 _ _ g1'
            rw [r1] at r2
            exact Option.some.inj r2
          · obtain ⟨x, X, b1, n1, j, c, f1, f2, f3, f4, f5, _, _, hB2, f6⟩ := blk id B hB
            rw [hv] at f5; cases f5
            subst hB2
            have hw : 1 ≤ j := hw
            rcases f6 with f6 | f6
            · omega
            · exact A.mw.own x X b n f2 f3 f4 f6
theorem entN_sound : ∀ {ps : List Pat}, entN t s ps = true → ∃ p, p ∈ ps ∧ 0 < p.hl.length ∧ entB t s p = true
  | [], h => by cases h
  | p :: l, h => by
    unfold entN at h
    rw [Bool.or_eq_true, Bool.and_eq_true] at h
    rcases h with ⟨h1, h2⟩ | h
    · exact ⟨p, List.mem_cons_self .., Nat.le_of_ble_eq_true h1, h2⟩
    · obtain ⟨q, h1, h2, h3⟩ := entN_sound h
      exact ⟨q, List.mem_cons_of_mem _ h1, h2, h3⟩
/-- The counter's number in a pattern. -/
theorem ctrB_true {B : Int} {ctr : Pth} {p : Pat} {ρ' : Rho} {ν' : Nu} (h : ctrB B ctr p = true) (hi : IvOK ρ' p.iv) (ht : ∀ q v, (q, v) ∈ p.tl → ∃ u, a.tmps[q.nat]? = some u ∧ AR ν' ρ' v u) :
    ∃ v q k, findT ctr p.tl = some v ∧ lineOf v = some q ∧ a.tmps[ctr.nat]? = some (.int k (Line.at ρ' q)) ∧ Line.at ρ' q ≤ B := by
  unfold ctrB at h
  split at h
  · cases h
  · rename_i v hv
    split at h
    · cases h
    · rename_i q hq
      obtain ⟨u, hu, ru⟩ := ht _ _ (findT_mem hv)
      obtain ⟨k, e⟩ := lineOf_true hq ru
      subst e
      refine ⟨v, q, k, hv, hq, hu, ?_⟩
      unfold Line.at
      split at h
      · rename_i h0
        rw [ieqB_eq] at h0
        rw [of_decide_eq_true h0, Int.zero_mul, Int.zero_add]
        rw [ileB_eq] at h
        exact of_decide_eq_true h
      · split at h
        · cases h
        · rename_i y hy
          rw [Bool.and_eq_true, ileB_eq, ileB_eq] at h
          have b1 := of_decide_eq_true h.1
          have b2 := of_decide_eq_true h.2
          obtain ⟨⟨zl, zu⟩, _⟩ := hi q.2.1 y hy
          rcases Int.le_total 0 q.1 with hp | hp
          · have e2 := Int.mul_le_mul_of_nonneg_left zu hp
            omega
          · have e1 := Int.mul_le_mul_of_nonpos_left hp zl
            omega
theorem incB_true {ctr : Pth} {p : Pat} {v : AV} {q : Line} (hv : findT ctr p.tl = some v) (hq : lineOf v = some q) (h : incB ctr p t = true) (mt : MT m ν ρ t a) : ∃ k n, a.tmps[ctr.nat]? = some (.int k n) ∧ Line.at ρ q < n := by
  unfold incB at h
  rw [hv] at h
  split at h
  · rename_i v' u e1 hu
    cases e1
    rw [hq] at h
    split at h
    · rename_i q' r e2 hr
      cases e2
      simp only [Bool.and_eq_true, Bool.or_eq_true, Bool.not_eq_true', ieqB_eq, ileB_eq] at h
      obtain ⟨⟨h1, h2⟩, h3⟩ := h
      have h1 := of_decide_eq_true h1
      have h3 := of_decide_eq_false h3
      obtain ⟨y, hy, ry⟩ := mt.2.1 _ _ hu
      obtain ⟨k, e⟩ := lineOf_true hr ry
      subst e
      refine ⟨k, _, hy, ?_⟩
      unfold Line.at
      rw [h1] at h2 ⊢
      rcases h2 with h2 | h2
      · rw [of_decide_eq_true h2]; simp; omega
      · rw [Nat.eq_of_beq_eq_true h2]; omega
    · cases h
  · cases h
end
theorem pickN_true {p : Pth} {kd : IntKind} {sy md : Nat} {c lo : Int} {a : XM} {t : Ts} {s : St} {k : KX} : ∀ {n : Nat}, pickN p kd sy md c lo a t s k n = true → ∀ j : Nat, j ≤ n → pick1 p kd sy md c a t s k (lo + j) = true
  | 0, h, j, hj => by
    have : j = 0 := by omega
    subst this
    have h : pick1 p kd sy md c a t s k lo = true := h
    simpa using h
  | n + 1, h, j, hj => by
    obtain ⟨h1, h2⟩ := guardK_true (show guardK (pickN p kd sy md c lo a t s k n) (pick1 p kd sy md c a t s k (Int.add lo (Int.ofNat (Nat.succ n)))) = true from h)
    by_cases e : j = n + 1
    · subst e; exact h2
    · exact pickN_true h1 j (by omega)
/-- A SLOT WHOSE NUMBER IS TOLD. -/
theorem pick_sound {gl : Option Nat} {m n0 : Nat} {w0 : World} {t : Ts} {s : St} {ρ : Rho} {ν : Nu} {ac : Act} {w : World} {p : Pth} {x : TC} {a : XM} {k : KX} (h : pickT p x a t s k = true) (A : At gl m n0 w0 t s ρ ν ac w) :
    ∃ t' s', a t' s' k = true ∧ At gl m n0 w0 t' s' ρ ν ac w := by
  obtain ⟨v, hv, h1⟩ := getK_true h
  obtain ⟨cl, rfl, h2⟩ := isOne_true h1
  rcases numK_true h2 with ⟨_, _, _, h3⟩ | ⟨kd, b, sy, c, rfl, h3⟩
  · cases h3
  · obtain ⟨h4, h5⟩ := guardK_true h3
    rw [ieqB_eq] at h4
    have h4 : b = 1 := of_decide_eq_true h4
    subst h4
    obtain ⟨y, hy, h6⟩ := nthIv_true h5
    have h7 := natK_true h6
    obtain ⟨⟨l, u⟩, hm⟩ := A.iv sy y hy
    have hj : (ρ.val sy - y.lo).toNat ≤ Int.toNat (Int.sub y.hi y.lo) := by
      show _ ≤ Int.toNat (y.hi - y.lo)
      omega
    have h8 := pickN_true h7 _ hj
    have e : y.lo + ((ρ.val sy - y.lo).toNat : Int) = ρ.val sy := by omega
    rw [e] at h8
    have h9 := intK_true (intK_true h8)
    rw [setK_eq] at h9
    obtain ⟨hlt, h10⟩ := setIvK_true h9
    refine ⟨_, _, h10, ?_⟩
    rw [setIv_eq]
    refine ⟨A.gl, fun i z hz => ?_, ⟨A.num.next, A.num.no⟩, A.unm, ⟨A.mt.1, fun q v2 hq => ?_, A.mt.2.2⟩, A.dfr, A.mw⟩
    · have hz2 : (s.iv.set sy ⟨ρ.val sy, ρ.val sy, y.md⟩)[i]? = some z := hz
      clear hz
      rw [List.getElem?_set] at hz2
      by_cases e2 : sy = i
      · subst e2
        rw [if_pos rfl, if_pos hlt] at hz2
        cases hz2
        exact ⟨⟨Int.le_refl _, Int.le_refl _⟩, hm⟩
      · rw [if_neg e2] at hz2
        exact A.iv i z hz2
    · rw [Tr.get_set] at hq
      split at hq
      · rename_i e2
        subst e2
        cases hq
        obtain ⟨u2, hu, ru⟩ := A.mt.2.1 _ _ hv
        refine ⟨u2, hu, ?_⟩
        have ru : u2 = .int kd (1 * ρ.val sy + c) := ru
        show u2 = .int kd (Int.add (ρ.val sy) c)
        rw [ru, Int.one_mul]; rfl
      · exact A.mt.2.1 q v2 hq
/-- .. behind a law's own code. -/
def Post (gl : Option Nat) (m n0 : Nat) (w0 : World) (k : KX) : Exit → Act → World → Prop :=
  fun e a w => ∃ e' t s ρ ν, e = exOf e' ∧ k e' t s = true ∧ At gl m n0 w0 t s ρ ν a w
theorem base_sound {P : Program} {g : Bool} {gl : Option Nat} {ck : CK} {m0 m n n0 : Nat} {w0 : World} {x : XCode} {c : Code} {t : Ts} {s : St} {k : KX} {ρ : Rho} {ν : Nu} {a : Act} {w : World} (hmx : P.follows .mixedOrders = true) (hg : g = gl.isSome)
    (hck : ∀ ρ : Rho, ρ.gl = gl → CKOK P ρ ck) (hm : m0 ≤ m) (hc : chkCode P g m0 x c = true) (h : codeK ck n x t s k = true) (A : At gl m n0 w0 t s ρ ν a w) :
    ∃ e t' s', k e t' s' = true ∧ ∀ {Q : Exit → Act → World → Prop}, (∀ ν' a' w', At gl m n0 w0 t' s' ρ ν' a' w' → Q (exOf e) a' w') → c.wp P Q a w := by
  obtain ⟨e, t', s', hk, hp, hct⟩ := code_sound (ρ := ρ) hmx (g := g) (by rw [hg, A.gl]) (hck ρ A.gl) hc A.num A.iv h
  refine ⟨e, t', s', hk, fun {Q} hQ => hct hm A.mt A.dfr A.mw (fun id h1 _ => A.unm id h1) fun a' ν' w' he mt' hd' mw' => hQ ν' a' w' ⟨A.gl, hp.iv, hp.num, fun id hid => ?_, mt', hd', mw'⟩⟩
  have := hp.cnt
  rw [he.same id (by omega)]
  exact A.unm id (by omega)
theorem top_sound {P : Program} {g : Bool} {gl : Option Nat} {ck : CK} {m0 m n n0 : Nat} {w0 : World} (hmx : P.follows .mixedOrders = true) (hg : g = gl.isSome) (hck : ∀ ρ : Rho, ρ.gl = gl → CKOK P ρ ck) (hm : m0 ≤ m) :
    ∀ {x : TC} {c : Code} {t : Ts} {s : St} {k : KX} {ρ : Rho} {ν : Nu} {a : Act} {w : World}, chkTop P g m0 x c = true → topK ck n x t s k = true → obl ck n x k → At gl m n0 w0 t s ρ ν a w → c.wp P (Post gl m n0 w0 k) a w := by
  intro x
  induction x with
  | base x =>
    intro c t s k ρ ν a w hc h hob A
    obtain ⟨e, t', s', hk, hw⟩ := base_sound hmx hg hck hm (show chkCode P g m0 x c = true from hc) h A
    exact hw fun ν' a' w' A' => ⟨e, t', s', ρ, ν', rfl, hk, A'⟩
  | seq x y ihx ihy =>
    intro c t s k ρ ν a w hc h hob A
    cases c <;> first | (cases hc; done) | skip
    rename_i c d
    have hc : (chkTop P g m0 x c && chkTop P g m0 y d) = true := hc
    rw [Bool.and_eq_true] at hc
    refine wp_seq (wp_mono (ihx hc.1 (show topK ck n x t s (kSeq ck n y k) = true from h) hob.1 A) ?_)
    rintro e a1 w1 ⟨e', t1, s1, ρ1, ν1, he, hk1, A1⟩
    subst he
    rcases exK_true hk1 with ⟨rfl, h2⟩ | ⟨i, rfl, h2⟩ | ⟨rfl, h2⟩
    · exact ihy hc.2 h2 hob.2 A1
    · exact ⟨.exit i, t1, s1, ρ1, ν1, rfl, h2, A1⟩
    · exact ⟨.ret, t1, s1, ρ1, ν1, rfl, h2, A1⟩
  | block id x ihx =>
    intro c t s k ρ ν a w hc h hob A
    cases c <;> first | (cases hc; done) | skip
    rename_i j c
    have hc : (Nat.beq id j && chkTop P g m0 x c) = true := hc
    rw [Bool.and_eq_true] at hc
    have e := Nat.eq_of_beq_eq_true hc.1
    subst e
    refine wp_block (wp_mono (ihx hc.2 (show topK ck n x t s (kBlk id k) = true from h) hob A) ?_)
    rintro e a1 w1 ⟨e', t1, s1, ρ1, ν1, he, hk1, A1⟩
    subst he
    rcases exK_true hk1 with ⟨rfl, h2⟩ | ⟨i, rfl, h2⟩ | ⟨rfl, h2⟩
    · exact ⟨.normal, t1, s1, ρ1, ν1, rfl, h2, A1⟩
    · show (if i = id then Post gl m n0 w0 k .normal a1 w1 else Post gl m n0 w0 k (.exit i) a1 w1)
      cases hji : Nat.beq i id with
      | true =>
        rw [hji] at h2
        rw [if_pos (Nat.eq_of_beq_eq_true hji)]
        exact ⟨.normal, t1, s1, ρ1, ν1, rfl, h2, A1⟩
      | false =>
        rw [hji] at h2
        rw [if_neg (fun e => by subst e; rw [Nat.beq_refl] at hji; cases hji)]
        exact ⟨.exit i, t1, s1, ρ1, ν1, rfl, h2, A1⟩
    · exact ⟨.ret, t1, s1, ρ1, ν1, rfl, h2, A1⟩
  | cut ps sp x ihx =>
    intro c t s k ρ ν a w hc h hob A
    have h1 : entN t s ps = true := h
    obtain ⟨p, hp, h0, hent⟩ := entN_sound h1
    have hall := alls_mem hob.1 p hp
    obtain ⟨tp, sp', ρ', ν', hk, _, A', _⟩ := ent_sound hent h0 A fun ρ' hi => by
      obtain ⟨iv, hm2, hi2⟩ := splits_true hall.1 hi
      exact ⟨iv, hi2, alls_mem hall.2 _ hm2⟩
    exact ihx (show chkTop P g m0 x c = true from (by cases c <;> exact hc)) hk hob.2 A'
  | pick p x ihx =>
    intro c t s k ρ ν a w hc h hob A
    obtain ⟨t', s', h2, A2⟩ := pick_sound (show pickT p x (topK ck n x) t s k = true from h) A
    exact ihx (show chkTop P g m0 x c = true from (by cases c <;> exact hc)) h2 hob A2
  | loop ps sp ctr B b =>
    intro c t s k ρ ν a w hc h hob A
    cases c <;> first | (cases hc; done) | skip
    rename_i c
    have hc : chkCode P g m0 b c = true := hc
    have h1 : entN t s ps = true := h
    have hall := alls_mem hob
    -- what holds ahead of a round
    let I : Act → World → Prop := fun a w => ∃ p ρ ν tp sp, p ∈ ps ∧ codeK ck n b tp sp (kLoop ps ctr p k) = true ∧ IvOK ρ p.iv ∧ At gl m n0 w0 tp sp ρ ν a w ∧ ∀ q v, (q, v) ∈ p.tl → ∃ u, a.tmps[q.nat]? = some u ∧ AR ν ρ v u
    let μ : Act → World → Nat := fun a _ => match a.tmps[ctr.nat]? with | some (.int _ n) => (B - n).toNat | _ => 0
    have enter : ∀ {t : Ts} {s : St} {ρ : Rho} {ν : Nu} {a : Act} {w : World}, entN t s ps = true → At gl m n0 w0 t s ρ ν a w → I a w := by
      intro t s ρ ν a w he A
      obtain ⟨p, hp, h0, hent⟩ := entN_sound he
      obtain ⟨tp, sp, ρ', ν', hk, hiv, A', ht⟩ := ent_sound hent h0 A fun ρ' hi => by
        obtain ⟨iv, hm2, hi2⟩ := splits_true (hall p hp).1.2 hi
        exact ⟨iv, hi2, alls_mem (hall p hp).2 _ hm2⟩
      exact ⟨p, ρ', ν', tp, sp, hp, hk, hiv, A', ht⟩
    have num : ∀ {a : Act} {w : World}, I a w → ∃ k n, a.tmps[ctr.nat]? = some (.int k n) ∧ n ≤ B := by
      rintro a w ⟨p, ρ', ν', tp, sp, hp, _, hiv, A', ht⟩
      obtain ⟨v, q, kd, _, _, e3, e4⟩ := ctrB_true (a := a) (hall p hp).1.1 hiv ht
      exact ⟨kd, _, e3, e4⟩
    refine wp_loop I μ (enter h1 A) fun a w hI => ?_
    obtain ⟨p, ρ', ν', tp, sp, hp, hk, hiv, A', ht⟩ := hI
    obtain ⟨v, q, kd, e1, e2, e3, e4⟩ := ctrB_true (a := a) (hall p hp).1.1 hiv ht
    obtain ⟨e, t', s', hk', hw⟩ := base_sound hmx hg hck hm hc hk A'
    refine hw fun ν2 a2 w2 A2 => ?_
    rcases exK_true hk' with ⟨rfl, h3⟩ | ⟨i, rfl, h3⟩ | ⟨rfl, h3⟩
    · obtain ⟨h4, h5⟩ := guardK_true h3
      have I2 := enter h5 A2
      refine ⟨I2, ?_⟩
      obtain ⟨k2, n2, f1, f2⟩ := incB_true e1 e2 h4 A2.mt
      obtain ⟨k3, n3, f3, f4⟩ := num I2
      rw [f1] at f3; cases f3
      show (match a2.tmps[ctr.nat]? with | some (.int _ n) => (B - n).toNat | _ => 0) < (match a.tmps[ctr.nat]? with | some (.int _ n) => (B - n).toNat | _ => 0)
      rw [f1, e3]
      show (B - n2).toNat < (B - Line.at ρ' q).toNat
      omega
    · exact ⟨.exit i, t', s', ρ', ν2, rfl, h3, A2⟩
    · exact ⟨.ret, t', s', ρ', ν2, rfl, h3, A2⟩
/-- What is behind a law's own code. -/
noncomputable def kFin (res : List XR) : KX := fun e t s => exK e (ressK res t s fun l => oneRes l fun v => isT v s) (fun _ => false) (ressK res t s fun l => oneRes l fun v => isT v s)
/-- A LAW'S RUN up to its patterns, its own code with patterns. -/
noncomputable def lawK (ck : CK) (loops : Nat) (tc : TC) (res : List XR) (l : List AV) (s : St) : Bool :=
  argsK l .e .nil fun t => topK ck loops tc t s (kFin res)
noncomputable def chkLaw (P : Program) (g : Bool) (fn : Func) (tc : TC) (res : List XR) : Bool :=
  match fn.body with
  | some c => chkTop P g fn.ntmps tc c && chkRess P fn.results.toList res
  | none => false
theorem run_top {P : Program} (hmx : P.follows .mixedOrders = true) {F : Tr XFn} (hF : ∀ p x, F.get p = some x → FnOK P true p.nat x) {f : Nat} {fn : Func} {tc : TC} {res : List XR} (hf : P.funcs[f]? = some fn) (hc : chkLaw P true fn tc res = true)
    {args : List AV} {tab : List Cell} {iv : List Iv} {loops fuel n : Nat} (hrun : lawK (callN F loops fuel) loops tc res args (st0 tab iv) = true) (hob : obl (callN F loops fuel) loops tc (kFin res)) (val : Nat → Int) {W : World} (hiv : IvOK (rhoW val (some n) W) iv) (hW : TabIs W n tab) {vals : List Value} (hv : Rel (AR (nu0 n) (rhoW val (some n) W)) args vals) :
    Calls P f vals.toArray W fun e W' => e = .returned (.bool true) ∧ Below W.heap.size W W' := by
  unfold chkLaw at hc
  split at hc
  · rename_i c hb
    rw [Bool.and_eq_true] at hc
    obtain ⟨t, h1, ht⟩ := argsK_true hrun
    refine calls_of_wp hf hb ?_
    have hn : Num (st0 tab iv) := ⟨rfl, fun id B e => by
      have e : (Tr.leaf (⟨0, .tab tab⟩ : Blk)).get id = some B := e
      cases id with
      | e => cases e; exact ⟨Nat.lt_succ_self _, rfl⟩
      | z q => rw [show (Tr.leaf (⟨0, .tab tab⟩ : Blk)).get (.z q) = Tr.nil.get q from rfl, Tr.get_nil] at e; cases e
      | s q => rw [show (Tr.leaf (⟨0, .tab tab⟩ : Blk)).get (.s q) = Tr.nil.get q from rfl, Tr.get_nil] at e; cases e⟩
    have A : At (some n) (vals.toArray ++ Array.replicate (fn.ntmps - vals.toArray.size) undef).size W.heap.size W t (st0 tab iv) (rhoW val (some n) W) (nu0 n) { tmps := vals.toArray ++ Array.replicate (fn.ntmps - vals.toArray.size) undef, defers := [] } W := by
      refine ⟨rfl, hiv, hn, fun id hid => ?_, ⟨rfl, fun q v hq => ?_, fun k hk => by cases hk; rfl⟩, rfl, st0_mw hW⟩
      · cases id with
        | e => exact absurd hid (by show ¬ (1 ≤ 0); omega)
        | z q => rfl
        | s q => rfl
      · rcases ht q v hq with ⟨_, h4⟩ | ⟨h4, _⟩
        · have h4 : args[q.nat]? = some v := by simpa [Pth.nat] using h4
          obtain ⟨u, hu, ru⟩ := hv.nth h4
          refine ⟨u, ?_, ru⟩
          have hlt : q.nat < vals.length := by
            rcases Nat.lt_or_ge q.nat vals.length with hh | hh
            · exact hh
            · rw [List.getElem?_eq_none hh] at hu; cases hu
          rw [Array.getElem?_append_left (by simpa using hlt)]
          simpa using hu
        · rw [Tr.get_nil] at h4; cases h4
    refine wp_mono (top_sound (gl := some n) hmx rfl (fun ρ hρ => callN_sound hmx (by rw [hρ]; rfl) hF loops fuel) (by simp; omega) hc.1 h1 hob A) ?_
    rintro e a w ⟨e', t', s', ρ', ν', he, hk, A'⟩
    subst he
    have fin : ∀ {v : AV} , isT v s' = true → (∃ u, AR ν' ρ' v u ∧ (results fn a.tmps).run P w = .ok u w) → a.defers = [] ∧ ∃ v, (results fn a.tmps).run P w = .ok v w ∧ ((Ending.returned v = .returned (.bool true)) ∧ Below W.heap.size W w) := by
      rintro v hv ⟨u, hu, hr⟩
      have e := isT_true hv
      subst e
      have e : u = .bool true := hu
      subst e
      exact ⟨A'.dfr, _, hr, rfl, A'.mw.below⟩
    rcases exK_true hk with ⟨rfl, h3⟩ | ⟨i, _, h3⟩ | ⟨rfl, h3⟩
    · obtain ⟨v, h4, hv⟩ := results_sound (ρ := ρ') (fn := fn) hc.2 h3
      exact fin h4 (hv A'.mt A'.mw)
    · cases h3
    · obtain ⟨v, h4, hv⟩ := results_sound (ρ := ρ') (fn := fn) hc.2 h3
      exact fin h4 (hv A'.mt A'.mw)
  · cases hc
end Go.Rse
