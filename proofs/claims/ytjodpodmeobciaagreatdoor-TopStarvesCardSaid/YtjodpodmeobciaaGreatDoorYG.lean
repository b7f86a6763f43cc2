/- An executor over a program's operations: a law's own code, its loops by patterns. Conditions: none. -/
import Derived.Test.YtjodpodmeobciaaGreatDoorYF
namespace Go.Rse
open Go.RowKit
set_option linter.unusedVariables false
set_option linter.unusedSimpArgs false

noncomputable section
def mkTK : List (Pth × AV) → Ts → (Ts → Bool) → Bool :=
  @List.rec (Pth × AV) (fun _ => Ts → (Ts → Bool) → Bool) (fun t k => k t) (fun x _ ih t k => setK x.1 t x.2 fun t => ih t k)
def mkHK : List Bk → Nat → Pth → Tr Blk → (Nat → Pth → Tr Blk → Bool) → Bool :=
  @List.rec Bk (fun _ => Nat → Pth → Tr Blk → (Nat → Pth → Tr Blk → Bool) → Bool) (fun i p h k => k i p h)
    (fun b _ ih i p h k => setK p h ⟨i, b⟩ fun h => succK p fun p => natK (Nat.succ i) fun i => ih i p h k)
/-- A pattern's state. -/
def mkK (p : Pat) (k : Ts → St → Bool) : Bool := mkTK p.tl .nil fun t => mkHK p.hl 0 .e .nil fun n nx h => k t ⟨h, nx, n, 1, p.iv⟩
inductive TC where
  | base (c : XCode)
  | seq (a b : TC)
  | block (id : Nat) (b : TC)
  | loop (ps : List Pat) (ctr : Pth) (B : Int) (b : XCode)
def findT (p : Pth) : List (Pth × AV) → Option AV
  | [] => none
  | x :: l => if pthE x.1 p then some x.2 else findT p l
/-- The counter's number, and its bound. -/
def ctrB (B : Int) (ctr : Pth) (p : Pat) : Bool :=
  match findT ctr p.tl with
  | none => false
  | some v => match lineOf v with
    | none => false
    | some q => if ieqB q.1 0 then ileB q.2.2 B else
      match p.iv[q.2.1]? with
      | none => false
      | some y => ileB (q.1 * y.lo + q.2.2) B && ileB (q.1 * y.hi + q.2.2) B
def incB (ctr : Pth) (p : Pat) (t : Ts) : Bool :=
  match findT ctr p.tl, t.get ctr with
  | some v, some u => (match lineOf v, lineOf u with
    | some q, some r => ieqB q.1 r.1 && (ieqB q.1 0 || Nat.beq q.2.1 r.2.1) && !ileB r.2.2 q.2.2
    | _, _ => false)
  | _, _ => false
def entN (t : Ts) (s : St) : List Pat → Bool
  | [] => false
  | p :: l => (Nat.blt 0 p.hl.length && entB t s p) || entN t s l
def allPs (f : Pat → Ts → St → Bool) (ok : Pat → Bool) : List Pat → Bool
  | [] => true
  | p :: l => guardK (ok p) (guardK (mkK p (f p)) (allPs f ok l))
def loopT (ck : CK) (n : Nat) (ps : List Pat) (ctr : Pth) (B : Int) (b : XCode) (t : Ts) (s : St) (k : KX) : Bool :=
  guardK (entN t s ps) (allPs (fun p t0 s0 => codeK ck n b t0 s0 fun e t s => exK e (guardK (incB ctr p t) (entN t s ps)) (fun i => k (.exit i) t s) (k .ret t s)) (ctrB B ctr) ps)
def topK (ck : CK) (n : Nat) (c : TC) : XM :=
  @TC.rec (fun _ => XM) (codeK ck n) (fun _ _ a b t s k => a t s fun e t s => exK e (b t s k) (fun i => k (.exit i) t s) (k .ret t s))
    (fun id _ a t s k => a t s fun e t s => exK e (k .normal t s) (fun i => @Bool.rec (fun _ => Bool) (k (.exit i) t s) (k .normal t s) (Nat.beq i id)) (k .ret t s))
    (loopT ck n) c
def chkTop (P : Program) (g : Bool) (m : Nat) : TC → Code → Bool
  | .base x, c => chkCode P g m x c
  | .seq a b, .seq c d => chkTop P g m a c && chkTop P g m b d
  | .block i a, .block j c => Nat.beq i j && chkTop P g m a c
  | .loop _ _ _ b, .loop c => chkCode P g m b c
  | _, _ => false
end
theorem mkTK_true {k : Ts → Bool} : ∀ {l : List (Pth × AV)} {t : Ts}, mkTK l t k = true → ∃ t', k t' = true ∧ ∀ q v, t'.get q = some v → (q, v) ∈ l ∨ t.get q = some v
  | [], t, h => ⟨t, h, fun q v hv => .inr hv⟩
  | x :: l, t, h => by
    have h : setK x.1 t x.2 (fun t => mkTK l t k) = true := h
    rw [setK_eq] at h
    obtain ⟨t', hk, ht⟩ := mkTK_true h
    refine ⟨t', hk, fun q v hv => ?_⟩
    rcases ht q v hv with h1 | h1
    · exact .inl (List.mem_cons_of_mem _ h1)
    · rw [Tr.get_set] at h1
      split at h1
      · rename_i e
        cases h1
        obtain ⟨a, b⟩ := x
        have e : a = q := e
        subst e
        exact .inl (List.mem_cons_self ..)
      · exact .inr h1
theorem mkHK_true {k : Nat → Pth → Tr Blk → Bool} : ∀ {l : List Bk} {i : Nat} {p : Pth} {h : Tr Blk}, mkHK l i p h k = true → p.nat = i → ∃ nx h', k (i + l.length) nx h' = true ∧ nx.nat = i + l.length ∧
    ∀ id B, h'.get id = some B → h.get id = some B ∨ ∃ j b, l[j]? = some b ∧ id = keyF (i + j) ∧ B = ⟨i + j, b⟩
  | [], i, p, h, hk, hp => ⟨p, h, hk, hp, fun id B e => .inl e⟩
  | b :: l, i, p, h, hk, hp => by
    have hk : setK p h ⟨i, b⟩ (fun h => succK p fun p => natK (Nat.succ i) fun i => mkHK l i p h k) = true := hk
    rw [setK_eq, succK_eq, natK_eq] at hk
    obtain ⟨nx, h', h1, h2, h3⟩ := mkHK_true hk (by rw [Pth.nat_succ, hp])
    have e : i + (b :: l).length = Nat.succ i + l.length := by simp; omega
    rw [e]
    refine ⟨nx, h', h1, h2, fun id B hB => ?_⟩
    rcases h3 id B hB with h4 | ⟨j, c, h4, h5, h6⟩
    · rw [Tr.get_set] at h4
      split at h4
      · rename_i e2
        cases h4
        refine .inr ⟨0, b, rfl, ?_, rfl⟩
        rw [← e2]
        exact Pth.nat_inj (by rw [keyF_nat, hp]; rfl)
      · exact .inl h4
    · refine .inr ⟨j + 1, c, by simpa using h4, ?_, ?_⟩
      · rw [h5]; congr 1; omega
      · rw [h6]; congr 1; omega
/-- WHAT IS KNOWN IN A LAW'S OWN CODE. -/
structure At (gl : Option Nat) (m n0 : Nat) (w0 : World) (t : Ts) (s : St) (ρ : Rho) (ν : Nu) (a : Act) (w : World) : Prop where
  gl : ρ.gl = gl
  iv : IvOK ρ s.iv
  num : Num s
  unm : ∀ id : Pth, s.cnt ≤ id.nat → ν id = none
  mt : MT m ν ρ t a
  dfr : a.defers = []
  mw : MW n0 w0 ν ρ s.h s.wlo w
theorem findT_mem {p : Pth} : ∀ {l : List (Pth × AV)} {v : AV}, findT p l = some v → (p, v) ∈ l
  | [], v, h => by cases h
  | x :: l, v, h => by
    unfold findT at h
    split at h
    · rename_i e
      cases h
      obtain ⟨a, b⟩ := x
      have e := pthE_true e
      simp only at e
      subst e
      exact List.mem_cons_self ..
    · exact List.mem_cons_of_mem _ (findT_mem h)
theorem lineOf_true {ν : Nu} {ρ : Rho} {v : AV} {q : Line} {u : Value} (h : lineOf v = some q) (r : AR ν ρ v u) : ∃ k, u = .int k (Line.at ρ q) := by
  unfold lineOf at h
  split at h
  · cases h
    rename_i k n
    have r : u = Value.int k n := r
    exact ⟨k, by rw [r]; simp [Line.at]⟩
  · cases h
    exact ⟨_, r⟩
  · cases h
section
variable {gl : Option Nat} {m n0 : Nat} {w0 : World} {t : Ts} {s : St} {ρ : Rho} {ν : Nu} {a : Act} {w : World}
theorem divB_true {a b : Int} (h : divB a b = true) : b * Int.tdiv a b = a := by
  unfold divB at h
  rw [ieqB_eq] at h
  have h := of_decide_eq_true h
  have := Int.mul_tdiv_add_tmod a b
  omega
theorem ivM_true {σ : List Line} (hi : IvOK ρ s.iv) {ρ' : Rho} (hr : RhoIs ρ ρ' σ) : ∀ {l : List Iv} {i : Nat}, ivM s.iv σ i l = true → ∀ j x, l[j]? = some x → (x.lo ≤ ρ'.val (i + j) ∧ ρ'.val (i + j) ≤ x.hi) ∧ (0 < x.md → ∃ k, i + j = k + 1 ∧ ρ'.val (i + j) = Int.tmod (ρ'.val k) x.md)
  | [], i, h, j, x, hx => by simp at hx
  | y :: l, i, h, j, x, hx => by
    unfold ivM at h
    rw [Bool.and_eq_true] at h
    obtain ⟨h1, h2⟩ := h
    cases j with
    | succ j =>
      have := ivM_true hi hr h2 j x (by simpa using hx)
      rw [show i + 1 + j = i + (j + 1) by omega] at this
      exact this
    | zero =>
      simp only [List.getElem?_cons_zero, Option.some.injEq] at hx
      subst hx
      rw [Nat.add_zero]
      split at h1
      · cases h1
      · rename_i q hq
        rw [Bool.and_eq_true] at h1
        obtain ⟨h1, h3⟩ := h1
        rw [hr i q hq]
        unfold Line.at
        split at h1
        · rename_i h0
          rw [ieqB_eq] at h0
          have h0' := of_decide_eq_true h0
          rw [h0', Int.zero_mul, Int.zero_add]
          rw [Bool.and_eq_true, ileB_eq, ileB_eq] at h1
          refine ⟨⟨of_decide_eq_true h1.1, of_decide_eq_true h1.2⟩, fun hm => ?_⟩
          rw [Bool.or_eq_true] at h3
          rcases h3 with h3 | h3
          · have := Nat.eq_of_beq_eq_true h3; omega
          · rw [ieqB_eq, h0] at h3; cases h3
        · split at h1
          · cases h1
          · rename_i z hz
            simp only [Bool.and_eq_true, ileB_eq] at h1
            obtain ⟨⟨⟨⟨a1, a2⟩, a3⟩, a4⟩, a5⟩ := h1
            have a1 := of_decide_eq_true a1
            have a2 := of_decide_eq_true a2
            have a3 := of_decide_eq_true a3
            have a4 := of_decide_eq_true a4
            obtain ⟨⟨zl, zu⟩, zm⟩ := hi q.2.1 z hz
            constructor
            · rcases Int.le_total 0 q.1 with hp | hp
              · have e1 := Int.mul_le_mul_of_nonneg_left zl hp
                have e2 := Int.mul_le_mul_of_nonneg_left zu hp
                omega
              · have e1 := Int.mul_le_mul_of_nonpos_left hp zl
                have e2 := Int.mul_le_mul_of_nonpos_left hp zu
                omega
            · intro hm
              rw [Bool.or_eq_true] at a5
              rcases a5 with a5 | a5
              · have := Nat.eq_of_beq_eq_true a5; omega
              · simp only [Bool.and_eq_true] at a5
                obtain ⟨⟨⟨b1, b2⟩, b3⟩, b4⟩ := a5
                rw [ieqB_eq] at b1 b2
                have b1 := of_decide_eq_true b1
                have b2 := of_decide_eq_true b2
                have b3 := Nat.eq_of_beq_eq_true b3
                split at b4
                · rename_i i' r hr'
                  simp only [Bool.and_eq_true, ieqB_eq] at b4
                  obtain ⟨⟨c1, c2⟩, c3⟩ := b4
                  have c1 := of_decide_eq_true c1
                  have c2 := of_decide_eq_true c2
                  have c3 := Nat.eq_of_beq_eq_true c3
                  obtain ⟨k, hk1, hk2⟩ := zm (by rw [← b3]; exact hm)
                  refine ⟨i', rfl, ?_⟩
                  have hr2 : σ[i']? = some r := by simpa using hr'
                  rw [hr i' r hr2]
                  unfold Line.at
                  rw [b1, b2, c1, c2, hk2, b3]
                  have : r.2.1 = k := by omega
                  rw [this]; simp
                · cases b4
/-- A STATE THAT A PATTERN STANDS FOR. -/
theorem ent_sound {p : Pat} (h : entB t s p = true) (h0 : 0 < p.hl.length) (A : At gl m n0 w0 t s ρ ν a w) {k : Ts → St → Bool} (hk : mkK p k = true) :
    ∃ tp sp ρ' ν', k tp sp = true ∧ (∀ q v, tp.get q = some v → (q, v) ∈ p.tl) ∧ sp.iv = p.iv ∧ At gl m n0 w0 tp sp ρ' ν' a w ∧ ∀ q v, (q, v) ∈ p.tl → ∃ u, a.tmps[q.nat]? = some u ∧ AR ν' ρ' v u := by
  unfold entB at h
  split at h
  · cases h
  · rename_i σ hσ
    simp only [Bool.and_eq_true] at h
    obtain ⟨⟨h1, h2⟩, h3⟩ := h
    split at h3
    · cases h3
    · rename_i m1 hm1
      split at h3
      · cases h3
      · rename_i m2 hm2
        let ρ' : Rho := ⟨fun i => match σ[i]? with | some q => Line.at ρ q | none => 0, ρ.gl⟩
        have hr : RhoIs ρ ρ' σ := fun i q hq => by show (match σ[i]? with | some q => Line.at ρ q | none => 0) = _; rw [hq]
        have hinv0 : Inv2 ((.leaf .e, .leaf .e) : Maps) := by
          intro x y hxy
          have hxy : (Tr.leaf Pth.e).get x = some y := hxy
          cases x with
          | e => cases hxy; rfl
          | z q => rw [show (Tr.leaf Pth.e).get (.z q) = Tr.nil.get q from rfl, Tr.get_nil] at hxy; cases hxy
          | s q => rw [show (Tr.leaf Pth.e).get (.s q) = Tr.nil.get q from rfl, Tr.get_nil] at hxy; cases hxy
        obtain ⟨i1, l1, g1⟩ := tempsM_true hr hm1 hinv0
        obtain ⟨i2, l2, g2⟩ := blocksM_true hr hm2 i1
        obtain ⟨tp, hk1, ht⟩ := mkTK_true (show mkTK p.tl .nil (fun t => mkHK p.hl 0 .e .nil fun n nx h => k t ⟨h, nx, n, 1, p.iv⟩) = true from hk)
        obtain ⟨nx, hp, hk2, hnx, hh⟩ := mkHK_true hk1 rfl
        rw [Nat.zero_add] at hk2 hnx
        let ν' := nuOf p.hl.length m2 ν
        have htm : ∀ q v, tp.get q = some v → (q, v) ∈ p.tl := fun q v hv => by
          rcases ht q v hv with h4 | h4
          · exact h4
          · rw [Tr.get_nil] at h4; cases h4
        have hheap : ∀ id B, hp.get id = some B → ∃ j b, p.hl[j]? = some b ∧ id = keyF j ∧ B = ⟨j, b⟩ := fun id B hB => by
          rcases hh id B hB with h4 | ⟨j, b, e1, e2, e3⟩
          · rw [Tr.get_nil] at h4; cases h4
          · rw [Nat.zero_add] at e2 e3; exact ⟨j, b, e1, e2, e3⟩
        have htemps : ∀ q v, (q, v) ∈ p.tl → ∃ u, a.tmps[q.nat]? = some u ∧ AR ν' ρ' v u := fun q v hv => by
          obtain ⟨u, hu, hg⟩ := g1 q v hv
          obtain ⟨y, hy, ry⟩ := A.mt.2.1 q u hu
          exact ⟨y, hy, hg m2 ν y l2 ry⟩
        have hlt : ∀ j b, p.hl[j]? = some b → j < p.hl.length := fun j b hb => (List.getElem?_eq_some_iff.1 hb).1
        refine ⟨tp, _, ρ', ν', hk2, htm, rfl, ⟨A.gl, ?_, ⟨hnx, fun id B hB => ?_⟩, fun id hid => ?_, ⟨A.mt.1, fun q v hv => htemps q v (htm q v hv), fun kk hkk => ?_⟩, A.dfr, ?_⟩, htemps⟩
        · intro i x hx
          have := ivM_true A.iv hr h2 i x hx
          rw [Nat.zero_add] at this
          exact this
        · obtain ⟨j, b, e1, e2, e3⟩ := hheap id B hB
          subst e2; subst e3
          rw [keyF_nat]
          exact ⟨hlt j b e1, rfl⟩
        · show nuOf p.hl.length m2 ν id = none
          unfold nuOf
          rw [if_neg]
          have hid : p.hl.length ≤ id.nat := hid
          omega
        · have e1 : m2.1.get .e = some .e := l2 _ _ (l1 _ _ rfl)
          exact nuOf_get e1 (Le2.refl _) h0 (A.mt.2.2 kk hkk)
        · have blk : ∀ id B, hp.get id = some B → ∃ id' B' b n j c, m2.1.get id = some id' ∧ s.heap.get id' = some B' ∧ B'.k ≠ .dead ∧ ν id' = some (b, n) ∧ ν' id = some (b, n) ∧ b < w.heap.size ∧ BR ν' ρ' n w.heap[b]? B.k ∧ B = ⟨j, c⟩ ∧ (j = 0 ∨ s.wlo ≤ B'.no) := by
            intro id B hB
            obtain ⟨j, c, e1, e2, e3⟩ := hheap id B hB
            subst e2; subst e3
            obtain ⟨id', B', f1, f2, f3, f4, f5⟩ := g2 j c e1
            rw [Nat.zero_add] at f1 f4
            obtain ⟨b, n, v1, v2, v3⟩ := A.mw.blk id' B' f2
            exact ⟨id', B', b, n, j, c, f1, f2, f3, v1, nuOf_get f1 (Le2.refl _) (by rw [keyF_nat]; exact hlt j c e1) v1, v2, f5 m2 ν n _ (Le2.refl _) v3, rfl, f4⟩
          refine ⟨A.mw.below, A.mw.le, fun id B hB => ?_, fun id id' B B' b n n' hB hB' hd hd' hv hv' => ?_, fun id B b n hB hd hv hw => ?_⟩
          · obtain ⟨_, _, b, n, _, _, _, _, _, _, v2, v3, v4, _⟩ := blk id B hB
            exact ⟨b, n, v2, v3, v4⟩
          · obtain ⟨x, X, b1, n1, _, _, f1, f2, f3, f4, f5, _⟩ := blk id B hB
            obtain ⟨y, Y, b2, n2, _, _, g1', g2', g3', g4', g5', _⟩ := blk id' B' hB'
            rw [hv] at f5; cases f5
            rw [hv'] at g5'; cases g5'
            have e : x = y := A.mw.inj x y X Y b n n' f2 g2' f3 g3' f4 g4'
            subst e
            have r1 := i2 _ _ f1
            have r2 := i2 _ _ g1'
            rw [r1] at r2
            exact Option.some.inj r2
          · obtain ⟨x, X, b1, n1, j, c, f1, f2, f3, f4, f5, _, _, hB2, f6⟩ := blk id B hB
            rw [hv] at f5; cases f5
            subst hB2
            have hw : 1 ≤ j := hw
            rcases f6 with f6 | f6
            · omega
            · exact A.mw.own x X b n f2 f3 f4 f6
theorem entN_sound : ∀ {ps : List Pat}, entN t s ps = true → ∃ p, p ∈ ps ∧ 0 < p.hl.length ∧ entB t s p = true
  | [], h => by cases h
  | p :: l, h => by
    unfold entN at h
    rw [Bool.or_eq_true, Bool.and_eq_true] at h
    rcases h with ⟨h1, h2⟩ | h
    · exact ⟨p, List.mem_cons_self .., Nat.le_of_ble_eq_true h1, h2⟩
    · obtain ⟨q, h1, h2, h3⟩ := entN_sound h
      exact ⟨q, List.mem_cons_of_mem _ h1, h2, h3⟩
theorem allPs_true {f : Pat → Ts → St → Bool} {ok : Pat → Bool} : ∀ {ps : List Pat}, allPs f ok ps = true → ∀ p, p ∈ ps → ok p = true ∧ mkK p (f p) = true
  | p :: l, h, q, hq => by
    unfold allPs at h
    obtain ⟨h1, h2⟩ := guardK_true h
    obtain ⟨h3, h4⟩ := guardK_true h2
    cases hq with
    | head => exact ⟨h1, h3⟩
    | tail _ hq => exact allPs_true h4 q hq
/-- The counter's number in a pattern. -/
theorem ctrB_true {B : Int} {ctr : Pth} {p : Pat} {ρ' : Rho} {ν' : Nu} (h : ctrB B ctr p = true) (hi : IvOK ρ' p.iv) (ht : ∀ q v, (q, v) ∈ p.tl → ∃ u, a.tmps[q.nat]? = some u ∧ AR ν' ρ' v u) :
    ∃ v q k, findT ctr p.tl = some v ∧ lineOf v = some q ∧ a.tmps[ctr.nat]? = some (.int k (Line.at ρ' q)) ∧ Line.at ρ' q ≤ B := by
  unfold ctrB at h
  split at h
  · cases h
  · rename_i v hv
    split at h
    · cases h
    · rename_i q hq
      obtain ⟨u, hu, ru⟩ := ht _ _ (findT_mem hv)
      obtain ⟨k, e⟩ := lineOf_true hq ru
      subst e
      refine ⟨v, q, k, hv, hq, hu, ?_⟩
      unfold Line.at
      split at h
      · rename_i h0
        rw [ieqB_eq] at h0
        rw [of_decide_eq_true h0, Int.zero_mul, Int.zero_add]
        rw [ileB_eq] at h
        exact of_decide_eq_true h
      · split at h
        · cases h
        · rename_i y hy
          rw [Bool.and_eq_true, ileB_eq, ileB_eq] at h
          have b1 := of_decide_eq_true h.1
          have b2 := of_decide_eq_true h.2
          obtain ⟨⟨zl, zu⟩, _⟩ := hi q.2.1 y hy
          rcases Int.le_total 0 q.1 with hp | hp
          · have e2 := Int.mul_le_mul_of_nonneg_left zu hp
            omega
          · have e1 := Int.mul_le_mul_of_nonpos_left hp zl
            omega
theorem incB_true {ctr : Pth} {p : Pat} {v : AV} {q : Line} (hv : findT ctr p.tl = some v) (hq : lineOf v = some q) (h : incB ctr p t = true) (mt : MT m ν ρ t a) : ∃ k n, a.tmps[ctr.nat]? = some (.int k n) ∧ Line.at ρ q < n := by
  unfold incB at h
  rw [hv] at h
  split at h
  · rename_i v' u e1 hu
    cases e1
    rw [hq] at h
    split at h
    · rename_i q' r e2 hr
      cases e2
      simp only [Bool.and_eq_true, Bool.or_eq_true, Bool.not_eq_true', ieqB_eq, ileB_eq] at h
      obtain ⟨⟨h1, h2⟩, h3⟩ := h
      have h1 := of_decide_eq_true h1
      have h3 := of_decide_eq_false h3
      obtain ⟨y, hy, ry⟩ := mt.2.1 _ _ hu
      obtain ⟨k, e⟩ := lineOf_true hr ry
      subst e
      refine ⟨k, _, hy, ?_⟩
      unfold Line.at
      rw [h1] at h2 ⊢
      rcases h2 with h2 | h2
      · rw [of_decide_eq_true h2]; simp; omega
      · rw [Nat.eq_of_beq_eq_true h2]; omega
    · cases h
  · cases h
end
/-- .. behind a law's own code. -/
def Post (gl : Option Nat) (m n0 : Nat) (w0 : World) (k : KX) : Exit → Act → World → Prop :=
  fun e a w => ∃ e' t s ρ ν, e = exOf e' ∧ k e' t s = true ∧ At gl m n0 w0 t s ρ ν a w
theorem base_sound {P : Program} {g : Bool} {gl : Option Nat} {ck : CK} {m0 m n n0 : Nat} {w0 : World} {x : XCode} {c : Code} {t : Ts} {s : St} {k : KX} {ρ : Rho} {ν : Nu} {a : Act} {w : World} (hmx : P.follows .mixedOrders = true) (hg : g = gl.isSome)
    (hck : ∀ ρ : Rho, ρ.gl = gl → CKOK P ρ ck) (hm : m0 ≤ m) (hc : chkCode P g m0 x c = true) (h : codeK ck n x t s k = true) (A : At gl m n0 w0 t s ρ ν a w) :
    ∃ e t' s', k e t' s' = true ∧ ∀ {Q : Exit → Act → World → Prop}, (∀ ν' a' w', At gl m n0 w0 t' s' ρ ν' a' w' → Q (exOf e) a' w') → c.wp P Q a w := by
  obtain ⟨e, t', s', hk, hp, hct⟩ := code_sound (ρ := ρ) hmx (g := g) (by rw [hg, A.gl]) (hck ρ A.gl) hc A.num A.iv h
  refine ⟨e, t', s', hk, fun {Q} hQ => hct hm A.mt A.dfr A.mw (fun id h1 _ => A.unm id h1) fun a' ν' w' he mt' hd' mw' => hQ ν' a' w' ⟨A.gl, hp.iv, hp.num, fun id hid => ?_, mt', hd', mw'⟩⟩
  have := hp.cnt
  rw [he.same id (by omega)]
  exact A.unm id (by omega)
theorem top_sound {P : Program} {g : Bool} {gl : Option Nat} {ck : CK} {m0 m n n0 : Nat} {w0 : World} (hmx : P.follows .mixedOrders = true) (hg : g = gl.isSome) (hck : ∀ ρ : Rho, ρ.gl = gl → CKOK P ρ ck) (hm : m0 ≤ m) :
    ∀ {x : TC} {c : Code} {t : Ts} {s : St} {k : KX} {ρ : Rho} {ν : Nu} {a : Act} {w : World}, chkTop P g m0 x c = true → topK ck n x t s k = true → At gl m n0 w0 t s ρ ν a w → c.wp P (Post gl m n0 w0 k) a w := by
  intro x
  induction x with
  | base x =>
    intro c t s k ρ ν a w hc h A
    obtain ⟨e, t', s', hk, hw⟩ := base_sound hmx hg hck hm (show chkCode P g m0 x c = true from hc) h A
    exact hw fun ν' a' w' A' => ⟨e, t', s', ρ, ν', rfl, hk, A'⟩
  | seq x y ihx ihy =>
    intro c t s k ρ ν a w hc h A
    cases c <;> first | (cases hc; done) | skip
    rename_i c d
    have hc : (chkTop P g m0 x c && chkTop P g m0 y d) = true := hc
    rw [Bool.and_eq_true] at hc
    refine wp_seq (wp_mono (ihx hc.1 (show topK ck n x t s (fun e t s => exK e (topK ck n y t s k) (fun i => k (.exit i) t s) (k .ret t s)) = true from h) A) ?_)
    rintro e a1 w1 ⟨e', t1, s1, ρ1, ν1, he, hk1, A1⟩
    subst he
    rcases exK_true hk1 with ⟨rfl, h2⟩ | ⟨i, rfl, h2⟩ | ⟨rfl, h2⟩
    · exact ihy hc.2 h2 A1
    · exact ⟨.exit i, t1, s1, ρ1, ν1, rfl, h2, A1⟩
    · exact ⟨.ret, t1, s1, ρ1, ν1, rfl, h2, A1⟩
  | block id x ihx =>
    intro c t s k ρ ν a w hc h A
    cases c <;> first | (cases hc; done) | skip
    rename_i j c
    have hc : (Nat.beq id j && chkTop P g m0 x c) = true := hc
    rw [Bool.and_eq_true] at hc
    have e := Nat.eq_of_beq_eq_true hc.1
    subst e
    refine wp_block (wp_mono (ihx hc.2 (show topK ck n x t s (fun e t s => exK e (k .normal t s) (fun i => @Bool.rec (fun _ => Bool) (k (.exit i) t s) (k .normal t s) (Nat.beq i id)) (k .ret t s)) = true from h) A) ?_)
    rintro e a1 w1 ⟨e', t1, s1, ρ1, ν1, he, hk1, A1⟩
    subst he
    rcases exK_true hk1 with ⟨rfl, h2⟩ | ⟨i, rfl, h2⟩ | ⟨rfl, h2⟩
    · exact ⟨.normal, t1, s1, ρ1, ν1, rfl, h2, A1⟩
    · show (if i = id then Post gl m n0 w0 k .normal a1 w1 else Post gl m n0 w0 k (.exit i) a1 w1)
      cases hji : Nat.beq i id with
      | true =>
        rw [hji] at h2
        rw [if_pos (Nat.eq_of_beq_eq_true hji)]
        exact ⟨.normal, t1, s1, ρ1, ν1, rfl, h2, A1⟩
      | false =>
        rw [hji] at h2
        rw [if_neg (fun e => by subst e; rw [Nat.beq_refl] at hji; cases hji)]
        exact ⟨.exit i, t1, s1, ρ1, ν1, rfl, h2, A1⟩
    · exact ⟨.ret, t1, s1, ρ1, ν1, rfl, h2, A1⟩
  | loop ps ctr B b =>
    intro c t s k ρ ν a w hc h A
    cases c <;> first | (cases hc; done) | skip
    rename_i c
    have hc : chkCode P g m0 b c = true := hc
    obtain ⟨h1, h2⟩ := guardK_true (show guardK (entN t s ps) (allPs (fun p t0 s0 => codeK ck n b t0 s0 fun e t s => exK e (guardK (incB ctr p t) (entN t s ps)) (fun i => k (.exit i) t s) (k .ret t s)) (ctrB B ctr) ps) = true from h)
    have hall := allPs_true h2
    -- what holds ahead of a round
    let I : Act → World → Prop := fun a w => ∃ p ρ ν tp sp, p ∈ ps ∧ codeK ck n b tp sp (fun e t s => exK e (guardK (incB ctr p t) (entN t s ps)) (fun i => k (.exit i) t s) (k .ret t s)) = true ∧ sp.iv = p.iv ∧ At gl m n0 w0 tp sp ρ ν a w ∧ ∀ q v, (q, v) ∈ p.tl → ∃ u, a.tmps[q.nat]? = some u ∧ AR ν ρ v u
    let μ : Act → World → Nat := fun a _ => match a.tmps[ctr.nat]? with | some (.int _ n) => (B - n).toNat | _ => 0
    have enter : ∀ {t : Ts} {s : St} {ρ : Rho} {ν : Nu} {a : Act} {w : World}, entN t s ps = true → At gl m n0 w0 t s ρ ν a w → I a w := by
      intro t s ρ ν a w he A
      obtain ⟨p, hp, h0, hent⟩ := entN_sound he
      obtain ⟨tp, sp, ρ', ν', hk, _, hiv, A', ht⟩ := ent_sound hent h0 A (hall p hp).2
      exact ⟨p, ρ', ν', tp, sp, hp, hk, hiv, A', ht⟩
    have num : ∀ {a : Act} {w : World}, I a w → ∃ k n, a.tmps[ctr.nat]? = some (.int k n) ∧ n ≤ B := by
      rintro a w ⟨p, ρ', ν', tp, sp, hp, _, hiv, A', ht⟩
      obtain ⟨v, q, kd, _, _, e3, e4⟩ := ctrB_true (a := a) (hall p hp).1 (by rw [← hiv]; exact A'.iv) ht
      exact ⟨kd, _, e3, e4⟩
    refine wp_loop I μ (enter h1 A) fun a w hI => ?_
    obtain ⟨p, ρ', ν', tp, sp, hp, hk, hiv, A', ht⟩ := hI
    obtain ⟨v, q, kd, e1, e2, e3, e4⟩ := ctrB_true (a := a) (hall p hp).1 (by rw [← hiv]; exact A'.iv) ht
    obtain ⟨e, t', s', hk', hw⟩ := base_sound hmx hg hck hm hc hk A'
    refine hw fun ν2 a2 w2 A2 => ?_
    rcases exK_true hk' with ⟨rfl, h3⟩ | ⟨i, rfl, h3⟩ | ⟨rfl, h3⟩
    · obtain ⟨h4, h5⟩ := guardK_true h3
      have I2 := enter h5 A2
      refine ⟨I2, ?_⟩
      obtain ⟨k2, n2, f1, f2⟩ := incB_true e1 e2 h4 A2.mt
      obtain ⟨k3, n3, f3, f4⟩ := num I2
      rw [f1] at f3; cases f3
      show (match a2.tmps[ctr.nat]? with | some (.int _ n) => (B - n).toNat | _ => 0) < (match a.tmps[ctr.nat]? with | some (.int _ n) => (B - n).toNat | _ => 0)
      rw [f1, e3]
      show (B - n2).toNat < (B - Line.at ρ' q).toNat
      omega
    · exact ⟨.exit i, t', s', ρ', ν2, rfl, h3, A2⟩
    · exact ⟨.ret, t', s', ρ', ν2, rfl, h3, A2⟩
/-- A LAW'S RUN, its own code with patterns. -/
noncomputable def lawK (F : Tr XFn) (loops fuel : Nat) (tc : TC) (res : List XR) (l : List AV) (s : St) : Bool :=
  argsK l .e .nil fun t => topK (callN F loops fuel) loops tc t s fun e t s => exK e (ressK res t s fun l => oneRes l fun v => isT v s) (fun _ => false) (ressK res t s fun l => oneRes l fun v => isT v s)
noncomputable def chkLaw (P : Program) (g : Bool) (fn : Func) (tc : TC) (res : List XR) : Bool :=
  match fn.body with
  | some c => chkTop P g fn.ntmps tc c && chkRess P fn.results.toList res
  | none => false
theorem run_top {P : Program} (hmx : P.follows .mixedOrders = true) {F : Tr XFn} (hF : ∀ p x, F.get p = some x → FnOK P true p.nat x) {f : Nat} {fn : Func} {tc : TC} {res : List XR} (hf : P.funcs[f]? = some fn) (hc : chkLaw P true fn tc res = true)
    {args : List AV} {tab : List Cell} {iv : List Iv} {loops fuel n : Nat} (hrun : lawK F loops fuel tc res args (st0 tab iv) = true) (val : Nat → Int) (hiv : IvOK ⟨val, some n⟩ iv) {W : World} (hW : TabIs W n tab) {vals : List Value} (hv : Rel (AR (nu0 n) ⟨val, some n⟩) args vals) :
    Calls P f vals.toArray W fun e W' => e = .returned (.bool true) ∧ Below W.heap.size W W' := by
  unfold chkLaw at hc
  split at hc
  · rename_i c hb
    rw [Bool.and_eq_true] at hc
    obtain ⟨t, h1, ht⟩ := argsK_true hrun
    refine calls_of_wp hf hb ?_
    have hn : Num (st0 tab iv) := ⟨rfl, fun id B e => by
      have e : (Tr.leaf (⟨0, .tab tab⟩ : Blk)).get id = some B := e
      cases id with
      | e => cases e; exact ⟨Nat.lt_succ_self _, rfl⟩
      | z q => rw [show (Tr.leaf (⟨0, .tab tab⟩ : Blk)).get (.z q) = Tr.nil.get q from rfl, Tr.get_nil] at e; cases e
      | s q => rw [show (Tr.leaf (⟨0, .tab tab⟩ : Blk)).get (.s q) = Tr.nil.get q from rfl, Tr.get_nil] at e; cases e⟩
    have A : At (some n) (vals.toArray ++ Array.replicate (fn.ntmps - vals.toArray.size) undef).size W.heap.size W t (st0 tab iv) ⟨val, some n⟩ (nu0 n) { tmps := vals.toArray ++ Array.replicate (fn.ntmps - vals.toArray.size) undef, defers := [] } W := by
      refine ⟨rfl, hiv, hn, fun id hid => ?_, ⟨rfl, fun q v hq => ?_, fun k hk => by cases hk; rfl⟩, rfl, st0_mw hW⟩
      · cases id with
        | e => exact absurd hid (by show ¬ (1 ≤ 0); omega)
        | z q => rfl
        | s q => rfl
      · rcases ht q v hq with ⟨_, h4⟩ | ⟨h4, _⟩
        · have h4 : args[q.nat]? = some v := by simpa [Pth.nat] using h4
          obtain ⟨u, hu, ru⟩ := hv.nth h4
          refine ⟨u, ?_, ru⟩
          have hlt : q.nat < vals.length := by
            rcases Nat.lt_or_ge q.nat vals.length with hh | hh
            · exact hh
            · rw [List.getElem?_eq_none hh] at hu; cases hu
          rw [Array.getElem?_append_left (by simpa using hlt)]
          simpa using hu
        · rw [Tr.get_nil] at h4; cases h4
    refine wp_mono (top_sound (gl := some n) hmx rfl (fun ρ hρ => callN_sound hmx (by rw [hρ]; rfl) hF loops fuel) (by simp; omega) hc.1 h1 A) ?_
    rintro e a w ⟨e', t', s', ρ', ν', he, hk, A'⟩
    subst he
    have fin : ∀ {v : AV} , isT v s' = true → (∃ u, AR ν' ρ' v u ∧ (results fn a.tmps).run P w = .ok u w) → a.defers = [] ∧ ∃ v, (results fn a.tmps).run P w = .ok v w ∧ ((Ending.returned v = .returned (.bool true)) ∧ Below W.heap.size W w) := by
      rintro v hv ⟨u, hu, hr⟩
      have e := isT_true hv
      subst e
      have e : u = .bool true := hu
      subst e
      exact ⟨A'.dfr, _, hr, rfl, A'.mw.below⟩
    rcases exK_true hk with ⟨rfl, h3⟩ | ⟨i, _, h3⟩ | ⟨rfl, h3⟩
    · obtain ⟨v, h4, hv⟩ := results_sound (ρ := ρ') (fn := fn) hc.2 h3
      exact fin h4 (hv A'.mt A'.mw)
    · cases h3
    · obtain ⟨v, h4, hv⟩ := results_sound (ρ := ρ') (fn := fn) hc.2 h3
      exact fin h4 (hv A'.mt A'.mw)
  · cases hc
end Go.Rse
