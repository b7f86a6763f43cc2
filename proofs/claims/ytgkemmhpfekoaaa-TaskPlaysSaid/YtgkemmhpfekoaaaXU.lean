/- An executor over a program's operations: values of several cells held against each other; maps whose keys are numbers. Conditions: none. -/
import Derived.Test.YtgkemmhpfekoaaaXN
import Derived.Laws.StructEq
import Derived.MapKept
namespace Go.Rse
open Go.RowKit
set_option linter.unusedVariables false
set_option linter.unusedSimpArgs false
variable {P : Program} {ρ : Rho} {g : Bool} {o : Oper} {t : Ts} {s : St} {k : KVS}

theorem sameIK_true {iv : List Iv} (hi : IvOK ρ iv) {a b : Cell} {k : Bool → Bool} (h0 : sameIK iv a b k = true) :
    ∃ c, k c = true ∧ ∀ {ν : Nu} {v u : Value}, CR ν ρ a v → CR ν ρ b u → ∃ kd m n, v = .int kd m ∧ u = .int kd n ∧ c = (m == n) := by
  have one : ∀ {sy : Nat} {x : Iv}, iv[sy]? = some x → ieqB x.lo x.hi = true → ρ.val sy = x.lo := by
    intro sy x hx hh
    rw [ieqB_eq] at hh
    have hh := of_decide_eq_true hh
    obtain ⟨⟨l, u⟩, _⟩ := hi sy x hx
    omega
  rcases numK_true h0 with ⟨ka, m, rfl, h2⟩ | ⟨ka, x, sy, c, rfl, h2⟩ <;> clear h0
  · rcases numK_true h2 with ⟨kb, n, rfl, h⟩ | ⟨kb, y, sz, d, rfl, h⟩ <;> clear h2
    · obtain ⟨h1, h3⟩ := guardK_true h
      clear h
      cases kindB_true h1
      exact ⟨_, h3, fun {ν v u} r1 r2 => ⟨ka, m, n, r1, r2, by rw [ieqB_eq]; rfl⟩⟩
    · obtain ⟨h1, h3⟩ := guardK_true h
      clear h
      cases kindB_true h1
      obtain ⟨X, hX, h4⟩ := nthIv_true h3
      obtain ⟨h2, h5⟩ := guardK_true h4
      refine ⟨_, h5, fun {ν v u} r1 r2 => ⟨ka, m, _, r1, r2, ?_⟩⟩
      rw [one hX h2, ieqB_eq]; rfl
  · rcases numK_true h2 with ⟨kb, n, rfl, h⟩ | ⟨kb, y, sz, d, rfl, h⟩ <;> clear h2
    · obtain ⟨h1, h3⟩ := guardK_true h
      clear h
      cases kindB_true h1
      obtain ⟨X, hX, h4⟩ := nthIv_true h3
      obtain ⟨h2, h5⟩ := guardK_true h4
      refine ⟨_, h5, fun {ν v u} r1 r2 => ⟨ka, _, n, r1, r2, ?_⟩⟩
      rw [one hX h2, ieqB_eq]; rfl
    · obtain ⟨h1, h3⟩ := guardK_true h
      clear h
      cases kindB_true h1
      obtain ⟨h2, h4⟩ := guardK_true h3
      obtain ⟨h5, h6⟩ := guardK_true h4
      clear h3 h4
      have h2 := Nat.eq_of_beq_eq_true h2
      rw [ieqB_eq] at h5
      have h5 := of_decide_eq_true h5
      subst h2; subst h5
      refine ⟨_, h6, fun {ν v u} r1 r2 => ⟨ka, _, _, r1, r2, ?_⟩⟩
      rw [ieqB_eq]
      show decide (c = d) = decide (x * ρ.val sy + c = x * ρ.val sy + d)
      by_cases e : c = d
      · rw [e]; simp
      · rw [decide_eq_false e, decide_eq_false (by omega)]
theorem sameBK_true {a b : Cell} {k : Bool → Bool} (h0 : sameBK a b k = true) :
    ∃ c, k c = true ∧ ∀ {ν : Nu} {v u : Value}, CR ν ρ a v → CR ν ρ b u → ∃ m n, v = .bool m ∧ u = .bool n ∧ c = (m == n) := by
  obtain ⟨x, rfl, h1⟩ := isBoo_true h0
  obtain ⟨y, rfl, h⟩ := isBoo_true h1
  exact ⟨_, h, fun {ν v u} r1 r2 => ⟨x, y, r1, r2, by cases x <;> cases y <;> rfl⟩⟩
/-- Fields of one cell each, numbers (true) or truths, one behind the other. -/
def flatB (P : Program) : List Field → Nat → List Bool → Bool
  | [], _, [] => true
  | f :: fs, i, q :: ks => f.name != "_" && Nat.beq f.offset i && (match P.underlying f.type with | some (.int _) => q | some .bool => !q | _ => false) && flatB P fs (i + 1) ks
  | _, _, _ => false
theorem part_flat {t : TypeId} {d : TypeDesc} (h : P.underlying t = some d) (hd : aggD d = false) {xs : Array Value} {i : Nat} {v : Value} (hv : xs[i]? = some v) (w : World) : (part t xs i).run P w = .ok v w := by
  simp [part, r_isAgg h, hd, hv]
theorem eqFields_true {d : Nat} {iv : List Iv} (hi : IvOK ρ iv) : ∀ {fs : List Field} {i : Nat} {ks : List Bool} {l r : List Cell} {k : Bool → Bool}, flatB P fs i ks = true → sameLK iv ks l r k = true →
    ∃ b, k b = true ∧ ∀ {ν : Nu} {xs ys : Array Value}, Rel (CR ν ρ) l (xs.toList.drop i) → Rel (CR ν ρ) r (ys.toList.drop i) → ∀ w, (Op.eqFields (d + 1) xs ys fs).run P w = .ok b w
  | [], i, [], l, r, k, hf, h => ⟨true, h, fun _ _ w => rfl⟩
  | [], i, q :: ks, l, r, k, hf, h => by cases hf
  | f :: fs, i, [], l, r, k, hf, h => by cases hf
  | f :: fs, i, q :: ks, l, r, k, hf, h => by
    unfold flatB at hf
    simp only [Bool.and_eq_true, bne_iff_ne, ne_eq] at hf
    obtain ⟨⟨⟨f1, f2⟩, f3⟩, f4⟩ := hf
    have f2 : f.offset = i := Nat.eq_of_beq_eq_true f2
    cases l with
    | nil => cases h
    | cons x l =>
    cases r with
    | nil => cases h
    | cons y r =>
    have step : ∃ c, (@Bool.rec (fun _ => Bool) (k false) (sameLK iv ks l r k) c) = true ∧ ∀ {ν : Nu} {v u : Value}, CR ν ρ x v → CR ν ρ y u → ∀ w, (Op.equalIn (d + 1) f.type v u).run P w = .ok c w ∧ (∃ dd, P.underlying f.type = some dd ∧ aggD dd = false) := by
      split at f3
      · rename_i kd hu
        subst f3
        obtain ⟨c, hc, hr⟩ := sameIK_true hi (show sameIK iv x y (fun b => @Bool.rec (fun _ => Bool) (k false) (sameLK iv ks l r k) b) = true from h)
        refine ⟨c, hc, fun {ν v u} r1 r2 w => ?_⟩
        obtain ⟨kk, m, n, rfl, rfl, rfl⟩ := hr r1 r2
        exact ⟨run_equalIn_int w d f.type kk kd m n hu, _, hu, rfl⟩
      · rename_i hu
        have f3 : q = false := by simpa using f3
        subst f3
        obtain ⟨c, hc, hr⟩ := sameBK_true (show sameBK x y (fun b => @Bool.rec (fun _ => Bool) (k false) (sameLK iv ks l r k) b) = true from h)
        refine ⟨c, hc, fun {ν v u} r1 r2 w => ?_⟩
        obtain ⟨m, n, rfl, rfl, rfl⟩ := hr r1 r2
        exact ⟨run_equalIn_bool' w d f.type m n hu, _, hu, rfl⟩
      · cases f3
    obtain ⟨c, hc, hr⟩ := step
    have heads : ∀ {ν : Nu} {z : Cell} {zs : List Cell} {as : Array Value}, Rel (CR ν ρ) (z :: zs) (as.toList.drop i) → ∃ v, as[i]? = some v ∧ CR ν ρ z v ∧ Rel (CR ν ρ) zs (as.toList.drop (i + 1)) := by
      intro ν z zs as rr
      cases hd : as.toList.drop i with
      | nil => rw [hd] at rr; exact rr.elim
      | cons v vs =>
        rw [hd] at rr
        have e1 : as.toList[i]? = some v := by
          have := congrArg (·[0]?) hd
          simpa using this
        have e2 : as.toList.drop (i + 1) = vs := by
          have := congrArg List.tail hd
          simpa using this
        exact ⟨v, by simpa using e1, rr.1, by rw [e2]; exact rr.2⟩
    cases c with
    | false =>
      refine ⟨false, hc, fun {ν xs ys} r1 r2 w => ?_⟩
      obtain ⟨v, hv, rv, _⟩ := heads r1
      obtain ⟨u, hu, ru, _⟩ := heads r2
      obtain ⟨e, dd, hdd, ha⟩ := hr rv ru w
      rw [Op.eqFields, if_pos f1, f2]
      simp [part_flat hdd ha hv, part_flat hdd ha hu, e]
    | true =>
      obtain ⟨b, hb, hrun⟩ := eqFields_true (d := d) hi f4 (show sameLK iv ks l r k = true from hc)
      refine ⟨b, hb, fun {ν xs ys} r1 r2 w => ?_⟩
      obtain ⟨v, hv, rv, rv2⟩ := heads r1
      obtain ⟨u, hu, ru, ru2⟩ := heads r2
      obtain ⟨e, dd, hdd, ha⟩ := hr rv ru w
      rw [Op.eqFields, if_pos f1, f2]
      simp [part_flat hdd ha hv, part_flat hdd ha hu, e, hrun rv2 ru2]
theorem eqg_sem (hg : g = ρ.gl.isSome) (hi : IvOK ρ s.iv) {neg : Bool} {ks : List Bool} {ty ty' : TypeId} {x y : Operand} {xa ya : XA} (hx : xaOf g x = some xa) (hy : xaOf g y = some ya) (ht : P.underlying ty = some (.struct (P.fieldsOf ty)))
    (hp : P.stoodInHeld ty = false) (hq : P.eqGuardType P.depth ty = false) (hf : flatB P (P.fieldsOf ty).toList 0 ks = true) (ho : o.op = .binOp (eqBin neg) ty x y ty') (h : eqgF neg ks xa ya t s k = true) : ∃ v, k v s = true ∧ WSem P ρ o t v := by
  obtain ⟨a, h, ha⟩ := evK_sound hx h
  obtain ⟨l, rfl, h⟩ := isAggK_true h
  obtain ⟨b, h, hb⟩ := evK_sound hy h
  obtain ⟨r, rfl, h⟩ := isAggK_true h
  obtain ⟨c, h, hrun⟩ := eqFields_true (d := 9998) hi hf h
  have h := boolK_true h
  refine ⟨_, h, fun {m ν a} rm => ?_⟩
  obtain ⟨vs, e1, r1⟩ := ha hg rm
  obtain ⟨us, e2, r2⟩ := hb hg rm
  refine ⟨_, rfl, fun w => ?_⟩
  have hr := hrun (ν := ν) (xs := vs.toArray) (ys := us.toArray) (by simpa using r1) (by simpa using r2) w
  have heq : (Op.equalIn 10000 ty (.agg vs.toArray) (.agg us.toArray)).run P w = .ok c w := by rw [run_equalIn_struct w 9999 ty _ _ ht hp]; exact hr
  cases neg
  · have := run_eql_struct (P := P) w ty vs.toArray us.toArray
    rw [heq] at this
    simp [execOp, ho, eqBin, e1, e2, run_eqGuard_agg w _ ty x y _ _ hq, this]
  · have := run_neq_struct (P := P) w ty vs.toArray us.toArray
    rw [heq] at this
    simp [execOp, ho, eqBin, e1, e2, run_eqGuard_agg w _ ty x y _ _ hq, this]

/-! ### Maps -/
def fstE (n : Int) : List (Int × Comp) → Option (Nat × Comp)
  | [] => none
  | x :: l => if n = x.1 then some (0, x.2) else (fstE n l).map fun p => (p.1 + 1, p.2)
def updL (n : Int) (c : Comp) : List (Int × Comp) → List (Int × Comp)
  | [] => [(n, c)]
  | x :: l => if n = x.1 then (n, c) :: l else x :: updL n c l
def delL (n : Int) : List (Int × Comp) → List (Int × Comp)
  | [] => []
  | x :: l => if n = x.1 then l else x :: delL n l
theorem findK_true {n : Int} {yes : Comp → Bool} {no : Bool} : ∀ {es : List (Int × Comp)}, findK n yes no es = true → (∃ j c, fstE n es = some (j, c) ∧ yes c = true) ∨ (fstE n es = none ∧ no = true)
  | [], h => .inr ⟨rfl, h⟩
  | x :: l, h => by
    have h : (@Bool.rec (fun _ => Bool) (findK n yes no l) (yes x.2) (ieqB n x.1)) = true := h
    rw [ieqB_eq] at h
    unfold fstE
    by_cases e : n = x.1
    · rw [decide_eq_true e] at h; rw [if_pos e]; exact .inl ⟨0, _, rfl, h⟩
    · rw [decide_eq_false e] at h; rw [if_neg e]
      rcases findK_true (es := l) h with ⟨j, c, h1, h2⟩ | ⟨h1, h2⟩
      · exact .inl ⟨j + 1, c, by rw [h1]; rfl, h2⟩
      · exact .inr ⟨by rw [h1]; rfl, h2⟩
theorem updK_eq {n : Int} {c : Comp} : ∀ {es : List (Int × Comp)} {k : List (Int × Comp) → Bool}, updK n c es k = k (updL n c es)
  | [], k => rfl
  | x :: l, k => by
    have h : updK n c (x :: l) k = @Bool.rec (fun _ => Bool) (updK n c l fun l => k (x :: l)) (k ((n, c) :: l)) (ieqB n x.1) := rfl
    rw [h, ieqB_eq]
    unfold updL
    by_cases e : n = x.1
    · rw [decide_eq_true e, if_pos e]
    · rw [decide_eq_false e, if_neg e]; exact updK_eq (es := l)
theorem delK_eq {n : Int} : ∀ {es : List (Int × Comp)} {k : List (Int × Comp) → Bool}, delK n es k = k (delL n es)
  | [], k => rfl
  | x :: l, k => by
    have h : delK n (x :: l) k = @Bool.rec (fun _ => Bool) (delK n l fun l => k (x :: l)) (k l) (ieqB n x.1) := rfl
    rw [h, ieqB_eq]
    unfold delL
    by_cases e : n = x.1
    · rw [decide_eq_true e, if_pos e]
    · rw [decide_eq_false e, if_neg e]; exact delK_eq (es := l)
def EntR (ν : Nu) (ρ : Rho) (x : Int × Comp) (e : MapEntry) : Prop := e.key = .int .i64 x.1 ∧ CompR ν ρ x.2 e.val
theorem find_some {ν : Nu} {n : Int} {kd : IntKind} : ∀ {es : List (Int × Comp)} {l : List MapEntry} {j i : Nat} {c : Comp}, Rel (EntR ν ρ) es l → fstE n es = some (j, c) →
    ∃ e, l[j]? = some e ∧ e.key = .int .i64 n ∧ CompR ν ρ c e.val ∧ Instr.findNow (.int kd) (.int .i64 n) l i = some (some (i + j, e.val))
  | [], [], j, i, c, r, h => by cases h
  | [], _ :: _, j, i, c, r, h => r.elim
  | _ :: _, [], j, i, c, r, h => r.elim
  | x :: es, e :: l, j, i, c, r, h => by
    obtain ⟨⟨r1, r2⟩, r3⟩ := r
    unfold fstE at h
    by_cases q : n = x.1
    · rw [if_pos q] at h; cases h
      refine ⟨e, rfl, by rw [r1, q], r2, ?_⟩
      simp [Instr.findNow, r1, Instr.sameNow, q]
    · rw [if_neg q] at h
      simp only [Option.map_eq_some_iff] at h
      obtain ⟨⟨j', c'⟩, h1, h2⟩ := h
      cases h2
      obtain ⟨e', g1, g2, g3, g4⟩ := find_some (kd := kd) (i := i + 1) r3 h1
      refine ⟨e', by simpa using g1, g2, g3, ?_⟩
      have : (n == x.1) = false := by simp [q]
      rw [Instr.findNow, r1]
      simp only [Instr.sameNow, if_true, this]
      rw [g4]; congr 3; omega
theorem find_none {ν : Nu} {n : Int} {kd : IntKind} : ∀ {es : List (Int × Comp)} {l : List MapEntry} {i : Nat}, Rel (EntR ν ρ) es l → fstE n es = none → Instr.findNow (.int kd) (.int .i64 n) l i = some none
  | [], [], i, r, h => rfl
  | [], _ :: _, i, r, h => r.elim
  | _ :: _, [], i, r, h => r.elim
  | x :: es, e :: l, i, r, h => by
    obtain ⟨⟨r1, r2⟩, r3⟩ := r
    unfold fstE at h
    by_cases q : n = x.1
    · rw [if_pos q] at h; cases h
    · rw [if_neg q] at h
      have h1 : fstE n es = none := by cases hh : fstE n es with | none => rfl | some p => rw [hh] at h; cases h
      have : (n == x.1) = false := by simp [q]
      rw [Instr.findNow, r1]
      simp only [Instr.sameNow, if_true, this]
      exact find_none r3 h1
theorem upd_some {ν : Nu} {n : Int} {c : Comp} {f : MapEntry → MapEntry} (hf : ∀ e, (f e).key = .int .i64 n ∧ CompR ν ρ c (f e).val) : ∀ {es : List (Int × Comp)} {l : List MapEntry} {j : Nat} {c0 : Comp}, Rel (EntR ν ρ) es l → fstE n es = some (j, c0) →
    Rel (EntR ν ρ) (updL n c es) (l.modify j f)
  | [], [], j, c0, r, h => by cases h
  | [], _ :: _, j, c0, r, h => r.elim
  | _ :: _, [], j, c0, r, h => r.elim
  | x :: es, e :: l, j, c0, r, h => by
    obtain ⟨r1, r3⟩ := r
    unfold fstE at h
    unfold updL
    by_cases q : n = x.1
    · rw [if_pos q] at h; cases h
      rw [if_pos q]
      exact ⟨hf e, r3⟩
    · rw [if_neg q] at h
      simp only [Option.map_eq_some_iff] at h
      obtain ⟨⟨j', c'⟩, h1, h2⟩ := h
      cases h2
      rw [if_neg q]
      exact ⟨r1, upd_some hf r3 h1⟩
theorem upd_none {n : Int} {c : Comp} : ∀ {es : List (Int × Comp)}, fstE n es = none → updL n c es = es ++ [(n, c)]
  | [], h => rfl
  | x :: es, h => by
    unfold fstE at h
    unfold updL
    by_cases q : n = x.1
    · rw [if_pos q] at h; cases h
    · rw [if_neg q] at h ⊢
      have h1 : fstE n es = none := by cases hh : fstE n es with | none => rfl | some p => rw [hh] at h; cases h
      rw [upd_none h1]; rfl
theorem del_some {ν : Nu} {n : Int} : ∀ {es : List (Int × Comp)} {l : List MapEntry} {j : Nat} {c0 : Comp}, Rel (EntR ν ρ) es l → fstE n es = some (j, c0) → Rel (EntR ν ρ) (delL n es) (l.eraseIdx j)
  | [], [], j, c0, r, h => by cases h
  | [], _ :: _, j, c0, r, h => r.elim
  | _ :: _, [], j, c0, r, h => r.elim
  | x :: es, e :: l, j, c0, r, h => by
    obtain ⟨r1, r3⟩ := r
    unfold fstE at h
    unfold delL
    by_cases q : n = x.1
    · rw [if_pos q] at h; cases h
      rw [if_pos q]
      exact r3
    · rw [if_neg q] at h
      simp only [Option.map_eq_some_iff] at h
      obtain ⟨⟨j', c'⟩, h1, h2⟩ := h
      cases h2
      rw [if_neg q]
      exact ⟨r1, del_some r3 h1⟩
theorem del_none {n : Int} : ∀ {es : List (Int × Comp)}, fstE n es = none → delL n es = es
  | [], h => rfl
  | x :: es, h => by
    unfold fstE at h
    unfold delL
    by_cases q : n = x.1
    · rw [if_pos q] at h; cases h
    · rw [if_neg q] at h ⊢
      have h1 : fstE n es = none := by cases hh : fstE n es with | none => rfl | some p => rw [hh] at h; cases h
      rw [del_none h1]
theorem mapK_true {id : Pth} {k : Nat → List (Int × Comp) → Bool} (h : mapK id s k = true) : ∃ B es, s.heap.get id = some B ∧ B.k = .map es ∧ k B.no es = true := by
  obtain ⟨h0, nx, c, wl, iv⟩ := s
  obtain ⟨B, hB, hk⟩ := getK_true (show getK id h0 (fun B => isMap B.k fun es => k B.no es) = true from h)
  cases hbk : B.k with
  | row op l => rw [hbk] at hk; cases hk
  | map es => rw [hbk] at hk; exact ⟨B, es, hB, hbk, hk⟩
  | dead => rw [hbk] at hk; cases hk
  | tab l => rw [hbk] at hk; cases hk
theorem isMp_true {c : Cell} {k : Pth → Bool} (h : isMp c k = true) : ∃ id, c = .map id ∧ k id = true := by
  cases c <;> first | (cases h; done) | exact ⟨_, rfl, h⟩
theorem run_getMap {w : World} {r : Nat} {es : Array MapEntry} {clock : Nat} (hb : w.heap[r]? = some (.map es clock)) : (getObj r).run P w = .ok (.map es clock) w := by
  simp [getObj, Sem.run, hb]
theorem run_setMap {w : World} {r : Nat} {es : Array MapEntry} {clock : Nat} (ob : Obj) (hb : w.heap[r]? = some (.map es clock)) : (setObj r ob).run P w = .ok () { w with heap := w.heap.setIfInBounds r ob } := by
  simp [setObj, Sem.run, hb]
theorem checkKey_int {w : World} {kt : TypeId} {kk kd : IntKind} {n : Int} (hk : P.underlying kt = some (.int kk)) (e : Bool) : (Instr.checkKey e 10000 kt (.int kd n)).run P w = .ok () w := by
  unfold Instr.checkKey
  simp [r_und hk]
theorem findKey_run {w : World} {kt : TypeId} {kk : IntKind} {n : Int} {l : List MapEntry} {r : Option (Nat × Value)} (hk : P.underlying kt = some (.int kk)) (h : Instr.findNow (.int kk) (.int .i64 n) l 0 = some r) : (Instr.findKey kt (.int .i64 n) l).run P w = .ok r w := by
  simp [Instr.findKey, r_und hk, h]
section
variable {mt kt et : TypeId} {kk : IntKind} (hm : P.underlying mt = some (.map kt et)) (hk : P.underlying kt = some (.int kk))
include hm hk
theorem mlk_sem (hg : g = ρ.gl.isSome) {x y : Operand} {xa ya : XA} (hx : xaOf g x = some xa) (hy : xaOf g y = some ya) {i : TypeInfo} {z : Value} {zc : Comp} (hi : P.info? et = some i) (hz : i.zero = some z) (hzc : compOf z = some zc)
    {ok : Bool} (ho : o.op = .lookup mt x y ok) (h : mlkF xa ya zc ok t s k = true) : ∃ v x B, k v s = true ∧ s.heap.get x = some B ∧ RSem P ρ o t x B v := by
  obtain ⟨c, h1, hc⟩ := ev1K_sound hx h
  obtain ⟨id, rfl, h2⟩ := isMp_true h1
  obtain ⟨d, h3, hd⟩ := ev1K_sound hy h2
  obtain ⟨kd, n, rfl, h4⟩ := isInt_true h3
  obtain ⟨hkd, h5⟩ := guardK_true h4
  cases kindB_true hkd
  clear h h1 h2 h3 h4
  obtain ⟨B, es, hB, hbk, h6⟩ := mapK_true h5
  have base : ∀ {m ν a}, MT m ν ρ t a → ∃ y, ν id = some y := fun r => by obtain ⟨b, n, e, _⟩ := hc hg r; exact ⟨_, e⟩
  rcases findK_true h6 with ⟨j, c, hf, h⟩ | ⟨hf, h⟩
  · cases ok with
    | false =>
      refine ⟨_, id, B, h, hB, base, fun {m ν a} r b n' w hν hbr => ?_⟩
      obtain ⟨b', nn, e, ev⟩ := hc hg r
      rw [hν] at e; cases e
      rw [hbk] at hbr
      obtain ⟨l, clock, e1, rr⟩ := hbr
      obtain ⟨en, g1, g2, g3, g4⟩ := find_some (kd := kk) (i := 0) rr hf
      have e2 : a.eval y = .int .i64 n := hd hg r
      refine ⟨en.val, g3, ?_⟩
      simp [execOp, ho, Instr.lookup, r_und hm, ev, e2, run_getMap e1, checkKey_int hk, findKey_run hk g4]
    | true =>
      refine ⟨_, id, B, h, hB, base, fun {m ν a} r b n' w hν hbr => ?_⟩
      obtain ⟨b', nn, e, ev⟩ := hc hg r
      rw [hν] at e; cases e
      rw [hbk] at hbr
      obtain ⟨l, clock, e1, rr⟩ := hbr
      obtain ⟨en, g1, g2, g3, g4⟩ := find_some (kd := kk) (i := 0) rr hf
      have e2 : a.eval y = .int .i64 n := hd hg r
      refine ⟨.tuple #[en.val, .bool true], ⟨[en.val, .bool true], rfl, g3, rfl, trivial⟩, ?_⟩
      simp [execOp, ho, Instr.lookup, r_und hm, ev, e2, run_getMap e1, checkKey_int hk, findKey_run hk g4]
  · cases ok with
    | false =>
      refine ⟨_, id, B, h, hB, base, fun {m ν a} r b n' w hν hbr => ?_⟩
      obtain ⟨b', nn, e, ev⟩ := hc hg r
      rw [hν] at e; cases e
      rw [hbk] at hbr
      obtain ⟨l, clock, e1, rr⟩ := hbr
      have g4 := find_none (kd := kk) (i := 0) rr hf
      have e2 : a.eval y = .int .i64 n := hd hg r
      refine ⟨z, compOf_sound hzc, ?_⟩
      simp [execOp, ho, Instr.lookup, r_und hm, ev, e2, run_getMap e1, checkKey_int hk, findKey_run hk g4, r_zero hi hz]
    | true =>
      refine ⟨_, id, B, h, hB, base, fun {m ν a} r b n' w hν hbr => ?_⟩
      obtain ⟨b', nn, e, ev⟩ := hc hg r
      rw [hν] at e; cases e
      rw [hbk] at hbr
      obtain ⟨l, clock, e1, rr⟩ := hbr
      have g4 := find_none (kd := kk) (i := 0) rr hf
      have e2 : a.eval y = .int .i64 n := hd hg r
      refine ⟨.tuple #[z, .bool false], ⟨[z, .bool false], rfl, compOf_sound hzc, rfl, trivial⟩, ?_⟩
      simp [execOp, ho, Instr.lookup, r_und hm, ev, e2, run_getMap e1, checkKey_int hk, findKey_run hk g4, r_zero hi hz]
theorem mup_sem (hg : g = ρ.gl.isSome) {x y v : Operand} {xa ya va : XA} (hx : xaOf g x = some xa) (hy : xaOf g y = some ya) (hv : xaOf g v = some va) (ho : o.op = .mapUpdate mt x y v) (h : mupF xa ya va t s k = true) :
    ∃ x B bk, k .unk (s.put x B bk) = true ∧ s.heap.get x = some B ∧ B.k ≠ .dead ∧ s.wlo ≤ B.no ∧ SSem P ρ o t x B bk := by
  obtain ⟨c, h1, hc⟩ := ev1K_sound hx h
  obtain ⟨id, rfl, h2⟩ := isMp_true h1
  obtain ⟨d, h3, hd⟩ := ev1K_sound hy h2
  obtain ⟨kd, n, rfl, h4⟩ := isInt_true h3
  obtain ⟨hkd, h5⟩ := guardK_true h4
  cases kindB_true hkd
  clear h h1 h2 h3 h4
  obtain ⟨u, h6, hu⟩ := evK_sound hv h5
  obtain ⟨vc, rfl, h7⟩ := isComp_true h6
  clear h5 h6
  obtain ⟨B, es, hB, hbk, h8⟩ := mapK_true h7
  rw [updK_eq] at h8
  obtain ⟨hw, h⟩ := putBK_true h8
  refine ⟨id, B, _, h, hB, (by rw [hbk]; exact fun h => (by cases h)), hw, fun r => ?_, fun {m ν a} r b n' w hν hlt hbr => ?_⟩
  · obtain ⟨b, n, e, _⟩ := hc hg r; exact ⟨_, e⟩
  obtain ⟨b', nn, e, ev⟩ := hc hg r
  rw [hν] at e; cases e
  rw [hbk] at hbr
  obtain ⟨l, clock, e1, rr⟩ := hbr
  have e2 : a.eval y = .int .i64 n := hd hg r
  have rv : CompR ν ρ vc (a.eval v) := hu hg r
  cases hf : fstE n es with
  | some p =>
    obtain ⟨j, c0⟩ := p
    obtain ⟨en, g1, g2, g3, g4⟩ := find_some (kd := kk) (i := 0) rr hf
    rw [Nat.zero_add] at g4
    have g1' : l[j]? = some en := by simpa using g1
    refine ⟨.map (l.modify j fun e => { e with key := .int .i64 n, val := a.eval v }) clock, ⟨_, _, rfl, ?_⟩, ?_⟩
    · rw [Array.toList_modify]
      exact upd_some (fun e => ⟨rfl, rv⟩) rr hf
    · simp [execOp, ho, Instr.mapUpdate, r_und hm, ev, e2, run_getMap e1, checkKey_int hk, findKey_run hk g4, g1', g2, Instr.keyThatStays, Instr.sameBits, run_setMap _ e1]
  | none =>
    have g4 := find_none (kd := kk) (i := 0) rr hf
    refine ⟨.map (l.push { key := .int .i64 n, val := a.eval v, born := clock }) (clock + 1), ⟨_, _, rfl, ?_⟩, ?_⟩
    · rw [upd_none hf, Array.toList_push]
      exact Rel.append rr ⟨⟨rfl, rv⟩, trivial⟩
    · simp [execOp, ho, Instr.mapUpdate, r_und hm, ev, e2, run_getMap e1, checkKey_int hk, findKey_run hk g4, run_setMap _ e1]
theorem mup_ot (hg : g = ρ.gl.isSome) (hn : Num s) (hi : IvOK ρ s.iv) {x y v : Operand} {xa ya va : XA} (hx : xaOf g x = some xa) (hy : xaOf g y = some ya) (hv : xaOf g v = some va) (ho : o.op = .mapUpdate mt x y v) (h : mupF xa ya va t s k = true) :
    ∃ v s', k v s' = true ∧ Pure ρ s s' ∧ OT P ρ o t s v s' := by
  obtain ⟨x, B, bk, h1, h2, h3, h4, h5⟩ := mup_sem hm hk hg hx hy hv ho h
  exact ⟨_, _, h1, pure_put hn hi h2 bk, h5.ot h2 h3 h4⟩
theorem mdl_ot (hg : g = ρ.gl.isSome) (hn : Num s) (hi : IvOK ρ s.iv) {c : Call} {x y : Operand} {xa ya : XA} {tt : TypeId} (hx : xaOf g x = some xa) (hy : xaOf g y = some ya) (hc : c.callee = .builtin .delete) (ha : c.args = #[x, y]) (ht : c.argTypes = #[mt, tt])
    (ho : o.op = .call c) (h : mdlF xa ya t s k = true) : ∃ v s', k v s' = true ∧ Pure ρ s s' ∧ OT P ρ o t s v s' := by
  obtain ⟨d0, h1, hc0⟩ := ev1K_sound hx h
  obtain ⟨id, rfl, h2⟩ := isMp_true h1
  obtain ⟨d, h3, hd⟩ := ev1K_sound hy h2
  obtain ⟨kd, n, rfl, h4⟩ := isInt_true h3
  obtain ⟨hkd, h5⟩ := guardK_true h4
  cases kindB_true hkd
  clear h h1 h2 h3 h4
  obtain ⟨B, es, hB, hbk, h8⟩ := mapK_true h5
  rw [delK_eq] at h8
  obtain ⟨hw, h⟩ := putBK_true h8
  refine ⟨_, _, h, pure_put hn hi hB _, fun {Q next m n0 w0 ν a w} mt' mw un hkk => ?_⟩
  obtain ⟨b', nn, e, ev⟩ := hc0 hg mt'
  obtain ⟨b, n', hν, hlt, hbr⟩ := mw.blk id B hB
  rw [hν] at e; cases e
  have hbr0 := hbr
  rw [hbk] at hbr
  obtain ⟨l, clock, e1, rr⟩ := hbr
  have e2 : a.eval y = .int .i64 n := hd hg mt'
  have fin : ∀ ob, BR ν ρ nn (some ob) (.map (delL n es)) → (execOp a.eval o).run P w = .ok (.value (.tuple #[])) { w with heap := w.heap.setIfInBounds b' ob } → o.wp P a w next Q := by
    intro ob hob hr
    refine wp_value hr (hkk _ ν _ (Ext.refl _ _ _) trivial ?_)
    rw [St.put_h]
    exact mw.write hB (by rw [hbk]; exact fun h => (by cases h)) hν hw hob
  cases hf : fstE n es with
  | some p =>
    obtain ⟨j, c0⟩ := p
    obtain ⟨en, g1, g2, g3, g4⟩ := find_some (kd := kk) (i := 0) rr hf
    rw [Nat.zero_add] at g4
    refine fin (.map (l.eraseIdxIfInBounds j) clock) ⟨_, _, rfl, ?_⟩ ?_
    · have : (l.eraseIdxIfInBounds j).toList = l.toList.eraseIdx j := by simp
      rw [this]
      exact del_some rr hf
    · simp [execOp, ho, resolve, hc, ha, ht, invoke, builtin, Builtin.delete_, r_und hm, ev, e2, run_getMap e1, checkKey_int hk, findKey_run hk g4, run_setMap _ e1]
  | none =>
    have g4 := find_none (kd := kk) (i := 0) rr hf
    refine fin (.map l clock) ⟨_, _, rfl, by rw [del_none hf]; exact rr⟩ ?_
    simp [execOp, ho, resolve, hc, ha, ht, invoke, builtin, Builtin.delete_, r_und hm, ev, e2, run_getMap e1, checkKey_int hk, findKey_run hk g4, run_setMap _ e1]
end
end Go.Rse
