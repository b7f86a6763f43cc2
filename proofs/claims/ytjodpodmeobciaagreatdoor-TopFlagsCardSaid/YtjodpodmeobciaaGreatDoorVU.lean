/- An executor over a program's operations: values of several cells held against each other; maps whose keys are numbers. Conditions: none. -/
import Derived.Test.YtjodpodmeobciaaGreatDoorVN
import Derived.Laws.StructEq
import Derived.MapKept
namespace Go.Rsf
open Go.RowKit
set_option linter.unusedVariables false
set_option linter.unusedSimpArgs false
variable {P : Program} {ρ : Rho} {g : Bool} {o : Oper} {t : Ts} {s : St} {k : KVS}

theorem sameIK_true {iv : List Iv} (hi : IvOK ρ iv) {a b : Cell} {k : Bool → Bool} (h0 : sameIK iv a b k = true) :
    ∃ c, k c = true ∧ ∀ {ν : Nu} {v u : Value}, CR ν ρ a v → CR ν ρ b u → ∃ kd m n, v = .int kd m ∧ u = .int kd n ∧ c = (m == n) := by
  have one : ∀ {sy : Nat} {x : Iv}, iv[sy]? = some x → ieqB x.lo x.hi = true → ρ.val sy = x.lo := by
    intro sy x hx hh
    rw [ieqB_eq] at hh
    have hh := of_decide_eq_true hh
    obtain ⟨⟨l, u⟩, _⟩ := hi sy x hx
    omega
  rcases numK_true h0 with ⟨ka, m, rfl, h2⟩ | ⟨ka, x, sy, c, rfl, h2⟩ <;> clear h0
  · rcases numK_true h2 with ⟨kb, n, rfl, h⟩ | ⟨kb, y, sz, d, rfl, h⟩ <;> clear h2
    · obtain ⟨h1, h3⟩ := guardK_true h
      clear h
      cases kindB_true h1
      exact ⟨_, h3, fun {ν v u} r1 r2 => ⟨ka, m, n, r1, r2, by rw [ieqB_eq]; rfl⟩⟩
    · obtain ⟨h1, h3⟩ := guardK_true h
      clear h
      cases kindB_true h1
      obtain ⟨X, hX, h4⟩ := nthIv_true h3
      obtain ⟨h2, h5⟩ := guardK_true h4
      refine ⟨_, h5, fun {ν v u} r1 r2 => ⟨ka, m, _, r1, r2, ?_⟩⟩
      rw [one hX h2, ieqB_eq]; rfl
  · rcases numK_true h2 with ⟨kb, n, rfl, h⟩ | ⟨kb, y, sz, d, rfl, h⟩ <;> clear h2
    · obtain ⟨h1, h3⟩ := guardK_true h
      clear h
      cases kindB_true h1
      obtain ⟨X, hX, h4⟩ := nthIv_true h3
      obtain ⟨h2, h5⟩ := guardK_true h4
      refine ⟨_, h5, fun {ν v u} r1 r2 => ⟨ka, _, n, r1, r2, ?_⟩⟩
      rw [one hX h2, ieqB_eq]; rfl
    · obtain ⟨h1, h3⟩ := guardK_true h
      clear h
      cases kindB_true h1
      obtain ⟨h2, h4⟩ := guardK_true h3
      obtain ⟨h5, h6⟩ := guardK_true h4
      clear h3 h4
      have h2 := Nat.eq_of_beq_eq_true h2
      rw [ieqB_eq] at h5
      have h5 := of_decide_eq_true h5
      subst h2; subst h5
      refine ⟨_, h6, fun {ν v u} r1 r2 => ⟨ka, _, _, r1, r2, ?_⟩⟩
      rw [ieqB_eq]
      show decide (c = d) = decide (x * ρ.val sy + c = x * ρ.val sy + d)
      by_cases e : c = d
      · rw [e]; simp
      · rw [decide_eq_false e, decide_eq_false (by omega)]
theorem sameBK_true {a b : Cell} {k : Bool → Bool} (h0 : sameBK a b k = true) :
    ∃ c, k c = true ∧ ∀ {ν : Nu} {v u : Value}, CR ν ρ a v → CR ν ρ b u → ∃ m n, v = .bool m ∧ u = .bool n ∧ c = (m == n) := by
  obtain ⟨x, rfl, h1⟩ := isBoo_true h0
  obtain ⟨y, rfl, h⟩ := isBoo_true h1
  exact ⟨_, h, fun {ν v u} r1 r2 => ⟨x, y, r1, r2, by cases x <;> cases y <;> rfl⟩⟩
/-- Fields of one cell each, numbers (true) or truths, one behind the other. -/
def flatB (P : Program) : List Field → Nat → List Bool → Bool
  | [], _, [] => true
  | f :: fs, i, q :: ks => f.name != "_" && Nat.beq f.offset i && (match P.underlying f.type with | some (.int _) => q | some .bool => !q | _ => false) && flatB P fs (i + 1) ks
  | _, _, _ => false
theorem part_flat {t : TypeId} {d : TypeDesc} (h : P.underlying t = some d) (hd : aggD d = false) {xs : Array Value} {i : Nat} {v : Value} (hv : xs[i]? = some v) (w : World) : (part t xs i).run P w = .ok v w := by
  simp [part, r_isAgg h, hd, hv]
theorem eqFields_true {d : Nat} {iv : List Iv} (hi : IvOK ρ iv) : ∀ {fs : List Field} {i : Nat} {ks : List Bool} {l r : List Cell} {k : Bool → Bool}, flatB P fs i ks = true → sameLK iv ks l r k = true →
    ∃ b, k b = true ∧ ∀ {ν : Nu} {xs ys : Array Value}, Rel (CR ν ρ) l (xs.toList.drop i) → Rel (CR ν ρ) r (ys.toList.drop i) → ∀ w, (Op.eqFields (d + 1) xs ys fs).run P w = .ok b w
  | [], i, [], l, r, k, hf, h => ⟨true, h, fun _ _ w => rfl⟩
  | [], i, q :: ks, l, r, k, hf, h => by cases hf
  | f :: fs, i, [], l, r, k, hf, h => by cases hf
  | f :: fs, i, q :: ks, l, r, k, hf, h => by
    unfold flatB at hf
    simp only [Bool.and_eq_true, bne_iff_ne, ne_eq] at hf
    obtain ⟨⟨⟨f1, f2⟩, f3⟩, f4⟩ := hf
    have f2 : f.offset = i := Nat.eq_of_beq_eq_true f2
    cases l with
    | nil => cases h
    | cons x l =>
    cases r with
    | nil => cases h
    | cons y r =>
    have step : ∃ c, (@Bool.rec (fun _ => Bool) (k false) (sameLK iv ks l r k) c) = true ∧ ∀ {ν : Nu} {v u : Value}, CR ν ρ x v → CR ν ρ y u → ∀ w, (Op.equalIn (d + 1) f.type v u).run P w = .ok c w ∧ (∃ dd, P.underlying f.type = some dd ∧ aggD dd = false) := by
      split at f3
      · rename_i kd hu
        subst f3
        obtain ⟨c, hc, hr⟩ := sameIK_true hi (show sameIK iv x y (fun b => @Bool.rec (fun _ => Bool) (k false) (sameLK iv ks l r k) b) = true from h)
        refine ⟨c, hc, fun {ν v u} r1 r2 w => ?_⟩
        obtain ⟨kk, m, n, rfl, rfl, rfl⟩ := hr r1 r2
        exact ⟨run_equalIn_int w d f.type kk kd m n hu, _, hu, rfl⟩
      · rename_i hu
        have f3 : q = false := by simpa using f3
        subst f3
        obtain ⟨c, hc, hr⟩ := sameBK_true (show sameBK x y (fun b => @Bool.rec (fun _ => Bool) (k false) (sameLK iv ks l r k) b) = true from h)
        refine ⟨c, hc, fun {ν v u} r1 r2 w => ?_⟩
        obtain ⟨m, n, rfl, rfl, rfl⟩ := hr r1 r2
        exact ⟨run_equalIn_bool' w d f.type m n hu, _, hu, rfl⟩
      · cases f3
    obtain ⟨c, hc, hr⟩ := step
    have heads : ∀ {ν : Nu} {z : Cell} {zs : List Cell} {as : Array Value}, Rel (CR ν ρ) (z :: zs) (as.toList.drop i) → ∃ v, as[i]? = some v ∧ CR ν ρ z v ∧ Rel (CR ν ρ) zs (as.toList.drop (i + 1)) := by
      intro ν z zs as rr
      cases hd : as.toList.drop i with
      | nil => rw [hd] at rr; exact rr.elim
      | cons v vs =>
        rw [hd] at rr
        have e1 : as.toList[i]? = some v := by
          have := congrArg (·[0]?) hd
          simpa using this
        have e2 : as.toList.drop (i + 1) = vs := by
          have := congrArg List.tail hd
          simpa using this
        exact ⟨v, by simpa using e1, rr.1, by rw [e2]; exact rr.2⟩
    cases c with
    | false =>
      refine ⟨false, hc, fun {ν xs ys} r1 r2 w => ?_⟩
      obtain ⟨v, hv, rv, _⟩ := heads r1
      obtain ⟨u, hu, ru, _⟩ := heads r2
      obtain ⟨e, dd, hdd, ha⟩ := hr rv ru w
      rw [Op.eqFields, if_pos f1, f2]
      simp [part_flat hdd ha hv, part_flat hdd ha hu, e]
    | true =>
      obtain ⟨b, hb, hrun⟩ := eqFields_true (d := d) hi f4 (show sameLK iv ks l r k = true from hc)
      refine ⟨b, hb, fun {ν xs ys} r1 r2 w => ?_⟩
      obtain ⟨v, hv, rv, rv2⟩ := heads r1
      obtain ⟨u, hu, ru, ru2⟩ := heads r2
      obtain ⟨e, dd, hdd, ha⟩ := hr rv ru w
      rw [Op.eqFields, if_pos f1, f2]
      simp [part_flat hdd ha hv, part_flat hdd ha hu, e, hrun rv2 ru2]
theorem eqg_sem (hg : g = ρ.gl.isSome) (hi : IvOK ρ s.iv) {neg : Bool} {ks : List Bool} {ty ty' : TypeId} {x y : Operand} {xa ya : XA} (hx : xaOf g x = some xa) (hy : xaOf g y = some ya) (ht : P.underlying ty = some (.struct (P.fieldsOf ty)))
    (hp : P.stoodInHeld ty = false) (hq : P.eqGuardType P.depth ty = false) (hf : flatB P (P.fieldsOf ty).toList 0 ks = true) (ho : o.op = .binOp (eqBin neg) ty x y ty') (h : eqgF neg ks xa ya t s k = true) : ∃ v, k v s = true ∧ WSem P ρ o t v := by
  obtain ⟨a, h, ha⟩ := evK_sound hx h
  obtain ⟨l, rfl, h⟩ := isAggK_true h
  obtain ⟨b, h, hb⟩ := evK_sound hy h
  obtain ⟨r, rfl, h⟩ := isAggK_true h
  obtain ⟨c, h, hrun⟩ := eqFields_true (d := 9998) hi hf h
  have h := boolK_true h
  refine ⟨_, h, fun {m ν a} rm => ?_⟩
  obtain ⟨vs, e1, r1⟩ := ha hg rm
  obtain ⟨us, e2, r2⟩ := hb hg rm
  refine ⟨_, rfl, fun w => ?_⟩
  have hr := hrun (ν := ν) (xs := vs.toArray) (ys := us.toArray) (by simpa using r1) (by simpa using r2) w
  have heq : (Op.equalIn 10000 ty (.agg vs.toArray) (.agg us.toArray)).run P w = .ok c w := by rw [run_equalIn_struct w 9999 ty _ _ ht hp]; exact hr
  cases neg
  · have := run_eql_struct (P := P) w ty vs.toArray us.toArray
    rw [heq] at this
    simp [execOp, ho, eqBin, e1, e2, run_eqGuard_agg w _ ty x y _ _ hq, this]
  · have := run_neq_struct (P := P) w ty vs.toArray us.toArray
    rw [heq] at this
    simp [execOp, ho, eqBin, e1, e2, run_eqGuard_agg w _ ty x y _ _ hq, this]

/-! ### Maps -/
def fstE (n : Int) : List (Int × Comp) → Option (Nat × Comp)
  | [] => none
  | x :: l => if n = x.1 then some (0, x.2) else (fstE n l).map fun p => (p.1 + 1, p.2)
/-- All entries but those of a number. -/
def awayL (n : Int) : List (Int × Comp) → List (Int × Comp)
  | [] => []
  | x :: l => if n = x.1 then awayL n l else x :: awayL n l
def updL (n : Int) (c : Comp) (es : List (Int × Comp)) : List (Int × Comp) := (n, c) :: awayL n es
theorem findK_true {n : Int} {yes : Comp → Bool} {no : Bool} : ∀ {es : List (Int × Comp)}, findK n yes no es = true → (∃ j c, fstE n es = some (j, c) ∧ yes c = true) ∨ (fstE n es = none ∧ no = true)
  | [], h => .inr ⟨rfl, h⟩
  | x :: l, h => by
    have h : (@Bool.rec (fun _ => Bool) (findK n yes no l) (yes x.2) (ieqB n x.1)) = true := h
    rw [ieqB_eq] at h
    unfold fstE
    by_cases e : n = x.1
    · rw [decide_eq_true e] at h; rw [if_pos e]; exact .inl ⟨0, _, rfl, h⟩
    · rw [decide_eq_false e] at h; rw [if_neg e]
      rcases findK_true (es := l) h with ⟨j, c, h1, h2⟩ | ⟨h1, h2⟩
      · exact .inl ⟨j + 1, c, by rw [h1]; rfl, h2⟩
      · exact .inr ⟨by rw [h1]; rfl, h2⟩
theorem delK_eq {n : Int} : ∀ {es : List (Int × Comp)} {k : List (Int × Comp) → Bool}, delK n es k = k (awayL n es)
  | [], k => rfl
  | x :: l, k => by
    have h : delK n (x :: l) k = @Bool.rec (fun _ => Bool) (delK n l fun l => k (x :: l)) (delK n l k) (ieqB n x.1) := rfl
    rw [h, ieqB_eq]
    unfold awayL
    by_cases e : n = x.1
    · rw [decide_eq_true e, if_pos e]; exact delK_eq (es := l)
    · rw [decide_eq_false e, if_neg e]; exact delK_eq (es := l)
theorem updK_eq {n : Int} {c : Comp} {es : List (Int × Comp)} {k : List (Int × Comp) → Bool} : updK n c es k = k (updL n c es) := delK_eq (es := es)
theorem fstE_mem {n : Int} : ∀ {es : List (Int × Comp)} {j : Nat} {c : Comp}, fstE n es = some (j, c) → (n, c) ∈ es
  | [], j, c, h => by cases h
  | x :: es, j, c, h => by
    unfold fstE at h
    by_cases q : n = x.1
    · rw [if_pos q] at h
      cases h
      obtain ⟨x1, x2⟩ := x
      have q : n = x1 := q
      subst q
      exact List.mem_cons_self ..
    · rw [if_neg q] at h
      simp only [Option.map_eq_some_iff] at h
      obtain ⟨⟨j', c'⟩, h1, h2⟩ := h
      cases h2
      exact List.mem_cons_of_mem _ (fstE_mem h1)
/-- The first entry is what is found. -/
theorem find_first {n : Int} {kd : IntKind} : ∀ {l : List MapEntry} {j i : Nat} {e : MapEntry}, KeysI l → FirstE l n j e → Instr.findNow (.int kd) (.int .i64 n) l i = some (some (i + j, e.val))
  | [], j, i, e, _, h => by obtain ⟨h, _⟩ := h; simp at h
  | f :: l, j, i, e, hk, ⟨h1, h2, h3⟩ => by
    obtain ⟨q, hq⟩ := hk f (List.mem_cons_self ..)
    cases j with
    | zero =>
      simp only [List.getElem?_cons_zero, Option.some.injEq] at h1
      subst h1
      simp [Instr.findNow, h2, Instr.sameNow]
    | succ j =>
      have hne : f.key ≠ .int .i64 n := h3 0 (Nat.zero_lt_succ _) f rfl
      rw [hq] at hne
      have hne : (n == q) = false := by
        rw [beq_eq_false_iff_ne]; intro e; subst e; exact hne rfl
      have := find_first (kd := kd) (i := i + 1) (fun e he => hk e (List.mem_cons_of_mem _ he)) (⟨by simpa using h1, h2, fun i' hi f' hf => h3 (i' + 1) (by omega) f' (by simpa using hf)⟩ : FirstE l n j e)
      rw [Instr.findNow, hq]
      simp only [Instr.sameNow, if_true, hne]
      rw [this]; congr 3; omega
/-- Something is found, or nothing. -/
theorem find_any {n : Int} {kd : IntKind} : ∀ {l : List MapEntry} (i : Nat), KeysI l → (∃ j e, FirstE l n j e) ∨ Instr.findNow (.int kd) (.int .i64 n) l i = some none
  | [], i, _ => .inr rfl
  | f :: l, i, hk => by
    obtain ⟨q, hq⟩ := hk f (List.mem_cons_self ..)
    by_cases hn : q = n
    · subst hn
      exact .inl ⟨0, f, rfl, hq, fun i h => absurd h (Nat.not_lt_zero _)⟩
    · rcases find_any (n := n) (kd := kd) (l := l) (i + 1) (fun e he => hk e (List.mem_cons_of_mem _ he)) with ⟨j, e, h1, h2, h3⟩ | h
      · refine .inl ⟨j + 1, e, by simpa using h1, h2, fun i' hi f' hf => ?_⟩
        cases i' with
        | zero =>
          simp only [List.getElem?_cons_zero, Option.some.injEq] at hf
          subst hf
          rw [hq]; intro e; injection e with _ e; exact hn e
        | succ i' => exact h3 i' (by omega) f' (by simpa using hf)
      · refine .inr ?_
        have : (n == q) = false := by rw [beq_eq_false_iff_ne]; exact Ne.symm hn
        rw [Instr.findNow, hq]
        simp only [Instr.sameNow, if_true, this]
        exact h
theorem none_first {n : Int} {kd : IntKind} : ∀ {l : List MapEntry} {i : Nat}, Instr.findNow (.int kd) (.int .i64 n) l i = some none → KeysI l → ¬ ∃ (j : Nat) (e : MapEntry), l[j]? = some e ∧ e.key = .int .i64 n
  | [], i, _, _, ⟨j, e, h, _⟩ => by simp at h
  | f :: l, i, h, hk, ⟨j, e, h1, h2⟩ => by
    obtain ⟨q, hq⟩ := hk f (List.mem_cons_self ..)
    by_cases hn : n = q
    · subst hn
      rw [Instr.findNow, hq] at h
      simp [Instr.sameNow] at h
    · have hb : (n == q) = false := by rw [beq_eq_false_iff_ne]; exact hn
      rw [Instr.findNow, hq] at h
      simp only [Instr.sameNow, if_true, hb] at h
      cases j with
      | zero =>
        simp only [List.getElem?_cons_zero, Option.some.injEq] at h1
        subst h1
        rw [hq] at h2; injection h2 with _ h2; exact hn h2.symm
      | succ j => exact none_first h (fun e he => hk e (List.mem_cons_of_mem _ he)) ⟨j, e, by simpa using h1, h2⟩
theorem FirstE.same {l : List MapEntry} {n : Int} {j j' : Nat} {e e' : MapEntry} (h : FirstE l n j e) (h' : FirstE l n j' e') : j = j' := by
  obtain ⟨h1, h2, h3⟩ := h
  obtain ⟨g1, g2, g3⟩ := h'
  rcases Nat.lt_trichotomy j j' with q | q | q
  · exact absurd h2 (g3 j q e h1)
  · exact q
  · exact absurd g2 (h3 j' q e' g1)
theorem find_lt {n : Int} {l : List MapEntry} {j : Nat} {e : MapEntry} (h : FirstE l n j e) : j < l.length := (List.getElem?_eq_some_iff.1 h.1).1
/-- One entry is given another value. -/
theorem first_modify {l : List MapEntry} {n q : Int} {j i : Nat} {e : MapEntry} {f : MapEntry → MapEntry} (hf : ∀ e, (f e).key = .int .i64 n) (he : ∃ e0, FirstE l n i e0) (h : FirstE l q j e) (hne : q ≠ n) : FirstE (l.modify i f) q j e := by
  obtain ⟨e0, g1, g2, g3⟩ := he
  obtain ⟨h1, h2, h3⟩ := h
  have hij : i ≠ j := by
    intro x; subst x
    rw [g1] at h1; cases h1
    rw [g2] at h2; injection h2 with _ h2; exact hne h2.symm
  refine ⟨by rw [List.getElem?_modify]; simp [hij, h1], h2, fun k hk f' hf' => ?_⟩
  rw [List.getElem?_modify] at hf'
  by_cases x : i = k
  · subst x
    rw [g1] at hf'
    simp at hf'
    subst hf'
    rw [hf]; intro x; injection x with _ x; exact hne x.symm
  · simp only [x, if_false, id_map'] at hf'
    exact h3 k hk f' (by simpa using hf')
theorem mem_away {n : Int} : ∀ {es : List (Int × Comp)} {x : Int × Comp}, x ∈ awayL n es → x ∈ es ∧ x.1 ≠ n
  | [], x, h => by cases h
  | y :: es, x, h => by
    unfold awayL at h
    by_cases q : n = y.1
    · rw [if_pos q] at h
      obtain ⟨h1, h2⟩ := mem_away h
      exact ⟨List.mem_cons_of_mem _ h1, h2⟩
    · rw [if_neg q] at h
      rcases List.mem_cons.1 h with h | h
      · subst h; exact ⟨List.mem_cons_self .., fun e => q e.symm⟩
      · obtain ⟨h1, h2⟩ := mem_away h
        exact ⟨List.mem_cons_of_mem _ h1, h2⟩
theorem mapK_true {id : Pth} {k : Nat → List (Int × Comp) → Bool} (h : mapK id s k = true) : ∃ B es, s.heap.get id = some B ∧ B.k = .map es ∧ k B.no es = true := by
  obtain ⟨h0, nx, c, wl, iv⟩ := s
  obtain ⟨B, hB, hk⟩ := getK_true (show getK id h0 (fun B => isMap B.k fun es => k B.no es) = true from h)
  cases hbk : B.k with
  | row op l => rw [hbk] at hk; cases hk
  | map es => rw [hbk] at hk; exact ⟨B, es, hB, hbk, hk⟩
  | dead => rw [hbk] at hk; cases hk
  | tab l => rw [hbk] at hk; cases hk
theorem isMp_true {c : Cell} {k : Pth → Bool} (h : isMp c k = true) : ∃ id, c = .map id ∧ k id = true := by
  cases c <;> first | (cases h; done) | exact ⟨_, rfl, h⟩
theorem run_getMap {w : World} {r : Nat} {es : Array MapEntry} {clock : Nat} (hb : w.heap[r]? = some (.map es clock)) : (getObj r).run P w = .ok (.map es clock) w := by
  simp [getObj, Sem.run, hb]
theorem run_setMap {w : World} {r : Nat} {es : Array MapEntry} {clock : Nat} (ob : Obj) (hb : w.heap[r]? = some (.map es clock)) : (setObj r ob).run P w = .ok () { w with heap := w.heap.setIfInBounds r ob } := by
  simp [setObj, Sem.run, hb]
theorem checkKey_int {w : World} {kt : TypeId} {kk kd : IntKind} {n : Int} (hk : P.underlying kt = some (.int kk)) (e : Bool) : (Instr.checkKey e 10000 kt (.int kd n)).run P w = .ok () w := by
  unfold Instr.checkKey
  simp [r_und hk]
theorem findKey_run {w : World} {kt : TypeId} {kk : IntKind} {n : Int} {l : List MapEntry} {r : Option (Nat × Value)} (hk : P.underlying kt = some (.int kk)) (h : Instr.findNow (.int kk) (.int .i64 n) l 0 = some r) : (Instr.findKey kt (.int .i64 n) l).run P w = .ok r w := by
  simp [Instr.findKey, r_und hk, h]
section
variable {mt kt et : TypeId} {kk : IntKind} (hm : P.underlying mt = some (.map kt et)) (hk : P.underlying kt = some (.int kk))
include hm hk
theorem mlk_sem (hg : g = ρ.gl.isSome) {x y : Operand} {xa ya : XA} (hx : xaOf g x = some xa) (hy : xaOf g y = some ya) {i : TypeInfo} {z : Value} {zc : Comp} (hi : P.info? et = some i) (hz : i.zero = some z) (hzc : compOf z = some zc)
    {ok : Bool} (ho : o.op = .lookup mt x y ok) (h : mlkF xa ya zc ok t s k = true) : ∃ v x B, k v s = true ∧ s.heap.get x = some B ∧ RSem P ρ o t x B v := by
  obtain ⟨c, h1, hc⟩ := ev1K_sound hx h
  obtain ⟨id, rfl, h2⟩ := isMp_true h1
  obtain ⟨d, h3, hd⟩ := ev1K_sound hy h2
  obtain ⟨kd, n, rfl, h4⟩ := isInt_true h3
  obtain ⟨hkd, h5⟩ := guardK_true h4
  cases kindB_true hkd
  clear h h1 h2 h3 h4
  obtain ⟨B, es, hB, hbk, h6⟩ := mapK_true h5
  have base : ∀ {m ν a}, MT m ν ρ t a → ∃ y, ν id = some y := fun r => by obtain ⟨b, n, e, _⟩ := hc hg r; exact ⟨_, e⟩
  rcases findK_true h6 with ⟨j, c, hf, h⟩ | ⟨_, h⟩
  case inr => cases h
  have hmem := fstE_mem hf
  cases ok with
  | false =>
    refine ⟨_, id, B, h, hB, base, fun {m ν a} r b n' w hν hbr => ?_⟩
    obtain ⟨b', nn, e, ev⟩ := hc hg r
    rw [hν] at e; cases e
    rw [hbk] at hbr
    obtain ⟨l, clock, e1, hks, rr⟩ := hbr
    obtain ⟨j, en, hfe, hcr⟩ := rr _ hmem
    have g4 := find_first (kd := kk) (i := 0) hks hfe
    have e2 : a.eval y = .int .i64 n := hd hg r
    refine ⟨en.val, hcr, ?_⟩
    simp [execOp, ho, Instr.lookup, r_und hm, ev, e2, run_getMap e1, checkKey_int hk, findKey_run hk g4]
  | true =>
    refine ⟨_, id, B, h, hB, base, fun {m ν a} r b n' w hν hbr => ?_⟩
    obtain ⟨b', nn, e, ev⟩ := hc hg r
    rw [hν] at e; cases e
    rw [hbk] at hbr
    obtain ⟨l, clock, e1, hks, rr⟩ := hbr
    obtain ⟨j, en, hfe, hcr⟩ := rr _ hmem
    have g4 := find_first (kd := kk) (i := 0) hks hfe
    have e2 : a.eval y = .int .i64 n := hd hg r
    refine ⟨.tuple #[en.val, .bool true], ⟨[en.val, .bool true], rfl, hcr, rfl, trivial⟩, ?_⟩
    simp [execOp, ho, Instr.lookup, r_und hm, ev, e2, run_getMap e1, checkKey_int hk, findKey_run hk g4]
theorem mup_sem (hg : g = ρ.gl.isSome) {x y v : Operand} {xa ya va : XA} (hx : xaOf g x = some xa) (hy : xaOf g y = some ya) (hv : xaOf g v = some va) (ho : o.op = .mapUpdate mt x y v) (h : mupF xa ya va t s k = true) :
    ∃ x B bk, k .unk (s.put x B bk) = true ∧ s.heap.get x = some B ∧ B.k ≠ .dead ∧ s.wlo ≤ B.no ∧ SSem P ρ o t x B bk := by
  obtain ⟨c, h1, hc⟩ := ev1K_sound hx h
  obtain ⟨id, rfl, h2⟩ := isMp_true h1
  obtain ⟨d, h3, hd⟩ := ev1K_sound hy h2
  obtain ⟨kd, n, rfl, h4⟩ := isInt_true h3
  obtain ⟨hkd, h5⟩ := guardK_true h4
  cases kindB_true hkd
  clear h h1 h2 h3 h4
  obtain ⟨u, h6, hu⟩ := evK_sound hv h5
  obtain ⟨vc, rfl, h7⟩ := isComp_true h6
  clear h5 h6
  obtain ⟨B, es, hB, hbk, h8⟩ := mapK_true h7
  rw [updK_eq] at h8
  obtain ⟨hw, h⟩ := putBK_true h8
  refine ⟨id, B, _, h, hB, (by rw [hbk]; exact fun h => (by cases h)), hw, fun r => ?_, fun {m ν a} r b n' w hν hlt hbr => ?_⟩
  · obtain ⟨b, n, e, _⟩ := hc hg r; exact ⟨_, e⟩
  obtain ⟨b', nn, e, ev⟩ := hc hg r
  rw [hν] at e; cases e
  rw [hbk] at hbr
  obtain ⟨l, clock, e1, hks, rr⟩ := hbr
  have e2 : a.eval y = .int .i64 n := hd hg r
  have rv : CompR ν ρ vc (a.eval v) := hu hg r
  rcases find_any (n := n) (kd := kk) (l := l.toList) 0 hks with ⟨j, en, hfe⟩ | g4
  · have g4 := find_first (kd := kk) (i := 0) hks hfe
    rw [Nat.zero_add] at g4
    have g1' : l[j]? = some en := by simpa using hfe.1
    have g2 := hfe.2.1
    refine ⟨.map (l.modify j fun e => { e with key := .int .i64 n, val := a.eval v }) clock, ⟨_, _, rfl, ?_, ?_⟩, ?_⟩
    · intro e he
      rw [Array.toList_modify] at he
      obtain ⟨i, hi⟩ := List.getElem?_of_mem he
      rw [List.getElem?_modify] at hi
      by_cases q : j = i
      · subst q
        rw [hfe.1] at hi
        simp at hi
        subst hi
        exact ⟨n, rfl⟩
      · simp only [q, if_false] at hi
        exact hks e (List.mem_of_getElem? (i := i) (by simpa using hi))
    · intro x hx2
      rw [Array.toList_modify]
      rcases List.mem_cons.1 hx2 with hx2 | hx2
      · subst hx2
        refine ⟨j, { en with key := .int .i64 n, val := a.eval v }, ⟨?_, rfl, fun i hi f' hf' => ?_⟩, rv⟩
        · rw [List.getElem?_modify, hfe.1]; simp
        · rw [List.getElem?_modify] at hf'
          have q : ¬ j = i := by omega
          simp only [q, if_false] at hf'
          exact hfe.2.2 i hi f' (by simpa using hf')
      · obtain ⟨hx3, hx4⟩ := mem_away hx2
        obtain ⟨j', e', h9, h10⟩ := rr _ hx3
        exact ⟨j', e', first_modify (f := fun e => { e with key := .int .i64 n, val := a.eval v }) (fun e => rfl) ⟨en, hfe⟩ h9 hx4, h10⟩
    · simp [execOp, ho, Instr.mapUpdate, r_und hm, ev, e2, run_getMap e1, checkKey_int hk, findKey_run hk g4, g1', g2, Instr.keyThatStays, Instr.sameBits, run_setMap _ e1]
  · refine ⟨.map (l.push { key := .int .i64 n, val := a.eval v, born := clock }) (clock + 1), ⟨_, _, rfl, ?_, ?_⟩, ?_⟩
    · intro e he
      rw [Array.toList_push] at he
      rcases List.mem_append.1 he with he | he
      · exact hks e he
      · rw [List.mem_singleton] at he; subst he; exact ⟨n, rfl⟩
    · intro x hx2
      rw [Array.toList_push]
      rcases List.mem_cons.1 hx2 with hx2 | hx2
      · subst hx2
        refine ⟨l.toList.length, { key := .int .i64 n, val := a.eval v, born := clock }, ⟨by simp, rfl, fun i hi f' hf' => ?_⟩, rv⟩
        rw [List.getElem?_append_left hi] at hf'
        intro hkey
        exact none_first g4 hks ⟨i, f', hf', hkey⟩
      · obtain ⟨hx3, hx4⟩ := mem_away hx2
        obtain ⟨j', e', h9, h10⟩ := rr _ hx3
        have hj := find_lt h9
        refine ⟨j', e', ⟨by rw [List.getElem?_append_left hj]; exact h9.1, h9.2.1, fun i hi f' hf' => ?_⟩, h10⟩
        rw [List.getElem?_append_left (by omega)] at hf'
        exact h9.2.2 i hi f' hf'
    · simp [execOp, ho, Instr.mapUpdate, r_und hm, ev, e2, run_getMap e1, checkKey_int hk, findKey_run hk g4, run_setMap _ e1]
theorem mup_ot (hg : g = ρ.gl.isSome) (hn : Num s) (hi : IvOK ρ s.iv) {x y v : Operand} {xa ya va : XA} (hx : xaOf g x = some xa) (hy : xaOf g y = some ya) (hv : xaOf g v = some va) (ho : o.op = .mapUpdate mt x y v) (h : mupF xa ya va t s k = true) :
    ∃ v s', k v s' = true ∧ Pure ρ s s' ∧ OT P ρ o t s v s' := by
  obtain ⟨x, B, bk, h1, h2, h3, h4, h5⟩ := mup_sem hm hk hg hx hy hv ho h
  exact ⟨_, _, h1, pure_put hn hi h2 bk, h5.ot h2 h3 h4⟩
theorem mdl_ot (hg : g = ρ.gl.isSome) (hn : Num s) (hi : IvOK ρ s.iv) {c : Call} {x y : Operand} {xa ya : XA} {tt : TypeId} (hx : xaOf g x = some xa) (hy : xaOf g y = some ya) (hc : c.callee = .builtin .delete) (ha : c.args = #[x, y]) (ht : c.argTypes = #[mt, tt])
    (ho : o.op = .call c) (h : mdlF xa ya t s k = true) : ∃ v s', k v s' = true ∧ Pure ρ s s' ∧ OT P ρ o t s v s' := by
  obtain ⟨d0, h1, hc0⟩ := ev1K_sound hx h
  obtain ⟨id, rfl, h2⟩ := isMp_true h1
  obtain ⟨d, h3, hd⟩ := ev1K_sound hy h2
  obtain ⟨kd, n, rfl, h4⟩ := isInt_true h3
  obtain ⟨hkd, h5⟩ := guardK_true h4
  cases kindB_true hkd
  clear h h1 h2 h3 h4
  obtain ⟨B, es, hB, hbk, h8⟩ := mapK_true h5
  rw [delK_eq] at h8
  obtain ⟨hw, h⟩ := putBK_true h8
  refine ⟨_, _, h, pure_put hn hi hB _, fun {Q next m n0 w0 ν a w} mt' mw un hkk => ?_⟩
  obtain ⟨b', nn, e, ev⟩ := hc0 hg mt'
  obtain ⟨b, n', hν, hlt, hbr⟩ := mw.blk id B hB
  rw [hν] at e; cases e
  have hbr0 := hbr
  rw [hbk] at hbr
  obtain ⟨l, clock, e1, hks, rr⟩ := hbr
  have e2 : a.eval y = .int .i64 n := hd hg mt'
  have fin : ∀ ob, BR ν ρ nn (some ob) (.map (awayL n es)) → (execOp a.eval o).run P w = .ok (.value (.tuple #[])) { w with heap := w.heap.setIfInBounds b' ob } → o.wp P a w next Q := by
    intro ob hob hr
    refine wp_value hr (hkk _ ν _ (Ext.refl _ _ _) trivial ?_)
    rw [St.put_h]
    exact mw.write hB (by rw [hbk]; exact fun h => (by cases h)) hν hw hob
  rcases find_any (n := n) (kd := kk) (l := l.toList) 0 hks with ⟨j, en, hfe⟩ | g4
  · have g4 := find_first (kd := kk) (i := 0) hks hfe
    rw [Nat.zero_add] at g4
    refine fin (.map (l.eraseIdxIfInBounds j) clock) ⟨_, _, rfl, ?_, ?_⟩ ?_
    · have : (l.eraseIdxIfInBounds j).toList = l.toList.eraseIdx j := by simp
      rw [this]
      intro e he
      exact hks e (List.mem_of_mem_eraseIdx he)
    · have : (l.eraseIdxIfInBounds j).toList = l.toList.eraseIdx j := by simp
      rw [this]
      intro x hx2
      obtain ⟨hx3, hx4⟩ := mem_away hx2
      obtain ⟨j', e', h9, h10⟩ := rr _ hx3
      have hne : j ≠ j' := by
        intro q; subst q
        have h9' := h9.1
        rw [hfe.1] at h9'; cases h9'
        have := h9.2.1
        rw [hfe.2.1] at this
        injection this with _ this
        exact hx4 this.symm
      by_cases q : j' < j
      · refine ⟨j', e', ⟨by rw [List.getElem?_eraseIdx_of_lt q]; exact h9.1, h9.2.1, fun i hi f' hf' => ?_⟩, h10⟩
        rw [List.getElem?_eraseIdx_of_lt (by omega)] at hf'
        exact h9.2.2 i hi f' hf'
      · obtain ⟨d, rfl⟩ : ∃ d, j' = d + 1 := ⟨j' - 1, by omega⟩
        refine ⟨d, e', ⟨by rw [List.getElem?_eraseIdx_of_ge (by omega)]; exact h9.1, h9.2.1, fun i hi f' hf' => ?_⟩, h10⟩
        by_cases q2 : i < j
        · rw [List.getElem?_eraseIdx_of_lt q2] at hf'
          exact h9.2.2 i (by omega) f' hf'
        · rw [List.getElem?_eraseIdx_of_ge (by omega)] at hf'
          exact h9.2.2 (i + 1) (by omega) f' hf'
    · simp [execOp, ho, resolve, hc, ha, ht, invoke, builtin, Builtin.delete_, r_und hm, ev, e2, run_getMap e1, checkKey_int hk, findKey_run hk g4, run_setMap _ e1]
  · refine fin (.map l clock) ⟨_, _, rfl, hks, fun x hx2 => rr _ (mem_away hx2).1⟩ ?_
    simp [execOp, ho, resolve, hc, ha, ht, invoke, builtin, Builtin.delete_, r_und hm, ev, e2, run_getMap e1, checkKey_int hk, findKey_run hk g4, run_setMap _ e1]
end
end Go.Rsf
