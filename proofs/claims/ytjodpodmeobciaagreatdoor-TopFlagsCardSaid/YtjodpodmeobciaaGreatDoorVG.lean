/- An executor over a program's operations: parts of structs and rows. Conditions: none. -/
import Derived.Test.YtjodpodmeobciaaGreatDoorVE
namespace Go.Rsf
open Go.RowKit
set_option linter.unusedVariables false
set_option linter.unusedSimpArgs false

theorem over_length {l cs : List Cell} {n : Nat} (h : n + cs.length ≤ l.length) : (over l n cs).length = l.length := by
  simp [over]; omega
def overV (l : List Value) (n : Nat) (cs : List Value) : List Value := l.take n ++ cs ++ l.drop (n + cs.length)
theorem over_rel {R : Cell → Value → Prop} {l : List Cell} {vs : List Value} {cs : List Cell} {us : List Value} (n : Nat) (h : Rel R l vs) (h' : Rel R cs us) : Rel R (over l n cs) (overV vs n us) := by
  unfold over overV
  rw [h'.length]
  exact ((h.take n).append h').append (h.drop _)
theorem foldl_set (off : Nat) : ∀ (l : List Value) (k : Nat) (cs : Array Value), off + k + l.length ≤ cs.size →
    ((l.zipIdx k).foldl (fun cs p => cs.setIfInBounds (off + p.2) p.1) cs).toList = overV cs.toList (off + k) l
  | [], k, cs, h => by simp [overV]
  | v :: l, k, cs, h => by
    simp only [List.zipIdx_cons, List.foldl_cons]
    rw [foldl_set off l (k + 1) (cs.setIfInBounds (off + k) v) (by simp at h ⊢; omega)]
    simp only [overV, Array.toList_setIfInBounds]
    have hlt : off + k < cs.toList.length := by simp at h ⊢; omega
    apply List.ext_getElem?
    intro i
    simp only [List.append_assoc, List.getElem?_append, List.length_take, List.length_set, List.getElem?_take, List.getElem?_drop, List.getElem?_set, List.length_cons, List.length_append]
    have e1 : min (off + (k + 1)) cs.toList.length = off + k + 1 := by omega
    have e2 : min (off + k) cs.toList.length = off + k := by omega
    rw [e1, e2]
    by_cases h1 : i < off + k
    · simp [h1, show i < off + k + 1 by omega, show i < off + (k + 1) by omega, show off + k ≠ i by omega]
    · by_cases h2 : i = off + k
      · subst h2
        simp
        simpa using hlt
      · have h3 : ¬ (i < off + k + 1) := by omega
        simp only [h1, h3, if_false]
        have e3 : i - (off + k) = (i - (off + k + 1)) + 1 := by omega
        rw [e3]
        by_cases h4 : i - (off + k + 1) < l.length
        · simp [h4]
        · simp only [h4, if_false, Nat.add_lt_add_iff_right]
          rw [if_neg (by omega)]
          congr 1
          omega
/-- The places of parts, and what they are. -/
def partsOf (g : Bool) (place : Nat → Option (Nat × Nat)) : List (Nat × Operand) → Option (List XP)
  | [] => some []
  | p :: l => (place p.1).bind fun q => (xaOf g p.2).bind fun x => (partsOf g place l).map fun r => ⟨q.1, q.2, x⟩ :: r
theorem lenIs_true : ∀ {l : List Cell} {n : Nat} {r : Bool}, lenIs l n r = true → l.length = n ∧ r = true
  | [], 0, r, h => ⟨rfl, h⟩
  | [], n + 1, r, h => by cases h
  | x :: l, 0, r, h => by cases h
  | x :: l, n + 1, r, h => by
    obtain ⟨h1, h2⟩ := lenIs_true (l := l) (n := n) (r := r) h
    exact ⟨by simp [h1], h2⟩
theorem compK_eq (c : Comp) (k : List Cell → Bool) : compK c k = k c.cells := by cases c <;> rfl
theorem CompR.cells_length {ν : Nu} {ρ : Rho} {c : Comp} {v : Value} (h : CompR ν ρ c v) : v.cells.size = c.cells.length := by
  rw [h.cells.length]; simp
theorem partsK_sound {ρ : Rho} {g : Bool} (hg : g = ρ.gl.isSome) {place : Nat → Option (Nat × Nat)} {t : Ts} : ∀ {ps : List (Nat × Operand)} {xs : List XP} {acc : List Cell} {k : List Cell → Bool}, partsOf g place ps = some xs → partsK xs t acc k = true →
    ∃ cs, k cs = true ∧ cs.length = acc.length ∧ ∀ {m ν a}, MT m ν ρ t a → ∀ (vs : Array Value), Rel (CR ν ρ) acc vs.toList → ∃ us : Array Value, Instr.fill place vs (ps.map fun p => (p.1, a.eval p.2)) = some us ∧ Rel (CR ν ρ) cs us.toList
  | [], xs, acc, k, hx, h => by
    cases hx
    exact ⟨acc, h, rfl, fun _ vs r => ⟨vs, rfl, r⟩⟩
  | p :: ps, xs, acc, k, hx, h => by
    simp only [partsOf, Option.bind_eq_some_iff, Option.map_eq_some_iff] at hx
    obtain ⟨⟨off, size⟩, hq, x, hxa, r, hr, rfl⟩ := hx
    obtain ⟨v, hk, hv⟩ := evK_sound hxa (show evK x t (fun v => isComp v fun c => compK c fun cs => lenIs cs size (putK acc off cs fun acc => partsK r t acc k)) = true from h)
    obtain ⟨c, rfl, hk2⟩ := isComp_true hk
    rw [compK_eq] at hk2
    obtain ⟨h1, hk3⟩ := lenIs_true hk2
    obtain ⟨h2, hk4⟩ := putK_true hk3
    obtain ⟨cs, hcs, hl, hsem⟩ := partsK_sound hg hr hk4
    refine ⟨cs, hcs, by rw [hl, over_length h2], fun {m ν a} q vs rv => ?_⟩
    have rc : CompR ν ρ c (a.eval p.2) := hv hg q
    have hsz : (Value.cells (a.eval p.2)).size = c.cells.length := rc.cells_length
    have hlen : vs.size = acc.length := by rw [rv.length]; simp
    obtain ⟨us, hus, rus⟩ := hsem q ((Value.cells (a.eval p.2)).zipIdx.foldl (fun cs (c, j) => cs.setIfInBounds (off + j) c) vs) (by
      rw [← Array.foldl_toList, Array.toList_zipIdx, foldl_set off _ 0 vs (by simp [hsz]; omega)]
      exact over_rel off rv rc.cells)
    refine ⟨us, ?_, rus⟩
    simp only [List.map_cons, Instr.fill, hq]
    rw [if_neg (by simp [hsz, h1]; omega)]
    exact hus
variable {P : Program} {ρ : Rho} {g : Bool} {o : Oper} {t : Ts} {s : St} {k : KVS}
theorem evPK_sound {ρ : Rho} {g : Bool} (hg : g = ρ.gl.isSome) {t : Ts} : ∀ {l : List Operand} {xs : List XA} {k : List (Pth × Nat) → Bool}, l.mapM (xaOf g) = some xs → evPK xs t k = true →
    ∃ ps, k ps = true ∧ ∀ {m ν a}, MT m ν ρ t a → Rel (PR ν) ps (l.map a.eval)
  | [], xs, k, hx, h => by
    simp at hx; subst hx
    exact ⟨[], h, fun _ => trivial⟩
  | x :: l, xs, k, hx, h => by
    simp only [List.mapM_cons, Option.pure_def, Option.bind_eq_bind, Option.bind_eq_some_iff, Option.some.injEq] at hx
    obtain ⟨xa, hxa, r, hr, rfl⟩ := hx
    obtain ⟨c, hk, hc⟩ := ev1K_sound hxa (show ev1K xa t (fun x => isPtr x fun id off => evPK r t fun l => k ((id, off) :: l)) = true from h)
    obtain ⟨id, off, rfl, hk⟩ := isPtr_true hk
    obtain ⟨ps, hps, hrel⟩ := evPK_sound hg hr hk
    exact ⟨_, hps, fun q => ⟨hc hg q, hrel q⟩⟩
theorem mkf_sem (hg : g = ρ.gl.isSome) {f : FuncId} {first cap : Array Operand} {xf xc : List XA} (hf : first.toList.mapM (xaOf g) = some xf) (hc : cap.toList.mapM (xaOf g) = some xc) (ho : o.op = .makeFunc (.func f) first cap) (h : mkfF f xf xc t s k = true) :
    ∃ v, k v s = true ∧ WSem P ρ o t v := by
  obtain ⟨ps, h, hp⟩ := evPK_sound hg hf h
  obtain ⟨qs, h, hq⟩ := evPK_sound hg hc h
  refine ⟨_, h, fun {m ν a} r => ⟨.func (.func f) (first.map a.eval) (cap.map a.eval), ⟨first.toList.map a.eval, cap.toList.map a.eval, by congr 1 <;> (apply Array.ext'; simp), hp r, hq r⟩, fun w => ?_⟩⟩
  simp [execOp, ho, Instr.makeFunc]
theorem fad_sem (hg : g = ρ.gl.isSome) {ty : TypeId} {x : Operand} {xa : XA} {f : Nat} {fs : Array Field} {fd : Field} {i : TypeInfo} (hx : xaOf g x = some xa) (hu : P.underlying ty = some (.struct fs)) (hf : fs[f]? = some fd) (hi : P.info? fd.type = some i) (hz : i.size ≠ 0)
    (ho : o.op = .fieldAddr ty x f) (h : fadF xa fd.offset t s k = true) : ∃ v, k v s = true ∧ WSem P ρ o t v := by
  obtain ⟨c, h, hc⟩ := ev1K_sound hx h
  obtain ⟨id, off, rfl, h⟩ := isPtr_true h
  refine ⟨_, natK_true h, fun {m ν a} r => ?_⟩
  obtain ⟨b, n, hn, e⟩ := hc hg r
  refine ⟨.pointer (some ⟨b, off + fd.offset, none⟩), ⟨b, n, hn, rfl⟩, fun w => ?_⟩
  simp [execOp, ho, e, Instr.fieldAt, r_und hu, hf, Instr.sureAddr, fieldPlace, r_size hi, hz, addr_add]
theorem fld1_sem (hg : g = ρ.gl.isSome) (hi : IvOK ρ s.iv) {ty : TypeId} {x : Operand} {xa : XA} {f : Nat} {fs : Array Field} {fd : Field} {d : TypeDesc} (hx : xaOf g x = some xa) (hu : P.underlying ty = some (.struct fs)) (hf : fs[f]? = some fd) (hd : P.underlying fd.type = some d) (ha : aggD d = false)
    (ho : o.op = .field ty x f) (h : fld1F xa fd.offset t s k = true) : ∃ v, k v s = true ∧ WSem P ρ o t v := by
  obtain ⟨v, h, hv⟩ := evK_sound hx h
  obtain ⟨l, rfl, h⟩ := isAggK_true h
  obtain ⟨c0, hn, h⟩ := nthK_true h
  obtain ⟨c, h, hc⟩ := normK_true hi h
  refine ⟨_, h, fun {m ν a} r => ?_⟩
  obtain ⟨vs, e, rel⟩ := hv hg r
  obtain ⟨u, hu', ru⟩ := rel.nth hn
  refine ⟨u, hc ru, fun w => ?_⟩
  simp [execOp, ho, e, Instr.field, r_und hu, hf, asAgg, part, r_isAgg hd, ha, hu']
theorem fldn_sem (hg : g = ρ.gl.isSome) {ty : TypeId} {x : Operand} {xa : XA} {f : Nat} {fs : Array Field} {fd : Field} {d : TypeDesc} {i : TypeInfo} (hx : xaOf g x = some xa) (hu : P.underlying ty = some (.struct fs)) (hf : fs[f]? = some fd) (hd : P.underlying fd.type = some d) (ha : aggD d = true) (hi : P.info? fd.type = some i)
    (ho : o.op = .field ty x f) (h : fldnF xa fd.offset i.size t s k = true) : ∃ v, k v s = true ∧ WSem P ρ o t v := by
  obtain ⟨v, h, hv⟩ := evK_sound hx h
  obtain ⟨l, rfl, h⟩ := isAggK_true h
  obtain ⟨h1, h⟩ := dropK_true h
  obtain ⟨h2, h⟩ := takeK_true h
  refine ⟨_, h, fun {m ν a} r => ?_⟩
  obtain ⟨vs, e, rel⟩ := hv hg r
  refine ⟨.agg ((vs.drop fd.offset).take i.size).toArray, ⟨_, rfl, (rel.drop _).take _⟩, fun w => ?_⟩
  simp [execOp, ho, e, Instr.field, r_und hu, hf, asAgg, part, r_isAgg hd, ha, r_size hi, List.extract_eq_take_drop]
theorem idxK_true {c : Cell} {len : Nat} {k : Nat → Bool} (h : idxK c len k = true) : ∃ kd i, c = .int kd (Int.ofNat i) ∧ i < len ∧ k i = true := by
  obtain ⟨kd, n, rfl, h⟩ := isInt_true h
  cases n with
  | negSucc _ => cases h
  | ofNat i =>
    obtain ⟨h1, h2⟩ := guardK_true (show guardK (Nat.blt i len) (k i) = true from h)
    exact ⟨kd, i, rfl, by simpa [Nat.blt_eq] using h1, h2⟩
theorem ixa_sem (hg : g = ρ.gl.isSome) {ty e : TypeId} {x y : Operand} {xa ya : XA} {len : Nat} {i : TypeInfo} (hx : xaOf g x = some xa) (hy : xaOf g y = some ya) (hu : P.underlying ty = some (.array len e)) (hi : P.info? e = some i)
    (ho : o.op = .indexAddr ty x y) (h : ixaF xa ya len i.size t s k = true) : ∃ v, k v s = true ∧ WSem P ρ o t v := by
  obtain ⟨c, h, hc⟩ := ev1K_sound hx h
  obtain ⟨id, off, rfl, h⟩ := isPtr_true h
  obtain ⟨d, h, hd⟩ := ev1K_sound hy h
  obtain ⟨kd, n, rfl, hlt, h⟩ := idxK_true h
  refine ⟨_, natK_true h, fun {m ν a} r => ?_⟩
  obtain ⟨b, nn, hn, e1⟩ := hc hg r
  have e2 : _ = Value.int kd (n : Int) := hd hg r
  refine ⟨.pointer (some ⟨b, off + n * i.size, none⟩), ⟨b, nn, hn, rfl⟩, fun w => ?_⟩
  simp [execOp, ho, e1, e2, Instr.indexAt, asIntOf, r_und hu, Instr.sureAddr, hlt, r_size hi, addr_add]
theorem sliceK_true {c : Cell} {n z : Bool} {f u : Pth → Nat → Nat → Nat → Bool} (h : sliceK c n f u z = true) :
    (c = .nils ∧ n = true) ∨ (∃ id off len cap, c = .sl id off len cap ∧ f id off len cap = true) ∨ (∃ id off len sz, c = .slU id off len sz ∧ u id off len sz = true) ∨ (c = .sl0 ∧ z = true) := by
  cases c <;> first | (cases h; done) | exact .inl ⟨rfl, h⟩ | exact .inr (.inl ⟨_, _, _, _, rfl, h⟩) | exact .inr (.inr (.inl ⟨_, _, _, _, rfl, h⟩)) | exact .inr (.inr (.inr ⟨rfl, h⟩))
theorem loK_true {iv : List Iv} {c : Cell} {f : Int → Bool} (hi : IvOK ρ iv) (h : loK iv c f = true) : ∃ lo, f lo = true ∧ ∀ {ν : Nu} {kd : IntKind} {n : Int}, CR ν ρ c (.int kd n) → lo ≤ n := by
  rcases numK_true h with ⟨kd, n, rfl, h⟩ | ⟨kd, a, sy, c, rfl, h⟩
  · refine ⟨n, h, fun {ν kd' n'} r => ?_⟩
    have r : Value.int kd' n' = .int kd n := r
    cases r; exact Int.le_refl _
  · obtain ⟨h1, h⟩ := guardK_true h
    obtain ⟨x, hx, h⟩ := nthIv_true h
    refine ⟨_, intK_true h, fun {ν kd' n'} r => ?_⟩
    rw [ieqB_eq] at h1
    have h1 : a = 1 := of_decide_eq_true h1
    subst h1
    have r : Value.int kd' n' = .int kd (1 * ρ.val sy + c) := r
    cases r
    obtain ⟨⟨l, _⟩, _⟩ := hi sy x hx
    show x.lo + c ≤ _
    omega
theorem inIxK_true {iv : List Iv} {len b : Cell} {m : InM} {f : Nat → Bool} (hi : IvOK ρ iv) (h : inIxK iv len m b f = true) :
    ∃ e, f e = true ∧ ∀ {ν : Nu} {n : Nat} {g : Nat → Int} {u : Value}, CR ν ρ len (.int .i64 (n : Int)) → InMd ρ n g m → CR ν ρ b u → ∃ kd i, u = .int kd (i : Nat) ∧ i < n ∧ g i = ρ.val e := by
  cases m with
  | all base =>
    obtain ⟨kd, i, rfl, h⟩ := isInt_true (show isInt b _ = true from h)
    cases i with
    | negSucc i => cases h
    | ofNat i =>
      obtain ⟨lo, h, hlo⟩ := loK_true hi (show loK iv len _ = true from h)
      obtain ⟨h1, h⟩ := guardK_true h
      refine ⟨_, natK_true h, fun {ν n g u} rl rm rb => ?_⟩
      have h2 := hlo rl
      rw [ileB_eq] at h1
      have h1 : ((i + 1 : Nat) : Int) ≤ lo := of_decide_eq_true h1
      have hlt : i < n := by omega
      exact ⟨kd, i, rb, hlt, rm i hlt⟩
  | one i e =>
    rcases numK_true (show numK b _ _ = true from h) with ⟨_, _, _, h⟩ | ⟨kd, a, sy, c, rfl, h⟩
    · cases h
    · obtain ⟨h1, h⟩ := guardK_true h
      obtain ⟨h2, h⟩ := guardK_true h
      obtain ⟨h3, h⟩ := guardK_true h
      obtain ⟨x, hx, h⟩ := nthIv_true h
      obtain ⟨h4, h⟩ := guardK_true h
      obtain ⟨h5, h⟩ := guardK_true h
      rcases numK_true h with ⟨_, _, _, h⟩ | ⟨kd2, a2, sy2, c2, rfl, h⟩
      · cases h
      · obtain ⟨h6, h⟩ := guardK_true h
        obtain ⟨h7, h⟩ := guardK_true h
        obtain ⟨h8, hf⟩ := guardK_true h
        rw [ieqB_eq] at h1 h2 h6 h7
        rw [ileB_eq] at h4
        have h1 : a = 1 := of_decide_eq_true h1
        have h2 : c = 0 := of_decide_eq_true h2
        have h6 : a2 = 1 := of_decide_eq_true h6
        have h7 : c2 = 0 := of_decide_eq_true h7
        have h4 : (0 : Int) ≤ x.lo := of_decide_eq_true h4
        have h3 := Nat.eq_of_beq_eq_true h3
        have h5 := Nat.eq_of_beq_eq_true h5
        have h8 : sy2 = i + 1 := Nat.eq_of_beq_eq_true h8
        subst h1; subst h2; subst h3; subst h6; subst h7; subst h8
        refine ⟨e, hf, fun {ν n g u} rl rm rb => ?_⟩
        obtain ⟨⟨l, _⟩, hm⟩ := hi sy x hx
        have hm := hm.2.1 h5
        have rb : u = .int kd (1 * ρ.val sy + 0) := rb
        have rl : Value.int .i64 (n : Int) = .int kd2 (1 * ρ.val (sy + 1) + 0) := rl
        have rl : (n : Int) = 1 * ρ.val (sy + 1) + 0 := by injection rl
        have e1 : ((ρ.val sy).toNat : Int) = ρ.val sy := by omega
        have hlt : (ρ.val sy).toNat < n := by omega
        exact ⟨kd, (ρ.val sy).toNat, by rw [rb, e1]; simp, hlt, rm _ hlt e1⟩
theorem ixs_sem (hg : g = ρ.gl.isSome) (hiv : IvOK ρ s.iv) {ty e : TypeId} {x y : Operand} {xa ya : XA} {i : TypeInfo} (hx : xaOf g x = some xa) (hy : xaOf g y = some ya) (hu : P.underlying ty = some (.slice e)) (hi : P.info? e = some i)
    (ho : o.op = .indexAddr ty x y) (h : ixsF xa ya i.size t s k = true) : ∃ v, k v s = true ∧ WSem P ρ o t v := by
  obtain ⟨v, h, hv⟩ := evK_sound hx h
  rcases inK_true h with ⟨len, kd, md, rfl, h⟩ | h
  · obtain ⟨h1, h⟩ := guardK_true h
    have h1 : i.size = 1 := Nat.eq_of_beq_eq_true h1
    obtain ⟨d, h, hd⟩ := ev1K_sound hy h
    obtain ⟨el, h, he⟩ := inIxK_true hiv h
    refine ⟨_, h, fun {m ν a} r => ?_⟩
    obtain ⟨ad, n, cap, f, e1, rl, ⟨_, hat⟩, rm⟩ := hv hg r
    obtain ⟨kd2, j, e2, hlt, hf⟩ := he rl rm (hd hg r)
    obtain ⟨b, o', c, ty', fz, rfl, hmem, hall⟩ := hat (by omega)
    refine ⟨.pointer (some ⟨b, o' + j * i.size, none⟩), ⟨b, o' + j * i.size, c, ty', fz, rfl, hmem, ?_⟩, fun w => ?_⟩
    · rw [h1, Nat.mul_one, hall j hlt, hf]
    · simp [execOp, ho, e1, e2, Instr.indexAt, asIntOf, r_und hu, hlt, r_size hi, addr_add]
  obtain ⟨c, rfl, h⟩ := isOne_true h
  have hc : ∀ {m ν a}, g = ρ.gl.isSome → MT m ν ρ t a → CR ν ρ c (a.eval x) := fun hg r => hv hg r
  obtain ⟨d, h, hd⟩ := ev1K_sound hy h
  rcases sliceK_true h with ⟨_, h⟩ | ⟨id, off, len, cap, rfl, h⟩ | ⟨id, off, len, sz, rfl, h⟩ | ⟨_, h⟩
  · cases h
  · obtain ⟨kd, n, rfl, hlt, h⟩ := idxK_true h
    refine ⟨_, natK_true h, fun {m ν a} r => ?_⟩
    obtain ⟨b, nn, hn, _, e1⟩ := hc hg r
    have e2 : _ = Value.int kd (n : Int) := hd hg r
    refine ⟨.pointer (some ⟨b, off + n * i.size, none⟩), ⟨b, nn, hn, rfl⟩, fun w => ?_⟩
    simp [execOp, ho, e1, e2, Instr.indexAt, asIntOf, r_und hu, hlt, r_size hi, addr_add]
  · obtain ⟨kd, n, rfl, hlt, h⟩ := idxK_true h
    refine ⟨_, natK_true h, fun {m ν a} r => ?_⟩
    obtain ⟨b, nn, cc, hn, _, _, e1⟩ := hc hg r
    have e2 : _ = Value.int kd (n : Int) := hd hg r
    refine ⟨.pointer (some ⟨b, off + n * i.size, none⟩), ⟨b, nn, hn, rfl⟩, fun w => ?_⟩
    simp [execOp, ho, e1, e2, Instr.indexAt, asIntOf, r_und hu, hlt, r_size hi, addr_add]
  · cases h
theorem nthC_true : ∀ {l : List Comp} {n : Nat} {k : Comp → Bool}, nthC l n k = true → ∃ x, l[n]? = some x ∧ k x = true
  | [], n, k, h => by cases h
  | x :: l, 0, k, h => ⟨x, rfl, h⟩
  | x :: l, n + 1, k, h => by
    obtain ⟨y, h1, h2⟩ := nthC_true (l := l) (n := n) (k := k) h
    exact ⟨y, by simpa using h1, h2⟩
theorem ext_sem (hg : g = ρ.gl.isSome) {x : Operand} {xa : XA} {i : Nat} (hx : xaOf g x = some xa) (ho : o.op = .extract x i) (h : extF xa i t s k = true) : ∃ v, k v s = true ∧ WSem P ρ o t v := by
  obtain ⟨v, h, hv⟩ := evK_sound hx h
  obtain ⟨l, rfl, h⟩ := isTup_true h
  obtain ⟨c, hn, h⟩ := nthC_true h
  refine ⟨_, h, fun {m ν a} r => ?_⟩
  obtain ⟨vs, e, rel⟩ := hv hg r
  obtain ⟨u, hu', ru⟩ := rel.nth hn
  refine ⟨u, ru, fun w => ?_⟩
  simp [execOp, ho, e, Instr.extract, hu']
theorem build_sem (hg : g = ρ.gl.isSome) {ty : TypeId} {ps : Array (Nat × Operand)} {xs : List XP} {zs : List Cell} {i : TypeInfo} {z : Value} {place : Nat → Option (Nat × Nat)} (hi : P.info? ty = some i) (hz : i.zero = some z) (hzs : cellsOf z.cells.toList = some zs)
    (hp : partsOf g place ps.toList = some xs)
    (hb : ∀ (l : Array (Nat × Value)) (us : Array Value), Instr.fill place z.cells l.toList = some us → ∀ w, (Instr.build ty l).run P w = .ok (.agg us) w)
    (ho : o.op = .build ty ps) (h : buildF zs xs t s k = true) : ∃ v, k v s = true ∧ WSem P ρ o t v := by
  obtain ⟨cs, hk, _, hsem⟩ := partsK_sound hg hp h
  refine ⟨_, hk, fun {m ν a} r => ?_⟩
  obtain ⟨us, hus, rus⟩ := hsem r z.cells (cellsOf_sound hzs)
  refine ⟨.agg us, ⟨us.toList, by simp, rus⟩, fun w => ?_⟩
  have := hb (ps.map fun (i, x) => (i, a.eval x)) us (by simpa using hus) w
  simp only [execOp, ho, Sem.run_bind, this, Result.andThen_ok, Sem.run_pure]
end Go.Rsf
