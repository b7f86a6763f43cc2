/- An executor over a program's operations: what reads memory, makes blocks, writes. Conditions: none. -/
import Derived.Test.YtjodpodmeobciaaGreatDoorVI
namespace Go.Rsf
open Go.RowKit
set_option linter.unusedVariables false
set_option linter.unusedSimpArgs false
variable {P : Program} {ρ : Rho} {g : Bool} {o : Oper} {t : Ts} {s : St} {k : KVS}

/-- AN OPERATION THAT READS ONE BLOCK. -/
def RSem (P : Program) (ρ : Rho) (o : Oper) (t : Ts) (x : Pth) (B : Blk) (v : AV) : Prop :=
  (∀ {m ν a}, MT m ν ρ t a → ∃ y, ν x = some y) ∧
  ∀ {m ν a}, MT m ν ρ t a → ∀ b n w, ν x = some (b, n) → BR ν ρ n w.heap[b]? B.k → ∃ u, AR ν ρ v u ∧ (execOp a.eval o).run P w = .ok (.value u) w
/-- AN OPERATION THAT MAKES A BLOCK. -/
def ASem (P : Program) (ρ : Rho) (o : Oper) (t : Ts) (id : Pth) (bk : Bk) (v : AV) : Prop :=
  ∀ {m ν a}, MT m ν ρ t a → ∃ n ob, ∃ u : Nat → Value, BR ν ρ n (some ob) bk ∧ (∀ (ν' : Nu) b, ν' id = some (b, n) → AR ν' ρ v (u b)) ∧ ∀ w, (execOp a.eval o).run P w = .ok (.value (u w.heap.size)) (w.alloc ob)
/-- AN OPERATION THAT WRITES ONE BLOCK. -/
def SSem (P : Program) (ρ : Rho) (o : Oper) (t : Ts) (x : Pth) (B : Blk) (bk : Bk) : Prop :=
  (∀ {m ν a}, MT m ν ρ t a → ∃ y, ν x = some y) ∧
  ∀ {m ν a}, MT m ν ρ t a → ∀ b n w, ν x = some (b, n) → b < w.heap.size → BR ν ρ n w.heap[b]? B.k → ∃ ob, BR ν ρ n (some ob) bk ∧ (execOp a.eval o).run P w = .ok .skip { w with heap := w.heap.setIfInBounds b ob }
def St.alloc (s : St) (bk : Bk) : St := ⟨s.heap.set s.next ⟨s.cnt, bk⟩, s.next.succ, s.cnt + 1, s.wlo, s.iv⟩
def St.put (s : St) (id : Pth) (B : Blk) (bk : Bk) : St := ⟨s.heap.set id ⟨B.no, bk⟩, s.next, s.cnt, s.wlo, s.iv⟩
theorem succK_eq : ∀ (p : Pth) (k : Pth → Bool), succK p k = k p.succ
  | .e, k => rfl
  | .z p, k => rfl
  | .s p, k => succK_eq p fun q => k (.z q)
theorem newK_true {bk : Bk} {k : Pth → St → Bool} (h : newK bk s k = true) : k s.next (s.alloc bk) = true := by
  obtain ⟨h0, nx, c, wl, iv⟩ := s
  have h : setK nx h0 ⟨c, bk⟩ (fun h => succK nx fun nx' => natK (Nat.succ c) fun c => k nx ⟨h, nx', c, wl, iv⟩) = true := h
  rw [setK_eq, succK_eq, natK_eq] at h
  exact h
theorem rowK_true {id : Pth} {k : Nat → Bool → List Cell → Bool} (h : rowK id s k = true) : ∃ B op l, s.heap.get id = some B ∧ B.k = .row op l ∧ k B.no op l = true := by
  obtain ⟨h0, nx, c, wl, iv⟩ := s
  obtain ⟨B, hB, hk⟩ := getK_true (show getK id h0 (fun B => isRow B.k fun op l => k B.no op l) = true from h)
  cases hbk : B.k with
  | row op l => rw [hbk] at hk; exact ⟨B, op, l, hB, hbk, hk⟩
  | map es => rw [hbk] at hk; cases hk
  | dead => rw [hbk] at hk; cases hk
  | tab l => rw [hbk] at hk; cases hk
theorem putBK_true {id : Pth} {B : Blk} {bk : Bk} {k : St → Bool} (h : putBK id B.no bk s k = true) : s.wlo ≤ B.no ∧ k (s.put id B bk) = true := by
  obtain ⟨h0, nx, c, wl, iv⟩ := s
  obtain ⟨h1, h2⟩ := guardK_true (show guardK (Nat.ble wl B.no) (setK id h0 ⟨B.no, bk⟩ fun h => k ⟨h, nx, c, wl, iv⟩) = true from h)
  rw [setK_eq] at h2
  rw [Nat.ble_eq] at h1
  exact ⟨h1, h2⟩
theorem loadK_true {id : Pth} {off n : Nat} {k : List Cell → Bool} (h : loadK id off n s k = true) : ∃ B op l, s.heap.get id = some B ∧ B.k = .row op l ∧ off + n ≤ l.length ∧ k ((l.drop off).take n) = true := by
  obtain ⟨B, op, l, hB, hbk, h⟩ := rowK_true h
  obtain ⟨h1, h⟩ := dropK_true h
  obtain ⟨h2, h⟩ := takeK_true h
  exact ⟨B, op, l, hB, hbk, by simp at h2; omega, h⟩
theorem storeK_true {id : Pth} {off : Nat} {cs : List Cell} {k : St → Bool} (h : storeK id off cs s k = true) : ∃ B op l, s.heap.get id = some B ∧ B.k = .row op l ∧ off + cs.length ≤ l.length ∧ s.wlo ≤ B.no ∧ k (s.put id B (.row op (over l off cs))) = true := by
  obtain ⟨B, op, l, hB, hbk, h⟩ := rowK_true h
  obtain ⟨h1, h⟩ := putK_true h
  obtain ⟨h2, h⟩ := putBK_true h
  exact ⟨B, op, l, hB, hbk, h1, h2, h⟩
/-- The cells of a block in the model. -/
theorem BR.row_nth {ν : Nu} {n : Nat} {ob : Option Obj} {op : Bool} {l : List Cell} (h : BR ν ρ n ob (.row op l)) : ∃ (c : Array Value) (e : TypeId), ob = some (.cells c e) ∧ c.size = n ∧ l.length ≤ n ∧ Rel (CR ν ρ) l (c.toList.take l.length) := by
  obtain ⟨c, e, h1, h2, h3, _, h5⟩ := h
  refine ⟨c, e, h1, h2, h3, Rel.of_nth (by simp; omega) fun i x y hx hy => ?_⟩
  obtain ⟨v, hv, r⟩ := h5 i x hx
  have hi : i < l.length := by
    rcases Nat.lt_or_ge i l.length with h | h
    · exact h
    · rw [List.getElem?_eq_none h] at hx; cases hx
  rw [List.getElem?_take, if_pos hi, Array.getElem?_toList, hv] at hy
  cases hy; exact r
theorem cell_at {w : World} {b : Nat} {c : Array Value} {e : TypeId} (h : w.heap[b]? = some (.cells c e)) (o : Nat) : w.cell? ⟨b, o, none⟩ = c[o]? := by
  simp [World.cell?, h]
/-- A part of a block is loaded. -/
theorem load_part {ν : Nu} {n : Nat} {op : Bool} {l : List Cell} {w : World} {b off m : Nat} (h : BR ν ρ n w.heap[b]? (.row op l)) (hm : off + m ≤ l.length) :
    ∃ vs : List Value, vs.length = m ∧ Rel (CR ν ρ) ((l.drop off).take m) vs ∧ (∀ j u, vs[j]? = some u → w.cell? (Addr.add ⟨b, off, none⟩ j) = some u) := by
  obtain ⟨c, e, h1, h2, h3, rel⟩ := h.row_nth
  refine ⟨((c.toList.take l.length).drop off).take m, by simp; omega, (rel.drop off).take m, fun j u hj => ?_⟩
  rw [addr_add, cell_at h1]
  rw [List.getElem?_take] at hj
  split at hj
  · rename_i hjm
    rw [List.getElem?_drop, List.getElem?_take, if_pos (by omega), Array.getElem?_toList] at hj
    exact hj
  · cases hj
theorem cell_at_tab {w : World} {b : Nat} {c : Array Value} {e : TypeId} {f : Nat × Nat} (h : w.heap[b]? = some (.cells c e f)) (o : Nat) : w.cell? ⟨b, o, none⟩ = c[o]? := by
  simp [World.cell?, h]
theorem rdK_true {id : Pth} {k : List Cell → Bool} (h : rdK id s k = true) : ∃ B l, s.heap.get id = some B ∧ ((∃ op, B.k = .row op l) ∨ B.k = .tab l) ∧ k l = true := by
  obtain ⟨h0, nx, c, wl, iv⟩ := s
  obtain ⟨B, hB, h⟩ := getK_true (show getK id h0 (fun B => isRd B.k fun l => k l) = true from h)
  cases hbk : B.k with
  | row op l => rw [hbk] at h; exact ⟨B, l, hB, .inl ⟨op, hbk⟩, h⟩
  | map es => rw [hbk] at h; cases h
  | dead => rw [hbk] at h; cases h
  | tab l => rw [hbk] at h; exact ⟨B, l, hB, .inr hbk, h⟩
theorem BR.read {ν : Nu} {n : Nat} {w : World} {b : Nat} {k : Bk} {l : List Cell} (h : BR ν ρ n w.heap[b]? k) (hk : (∃ op, k = .row op l) ∨ k = .tab l) {i : Nat} {x : Cell} (hx : l[i]? = some x) : ∃ v, w.cell? ⟨b, i, none⟩ = some v ∧ CR ν ρ x v := by
  rcases hk with ⟨op, rfl⟩ | rfl
  · obtain ⟨c, e, h1, _, _, _, h5⟩ := h
    obtain ⟨v, hv, r⟩ := h5 i x hx
    exact ⟨v, by rw [cell_at h1, hv], r⟩
  · obtain ⟨c, e, f, h1, _, _, h5⟩ := h
    obtain ⟨v, hv, r⟩ := h5 i x hx
    exact ⟨v, by rw [cell_at_tab h1, hv], r⟩
/-- .. that reads a row that came in. -/
def ISem (P : Program) (ρ : Rho) (o : Oper) (t : Ts) (v : AV) : Prop :=
  ∀ {m : Nat} {ν : Nu} {a : Act}, MT m ν ρ t a → ∀ w : World, (∀ b ob, ρ.mem b = some ob → w.heap[b]? = some ob) → ∃ u, AR ν ρ v u ∧ (execOp a.eval o).run P w = .ok (.value u) w
theorem ld1_sem (hg : g = ρ.gl.isSome) (hi : IvOK ρ s.iv) {ty : TypeId} {d : TypeDesc} {x : Operand} {xa : XA} (hx : xaOf g x = some xa) (hd : P.underlying ty = some d) (ha : aggD d = false) (ho : o.op = .load ty x) (h : ld1F xa t s k = true) :
    (∃ v, k v s = true ∧ ISem P ρ o t v) ∨ ∃ v x B off, k v s = true ∧ s.heap.get x = some B ∧ RSem P ρ o t x B v ∧ evX xa t = some (.v (.one (.ptr x off))) := by
  have h' : evK xa t (fun v => inPK v (fun kd e => k (.v (.one (.lin kd (Int.ofNat 1) e (Int.ofNat 0)))) s) (isOne v fun x => isPtr x fun id off => rdK id s fun l => nthK l off fun c => normK s.iv c fun c => k (.v (.one c)) s)) = true := h
  have hcase : evK xa t (fun v => isOne v fun x => isPtr x fun id off => rdK id s fun l => nthK l off fun c => normK s.iv c fun c => k (.v (.one c)) s) = true ∨ ∃ v, k v s = true ∧ ISem P ρ o t v := by
    rw [evK_eq] at h' ⊢
    cases e : evX xa t with
    | none => rw [e] at h'; cases h'
    | some v =>
      rw [e] at h'
      rcases inPK_true h' with ⟨kd, el, rfl, h2⟩ | h2
      · refine .inr ⟨_, h2, fun {m ν a} r w hmem => ?_⟩
        obtain ⟨v2, hdv, hv⟩ := evK_sound (k := fun v => @decide (v = .inP kd el) (Classical.propDecidable _)) hx (by rw [evK_eq, e]; exact @decide_eq_true _ (Classical.propDecidable _) rfl)
        have e2 : v2 = .inP kd el := @of_decide_eq_true _ (Classical.propDecidable _) hdv
        subst e2
        obtain ⟨b, o', c, ty', fz, ev, hm, hc⟩ := hv hg r
        refine ⟨.int kd (ρ.val el), by show Value.int kd (ρ.val el) = .int kd (1 * ρ.val el + 0); simp, ?_⟩
        have hcell : w.cell? ⟨b, o', none⟩ = some (.int kd (ρ.val el)) := by rw [cell_at_tab (hmem b _ hm), hc]
        simp [execOp, ho, ev, Instr.loadAt, Instr.sureAddr, loadVar, r_isAgg hd, ha, hcell]
      · exact .inl h2
  rcases hcase with h | h
  case inr => exact .inl h
  refine .inr ?_
  obtain ⟨c, hev, h, hc⟩ := ev1K_sound' hx h
  obtain ⟨id, off, rfl, h1⟩ := isPtr_true h
  obtain ⟨B, l, hB, hbk, h2⟩ := rdK_true h1
  obtain ⟨c0, hn, h3⟩ := nthK_true h2
  obtain ⟨c1, h3, hc1⟩ := normK_true hi h3
  refine ⟨_, id, B, off, h3, hB, ⟨fun r => ?_, fun {m ν a} r b n w hν hbr => ?_⟩, hev⟩
  · obtain ⟨b, n, e, _⟩ := hc hg r; exact ⟨_, e⟩
  · obtain ⟨b', n', e, ev⟩ := hc hg r
    rw [hν] at e; cases e
    obtain ⟨v, hv, rv⟩ := hbr.read hbk hn
    refine ⟨v, hc1 rv, ?_⟩
    simp [execOp, ho, ev, Instr.loadAt, Instr.sureAddr, loadVar, r_isAgg hd, ha, hv]
theorem ldn_sem (hg : g = ρ.gl.isSome) {ty : TypeId} {d : TypeDesc} {i : TypeInfo} {x : Operand} {xa : XA} (hx : xaOf g x = some xa) (hd : P.underlying ty = some d) (ha : aggD d = true) (hi : P.info? ty = some i) (ho : o.op = .load ty x) (h : ldnF xa i.size t s k = true) :
    ∃ v x B off, k v s = true ∧ s.heap.get x = some B ∧ RSem P ρ o t x B v ∧ evX xa t = some (.v (.one (.ptr x off))) := by
  obtain ⟨c, hev, h, hc⟩ := ev1K_sound' hx h
  obtain ⟨id, off, rfl, h1⟩ := isPtr_true h
  obtain ⟨B, op, l, hB, hbk, hl, h2⟩ := loadK_true h1
  refine ⟨_, id, B, off, h2, hB, ⟨fun r => ?_, fun {m ν a} r b n w hν hbr => ?_⟩, hev⟩
  · obtain ⟨b, n, e, _⟩ := hc hg r; exact ⟨_, e⟩
  · obtain ⟨b', n', e, ev⟩ := hc hg r
    rw [hν] at e; cases e
    rw [hbk] at hbr
    obtain ⟨vs, hvl, rel, hcell⟩ := load_part hbr hl
    have := run_loadCells_list (P := P) (w := w) ⟨b, off, none⟩ vs hcell
    rw [hvl] at this
    refine ⟨.agg vs.toArray, ⟨vs, rfl, rel⟩, ?_⟩
    simp [execOp, ho, ev, Instr.loadAt, Instr.sureAddr, loadVar, r_isAgg hd, ha, r_size hi, this]
theorem BR.row_of {ν : Nu} {e : TypeId} {c : Array Value} {l : List Cell} {op : Bool} (h : Rel (CR ν ρ) l c.toList) : BR ν ρ c.size (some (.cells c e)) (.row op l) := by
  have hl : l.length = c.size := by rw [h.length]; simp
  exact ⟨c, e, rfl, rfl, by omega, fun _ => hl, fun i x hx => by
    obtain ⟨v, hv, r⟩ := h.nth hx
    exact ⟨v, by simpa using hv, r⟩⟩
theorem alloc_sem (hg : g = ρ.gl.isSome) {e : TypeId} {i : TypeInfo} {z : Value} {zs : List Cell} (hi : P.info? e = some i) (hz : i.zero = some z) (hzs : cellsOf z.cells.toList = some zs) (ho : o.op = .alloc e) (h : allocF zs t s k = true) :
    ∃ v bk, k v (s.alloc bk) = true ∧ ASem P ρ o t s.next bk v := by
  refine ⟨_, _, newK_true h, fun {m ν a} r => ⟨z.cells.size, .cells z.cells e, fun b => .pointer (some ⟨b, 0, none⟩), BR.row_of (cellsOf_sound hzs), fun ν' b e => ⟨b, _, e, rfl⟩, fun w => ?_⟩⟩
  simp [execOp, ho, Instr.alloc, r_zero hi hz, newVar, newRow]
theorem mkm_sem {ty : TypeId} (ho : o.op = .makeMap ty none) (h : mkmF t s k = true) :
    ∃ v bk, k v (s.alloc bk) = true ∧ ASem P ρ o t s.next bk v := by
  refine ⟨_, _, newK_true h, fun {m ν a} r => ⟨0, .map #[] 0, fun b => .map (some b), ⟨#[], 0, rfl, (fun e he => by simp at he), fun x hx => by cases hx⟩, fun ν' b e => ⟨b, 0, e, rfl⟩, fun w => ?_⟩⟩
  simp [execOp, ho, Instr.makeMap]
theorem box_sem (hg : g = ρ.gl.isSome) {e : TypeId} {x : Operand} {xa : XA} (hx : xaOf g x = some xa) (ho : o.op = .box e x) (h : boxF xa t s k = true) :
    ∃ v bk, k v (s.alloc bk) = true ∧ ASem P ρ o t s.next bk v := by
  obtain ⟨v, h, hv⟩ := evK_sound hx h
  obtain ⟨c, rfl, h1⟩ := isComp_true h
  rw [compK_eq] at h1
  refine ⟨_, _, newK_true h1, fun {m ν a} r => ⟨(a.eval x).cells.size, .cells (a.eval x).cells e, fun b => .pointer (some ⟨b, 0, none⟩), BR.row_of (CompR.cells (hv hg r)), fun ν' b e => ⟨b, _, e, rfl⟩, fun w => ?_⟩⟩
  simp [execOp, ho, Instr.box, newVar, newRow]
theorem bsl_sem (hg : g = ρ.gl.isSome) {ty e : TypeId} {n : Nat} {i : TypeInfo} {z : Value} {zs : List Cell} {ps : Array (Nat × Operand)} {xs : List XP} (hu : P.underlying ty = some (.slice e)) (hi : P.info? e = some i) (hz : i.zero = some z)
    (hzs : cellsOf ((Array.range (n * i.size)).map (z.cells[· % z.cells.size]!)).toList = some zs) (hp : partsOf g (fun j => some (j * i.size, i.size)) ps.toList = some xs) (hn : n * i.size ≤ 2 ^ 24)
    (ho : o.op = .buildSlice ty n ps) (h : bslF zs n xs t s k = true) : ∃ v bk, k v (s.alloc bk) = true ∧ ASem P ρ o t s.next bk v := by
  obtain ⟨cs, hk, _, hsem⟩ := partsK_sound hg hp h
  refine ⟨_, _, newK_true hk, fun {m ν a} r => ?_⟩
  obtain ⟨us, hus, rus⟩ := hsem r _ (cellsOf_sound hzs)
  refine ⟨us.size, .cells us e, fun b => .slice (some ⟨b, 0, none⟩) n n, BR.row_of rus, fun ν' b e => ⟨b, _, e, Nat.le_refl _, rfl⟩, fun w => ?_⟩
  have hn' : ¬ (2 ^ 24 < n * i.size) := by omega
  have hus' : Instr.fill (fun j => some (j * i.size, i.size)) ((Array.range (n * i.size)).map (z.cells[· % z.cells.size]!)) (ps.map fun (j, x) => (j, a.eval x)).toList = some us := by simpa using hus
  have key : (Instr.buildSlice ty n (ps.map fun (j, x) => (j, a.eval x))).run P w = .ok (.slice (some ⟨w.heap.size, 0, none⟩) n n) (w.alloc (.cells us e)) := by
    generalize (ps.map fun (j, x) => (j, a.eval x)) = parts at hus'
    simp only [Instr.buildSlice, Sem.run_bind, r_und hu, Result.andThen_ok, r_size hi, Sem.run_ite]
    rw [if_neg hn']
    by_cases h0 : n * i.size = 0
    · have e0 : ((Array.range (n * i.size)).map (z.cells[· % z.cells.size]!)) = ((Array.range (n * i.size)).map ((#[] : Array Value)[· % (#[] : Array Value).size]!)) := by rw [h0]; simp
      rw [e0] at hus'
      simp only [h0, if_true, Sem.run_pure, Sem.run_bind, Result.andThen_ok] at hus' ⊢
      rw [hus']
      rfl
    · simp only [h0, if_false, Sem.run_bind, r_zero hi hz, Result.andThen_ok, Sem.run_pure]
      rw [hus']
      rfl
  simp only [execOp, ho, Sem.run_bind, key, Result.andThen_ok, Sem.run_pure]
theorem st_sem (hg : g = ρ.gl.isSome) {ty : TypeId} {i : TypeInfo} {x y : Operand} {xa ya : XA} (hx : xaOf g x = some xa) (hy : xaOf g y = some ya) (hi : P.info? ty = some i) (ho : o.op = .store ty x y) (h : stF xa ya i.size t s k = true) :
    ∃ x B bk off, k .unk (s.put x B bk) = true ∧ s.heap.get x = some B ∧ B.k ≠ .dead ∧ s.wlo ≤ B.no ∧ SSem P ρ o t x B bk ∧ evX xa t = some (.v (.one (.ptr x off))) := by
  obtain ⟨c, hev, h, hc⟩ := ev1K_sound' hx h
  obtain ⟨id, off, rfl, h1⟩ := isPtr_true h
  obtain ⟨v, h2, hv⟩ := evK_sound hy h1
  obtain ⟨c, rfl, h3⟩ := isComp_true h2
  rw [compK_eq] at h3
  obtain ⟨h4, h5⟩ := lenIs_true h3
  obtain ⟨B, op, l, hB, hbk, hl, hw, h6⟩ := storeK_true h5
  refine ⟨id, B, _, off, h6, hB, (by rw [hbk]; exact fun h => (by cases h)), hw, ⟨fun r => ?_, fun {m ν a} r b n w hν hlt hbr => ?_⟩, hev⟩
  · obtain ⟨b, n, e, _⟩ := hc hg r; exact ⟨_, e⟩
  · obtain ⟨b', n', e, ev⟩ := hc hg r
    rw [hν] at e; cases e
    rw [hbk] at hbr
    obtain ⟨cs, e, e1, e2, e3, e4, e5⟩ := hbr
    have rc := CompR.cells (hv hg r)
    have hsz : (a.eval y).cells.size = c.cells.length := (hv hg r : CompR ν ρ c (a.eval y)).cells_length
    have hone := rc.oneCell
    have hrun := run_storeCells_at P b off e (a.eval y).cells.toList 0 cs w e1 (by simp [hsz]; omega) hone
    simp only [Nat.add_zero] at hrun
    refine ⟨.cells (overV cs.toList off (a.eval y).cells.toList).toArray e, ⟨_, e, rfl, ?_, ?_, ?_, ?_⟩, ?_⟩
    · simp [overV, hsz]; omega
    · rw [over_length hl]; omega
    · rw [over_length hl]; exact e4
    · intro j q hj
      simp only [over, List.append_assoc, List.getElem?_append, List.length_take, List.getElem?_take, List.getElem?_drop] at hj
      simp only [overV, List.append_assoc, List.getElem?_toArray, List.getElem?_append, List.length_take, List.getElem?_take, List.getElem?_drop, Array.length_toList, Array.getElem?_toList]
      have m1 : min off l.length = off := by omega
      have m2 : min off cs.size = off := by omega
      have m3 : (a.eval y).cells.toList.length = c.cells.length := by simpa using hsz
      rw [m1] at hj
      rw [m2]
      simp only [Array.length_toList] at m3
      rw [hsz]
      split at hj
      · rename_i hlt; rw [if_pos hlt, if_pos hlt] at *; exact e5 j q hj
      · rename_i hlt
        rw [if_neg hlt]
        split at hj
        · rename_i hlt2
          rw [if_pos hlt2]
          obtain ⟨u, hu, ru⟩ := rc.nth hj
          exact ⟨u, by simpa using hu, ru⟩
        · rename_i hlt2
          rw [if_neg hlt2]
          exact e5 _ q hj
    · have hset : w.setRow b (cs.toList.take off ++ (a.eval y).cells.toList ++ cs.toList.drop (off + (a.eval y).cells.toList.length)).toArray = { w with heap := w.heap.setIfInBounds b (.cells (overV cs.toList off (a.eval y).cells.toList).toArray e) } := by
        unfold World.setRow
        congr 1
        apply Array.ext_getElem?
        intro j
        rw [Array.getElem?_modify, Array.getElem?_setIfInBounds]
        by_cases hj : b = j
        · subst hj
          rw [if_pos rfl, if_pos rfl, if_pos hlt, e1]
          rfl
        · rw [if_neg hj, if_neg hj]
      rw [hset] at hrun
      simp only [execOp, ho, Sem.run_bind, ev, Instr.storeAt, Instr.sureAddr, Sem.run_pure, Result.andThen_ok, storeVar, r_size hi, Sem.run_ite]
      rw [if_neg (by simp [hsz, h4])]
      simp only [hrun, Result.andThen_ok, Sem.run_pure]
end Go.Rsf
