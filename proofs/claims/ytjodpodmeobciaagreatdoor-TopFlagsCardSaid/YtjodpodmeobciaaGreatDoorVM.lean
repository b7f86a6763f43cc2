/- An executor over a program's operations: rows that are laid over, cleared, made. Conditions: none. -/
import Derived.Test.YtjodpodmeobciaaGreatDoorVL
import Derived.Laws.MakeOwn
namespace Go.Rsf
open Go.RowKit
set_option linter.unusedVariables false
set_option linter.unusedSimpArgs false
variable {P : Program} {ρ : Rho} {g : Bool} {o : Oper} {t : Ts} {s : St} {k : KVS}

def rep (zs : List Cell) : Nat → List Cell | 0 => [] | n + 1 => zs ++ rep zs n
theorem repK_eq (zs : List Cell) : ∀ (n : Nat) (k : List Cell → Bool), repK zs n k = k (rep zs n)
  | 0, k => rfl
  | n + 1, k => by
    show repK zs n (fun l => appK zs l k) = _
    rw [repK_eq zs n, appK_eq]; rfl
theorem rep_length (zs : List Cell) : ∀ n, (rep zs n).length = n * zs.length
  | 0 => by simp [rep]
  | n + 1 => by simp [rep, rep_length zs n, Nat.add_mul]; omega
/-- Noughts, again and again. -/
theorem rep_rel {ν : Nu} {zs : List Cell} {z : Array Value} (h : Rel (CR ν ρ) zs z.toList) : ∀ n, Rel (CR ν ρ) (rep zs n) (Builtin.zeroCells z n).toList := by
  have hl : zs.length = z.size := by rw [h.length]; simp
  intro n
  induction n with
  | zero => simp [rep, Builtin.zeroCells, Rel]
  | succ n ih =>
    have : (Builtin.zeroCells z (n + 1)).toList = z.toList ++ (Builtin.zeroCells z n).toList := by
      apply List.ext_getElem?
      intro j
      simp only [Builtin.zeroCells, Array.getElem?_toList, Array.getElem?_map, List.getElem?_append, Array.length_toList]
      by_cases hj : j < z.size
      · rw [if_pos hj]
        have : j < (n + 1) * z.size := by rw [Nat.add_mul]; omega
        simp [this, Nat.mod_eq_of_lt hj, hj]
      · rw [if_neg hj]
        by_cases h2 : j - z.size < n * z.size
        · have h3 : j < (n + 1) * z.size := by rw [Nat.add_mul]; omega
          have h4 : j % z.size = (j - z.size) % z.size := by
            rw [Nat.mod_eq_sub_mod (by omega)]
          simp [h2, h3, h4]
        · have h3 : ¬ j < (n + 1) * z.size := by rw [Nat.add_mul]; omega
          simp [h2, h3]
    rw [this]
    exact h.append ih
theorem mks_sem (hg : g = ρ.gl.isSome) {ty e : TypeId} {i : TypeInfo} {z : Value} {zs : List Cell} {x y : Operand} {xa ya : XA} (hx : xaOf g x = some xa) (hy : xaOf g y = some ya) (hu : P.underlying ty = some (.slice e)) (hi : P.info? e = some i) (hz : i.zero = some z) (hzs : cellsOf z.cells.toList = some zs) (hsz : z.cells.size = i.size) (hby : i.bytes ≤ 1073741824)
    (ho : o.op = .makeSlice ty x y) (h : mksF zs xa ya t s k = true) : ∃ v bk, k v (s.alloc bk) = true ∧ ASem P ρ o t s.next bk v := by
  obtain ⟨c, h, hc⟩ := ev1K_sound hx h
  obtain ⟨k1, n1, rfl, h1⟩ := isInt_true h
  cases n1 with
  | negSucc _ => cases h1
  | ofNat m =>
  obtain ⟨d, h2, hd⟩ := ev1K_sound hy h1
  obtain ⟨k2, n2, rfl, h3⟩ := isInt_true h2
  cases n2 with
  | negSucc _ => cases h3
  | ofNat n =>
  obtain ⟨e1, h4⟩ := guardK_true h3
  obtain ⟨e2, h5⟩ := guardK_true h4
  rw [Nat.ble_eq] at e1 e2
  rw [repK_eq] at h5
  refine ⟨_, _, newK_true h5, fun {mm ν a} r => ?_⟩
  have rz := rep_rel (ρ := ρ) (ν := ν) (cellsOf_sound hzs) n
  refine ⟨(Builtin.zeroCells z.cells n).size, .cells (Builtin.zeroCells z.cells n) e, fun b => .slice (some ⟨b, 0, none⟩) m n, BR.row_of rz, fun ν' b e => ⟨b, _, e, e1, rfl⟩, fun w => ?_⟩
  have ex : a.eval x = .int k1 (m : Int) := hc hg r
  have ey : a.eval y = .int k2 (n : Int) := hd hg r
  have hb : i.bytes * n ≤ 107374182400000 := Nat.le_trans (Nat.mul_le_mul hby e2) (by decide)
  have hb' : ((i.bytes * n : Nat) : Int) ≤ 107374182400000 := by omega
  rw [Int.natCast_mul] at hb'
  have run := run_make (P := P) w ty e i z hu hi hz k1 k2 (m : Int) (n : Int) (by omega) (by omega) (by omega) (by omega)
  have em : madeCells z.cells ((n : Int).toNat * i.size) = Builtin.zeroCells z.cells n := by
    unfold madeCells Builtin.zeroCells
    rw [hsz]; rfl
  rw [em] at run
  simp only [Int.toNat_natCast] at run
  simp only [execOp, ho, Sem.run_bind, ex, ey, run, Result.andThen_ok, Sem.run_pure]

/-! ### Laid over, cleared -/
theorem lenC_true {c : Cell} {k : Nat → Bool} (h : lenC c k = true) : k (lenN c) = true ∧ ∀ {ν : Nu} {v : Value}, CR ν ρ c v → ∃ ad cap, v = .slice ad (lenN c) cap := by
  refine ⟨?_, fun r => row_len r h⟩
  rcases sliceK_true h with ⟨rfl, h⟩ | ⟨id, off, len, cap, rfl, h⟩ | ⟨id, off, len, sz, rfl, h⟩ | ⟨rfl, h⟩ <;> exact h
theorem minK_true {a b : Nat} {k : Nat → Bool} (h : minK a b k = true) : k (Nat.min a b) = true := by
  unfold minK at h
  cases hb : Nat.ble a b with
  | true => rw [hb] at h; rw [Nat.ble_eq] at hb; rw [show Nat.min a b = a from Nat.min_eq_left hb]; exact h
  | false =>
    rw [hb] at h
    have : ¬ a ≤ b := fun e => by rw [← Nat.ble_eq] at e; rw [e] at hb; cases hb
    rw [show Nat.min a b = b from Nat.min_eq_right (by omega)]; exact h
/-- A row whose cells are known: where it lies. -/
theorem rowOf {c : Cell} {z : Bool} {f : Pth → Nat → Nat → Nat → Bool} (h : sliceK c false f f false = true) :
    ∃ id off l x, f id off l x = true ∧ l = lenN c ∧ ∀ {ν : Nu} {v : Value}, CR ν ρ c v → ∃ b n cap, ν id = some (b, n) ∧ v = .slice (some ⟨b, off, none⟩) l cap := by
  rcases sliceK_true h with ⟨_, h⟩ | ⟨id, off, len, cap, rfl, h⟩ | ⟨id, off, len, sz, rfl, h⟩ | ⟨_, h⟩
  · cases h
  · exact ⟨id, off, len, cap, h, rfl, fun ⟨b, n, e1, _, e⟩ => ⟨b, n, _, e1, e⟩⟩
  · exact ⟨id, off, len, sz, h, rfl, fun ⟨b, n, c, e1, _, _, e⟩ => ⟨b, n, _, e1, e⟩⟩
  · cases h
theorem store_row {ν : Nu} {n b off : Nat} {w : World} {op : Bool} {l cs : List Cell} {vs : List Value} (h : BR ν ρ n w.heap[b]? (.row op l)) (hlt : b < w.heap.size) (hr : Rel (CR ν ρ) cs vs) (hl : off + cs.length ≤ l.length) :
    ∃ ob, BR ν ρ n (some ob) (.row op (over l off cs)) ∧ (storeCells ⟨b, off, none⟩ vs).run P w = .ok () { w with heap := w.heap.setIfInBounds b ob } := by
  have h0 := h
  obtain ⟨c, e, e1, e2, e3, e4, e5⟩ := h0
  rw [e1] at h
  have hrun := run_storeCells_at P b off e vs 0 c w e1 (by have := hr.length; simp; omega) hr.oneCell
  simp only [Nat.add_zero] at hrun
  refine ⟨_, BR.lay h hr hl, ?_⟩
  rw [hrun, setRow_eq e1 hlt]; rfl
theorem cpy_sem (hg : g = ρ.gl.isSome) {c : Call} {ty ty2 e : TypeId} {i : TypeInfo} {x y : Operand} {xa ya : XA} (hx : xaOf g x = some xa) (hy : xaOf g y = some ya) (hu : P.underlying ty = some (.slice e)) (hi : P.info? e = some i)
    (hc : c.callee = .builtin .copy) (ha : c.args = #[x, y]) (ht : c.argTypes = #[ty, ty2]) (ho : o.op = .call c) (hn : Num s) (hiv : IvOK ρ s.iv) (h : cpyF xa ya i.size t s k = true) :
    ∃ v s', k v s' = true ∧ Pure ρ s s' ∧ OT P ρ o t s v s' := by
  obtain ⟨d, h1, hd⟩ := ev1K_sound hx h
  obtain ⟨b, h2, hb⟩ := ev1K_sound hy h1
  obtain ⟨h3, hdl⟩ := lenC_true (ρ := ρ) h2
  obtain ⟨h4, hbl⟩ := lenC_true (ρ := ρ) h3
  have h5 := minK_true h4
  have call : ∀ {a : Act} {w w' : World} {u : Value}, (Builtin.copy_ #[ty, ty2] o.type #[a.eval x, a.eval y]).run P w = .ok u w' → (execOp a.eval o).run P w = .ok (.value u) w' := by
    intro a w w' u h
    simp [execOp, ho, resolve, hc, ha, ht, invoke, builtin, h]
  have hn' : Nat.min (lenN b) (lenN d) = 0 ∨ ∃ m, Nat.min (lenN b) (lenN d) = m + 1 := by
    cases Nat.min (lenN b) (lenN d) with
    | zero => exact .inl rfl
    | succ m => exact .inr ⟨m, rfl⟩
  rcases hn' with h0 | ⟨m, h0⟩
  · rw [h0] at h5
    have h5 : k (.v (.one (.int .i64 (Int.ofNat 0)))) s = true := h5
    refine ⟨_, s, h5, Pure.refl hn hiv, ?_⟩
    intro Q next mm n0 w0 ν a w mt mw un hk
    obtain ⟨ad, cp, e1⟩ := hdl (hd hg mt)
    obtain ⟨ad2, cp2, e2⟩ := hbl (hb hg mt)
    refine wp_value (call (u := .int .i64 0) (w' := w) ?_) (hk _ ν w (Ext.refl _ _ _) rfl mw)
    rw [e1, e2]
    cases ad <;> cases ad2 <;> simp [Builtin.copy_, r_und hu, r_size hi, Builtin.lenOf, h0, Builtin.firstCells, loadCells, loadCellsFrom, storeCells, goInt]
  · rw [h0] at h5
    obtain ⟨id, off, l, sx, h6, _, hsrc⟩ := rowOf (ρ := ρ) (z := false) (show sliceK b false _ _ false = true from h5)
    obtain ⟨B, op, cs, hB, hbk, hl, h7⟩ := loadK_true h6
    obtain ⟨id2, off2, l2, sx2, h8, _, hdst⟩ := rowOf (ρ := ρ) (z := false) (show sliceK d false _ _ false = true from h7)
    obtain ⟨B2, op2, cs2, hB2, hbk2, hl2, hw2, h9⟩ := storeK_true h8
    refine ⟨_, _, h9, pure_put hn hiv hB2 _, ?_⟩
    intro Q next mm n0 w0 ν a w mt mw un hk
    obtain ⟨bb, nn, cp, hν, e2⟩ := hsrc (hb hg mt)
    obtain ⟨bd, nd, cp2, hν2, e1⟩ := hdst (hd hg mt)
    obtain ⟨b1, n1, hν', hlt, hbr⟩ := mw.blk id B hB
    rw [hν] at hν'; cases hν'
    obtain ⟨b2, n2, hν2', hlt2, hbr2⟩ := mw.blk id2 B2 hB2
    rw [hν2] at hν2'; cases hν2'
    rw [hbk] at hbr
    rw [hbk2] at hbr2
    obtain ⟨vs, hvl, hvr, hvc⟩ := load_part hbr hl
    obtain ⟨ob, hob, hst⟩ := store_row (P := P) hbr2 hlt2 hvr hl2
    have hld := run_loadCells_list (P := P) (w := w) ⟨bb, off, none⟩ vs hvc
    rw [hvl] at hld
    obtain ⟨ad, cq, e3⟩ := hdl (hd hg mt)
    obtain ⟨ad2, cq2, e4⟩ := hbl (hb hg mt)
    rw [e1] at e3; rw [e2] at e4
    cases e3; cases e4
    refine wp_value (call (u := .int .i64 (m + 1 : Nat)) (w' := { w with heap := w.heap.setIfInBounds bd ob }) ?_) (hk _ ν _ (Ext.refl _ _ _) rfl ?_)
    · rw [e1, e2]
      have hld : (loadCells ⟨bb, off, none⟩ ((m + 1) * i.size)).run P w = .ok vs.toArray w := hld
      simp [Builtin.copy_, r_und hu, r_size hi, Builtin.lenOf, h0, Builtin.firstCells, hld, hst, goInt]
    · rw [St.put_h]
      exact mw.write hB2 (by rw [hbk2]; exact fun h => (by cases h)) hν2 hw2 hob
theorem clr_sem (hg : g = ρ.gl.isSome) {c : Call} {ty e : TypeId} {i : TypeInfo} {z : Value} {zs : List Cell} {x : Operand} {xa : XA} (hx : xaOf g x = some xa) (hu : P.underlying ty = some (.slice e)) (hi : P.info? e = some i) (hz : i.zero = some z) (hzs : cellsOf z.cells.toList = some zs)
    (hc : c.callee = .builtin .clear) (ha : c.args = #[x]) (ht : c.argTypes = #[ty]) (ho : o.op = .call c) (hn : Num s) (hiv : IvOK ρ s.iv) (h : clrF xa zs t s k = true) :
    ∃ v s', k v s' = true ∧ Pure ρ s s' ∧ OT P ρ o t s v s' := by
  obtain ⟨d, h1, hd⟩ := ev1K_sound hx h
  have call : ∀ {a : Act} {w w' : World}, (Builtin.clear_ #[ty] o.type #[a.eval x]).run P w = .ok (.tuple #[]) w' → (execOp a.eval o).run P w = .ok (.value (.tuple #[])) w' := by
    intro a w w' h
    simp [execOp, ho, resolve, hc, ha, ht, invoke, builtin, h]
  have none_ : (∀ {ν : Nu} {v : Value}, CR ν ρ d v → (∃ ad cp, v = .slice ad 0 cp)) → k (.tup []) s = true → ∃ v s', k v s' = true ∧ Pure ρ s s' ∧ OT P ρ o t s v s' := by
    intro hv hk
    refine ⟨_, s, hk, Pure.refl hn hiv, ?_⟩
    intro Q next mm n0 w0 ν a w mt mw un hnx
    obtain ⟨ad, cp, e1⟩ := hv (hd hg mt)
    refine wp_value (call ?_) (hnx _ ν w (Ext.refl _ _ _) ⟨[], rfl, trivial⟩ mw)
    rw [e1]
    cases ad <;> simp [Builtin.clear_, r_und hu]
  have some_ : ∀ {id : Pth} {off m : Nat}, (∀ {ν : Nu} {v : Value}, CR ν ρ d v → ∃ b n cap, ν id = some (b, n) ∧ v = .slice (some ⟨b, off, none⟩) (m + 1) cap) → repK zs (m + 1) (fun cs => storeK id off cs s fun s => k (.tup []) s) = true → ∃ v s', k v s' = true ∧ Pure ρ s s' ∧ OT P ρ o t s v s' := by
    intro id off m hv hk
    rw [repK_eq] at hk
    obtain ⟨B, op, cs, hB, hbk, hl, hw, h9⟩ := storeK_true hk
    refine ⟨_, _, h9, pure_put hn hiv hB _, ?_⟩
    intro Q next mm n0 w0 ν a w mt mw un hnx
    obtain ⟨bb, nn, cp, hν, e1⟩ := hv (hd hg mt)
    obtain ⟨b1, n1, hν', hlt, hbr⟩ := mw.blk id B hB
    rw [hν] at hν'; cases hν'
    rw [hbk] at hbr
    obtain ⟨ob, hob, hst⟩ := store_row (P := P) hbr hlt (rep_rel (cellsOf_sound hzs) (m + 1)) hl
    refine wp_value (call (w' := { w with heap := w.heap.setIfInBounds bb ob }) ?_) (hnx _ ν _ (Ext.refl _ _ _) ⟨[], rfl, trivial⟩ ?_)
    · rw [e1]
      simp [Builtin.clear_, r_und hu, r_zero hi hz, hst]
    · rw [St.put_h]
      exact mw.write hB (by rw [hbk]; exact fun h => (by cases h)) hν hw hob
  rcases sliceK_true h1 with ⟨rfl, h4⟩ | ⟨id, off, len, cap, rfl, h4⟩ | ⟨id, off, len, sz, rfl, h4⟩ | ⟨rfl, h4⟩
  · exact none_ (fun r => ⟨none, 0, r⟩) h4
  · cases len with
    | zero => exact none_ (fun ⟨b, n, _, _, e⟩ => ⟨_, _, e⟩) h4
    | succ m => exact some_ (id := id) (off := off) (m := m) (fun ⟨b, n, e1, _, e⟩ => ⟨b, n, _, e1, e⟩) h4
  · cases len with
    | zero => exact none_ (fun ⟨b, n, _, _, _, _, e⟩ => ⟨_, _, e⟩) h4
    | succ m => exact some_ (id := id) (off := off) (m := m) (fun ⟨b, n, c, e1, _, _, e⟩ => ⟨b, n, _, e1, e⟩) h4
  · exact none_ (fun r => r) h4
end Go.Rsf
