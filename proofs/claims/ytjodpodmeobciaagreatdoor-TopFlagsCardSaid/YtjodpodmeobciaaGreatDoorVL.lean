/- An executor over a program's operations: rows that grow, are laid over, are cleared, are made. Conditions: none. -/
import Derived.Test.YtjodpodmeobciaaGreatDoorVK
namespace Go.Rsf
open Go.RowKit
set_option linter.unusedVariables false
set_option linter.unusedSimpArgs false
variable {P : Program} {ρ : Rho} {g : Bool} {o : Oper} {t : Ts} {s : St} {k : KVS}

theorem MW.drew {n0 : Nat} {w0 : World} {ν : Nu} {h : Pth → Option Blk} {wlo : Nat} {w : World} (r : MW n0 w0 ν ρ h wlo w) : MW n0 w0 ν ρ h wlo w.drew :=
  ⟨r.below.drew, r.le, r.blk, r.inj, r.own, r.mem⟩
/-- A block is written and goes on under another name. -/
theorem MW.move {n0 : Nat} {w0 : World} {ν : Nu} {h : Pth → Option Blk} {wlo : Nat} {w : World} (r : MW n0 w0 ν ρ h wlo w) {id id' : Pth} {B : Blk} {b n no : Nat} {k : Bk} {o : Obj}
    (hB : h id = some B) (hd : B.k ≠ .dead) (hν : ν id = some (b, n)) (hw : wlo ≤ B.no) (hb : BR ν ρ n (some o) k) (hid : ν id' = none) :
    MW n0 w0 (fun p => if p = id' then some (b, n) else ν p) ρ (fun p => if id' = p then some ⟨no, k⟩ else if id = p then some ⟨B.no, .dead⟩ else h p) wlo { w with heap := w.heap.setIfInBounds b o } := by
  have hle : Nu.le ν (fun p => if p = id' then some (b, n) else ν p) := fun p x e => by
    show (if p = id' then _ else ν p) = _
    by_cases hp : p = id'
    · subst hp; rw [hid] at e; cases e
    · rw [if_neg hp]; exact e
  have r2 := r.write hB hd hν hw hb
  obtain ⟨b', n', h1, h2, h3⟩ := r.blk id B hB
  rw [hν] at h1; cases h1
  have hne : id ≠ id' := fun e => by subst e; rw [hid] at hν; cases hν
  refine ⟨r2.below, r2.le, ?_, ?_, ?_, r2.mem⟩
  · intro p C e
    by_cases hp : id' = p
    · subst hp
      rw [if_pos rfl] at e; cases e
      exact ⟨b, n, if_pos rfl, by simpa using h2, by simp [h2]; exact hb.mono hle⟩
    · rw [if_neg hp] at e
      by_cases hq : id = p
      · subst hq
        rw [if_pos rfl] at e; cases e
        exact ⟨b, n, hle _ _ hν, by simpa using h2, trivial⟩
      · rw [if_neg hq] at e
        obtain ⟨c, m, h4, h5, h6⟩ := r2.blk p C (by show (if id = p then _ else h p) = _; rw [if_neg hq]; exact e)
        exact ⟨c, m, hle _ _ h4, h5, h6.mono hle⟩
  · have old : ∀ p C c x, p ≠ id' → (if id' = p then some ⟨no, k⟩ else if id = p then some ⟨B.no, Bk.dead⟩ else h p) = some C → C.k ≠ .dead → (if p = id' then some (b, n) else ν p) = some (c, x) → h p = some C ∧ ν p = some (c, x) ∧ p ≠ id := by
      intro p C c x hp e hd1 hx
      rw [if_neg (Ne.symm hp)] at e
      rw [if_neg hp] at hx
      by_cases hq : id = p
      · rw [if_pos hq] at e; cases e; exact absurd rfl hd1
      · rw [if_neg hq] at e; exact ⟨e, hx, Ne.symm hq⟩
    intro p q C C' c x y e e' hd1 hd2 hx hy
    by_cases hp : p = id' <;> by_cases hq : q = id'
    · rw [hp, hq]
    · obtain ⟨e1, e2, e3⟩ := old q C' c y hq e' hd2 hy
      simp only [hp, if_true] at hx
      cases hx
      exact absurd (r.inj q id C' B b y n e1 hB hd2 hd e2 hν) e3
    · obtain ⟨e1, e2, e3⟩ := old p C c x hp e hd1 hx
      simp only [hq, if_true] at hy
      cases hy
      exact absurd (r.inj p id C B b x n e1 hB hd1 hd e2 hν) e3
    · obtain ⟨e1, e2, e3⟩ := old p C c x hp e hd1 hx
      obtain ⟨e4, e5, e6⟩ := old q C' c y hq e' hd2 hy
      exact r.inj p q C C' c x y e1 e4 hd1 hd2 e2 e5
  · intro p C c x e hd1 hx hw1
    by_cases hp : p = id'
    · simp only [hp, if_true] at hx
      cases hx
      exact r.own id B b n hB hd hν hw
    · simp only [Ne.symm hp, if_false] at e
      simp only [hp, if_false] at hx
      by_cases hq : id = p
      · rw [if_pos hq] at e; cases e; exact absurd rfl hd1
      · rw [if_neg hq] at e
        exact r.own p C c x e hd1 hx hw1
theorem setRow_eq {w : World} {b : Nat} {c : Array Value} {e : TypeId} (h : w.heap[b]? = some (.cells c e)) (hlt : b < w.heap.size) (cs : Array Value) : w.setRow b cs = { w with heap := w.heap.setIfInBounds b (.cells cs e) } := by
  unfold World.setRow
  congr 1
  apply Array.ext_getElem?
  intro j
  rw [Array.getElem?_modify, Array.getElem?_setIfInBounds]
  by_cases hj : b = j
  · subst hj
    rw [if_pos rfl, if_pos rfl, if_pos hlt, h]
    rfl
  · rw [if_neg hj, if_neg hj]
theorem le_grownCap (w : World) (need old : Nat) (e : TypeId) : need ≤ grownCap w need old e := by
  unfold grownCap Question.cut
  exact Nat.le_add_right _ _
/-- A block whose cells are known as far as a row goes. -/
theorem BR.open {ν : Nu} {e : TypeId} {l : List Cell} {vs : List Value} (h : Rel (CR ν ρ) l vs) (zs : Array Value) : BR ν ρ (vs.length + zs.size) (some (.cells (vs.toArray ++ zs) e)) (.row true l) := by
  refine ⟨_, e, rfl, by simp, by rw [h.length]; omega, fun h => (by cases h), fun i x hx => ?_⟩
  obtain ⟨v, hv, r⟩ := h.nth hx
  refine ⟨v, ?_, r⟩
  rw [Array.getElem?_append_left]
  · simpa using hv
  · rcases Nat.lt_or_ge i vs.length with h | h
    · simpa using h
    · rw [List.getElem?_eq_none h] at hv; cases hv
/-- cs laid over a block's cells. -/
theorem BR.lay {ν : Nu} {n off : Nat} {c : Array Value} {e : TypeId} {op : Bool} {l cs : List Cell} {vs : List Value} (h : BR ν ρ n (some (.cells c e)) (.row op l)) (hr : Rel (CR ν ρ) cs vs) (hl : off + cs.length ≤ l.length) :
    BR ν ρ n (some (.cells (overV c.toList off vs).toArray e)) (.row op (over l off cs)) := by
  obtain ⟨c', e', e1, e2, e3, e4, e5⟩ := h
  cases e1
  have hv := hr.length
  refine ⟨_, e, rfl, ?_, ?_, ?_, ?_⟩
  · simp [overV]; omega
  · rw [over_length hl]; omega
  · rw [over_length hl]; exact e4
  · intro j q hj
    simp only [over, List.append_assoc, List.getElem?_append, List.length_take, List.getElem?_take, List.getElem?_drop] at hj
    simp only [overV, List.append_assoc, List.getElem?_toArray, List.getElem?_append, List.length_take, List.getElem?_take, List.getElem?_drop, Array.length_toList, Array.getElem?_toList]
    have m1 : min off l.length = off := by omega
    have m2 : min off c.size = off := by omega
    rw [m1] at hj
    rw [m2, ← hv]
    split at hj
    · rename_i hlt; rw [if_pos hlt, if_pos hlt] at *; exact e5 j q hj
    · rename_i hlt
      rw [if_neg hlt]
      split at hj
      · rename_i hlt2
        rw [if_pos hlt2]
        obtain ⟨u, hu, ru⟩ := hr.nth hj
        exact ⟨u, hu, ru⟩
      · rename_i hlt2
        rw [if_neg hlt2]
        exact e5 _ q hj
theorem srcK_true {b : Cell} {size : Nat} {k : Nat → List Cell → Bool} (h : srcK b size s k = true) :
    ∃ n new, k n new = true ∧ ((n = 0 ∧ ∀ {ν : Nu} {v : Value}, CR ν ρ b v → ∃ ad c, v = .slice ad 0 c) ∨
      (0 < n ∧ ∃ id B op l off, s.heap.get id = some B ∧ B.k = .row op l ∧ off + n * size ≤ l.length ∧ new = (l.drop off).take (n * size) ∧ ∀ {ν : Nu} {v : Value}, CR ν ρ b v → ∃ bb nn c, ν id = some (bb, nn) ∧ v = .slice (some ⟨bb, off, none⟩) n c)) := by
  rcases sliceK_true h with ⟨rfl, h4⟩ | ⟨id, off, len, cap, rfl, h4⟩ | ⟨id, off, len, sz, rfl, h4⟩ | ⟨rfl, h4⟩
  · exact ⟨0, [], h4, .inl ⟨rfl, fun r => ⟨none, 0, r⟩⟩⟩
  · cases len with
    | zero => exact ⟨0, [], h4, .inl ⟨rfl, fun ⟨b, n, _, _, e⟩ => ⟨_, _, e⟩⟩⟩
    | succ n =>
      obtain ⟨B, op, l, hB, hbk, hl, h5⟩ := loadK_true h4
      exact ⟨n + 1, _, natK_true h5, .inr ⟨Nat.succ_pos n, id, B, op, l, off, hB, hbk, hl, rfl, fun ⟨b, n, e1, _, e⟩ => ⟨b, n, _, e1, e⟩⟩⟩
  · cases len with
    | zero => exact ⟨0, [], h4, .inl ⟨rfl, fun ⟨b, n, _, _, _, _, e⟩ => ⟨_, _, e⟩⟩⟩
    | succ n =>
      obtain ⟨B, op, l, hB, hbk, hl, h5⟩ := loadK_true h4
      exact ⟨n + 1, _, natK_true h5, .inr ⟨Nat.succ_pos n, id, B, op, l, off, hB, hbk, hl, rfl, fun ⟨b, n, c, e1, _, _, e⟩ => ⟨b, n, _, e1, e⟩⟩⟩
  · exact ⟨0, [], h4, .inl ⟨rfl, fun r => r⟩⟩
theorem r_app0 {w : World} {ty ty' e : TypeId} {i : TypeInfo} (hu : P.underlying ty = some (.slice e)) (hi : P.info? e = some i) (ad ad' : Option Addr) (l c c' : Nat) (hl : l ≤ c) :
    (Builtin.append_ #[ty, ty] ty' #[.slice ad l c, .slice ad' 0 c']).run P w = .ok (.slice ad l c) w := by
  have hl' : ¬ (c < l) := by omega
  cases ad <;> cases ad' <;> simp [Builtin.append_, r_und hu, r_size hi, Builtin.lenOf, hl, Builtin.firstCells, loadCells, loadCellsFrom, storeCells]
theorem run_append_fits' (w : World) (t ty e : TypeId) (i : TypeInfo) (ht : P.underlying t = some (.slice e)) (hi : P.info? e = some i)
    (g sLen sCap : Nat) (cur : Array Value) (e' : TypeId) (hg : w.heap[g]? = some (.cells cur e'))
    (a : Addr) (m c : Nat) (news : List Value) (hl : news.length = m * i.size) (hnews : ∀ j u, news[j]? = some u → w.cell? (a.add j) = some u) (h1 : ∀ u ∈ news, u.oneCell' = true)
    (hroom : sLen + m ≤ sCap) (hfit : sLen * i.size + news.length ≤ cur.size) :
    (Builtin.append_ #[t, t] ty #[.slice (some ⟨g, 0, none⟩) sLen sCap, .slice (some a) m c]).run P w =
      .ok (.slice (some ⟨g, 0, none⟩) (sLen + m) sCap) (w.setRow g (overV cur.toList (sLen * i.size) news).toArray) := by
  have hf := run_firstCells_some (P := P) w i.size m a m c news hl hnews
  have hst := run_storeCells_at P g (sLen * i.size) e' news 0 cur w hg (by simpa using hfit) h1
  simp only [Nat.add_zero] at hst
  simp [Builtin.append_, r_und ht, r_size hi, Builtin.lenOf, hroom, hf, Addr.add_lit, hst, overV]
theorem app_call {c : Call} {ty : TypeId} {x y : Operand} (hc : c.callee = .builtin .append) (ha : c.args = #[x, y]) (ht : c.argTypes = #[ty, ty]) (ho : o.op = .call c) {a : Act} {w w' : World} {u : Value}
    (h : (Builtin.append_ #[ty, ty] o.type #[a.eval x, a.eval y]).run P w = .ok u w') : (execOp a.eval o).run P w = .ok (.value u) w' := by
  simp [execOp, ho, resolve, hc, ha, ht, invoke, builtin, h]
theorem app_sem (hg : g = ρ.gl.isSome) {c : Call} {ty e : TypeId} {i : TypeInfo} {z : Value} {x y : Operand} {xa ya : XA} (hx : xaOf g x = some xa) (hy : xaOf g y = some ya) (hu : P.underlying ty = some (.slice e)) (hi : P.info? e = some i) (hz : i.zero = some z) (hzs : z.cells.size = i.size) (hs : i.size ≠ 0) (hby : i.bytes ≤ 1073741824)
    (hc : c.callee = .builtin .append) (ha : c.args = #[x, y]) (ht : c.argTypes = #[ty, ty]) (ho : o.op = .call c) (hn : Num s) (hiv : IvOK ρ s.iv) (h : appF xa ya i.size t s k = true) :
    ∃ v s', k v s' = true ∧ Pure ρ s s' ∧ OT P ρ o t s v s' := by
  obtain ⟨v, h, hv⟩ := evK_sound hx h
  obtain ⟨ac, rfl, h1⟩ := isOne_true h
  obtain ⟨bc, h2, hb⟩ := ev1K_sound hy h1
  obtain ⟨n, new, h3, hsrc⟩ := srcK_true (ρ := ρ) h2
  have hva : ∀ {m ν a}, MT m ν ρ t a → CR ν ρ ac (a.eval x) := fun r => hv hg r
  have hvb : ∀ {m ν a}, MT m ν ρ t a → CR ν ρ bc (a.eval y) := fun r => hb hg r
  rcases hsrc with ⟨rfl, hy0⟩ | ⟨hpos, id2, B2, op2, l2, off2, hB2, hbk2, hl2, hnew, hy1⟩
  · -- nothing comes
    have h3 : sliceK ac (k (.v (.one ac)) s) (fun _ _ _ _ => k (.v (.one ac)) s) (fun _ _ _ _ => k (.v (.one ac)) s) (k (.v (.one ac)) s) = true := h3
    have hk : k (.v (.one ac)) s = true := by
      rcases sliceK_true h3 with ⟨_, h⟩ | ⟨_, _, _, _, _, h⟩ | ⟨_, _, _, _, _, h⟩ | ⟨_, h⟩ <;> exact h
    refine ⟨_, s, hk, Pure.refl hn hiv, ?_⟩
    intro Q next m n0 w0 ν a w mt mw un hnx
    obtain ⟨ad', c', e2⟩ := hy0 (hvb mt)
    have hsl : ∃ ad l cc, a.eval x = .slice ad l cc ∧ l ≤ cc := by
      have r := hva mt
      rcases sliceK_true h3 with ⟨rfl, _⟩ | ⟨id, off, len, cap, rfl, _⟩ | ⟨id, off, len, sz, rfl, _⟩ | ⟨rfl, _⟩
      · exact ⟨none, 0, 0, r, Nat.le_refl _⟩
      · obtain ⟨b, n, _, hle, e⟩ := r; exact ⟨_, _, _, e, hle⟩
      · obtain ⟨b, n, c, _, _, hle, e⟩ := r; exact ⟨_, _, _, e, hle⟩
      · obtain ⟨a, c, e⟩ := r; exact ⟨_, _, _, e, Nat.zero_le _⟩
    obtain ⟨ad, l, cc, e1, hle⟩ := hsl
    refine wp_value (app_call hc ha ht ho (by rw [e1, e2]; exact r_app0 hu hi ad ad' l cc c' hle)) (hnx _ ν w (Ext.refl _ _ _) ?_ mw)
    rw [← e1]; exact hva mt
  · cases n with
    | zero => exact absurd hpos (by omega)
    | succ n' =>
    have h3 : app0 (.v (.one ac)) ac i.size (n' + 1) new s k = true := h3
    generalize hN : n' + 1 = n at *
    -- what comes, in the model
    have news : ∀ {m n0 w0 ν a w}, MT m ν ρ t a → MW n0 w0 ν ρ s.h s.wlo w → ∃ (ad : Addr) (c' : Nat) (vs : List Value), a.eval y = .slice (some ad) n c' ∧ vs.length = n * i.size ∧ Rel (CR ν ρ) new vs ∧ ∀ j u, vs[j]? = some u → w.cell? (ad.add j) = some u := by
      intro m n0 w0 ν a w mt mw
      obtain ⟨bb, nn, c', hν, e⟩ := hy1 (hvb mt)
      obtain ⟨b', n'', hν', _, hbr⟩ := mw.blk id2 B2 hB2
      rw [hν] at hν'; cases hν'
      rw [hbk2] at hbr
      obtain ⟨vs, e1, e2, e3⟩ := load_part hbr hl2
      exact ⟨_, c', vs, e, e1, hnew ▸ e2, e3⟩
    -- a new row
    have grow : ∀ {old : List Cell} {need : Nat} {s1 : St}, growK old new need i.size s1 k = true → s1.next = s.next → s1.cnt = s.cnt → Num s1 → ∃ bk, need ≤ 100000 ∧ k (.v (.one (.slU s1.next 0 need i.size))) (s1.alloc bk) = true ∧ bk = .row true (old ++ new) := by
      intro old need s1 hgr _ _ _
      obtain ⟨h1, h2⟩ := guardK_true hgr
      rw [Nat.ble_eq] at h1
      rw [appK_eq] at h2
      exact ⟨_, h1, newK_true h2, rfl⟩
    have fits : ∀ {need cap : Nat}, need ≤ 100000 → cap < need → Builtin.nextslicecap need cap * i.bytes ≤ 281474976710656 := by
      intro need cap h1 h2
      refine growslice_fits h2 ?_
      exact Nat.le_trans (Nat.mul_le_mul h1 hby) (by decide)
    have unext : ∀ {ν : Nu}, Unm ν s.cnt (s.cnt + 1) → ν s.next = none := fun un => un s.next (by rw [hn.next]; exact Nat.le_refl _) (by rw [hn.next]; exact Nat.lt_succ_self _)
    rcases sliceK_true h3 with ⟨rfl, h4⟩ | ⟨id, off, len, cap, rfl, h4⟩ | ⟨id, off, len, sz, rfl, h4⟩ | ⟨_, h4⟩
    · obtain ⟨bk, hle, hk, rfl⟩ := grow h4 rfl rfl hn
      refine ⟨_, _, hk, pure_alloc hn hiv _, ?_⟩
      intro Q next m n0 w0 ν a w mt mw un hnx
      obtain ⟨ad, c', vs, ey, hvl, hvr, hvc⟩ := news mt mw
      have ex : a.eval x = .slice none 0 0 := hva mt
      have hu' := unext un
      have run := run_append_nil (P := P) w ty o.type e i z hu hi hz ad n c' vs hvl hvc hpos (by omega) (Nat.le_trans (Nat.mul_le_mul hle hby) (by decide))
      refine wp_value (app_call hc ha ht ho (by rw [ex, ey]; exact run)) (hnx _ (fun p => if p = s.next then some (w.heap.size, grownCap w n 0 e * i.size) else ν p) _ (ext_new hn _ hu') ⟨w.heap.size, grownCap w n 0 e * i.size, grownCap w n 0 e, if_pos rfl, by omega, le_grownCap _ _ _ _, rfl⟩ ?_)
      rw [St.alloc_h]
      have hsz : vs.length + (Builtin.zeroCells z.cells (grownCap w n 0 e - n)).size = grownCap w n 0 e * i.size := by
        rw [size_zeroCells, hzs, hvl, ← Nat.add_mul]; congr 1; have := le_grownCap w n 0 e; omega
      have hbr := BR.open (ρ := ρ) (e := e) hvr (Builtin.zeroCells z.cells (grownCap w n 0 e - n))
      rw [hsz] at hbr
      exact (mw.drew).alloc (n := grownCap w n 0 e * i.size) hu' (by simpa using hbr)
    · have h4 := natK_true h4
      have h4 : @Bool.rec (fun _ => Bool) (loadK id off (Nat.mul len i.size) s fun old => growK old new (len + n) i.size s k)
        (guardK (Nat.beq off 0) (natK (Nat.mul len i.size) fun o => storeK id o new s fun s => k (.v (.one (.sl id 0 (len + n) cap))) s)) (Nat.ble (len + n) cap) = true := h4
      cases hfit : Nat.ble (len + n) cap with
      | true =>
        rw [hfit] at h4
        rw [Nat.ble_eq] at hfit
        obtain ⟨h0, h5⟩ := guardK_true h4
        rw [Nat.beq_eq] at h0
        subst h0
        obtain ⟨B, op, l, hB, hbk, hl, hw, h6⟩ := storeK_true (natK_true h5)
        refine ⟨_, _, h6, pure_put hn hiv hB _, ?_⟩
        intro Q next m n0 w0 ν a w mt mw un hnx
        obtain ⟨ad, c', vs, ey, hvl, hvr, hvc⟩ := news mt mw
        obtain ⟨b, nn, hν, hle, ex⟩ := hva mt
        obtain ⟨b', nn', hν', hlt, hbr⟩ := mw.blk id B hB
        rw [hν] at hν'; cases hν'
        rw [hbk] at hbr
        have hbr0 := hbr
        obtain ⟨cs, ee, e1, e2, e3, e4, e5⟩ := hbr0
        have hee : ee = e ∨ True := .inr trivial
        rw [e1] at hbr
        have run := run_append_fits' (P := P) w ty o.type e i hu hi b len cap cs ee e1 ad n c' vs hvl hvc hvr.oneCell hfit (by rw [hvl]; have := hvr.length; rw [hvl] at this; have h7 : len * i.size + new.length ≤ l.length := hl; omega)
        refine wp_value (app_call hc ha ht ho (by rw [ex, ey]; exact run)) (hnx _ ν _ (Ext.refl _ _ _) ⟨b, nn, hν, hfit, rfl⟩ ?_)
        rw [St.put_h, setRow_eq e1 hlt]
        exact mw.write hB (by rw [hbk]; exact fun h => (by cases h)) hν hw (BR.lay hbr hvr hl)
      | false =>
        rw [hfit] at h4
        have hno : ¬ (len + n ≤ cap) := fun h => by rw [← Nat.ble_eq] at h; rw [h] at hfit; cases hfit
        obtain ⟨B, op, l, hB, hbk, hl, h5⟩ := loadK_true h4
        obtain ⟨bk, hle, hk, rfl⟩ := grow h5 rfl rfl hn
        refine ⟨_, _, hk, pure_alloc hn hiv _, ?_⟩
        intro Q next m n0 w0 ν a w mt mw un hnx
        obtain ⟨ad, c', vs, ey, hvl, hvr, hvc⟩ := news mt mw
        obtain ⟨b, nn, hν, _, ex⟩ := hva mt
        obtain ⟨b', nn', hν', hlt, hbr⟩ := mw.blk id B hB
        rw [hν] at hν'; cases hν'
        rw [hbk] at hbr
        obtain ⟨us, hul, hur, huc⟩ := load_part hbr hl
        have hu' := unext un
        have run := run_append_grow (P := P) w ty o.type e i z hu hi hz ⟨b, off, none⟩ len cap us hul huc ad n c' vs hvl hvc (by omega) (by omega) (fits hle (by omega))
        have hcap := le_grownCap w (len + n) cap e
        refine wp_value (app_call hc ha ht ho (by rw [ex, ey]; exact run)) (hnx _ (fun p => if p = s.next then some (w.heap.size, grownCap w (len + n) cap e * i.size) else ν p) _ (ext_new hn _ hu') ⟨w.heap.size, grownCap w (len + n) cap e * i.size, grownCap w (len + n) cap e, if_pos rfl, by omega, hcap, rfl⟩ ?_)
        rw [St.alloc_h]
        have hsz : (us ++ vs).length + (Builtin.zeroCells z.cells (grownCap w (len + n) cap e - (len + n))).size = grownCap w (len + n) cap e * i.size := by
          have hul' : us.length = len * i.size := hul
          rw [size_zeroCells, hzs, List.length_append, hvl, hul', ← Nat.add_mul, ← Nat.add_mul]; congr 1; omega
        have hbr := BR.open (ρ := ρ) (e := e) (hur.append hvr) (Builtin.zeroCells z.cells (grownCap w (len + n) cap e - (len + n)))
        rw [hsz] at hbr
        exact (mw.drew).alloc (n := grownCap w (len + n) cap e * i.size) hu' (by simpa using hbr)
    · obtain ⟨e0, h5⟩ := guardK_true h4
      obtain ⟨e1, h6⟩ := guardK_true h5
      rw [Nat.beq_eq] at e0 e1
      subst e0; subst e1
      have h7 := natK_true h6
      obtain ⟨B, op, l, hB, hbk, h8⟩ := rowK_true h7
      rw [lenK_eq] at h8
      have hlive : B.k ≠ .dead := by rw [hbk]; exact fun h => (by cases h)
      cases hfit : Nat.ble (Nat.mul (Nat.add len n) i.size) l.length with
      | true =>
        rw [hfit] at h8
        rw [Nat.ble_eq] at hfit
        have hfit : (len + n) * i.size ≤ l.length := hfit
        obtain ⟨B', op', l', hB', hbk', hl, hw, h9⟩ := storeK_true (natK_true h8)
        rw [hB] at hB'; cases hB'
        rw [hbk] at hbk'; cases hbk'
        refine ⟨_, _, h9, pure_put hn hiv hB _, ?_⟩
        intro Q next m n0 w0 ν a w mt mw un hnx
        obtain ⟨ad, c', vs, ey, hvl, hvr, hvc⟩ := news mt mw
        obtain ⟨b, nn, cc, hν, hcc, hle, ex⟩ := hva mt
        obtain ⟨b', nn', hν', hlt, hbr⟩ := mw.blk id B hB
        rw [hν] at hν'; cases hν'
        rw [hbk] at hbr
        have hbr0 := hbr
        obtain ⟨cs, ee, e1, e2, e3, e4, e5⟩ := hbr0
        rw [e1] at hbr
        have hcap : len + n ≤ cc := Nat.le_of_mul_le_mul_right (show (len + n) * i.size ≤ cc * i.size by omega) (Nat.pos_of_ne_zero hs)
        have run := run_append_fits' (P := P) w ty o.type e i hu hi b len cc cs ee e1 ad n c' vs hvl hvc hvr.oneCell hcap (by rw [hvl]; have := hvr.length; rw [hvl] at this; have h7 : len * i.size + new.length ≤ l.length := hl; omega)
        refine wp_value (app_call hc ha ht ho (by rw [ex, ey]; exact run)) (hnx _ ν _ (Ext.refl _ _ _) ⟨b, nn, cc, hν, hcc, hcap, rfl⟩ ?_)
        rw [St.put_h, setRow_eq e1 hlt]
        exact mw.write hB hlive hν hw (BR.lay hbr hvr hl)
      | false =>
        rw [hfit] at h8
        obtain ⟨htk, h9⟩ := takeK_true h8
        obtain ⟨hw, h10⟩ := putBK_true h9
        obtain ⟨bk, hle, hk, rfl⟩ := grow h10 rfl rfl (hn.put hB _)
        have hle : len + n ≤ 100000 := hle
        have htk : len * i.size ≤ l.length := htk
        refine ⟨_, _, hk, (pure_put hn hiv hB _).trans (pure_alloc (hn.put hB _) hiv _), ?_⟩
        intro Q next m n0 w0 ν a w mt mw un hnx
        obtain ⟨ad, c', vs, ey, hvl, hvr, hvc⟩ := news mt mw
        obtain ⟨b, nn, cc, hν, hcc, hle2, ex⟩ := hva mt
        obtain ⟨b', nn', hν', hlt, hbr⟩ := mw.blk id B hB
        rw [hν] at hν'; cases hν'
        rw [hbk] at hbr
        have hu' : ν s.next = none := unext un
        have hlnew : new.length = n * i.size := by rw [hvr.length, hvl]
        obtain ⟨us, hul, hur, huc⟩ := load_part (off := 0) (m := len * i.size) hbr (by omega)
        have hur : Rel (CR ν ρ) (l.take (Nat.mul len i.size)) us := by simpa using hur
        have hh : ((s.put id B .dead).alloc (.row true (l.take (Nat.mul len i.size) ++ new))).h = fun p => if s.next = p then some ⟨s.cnt, .row true (l.take (Nat.mul len i.size) ++ new)⟩ else if id = p then some ⟨B.no, .dead⟩ else s.h p := by
          rw [St.alloc_h, St.put_h]; rfl
        by_cases hroom : len + n ≤ cc
        · obtain ⟨cs, ee, e1, e2, e3, e4, e5⟩ := hbr
          have hmul : (len + n) * i.size ≤ cc * i.size := Nat.mul_le_mul_right _ hroom
          have hadd : (len + n) * i.size = len * i.size + n * i.size := Nat.add_mul _ _ _
          have run := run_append_fits' (P := P) w ty o.type e i hu hi b len cc cs ee e1 ad n c' vs hvl hvc hvr.oneCell hroom (by rw [hvl]; omega)
          refine wp_value (app_call hc ha ht ho (by rw [ex, ey]; exact run)) (hnx _ (fun p => if p = s.next then some (b, nn) else ν p) _ (ext_new hn _ hu') ⟨b, nn, cc, if_pos rfl, hcc, hroom, rfl⟩ ?_)
          rw [hh, setRow_eq e1 hlt]
          refine mw.move hB hlive hν hw ⟨_, ee, rfl, ?_, ?_, fun h => (by cases h), ?_⟩ hu'
          · simp [overV, hvl]; omega
          · rw [List.length_append, List.length_take, hlnew]
            have : Nat.mul len i.size = len * i.size := rfl
            omega
          · intro j q hj
            rw [List.getElem?_append] at hj
            simp only [overV, List.append_assoc, List.getElem?_toArray, List.getElem?_append, List.length_take, Array.length_toList]
            have m0 : (l.take (Nat.mul len i.size)).length = len * i.size := by rw [List.length_take]; exact Nat.min_eq_left htk
            rw [m0] at hj
            have m1 : min (len * i.size) cs.size = len * i.size := by omega
            rw [m1]
            split at hj
            · rename_i hlt2
              rw [if_pos hlt2]
              rw [List.getElem?_take, if_pos (show j < Nat.mul len i.size from hlt2)] at hj
              rw [List.getElem?_take, if_pos hlt2, Array.getElem?_toList]
              exact e5 j q hj
            · rename_i hlt2
              rw [if_neg hlt2]
              obtain ⟨u, hu2, ru⟩ := hvr.nth hj
              have hlt3 : j - len * i.size < vs.length := by
                rcases Nat.lt_or_ge (j - len * i.size) vs.length with h | h
                · exact h
                · rw [List.getElem?_eq_none h] at hu2; cases hu2
              rw [if_pos hlt3]
              exact ⟨u, hu2, ru⟩
        · have run := run_append_grow (P := P) w ty o.type e i z hu hi hz ⟨b, 0, none⟩ len cc us hul huc ad n c' vs hvl hvc (by omega) (by omega) (fits hle (by omega))
          have hcap := le_grownCap w (len + n) cc e
          refine wp_value (app_call hc ha ht ho (by rw [ex, ey]; exact run)) (hnx _ (fun p => if p = s.next then some (w.heap.size, grownCap w (len + n) cc e * i.size) else ν p) _ (ext_new hn _ hu') ⟨w.heap.size, grownCap w (len + n) cc e * i.size, grownCap w (len + n) cc e, if_pos rfl, by omega, hcap, rfl⟩ ?_)
          have hsz : (us ++ vs).length + (Builtin.zeroCells z.cells (grownCap w (len + n) cc e - (len + n))).size = grownCap w (len + n) cc e * i.size := by
            rw [size_zeroCells, hzs, List.length_append, hvl, hul, ← Nat.add_mul, ← Nat.add_mul]; congr 1; omega
          have hbr2 := BR.open (ρ := ρ) (e := e) (hur.append hvr) (Builtin.zeroCells z.cells (grownCap w (len + n) cc e - (len + n)))
          rw [hsz] at hbr2
          have mk := ((mw.kill hB).drew).alloc (no := s.cnt) (id := s.next) (n := grownCap w (len + n) cc e * i.size) hu' hbr2
          rw [hh, show (us.toArray ++ vs.toArray : Array Value) = (us ++ vs).toArray by simp]
          exact mk
    · cases h4
end Go.Rsf
