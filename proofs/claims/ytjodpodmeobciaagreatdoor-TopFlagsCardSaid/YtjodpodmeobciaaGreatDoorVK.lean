/- An executor over a program's operations: an operation carried out, whichever kind it is of. Conditions: none. -/
import Derived.Test.YtjodpodmeobciaaGreatDoorVJ
namespace Go.Rsf
open Go.RowKit
set_option linter.unusedVariables false
set_option linter.unusedSimpArgs false
variable {P : Program} {ρ : Rho} {g : Bool} {o : Oper} {t : Ts} {s : St} {k : KVS}

/-- AN OPERATION, CARRIED OUT: from what is known ahead of it to what is known behind it. -/
def OT (P : Program) (ρ : Rho) (o : Oper) (t : Ts) (s : St) (v : AV) (s' : St) : Prop :=
  ∀ {Q : Exit → Act → World → Prop} {next : Act → World → Prop} {m n0 : Nat} {w0 : World} {ν : Nu} {a : Act} {w : World}, MT m ν ρ t a → MW n0 w0 ν ρ s.h s.wlo w → Unm ν s.cnt s'.cnt →
    (∀ u ν' w', Ext ν ν' s.cnt s'.cnt → AR ν' ρ v u → MW n0 w0 ν' ρ s'.h s'.wlo w' → next (a.put o.dst u) w') → o.wp P a w next Q
theorem wp_value {Q : Exit → Act → World → Prop} {next : Act → World → Prop} {a : Act} {w w' : World} {u : Value} (h : (execOp a.eval o).run P w = .ok (.value u) w') (hn : next (a.put o.dst u) w') : o.wp P a w next Q := by
  unfold Oper.wp; rw [h]; exact hn
theorem WSem.ot {v : AV} (h : WSem P ρ o t v) : OT P ρ o t s v s := by
  intro Q next m n0 w0 ν a w mt mw _ hk
  obtain ⟨u, hu, hr⟩ := h mt
  exact wp_value (hr w) (hk u ν w (Ext.refl _ _ _) hu mw)
theorem ISem.ot {v : AV} (h : ISem P ρ o t v) : OT P ρ o t s v s := by
  intro Q next m n0 w0 ν a w mt mw _ hk
  obtain ⟨u, hu, hr⟩ := h mt w fun b ob hb => (mw.mem b ob hb).2
  exact wp_value hr (hk u ν w (Ext.refl _ _ _) hu mw)
theorem RSem.ot {v : AV} {x : Pth} {B : Blk} (hB : s.heap.get x = some B) (h : RSem P ρ o t x B v) : OT P ρ o t s v s := by
  intro Q next m n0 w0 ν a w mt mw _ hk
  obtain ⟨b, n, hν, hlt, hbr⟩ := mw.blk x B hB
  obtain ⟨u, hu, hr⟩ := h.2 mt b n w hν hbr
  exact wp_value hr (hk u ν w (Ext.refl _ _ _) hu mw)
theorem St.alloc_h (s : St) (bk : Bk) : (s.alloc bk).h = fun p => if s.next = p then some ⟨s.cnt, bk⟩ else s.h p := by
  funext p; exact Tr.get_set _ _ _ _
theorem St.put_h (s : St) (id : Pth) (B : Blk) (bk : Bk) : (s.put id B bk).h = fun p => if id = p then some ⟨B.no, bk⟩ else s.h p := by
  funext p; exact Tr.get_set _ _ _ _
theorem ext_new {ν : Nu} {s : St} (hn : Num s) (x : Nat × Nat) (hu : ν s.next = none) : Ext ν (fun p => if p = s.next then some x else ν p) s.cnt (s.cnt + 1) := by
  refine ⟨fun p y e => ?_, fun p hp => ?_⟩
  · show (if p = s.next then _ else ν p) = _
    by_cases hp : p = s.next
    · subst hp; rw [hu] at e; cases e
    · rw [if_neg hp]; exact e
  · show (if p = s.next then _ else ν p) = _
    rw [if_neg]
    intro e; subst e
    exact hp ⟨by rw [hn.next]; exact Nat.le_refl _, by rw [hn.next]; omega⟩
theorem ASem.ot {v : AV} {bk : Bk} (hn : Num s) (h : ASem P ρ o t s.next bk v) : OT P ρ o t s v (s.alloc bk) := by
  intro Q next m n0 w0 ν a w mt mw un hk
  obtain ⟨n, ob, u, hbr, hv, hr⟩ := h mt
  have hu : ν s.next = none := un s.next (by rw [hn.next]; exact Nat.le_refl _) (by rw [hn.next]; exact Nat.lt_succ_self _)
  refine wp_value (hr w) (hk _ (fun p => if p = s.next then some (w.heap.size, n) else ν p) _ (ext_new hn _ hu) (hv _ _ (if_pos rfl)) ?_)
  rw [St.alloc_h]
  exact mw.alloc hu hbr
theorem SSem.ot {x : Pth} {B : Blk} {bk : Bk} (hB : s.heap.get x = some B) (hd : B.k ≠ .dead) (hw : s.wlo ≤ B.no) (h : SSem P ρ o t x B bk) : OT P ρ o t s .unk (s.put x B bk) := by
  intro Q next m n0 w0 ν a w mt mw un hk
  obtain ⟨b, n, hν, hlt, hbr⟩ := mw.blk x B hB
  obtain ⟨ob, hob, hr⟩ := h.2 mt b n w hν hlt hbr
  unfold Oper.wp; rw [hr]
  refine hk undef ν _ (Ext.refl _ _ _) trivial ?_
  rw [St.put_h]
  exact mw.write hB hd hν hw hob
theorem Num.alloc (h : Num s) (bk : Bk) : Num (s.alloc bk) := by
  refine ⟨by show s.next.succ.nat = s.cnt + 1; rw [Pth.nat_succ, h.next], fun id B e => ?_⟩
  have e : (s.heap.set s.next ⟨s.cnt, bk⟩).get id = some B := e
  rw [Tr.get_set] at e
  split at e
  · rename_i hp; cases e; subst hp; exact ⟨by show s.next.nat < s.cnt + 1; rw [h.next]; omega, h.next.symm⟩
  · have := h.no id B e; exact ⟨Nat.lt_succ_of_lt this.1, this.2⟩
theorem Num.put {id : Pth} {B : Blk} (h : Num s) (hB : s.heap.get id = some B) (bk : Bk) : Num (s.put id B bk) := by
  refine ⟨h.next, fun p C e => ?_⟩
  have e : (s.heap.set id ⟨B.no, bk⟩).get p = some C := e
  rw [Tr.get_set] at e
  split at e
  · rename_i hp; cases e; subst hp; exact h.no _ B hB
  · exact h.no p C e
theorem pure_alloc (h : Num s) (hi : IvOK ρ s.iv) (bk : Bk) : Pure ρ s (s.alloc bk) := ⟨Nat.le_succ _, rfl, h.alloc bk, hi⟩
theorem pure_put {id : Pth} {B : Blk} (h : Num s) (hi : IvOK ρ s.iv) (hB : s.heap.get id = some B) (bk : Bk) : Pure ρ s (s.put id B bk) := ⟨Nat.le_refl _, rfl, h.put hB bk, hi⟩

/-! ### Parts of rows -/
theorem lenK_eq : ∀ (l : List Cell) (k : Nat → Bool), lenK l k = k l.length
  | [], k => rfl
  | x :: l, k => by
    show lenK l (fun n => natK (Nat.succ n) k) = _
    rw [lenK_eq l, natK_eq]; rfl
theorem isSome_true {b : Option XA} {y n : Bool} (h : isSome b y n = true) : (b.isSome = true ∧ y = true) ∨ (b = none ∧ n = true) := by
  cases b with
  | none => exact .inr ⟨rfl, h⟩
  | some x => exact .inl ⟨rfl, h⟩
theorem slice_run {w : World} {ty e : TypeId} {i : TypeInfo} {x : Value} {lo hi mx : Option Value} {ad : Option Addr} {len cap l h m : Nat} (hu : P.underlying ty = some (.slice e)) (hi' : P.info? e = some i)
    (hx : x = .slice ad len cap) (hl : BndR lo 0 l) (hh : BndR hi len h) (hm : BndR mx cap m) (hs : mx.isSome = true → hi.isSome = true) (h1 : l ≤ h) (h2 : h ≤ m) (h3 : m ≤ cap) :
    (Instr.sliceAt ty x lo hi mx).run P w = .ok (.slice (if m = l then ad else ad.map (·.add (l * i.size))) (h - l) (m - l)) w := by
  have rb := r_bounds (P := P) (w := w) (isSlice := true) hl hh hm hs h1 h2 h3
  subst hx
  simp only [Instr.sliceAt, Sem.run_bind, r_und hu, Result.andThen_ok, Instr.slice, rb, r_size hi', Sem.run_pure]
theorem sls_sem (hg : g = ρ.gl.isSome) {ty e : TypeId} {i : TypeInfo} {x : Operand} {lo hi mx : Option Operand} {xa : XA} {xl xh xm : Option XA} (hx : xaOf g x = some xa) (hl : oxaOf g lo = some xl) (hh : oxaOf g hi = some xh) (hm : oxaOf g mx = some xm)
    (hs : xm.isSome = true → xh.isSome = true) (hu : P.underlying ty = some (.slice e)) (hi' : P.info? e = some i) (hz : i.size ≠ 0) (ho : o.op = .slice ty x lo hi mx) (h : slsF xa xl xh xm i.size t s k = true) :
    ∃ v, k v s = true ∧ (WSem P ρ o t v ∨ ∃ x B, s.heap.get x = some B ∧ RSem P ρ o t x B v) := by
  obtain ⟨c, h, hc⟩ := ev1K_sound hx h
  have fin : ∀ {a : Act} {u : Value} {w : World}, (Instr.sliceAt ty (a.eval x) (lo.map a.eval) (hi.map a.eval) (mx.map a.eval)).run P w = .ok u w → (execOp a.eval o).run P w = .ok (.value u) w := by
    intro a u w e
    simp only [execOp, ho, Sem.run_bind, e, Result.andThen_ok, Sem.run_pure]
  have hs' : ∀ {a : Act}, (mx.map a.eval).isSome = true → (hi.map a.eval).isSome = true := by
    intro a; rw [oxa_isSome hm, oxa_isSome hh]; exact hs
  rcases sliceK_true h with ⟨rfl, h4⟩ | ⟨id, off, len, cap, rfl, h4⟩ | ⟨id, off, len, sz, rfl, h4⟩ | ⟨rfl, h4⟩
  · obtain ⟨l, h5, _, bl⟩ := bndK_sound hg hl h4
    obtain ⟨hb, h6, _, bh⟩ := bndK_sound hg hh h5
    obtain ⟨m', h7, _, bm⟩ := bndK_sound hg hm h6
    obtain ⟨e1, h7⟩ := guardK_true h7
    obtain ⟨e2, h7⟩ := guardK_true h7
    obtain ⟨e3, h7⟩ := guardK_true h7
    rw [Nat.beq_eq] at e1 e2 e3
    subst e1; subst e2; subst e3
    refine ⟨_, h7, .inl fun {m ν a} r => ⟨.slice none 0 0, rfl, fun w => ?_⟩⟩
    exact fin (slice_run hu hi' (hc hg r) (bl r 0 fun _ => rfl) (bh r 0 fun _ => rfl) (bm r 0 fun _ => rfl) hs' (Nat.le_refl _) (Nat.le_refl _) (Nat.le_refl _))
  · obtain ⟨l, h5, _, bl⟩ := bndK_sound hg hl h4
    obtain ⟨hb, h6, _, bh⟩ := bndK_sound hg hh h5
    obtain ⟨m', h7, _, bm⟩ := bndK_sound hg hm h6
    obtain ⟨h1, h2, h3, h8⟩ := partF_true h7
    refine ⟨_, h8, .inl fun {m ν a} r => ?_⟩
    obtain ⟨b, nn, hn, _, e1⟩ := hc hg r
    refine ⟨.slice (some ⟨b, if m' = l then off else off + l * i.size, none⟩) (hb - l) (m' - l), ⟨b, nn, hn, by omega, rfl⟩, fun w => fin ?_⟩
    rw [slice_run hu hi' e1 (bl r 0 fun _ => rfl) (bh r len fun _ => rfl) (bm r cap fun _ => rfl) hs' h1 h2 h3]
    by_cases e : m' = l <;> simp [e, addr_add]
  · obtain ⟨e0, h4⟩ := guardK_true h4
    rw [Nat.beq_eq] at e0
    subst e0
    obtain ⟨l, h5, _, bl⟩ := bndK_sound hg hl h4
    obtain ⟨hb, h6, _, bh⟩ := bndK_sound hg hh h5
    rcases isSome_true h6 with ⟨hsm, h7⟩ | ⟨hnm, h7⟩
    · obtain ⟨m', h8, hm2, bm⟩ := bndK_sound hg hm h7
      obtain ⟨B, op, cs, hB, hbk, h9⟩ := rowK_true h8
      rw [lenK_eq] at h9
      obtain ⟨hle, h9⟩ := guardK_true h9
      rw [Nat.ble_eq] at hle
      obtain ⟨h1, h2, h3, h10⟩ := partF_true h9
      refine ⟨_, h10, .inr ⟨id, B, hB, fun r => ?_, fun {m ν a} r b n w hν hbr => ?_⟩⟩
      · obtain ⟨b, n, c, e, _⟩ := hc hg r; exact ⟨_, e⟩
      · obtain ⟨b', n', c', e, e2, e3, e4⟩ := hc hg r
        rw [hν] at e; cases e
        rw [hbk] at hbr
        obtain ⟨_, _, _, _, hlen, _, _⟩ := hbr
        have hmc : m' ≤ c' := by
          have : m' * i.size ≤ c' * i.size := by
            have hle' : off + m' * i.size ≤ cs.length := hle
            omega
          exact Nat.le_of_mul_le_mul_right this (Nat.pos_of_ne_zero hz)
        have hmx : xm ≠ none := fun e => by rw [e] at hsm; cases hsm
        refine ⟨.slice (some ⟨b, if m' = l then off else off + l * i.size, none⟩) (hb - l) (m' - l), ⟨b, n, hν, by omega, rfl⟩, fin ?_⟩
        rw [slice_run hu hi' e4 (bl r 0 fun _ => rfl) (bh r len fun _ => rfl) (bm r c' fun e => absurd e hmx) hs' h1 h2 hmc]
        by_cases e : m' = l <;> simp [e, addr_add]
    · obtain ⟨h1, h8⟩ := guardK_true h7
      rw [Nat.ble_eq] at h1
      obtain ⟨B, op, cs, hB, hbk, h9⟩ := rowK_true h8
      rw [lenK_eq] at h9
      obtain ⟨hle, h9⟩ := guardK_true h9
      have hmx : mx = none := by
        cases mx with
        | none => rfl
        | some y =>
          simp only [oxaOf, Option.map_eq_some_iff] at hm
          obtain ⟨_, _, e⟩ := hm
          rw [hnm] at e; cases e
      have bound : ∀ {n c' : Nat}, cs.length ≤ n → off + c' * i.size = n → len ≤ c' → hb ≤ c' := by
        intro n c' e1 e2 e3
        rw [Bool.or_eq_true] at hle
        rcases hle with hle | hle
        · rw [Nat.ble_eq] at hle; omega
        · rw [Nat.ble_eq] at hle
          have hle' : off + hb * i.size ≤ cs.length := hle
          exact Nat.le_of_mul_le_mul_right (show hb * i.size ≤ c' * i.size by omega) (Nat.pos_of_ne_zero hz)
      cases hcnd : Bool.or (Nat.beq l 0) (Bool.or (Nat.blt l hb) (Nat.blt (Nat.add off (Nat.mul l i.size)) cs.length)) with
      | false =>
        rw [hcnd] at h9
        obtain ⟨e5, h10⟩ := guardK_true h9
        rw [Nat.beq_eq] at e5
        refine ⟨_, h10, .inr ⟨id, B, hB, fun r => ?_, fun {m ν a} r b n w hν hbr => ?_⟩⟩
        · obtain ⟨b, n, c, e, _⟩ := hc hg r; exact ⟨_, e⟩
        · obtain ⟨b', n', c', e, e2, e3, e4⟩ := hc hg r
          rw [hν] at e; cases e
          rw [hbk] at hbr
          obtain ⟨_, _, _, _, hlen, _, _⟩ := hbr
          have hbc := bound hlen e2 e3
          refine ⟨_, ⟨if c' = l then some ⟨b, off, none⟩ else some (Addr.add ⟨b, off, none⟩ (l * i.size)), c' - l, rfl⟩, fin ?_⟩
          rw [slice_run hu hi' e4 (bl r 0 fun _ => rfl) (bh r len fun _ => rfl) (m := c') (.inl ⟨by rw [hmx]; rfl, rfl⟩) hs' h1 hbc (Nat.le_refl _)]
          rw [show hb - l = 0 by omega]
          by_cases e : c' = l <;> simp [e]
      | true =>
        rw [hcnd] at h9
        have h10 := natK_true (natK_true h9)
        refine ⟨_, h10, .inr ⟨id, B, hB, fun r => ?_, fun {m ν a} r b n w hν hbr => ?_⟩⟩
        · obtain ⟨b, n, c, e, _⟩ := hc hg r; exact ⟨_, e⟩
        · obtain ⟨b', n', c', e, e2, e3, e4⟩ := hc hg r
          rw [hν] at e; cases e
          rw [hbk] at hbr
          obtain ⟨_, _, _, _, hlen, _, _⟩ := hbr
          have hbc := bound hlen e2 e3
          have hlc : l = 0 ∨ l < c' := by
            rw [Bool.or_eq_true, Bool.or_eq_true] at hcnd
            rcases hcnd with h | h | h
            · rw [Nat.beq_eq] at h; exact .inl h
            · have h : l < hb := by simpa [Nat.blt_eq] using h
              exact .inr (by omega)
            · have h : off + l * i.size < cs.length := by simpa [Nat.blt_eq] using h
              exact .inr (Nat.lt_of_mul_lt_mul_right (a := i.size) (by omega))
          refine ⟨.slice (some ⟨b, off + l * i.size, none⟩) (hb - l) (c' - l), ⟨b, n, c' - l, hν, ?_, (show hb - l ≤ c' - l by omega), rfl⟩, fin ?_⟩
          · have : (c' - l) * i.size + l * i.size = c' * i.size := by rw [← Nat.add_mul]; congr 1; omega
            show off + l * i.size + (c' - l) * i.size = n
            omega
          · rw [slice_run hu hi' e4 (bl r 0 fun _ => rfl) (bh r len fun _ => rfl) (m := c') (.inl ⟨by rw [hmx]; rfl, rfl⟩) hs' h1 hbc (Nat.le_refl _)]
            rcases hlc with rfl | hlc
            · simp [addr_add]
            · simp [show ¬ c' = l by omega, addr_add]
  · rcases isSome_true h4 with ⟨_, h4⟩ | ⟨hnm, h4⟩
    · cases h4
    · obtain ⟨l, h5, _, bl⟩ := bndK_sound hg hl h4
      obtain ⟨hb, h6, _, bh⟩ := bndK_sound hg hh h5
      obtain ⟨e1, h7⟩ := guardK_true h6
      obtain ⟨e2, h7⟩ := guardK_true h7
      rw [Nat.beq_eq] at e1 e2
      subst e1; subst e2
      have hmx : mx = none := by
        cases mx with
        | none => rfl
        | some y =>
          simp only [oxaOf, Option.map_eq_some_iff] at hm
          obtain ⟨_, _, e⟩ := hm
          rw [hnm] at e; cases e
      refine ⟨_, h7, .inl fun {m ν a} r => ?_⟩
      obtain ⟨ad, c', e⟩ := hc hg r
      refine ⟨.slice ad 0 c', ⟨_, _, rfl⟩, fun w => fin ?_⟩
      rw [slice_run hu hi' e (bl r 0 fun _ => rfl) (bh r 0 fun _ => rfl) (m := c') (.inl ⟨by rw [hmx]; rfl, rfl⟩) hs' (Nat.le_refl _) (Nat.zero_le _) (Nat.le_refl _)]
      have : (ad.map fun a => a.add (0 * i.size)) = ad := by cases ad <;> simp [Addr.add]
      rw [this]; simp
end Go.Rsf
