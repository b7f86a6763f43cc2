/- An executor over a program's operations: bounds, lengths, none; what reads. Conditions: none. -/
import Derived.Test.YtjodpodmeobciaaGreatDoorVG
namespace Go.Rsf
open Go.RowKit
set_option linter.unusedVariables false
set_option linter.unusedSimpArgs false
variable {P : Program} {ρ : Rho} {g : Bool} {o : Oper} {t : Ts} {s : St} {k : KVS}

/-! ### Bounds -/
def BndR (b : Option Value) (dflt n : Nat) : Prop := (b = none ∧ n = dflt) ∨ ∃ kd, b = some (.int kd (n : Int))
theorem r_bounds {w : World} {isSlice : Bool} {len cap l h m : Nat} {lo hi mx : Option Value} (hl : BndR lo 0 l) (hh : BndR hi len h) (hm : BndR mx cap m) (hs : mx.isSome = true → hi.isSome = true) (h1 : l ≤ h) (h2 : h ≤ m) (h3 : m ≤ cap) :
    (Instr.sliceBounds isSlice len cap lo hi mx).run P w = .ok (l, h, m) w := by
  have sb : ∀ (kd : IntKind) (n y : Nat) (code : BoundsCode), n ≤ y → (Instr.sliceBound (.int kd (n : Int)) y code).run P w = .ok n w := by
    intro kd n y code hn
    simp [Instr.sliceBound, asIntOf, hn]
  rcases hl with ⟨rfl, rfl⟩ | ⟨kl, rfl⟩ <;> rcases hh with ⟨rfl, rfl⟩ | ⟨kh, rfl⟩ <;> rcases hm with ⟨rfl, rfl⟩ | ⟨km, rfl⟩ <;>
    first
      | (simp at hs; done)
      | simp [Instr.sliceBounds, sb, h1, h2, h3]
def oxaOf (g : Bool) : Option Operand → Option (Option XA)
  | none => some none
  | some x => (xaOf g x).map some
theorem bndK_sound (hg : g = ρ.gl.isSome) {b : Option Operand} {xb : Option XA} (hx : oxaOf g b = some xb) {d : Nat} {k : Nat → Bool} (h : bndK xb t d k = true) :
    ∃ n, k n = true ∧ ((xb = none ∧ n = d) ∨ xb.isSome = true) ∧ ∀ {m ν a}, MT m ν ρ t a → ∀ d', (xb = none → d' = d) → BndR (b.map a.eval) d' n := by
  cases b with
  | none =>
    cases hx
    exact ⟨d, h, .inl ⟨rfl, rfl⟩, fun _ d' hd => .inl ⟨rfl, (hd rfl).symm⟩⟩
  | some x =>
    simp only [oxaOf, Option.map_eq_some_iff] at hx
    obtain ⟨xa, hxa, rfl⟩ := hx
    obtain ⟨c, hk, hc⟩ := ev1K_sound hxa h
    obtain ⟨kd, n, rfl, hk2⟩ := isInt_true hk
    cases n with
    | negSucc _ => cases hk2
    | ofNat n => exact ⟨n, hk2, .inr rfl, fun r d' _ => .inr ⟨kd, by simp only [Option.map_some]; congr 1; exact hc hg r⟩⟩
theorem oxa_isSome {b : Option Operand} {xb : Option XA} (hx : oxaOf g b = some xb) {ρ' : Operand → Value} : (b.map ρ').isSome = xb.isSome := by
  cases b with
  | none => cases hx; rfl
  | some x =>
    simp only [oxaOf, Option.map_eq_some_iff] at hx
    obtain ⟨xa, _, rfl⟩ := hx; rfl
theorem partF_true {id : Pth} {off size l h m cap : Nat} (hh : partF id off size l h m cap s k = true) :
    l ≤ h ∧ h ≤ m ∧ m ≤ cap ∧ k (.v (.one (.sl id (if m = l then off else off + l * size) (h - l) (m - l)))) s = true := by
  obtain ⟨h1, hh⟩ := guardK_true hh
  obtain ⟨h2, hh⟩ := guardK_true hh
  obtain ⟨h3, hh⟩ := guardK_true hh
  rw [Nat.ble_eq] at h1 h2 h3
  refine ⟨h1, h2, h3, ?_⟩
  by_cases e : m = l
  · rw [if_pos e]
    have eb : Nat.beq m l = true := by rw [Nat.beq_eq]; exact e
    rw [eb] at hh
    exact natK_true (natK_true hh)
  · rw [if_neg e]
    have eb : Nat.beq m l = false := by
      cases hb : Nat.beq m l with
      | false => rfl
      | true => rw [Nat.beq_eq] at hb; exact absurd hb e
    rw [eb] at hh
    exact natK_true (natK_true (natK_true hh))
theorem sla_sem (hg : g = ρ.gl.isSome) {ty e : TypeId} {x : Operand} {lo hi mx : Option Operand} {xa : XA} {xl xh xm : Option XA} {n : Nat} {i : TypeInfo} (hx : xaOf g x = some xa) (hl : oxaOf g lo = some xl) (hh : oxaOf g hi = some xh) (hm : oxaOf g mx = some xm)
    (hs : xm.isSome = true → xh.isSome = true) (hu : P.underlying ty = some (.array n e)) (hi' : P.info? e = some i) (ho : o.op = .slice ty x lo hi mx) (h : slaF xa xl xh xm n i.size t s k = true) :
    ∃ v, k v s = true ∧ WSem P ρ o t v := by
  obtain ⟨c, h, hc⟩ := ev1K_sound hx h
  obtain ⟨id, off, rfl, h4⟩ := isPtr_true h
  obtain ⟨l, h5, _, bl⟩ := bndK_sound hg hl h4
  obtain ⟨hb, h6, _, bh⟩ := bndK_sound hg hh h5
  obtain ⟨m', h7, _, bm⟩ := bndK_sound hg hm h6
  obtain ⟨h1, h2, h3, h8⟩ := partF_true h7
  refine ⟨_, h8, fun {m ν a} r => ?_⟩
  obtain ⟨b, nn, hn, e1⟩ := hc hg r
  refine ⟨.slice (some ⟨b, if m' = l then off else off + l * i.size, none⟩) (hb - l) (m' - l), ⟨b, nn, hn, by omega, rfl⟩, fun w => ?_⟩
  have rb := r_bounds (P := P) (w := w) (isSlice := false) (bl r 0 fun _ => rfl) (bh r n fun _ => rfl) (bm r n fun _ => rfl) (by rw [oxa_isSome hm, oxa_isSome hh]; exact hs) h1 h2 h3
  simp only [execOp, ho, Instr.sliceAt, Sem.run_bind, r_und hu, Result.andThen_ok, e1, Instr.sureAddr, Sem.run_pure, rb, r_size hi', addr_add]
  by_cases e : m' = l <;> simp [e]

/-! ### Lengths, the greatest and the least -/
def lenN : Cell → Nat | .sl _ _ len _ => len | .slU _ _ len _ => len | _ => 0
/-- Any row's length and room. -/
theorem row_len {ν : Nu} {c : Cell} {v : Value} (r : CR ν ρ c v) {n : Bool} {f u : Pth → Nat → Nat → Nat → Bool} {z : Bool} (h : sliceK c n f u z = true) : ∃ a cap, v = .slice a (lenN c) cap := by
  rcases sliceK_true h with ⟨rfl, _⟩ | ⟨id, off, len, cap, rfl, _⟩ | ⟨id, off, len, sz, rfl, _⟩ | ⟨rfl, _⟩
  · exact ⟨none, 0, r⟩
  · obtain ⟨b, n, _, _, e⟩ := r; exact ⟨_, _, e⟩
  · obtain ⟨b, n, c, _, _, _, e⟩ := r; exact ⟨_, _, e⟩
  · obtain ⟨a, c, e⟩ := r; exact ⟨_, _, e⟩
theorem len_sem (hg : g = ρ.gl.isSome) {c : Call} {ty e : TypeId} {x : Operand} {xa : XA} (hx : xaOf g x = some xa) (hu : P.underlying ty = some (.slice e)) (hc : c.callee = .builtin .len) (ha : c.args = #[x]) (ht : c.argTypes = #[ty])
    (ho : o.op = .call c) (h : lenF xa t s k = true) : ∃ v, k v s = true ∧ WSem P ρ o t v := by
  obtain ⟨v, h, hv⟩ := evK_sound hx h
  rcases inK_true h with ⟨len, kd, md, rfl, h⟩ | h
  · refine ⟨_, h, fun {m ν a} r => ?_⟩
    obtain ⟨ad, n, cap, f, e1, rl, _⟩ := hv hg r
    refine ⟨_, rl, fun w => ?_⟩
    simp [execOp, ho, resolve, hc, ha, ht, invoke, builtin, Builtin.len_, e1, r_und hu, goInt]
  obtain ⟨d, rfl, h⟩ := isOne_true h
  have hd : ∀ {m ν a}, g = ρ.gl.isSome → MT m ν ρ t a → CR ν ρ d (a.eval x) := fun hg r => hv hg r
  have key : ∀ {m ν a}, MT m ν ρ t a → ∀ w, (execOp a.eval o).run P w = .ok (.value (.int .i64 (lenN d : Nat))) w := by
    intro m ν a r w
    obtain ⟨ad, cap, e⟩ := row_len (hd hg r) h
    simp [execOp, ho, resolve, hc, ha, ht, invoke, builtin, Builtin.len_, e, r_und hu, goInt]
  rcases sliceK_true h with ⟨rfl, h⟩ | ⟨id, off, len, cap, rfl, h⟩ | ⟨id, off, len, sz, rfl, h⟩ | ⟨rfl, h⟩
  all_goals exact ⟨_, h, fun {m ν a} r => ⟨_, rfl, key r⟩⟩
theorem cap_sem (hg : g = ρ.gl.isSome) {c : Call} {ty e : TypeId} {x : Operand} {xa : XA} (hx : xaOf g x = some xa) (hu : P.underlying ty = some (.slice e)) (hc : c.callee = .builtin .cap) (ha : c.args = #[x]) (ht : c.argTypes = #[ty])
    (ho : o.op = .call c) (h : capF xa t s k = true) : ∃ v, k v s = true ∧ WSem P ρ o t v := by
  obtain ⟨d, h, hd⟩ := ev1K_sound hx h
  rcases sliceK_true h with ⟨rfl, h⟩ | ⟨id, off, len, cap, rfl, h⟩ | ⟨id, off, len, sz, rfl, h⟩ | ⟨rfl, h⟩
  · refine ⟨_, h, fun {m ν a} r => ⟨_, rfl, fun w => ?_⟩⟩
    have e : _ = Value.slice none 0 0 := hd hg r
    simp [execOp, ho, resolve, hc, ha, ht, invoke, builtin, Builtin.cap_, e, r_und hu, goInt]
  · refine ⟨_, h, fun {m ν a} r => ⟨_, rfl, fun w => ?_⟩⟩
    obtain ⟨b, n, _, _, e⟩ := hd hg r
    simp [execOp, ho, resolve, hc, ha, ht, invoke, builtin, Builtin.cap_, e, r_und hu, goInt]
  · cases h
  · cases h
def mmB : Bool → Builtin | true => .max | false => .min
theorem mm2_run (mx : Bool) (kd kb : IntKind) (a b : Int) (w : World) : ((if mx then Builtin.max2 else Builtin.min2) (.int kd a) (.int kb b)).run P w = .ok (.int kd (if mm2 mx a b then a else b)) w := by
  cases mx
  · show (Builtin.min2 (.int kd a) (.int kb b)).run P w = .ok (.int kd (if ileB a b then a else b)) w
    rw [ileB_eq]
    simp only [Builtin.min2, Sem.run_pure]
    congr 2
    by_cases h : a ≤ b <;> simp [h] <;> omega
  · show (Builtin.max2 (.int kd a) (.int kb b)).run P w = .ok (.int kd (if ileB b a then a else b)) w
    rw [ileB_eq]
    simp only [Builtin.max2, Sem.run_pure]
    congr 2
    by_cases h : b ≤ a <;> simp [h] <;> omega
theorem mmsK_sound (hg : g = ρ.gl.isSome) {mx : Bool} : ∀ {ys : List Operand} {xs : List XA} {kd : IntKind} {a : Int} {k : Int → Bool}, ys.mapM (xaOf g) = some xs → mmsK mx xs t kd a k = true →
    ∃ r, k r = true ∧ ∀ {m ν ac}, MT m ν ρ t ac → ∀ w, ((ys.map ac.eval).foldlM (if mx then Builtin.max2 else Builtin.min2) (.int kd a)).run P w = .ok (.int kd r) w
  | [], xs, kd, a, k, hx, h => by
    simp at hx; subst hx
    exact ⟨a, h, fun _ w => by simp⟩
  | y :: ys, xs, kd, a, k, hx, h => by
    simp only [List.mapM_cons, Option.pure_def, Option.bind_eq_bind, Option.bind_eq_some_iff, Option.some.injEq] at hx
    obtain ⟨xa, hxa, r, hr, rfl⟩ := hx
    obtain ⟨c, hk, hc⟩ := ev1K_sound hxa (show ev1K xa t (fun c => isInt c fun _ b => @Bool.rec (fun _ => Bool) (mmsK mx r t kd b k) (mmsK mx r t kd a k) (mm2 mx a b)) = true from h)
    obtain ⟨kb, b, rfl, hk2⟩ := isInt_true hk
    have hk3 : mmsK mx r t kd (if mm2 mx a b then a else b) k = true := by
      cases hm : mm2 mx a b with
      | true => rw [hm] at hk2; simpa using hk2
      | false => rw [hm] at hk2; simpa using hk2
    obtain ⟨z, hz, hrun⟩ := mmsK_sound hg hr hk3
    refine ⟨z, hz, fun {m ν ac} q w => ?_⟩
    have e : ac.eval y = Value.int kb b := hc hg q
    simp only [List.map_cons, List.foldlM_cons, e, Sem.run_bind, mm2_run, Result.andThen_ok]
    exact hrun q w
theorem mm_sem (hg : g = ρ.gl.isSome) {mx : Bool} {c : Call} {y : Operand} {ys : List Operand} {xa : XA} {xs : List XA} (hx : xaOf g y = some xa) (hxs : ys.mapM (xaOf g) = some xs) (hc : c.callee = .builtin (mmB mx)) (ha : c.args.toList = y :: ys)
    (ho : o.op = .call c) (h : mmF mx xa xs t s k = true) : ∃ v, k v s = true ∧ WSem P ρ o t v := by
  obtain ⟨d, h, hd⟩ := ev1K_sound hx h
  obtain ⟨kd, a, rfl, h⟩ := isInt_true h
  obtain ⟨r, hr, hrun⟩ := mmsK_sound (P := P) hg hxs h
  refine ⟨_, hr, fun {m ν ac} q => ⟨_, rfl, fun w => ?_⟩⟩
  have e : ac.eval y = Value.int kd a := hd hg q
  have hrun := hrun q w
  cases mx
  · simp only [Bool.false_eq_true, if_false] at hrun
    simp [execOp, ho, resolve, hc, mmB, invoke, builtin, Builtin.min_, ha, e, hrun]
  · simp only [if_true] at hrun
    simp [execOp, ho, resolve, hc, mmB, invoke, builtin, Builtin.max_, ha, e, hrun]
theorem const_sem {v : Value} {av : AV} (hv : avOf v = some av) (ho : ∀ (ρ' : Operand → Value) w, (execOp ρ' o).run P w = .ok (.value v) w) (h : movF (.c av) t s k = true) : ∃ v, k v s = true ∧ WSem P ρ o t v := by
  simp only [avOf, Option.map_eq_some_iff] at hv
  obtain ⟨c, hc, rfl⟩ := hv
  exact ⟨_, h, fun _ => ⟨v, compOf_sound hc, fun w => ho _ w⟩⟩

/-! ### Is it none? the same? -/
theorem noneP_true {c : Cell} {k : Bool → Bool} (h : noneP c k = true) : ∃ b, k b = true ∧ ∀ {ν : Nu} {v : Value}, CR ν ρ c v → (b = true ∧ v = .pointer none) ∨ (b = false ∧ ∃ a, v = .pointer (some a)) := by
  cases c <;> first
    | (cases h; done)
    | exact ⟨true, h, fun r => .inl ⟨rfl, r⟩⟩
    | exact ⟨false, h, fun ⟨b, n, _, e⟩ => .inr ⟨rfl, _, e⟩⟩
theorem noneL_true {c : Cell} {k : Bool → Bool} (h : noneL c k = true) : ∃ b, k b = true ∧ ∀ {ν : Nu} {v : Value}, CR ν ρ c v → (b = true ∧ v = .slice none 0 0) ∨ (b = false ∧ ∃ a l c, v = .slice (some a) l c) := by
  cases c <;> first
    | (cases h; done)
    | exact ⟨true, h, fun r => .inl ⟨rfl, r⟩⟩
    | exact ⟨false, h, fun ⟨b, n, _, _, e⟩ => .inr ⟨rfl, _, _, _, e⟩⟩
    | exact ⟨false, h, fun ⟨b, n, c, _, _, _, e⟩ => .inr ⟨rfl, _, _, _, e⟩⟩
theorem noneF_true {c : Cell} {k : Bool → Bool} (h : noneF c k = true) : ∃ b, k b = true ∧ ∀ {ν : Nu} {v : Value}, CR ν ρ c v → (b = true ∧ v = .nilFunc) ∨ (b = false ∧ ∃ f x y, v = .func f x y) := by
  cases c <;> first
    | (cases h; done)
    | exact ⟨true, h, fun r => .inl ⟨rfl, r⟩⟩
    | exact ⟨false, h, fun ⟨l, m, e, _, _⟩ => .inr ⟨rfl, _, _, _, e⟩⟩
theorem noneM_true {c : Cell} {k : Bool → Bool} (h : noneM c k = true) : ∃ b, k b = true ∧ ∀ {ν : Nu} {v : Value}, CR ν ρ c v → (b = true ∧ v = .map none) ∨ (b = false ∧ ∃ r, v = .map (some r)) := by
  cases c <;> first
    | (cases h; done)
    | exact ⟨true, h, fun r => .inl ⟨rfl, r⟩⟩
    | exact ⟨false, h, fun ⟨b, n, _, e⟩ => .inr ⟨rfl, _, e⟩⟩
/-- The kinds that are held against none. -/
def ekD : EK → TypeDesc → Bool
  | .b, .bool => true
  | .s, .string => true
  | .p, .pointer _ => true
  | .l, .slice _ => true
  | .f, .func _ _ _ => true
  | .m, .map _ _ => true
  | _, _ => false
theorem strB_eq : ∀ (a b : List Nat), strB a b = decide (a = b)
  | [], [] => by simp [strB]
  | [], _ :: _ => by simp [strB]
  | _ :: _, [] => by simp [strB]
  | x :: a, y :: b => by
    show @Bool.rec (fun _ => Bool) false (strB a b) (Nat.beq x y) = _
    cases h : Nat.beq x y with
    | true =>
      rw [Nat.beq_eq] at h; subst h
      show strB a b = _
      rw [strB_eq a b]; simp
    | false =>
      have : x ≠ y := fun e => by subst e; simp at h
      simp [this]
end Go.Rsf
