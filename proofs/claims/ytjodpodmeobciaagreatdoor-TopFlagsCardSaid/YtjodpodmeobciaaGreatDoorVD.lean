/- An executor over a program's operations: the operations that look at no memory. Conditions: none. -/
import Derived.Test.YtjodpodmeobciaaGreatDoorVC
import Derived.Laws.CopyRow
import Derived.Laws.AppendOwn
namespace Go.Rsf
open Go.RowKit
set_option linter.unusedVariables false
set_option linter.unusedSimpArgs false

theorem keyF_nat : ∀ n, (keyF n).nat = n
  | 0 => rfl
  | n + 1 => by show (keyF n).succ.nat = n + 1; rw [Pth.nat_succ, keyF_nat n]
def cellOf : Value → Option Cell
  | .int k n => some (.int k n)
  | .bool b => some (.bool b)
  | .string s => some (.str (s.data.toList.map UInt8.toNat))
  | .pointer none => some .nilp
  | .slice none 0 0 => some .nils
  | .nilFunc => some .nilf
  | .map none => some .nilm
  | _ => none
def cellsOf : List Value → Option (List Cell)
  | [] => some []
  | v :: l => (cellOf v).bind fun c => (cellsOf l).map fun r => c :: r
def compOf : Value → Option Comp
  | .agg cs => (cellsOf cs.toList).map .agg
  | v => (cellOf v).map .one
def avOf (v : Value) : Option AV := (compOf v).map .v
def xaOf (g : Bool) : Operand → Option XA
  | .tmp n => some (.t (keyF n))
  | .const v => (avOf v).map .c
  | .global n => if n = 0 ∧ g = true then some (.c (.v (.one (.ptr .e 0)))) else none
  | .func f => some (.c (.v (.one (.fn f [] []))))
theorem cellOf_sound {ν : Nu} {ρ : Rho} {v : Value} {c : Cell} (h : cellOf v = some c) : CR ν ρ c v := by
  unfold cellOf at h
  split at h <;> first | (cases h; first | rfl | exact ⟨_, rfl, rfl⟩) | cases h
theorem cellsOf_sound {ν : Nu} {ρ : Rho} : ∀ {l : List Value} {cs : List Cell}, cellsOf l = some cs → Rel (CR ν ρ) cs l
  | [], cs, h => by cases h; trivial
  | v :: l, cs, h => by
    simp only [cellsOf, Option.bind_eq_some_iff, Option.map_eq_some_iff] at h
    obtain ⟨c, hc, r, hr, rfl⟩ := h
    exact ⟨cellOf_sound hc, cellsOf_sound hr⟩
theorem compOf_sound {ν : Nu} {ρ : Rho} {v : Value} {c : Comp} (h : compOf v = some c) : CompR ν ρ c v := by
  unfold compOf at h
  split at h
  · simp only [Option.map_eq_some_iff] at h
    obtain ⟨cs, hcs, rfl⟩ := h
    exact ⟨_, rfl, cellsOf_sound hcs⟩
  · simp only [Option.map_eq_some_iff] at h
    obtain ⟨c, hc, rfl⟩ := h
    exact cellOf_sound hc
theorem evK_sound {g : Bool} {x : Operand} {xa : XA} (hx : xaOf g x = some xa) {t : Ts} {k : KV} (h : evK xa t k = true) :
    ∃ v, k v = true ∧ ∀ {m ν ρ a}, g = ρ.gl.isSome → MT m ν ρ t a → AR ν ρ v (a.eval x) := by
  cases x with
  | tmp n =>
    cases hx
    obtain ⟨v, hv, hk⟩ := getK_true (show getK (keyF n) t k = true from h)
    refine ⟨v, hk, fun _ r => ?_⟩
    obtain ⟨u, hu, ru⟩ := r.2.1 _ _ hv
    rw [keyF_nat] at hu
    show AR _ _ v (Act.eval _ (.tmp n))
    simpa [Act.eval, Array.getD_eq_getD_getElem?, hu] using ru
  | const c =>
    simp only [xaOf, avOf, Option.map_eq_some_iff] at hx
    obtain ⟨v, ⟨c', hc, rfl⟩, rfl⟩ := hx
    exact ⟨.v c', h, fun _ _ => compOf_sound hc⟩
  | global n =>
    simp only [xaOf] at hx
    split at hx
    · rename_i hn
      cases hx
      refine ⟨_, h, fun hg r => ?_⟩
      rw [hn.2] at hg
      cases hgl : Rho.gl _ with
      | none => rw [hgl] at hg; cases hg
      | some n' => exact ⟨0, n', r.2.2 n' hgl, by rw [hn.1]; rfl⟩
    · cases hx
  | func f => cases hx; exact ⟨_, h, fun _ _ => ⟨[], [], rfl, trivial, trivial⟩⟩
theorem ev1K_sound {g : Bool} {x : Operand} {xa : XA} (hx : xaOf g x = some xa) {t : Ts} {k : Cell → Bool} (h : ev1K xa t k = true) :
    ∃ c, k c = true ∧ ∀ {m ν ρ a}, g = ρ.gl.isSome → MT m ν ρ t a → CR ν ρ c (a.eval x) := by
  obtain ⟨v, hk, hv⟩ := evK_sound hx h
  obtain ⟨c, rfl, hc⟩ := isOne_true hk
  exact ⟨c, hc, fun hg r => hv hg r⟩

/-- What an operand is, as far as it is known. -/
def evX : XA → Ts → Option AV | .t p, t => t.get p | .c v, _ => some v
theorem evK_eq (a : XA) (t : Ts) (k : KV) : evK a t k = match evX a t with | some v => k v | none => false := by
  cases a with
  | t p =>
    have e : evK (.t p) t k = getK p t k := rfl
    rw [e, getK_eq]
    simp only [evX]
    cases t.get p <;> rfl
  | c v => rfl
theorem ev1K_sound' {g : Bool} {x : Operand} {xa : XA} (hx : xaOf g x = some xa) {t : Ts} {k : Cell → Bool} (h : ev1K xa t k = true) :
    ∃ c, evX xa t = some (.v (.one c)) ∧ k c = true ∧ ∀ {m ν ρ a}, g = ρ.gl.isSome → MT m ν ρ t a → CR ν ρ c (a.eval x) := by
  have h' : evK xa t (fun v => isOne v k) = true := h
  rw [evK_eq] at h'
  cases e : evX xa t with
  | none => rw [e] at h'; cases h'
  | some v =>
    rw [e] at h'
    obtain ⟨c, rfl, hc⟩ := isOne_true h'
    refine ⟨c, rfl, hc, fun hg r => ?_⟩
    obtain ⟨v2, hd, hv⟩ := evK_sound (k := fun v => @decide (v = .v (.one c)) (Classical.propDecidable _)) hx (by rw [evK_eq, e]; exact @decide_eq_true _ (Classical.propDecidable _) rfl)
    have e2 : v2 = .v (.one c) := @of_decide_eq_true _ (Classical.propDecidable _) hd
    subst e2
    exact hv hg r

/-! ### The model's small steps -/
section
variable {P : Program} {w : World}
theorem r_und {t : TypeId} {d : TypeDesc} (h : P.underlying t = some d) : (underlying t).run P w = .ok d w := by simp [underlying, h]
theorem r_info {t : TypeId} {i : TypeInfo} (h : P.info? t = some i) : (typeInfo t).run P w = .ok i w := by simp [typeInfo, h]
theorem r_size {t : TypeId} {i : TypeInfo} (h : P.info? t = some i) : (sizeOf t).run P w = .ok i.size w := by simp [sizeOf, r_info h]
theorem r_zero {t : TypeId} {i : TypeInfo} {z : Value} (h : P.info? t = some i) (hz : i.zero = some z) : (zeroValue t).run P w = .ok z w := by simp [zeroValue, r_info h, hz]
theorem addr_add (b o n : Nat) : (⟨b, o, none⟩ : Addr).add n = ⟨b, o + n, none⟩ := by
  unfold Addr.add
  split
  · rename_i h; subst h; rfl
  · rfl
def aggD : TypeDesc → Bool | .struct _ => true | .array _ _ => true | _ => false
theorem r_isAgg {t : TypeId} {d : TypeDesc} (h : P.underlying t = some d) : (isAgg t).run P w = .ok (aggD d) w := by
  simp only [isAgg, Sem.run_bind, r_und h, Result.andThen_ok]
  cases d <;> rfl
end

/-- AN OPERATION THAT LOOKS AT NO MEMORY: what it yields, whatever the world. -/
def WSem (P : Program) (ρ : Rho) (o : Oper) (t : Ts) (v : AV) : Prop :=
  ∀ {m ν a}, MT m ν ρ t a → ∃ u, AR ν ρ v u ∧ ∀ w, (execOp a.eval o).run P w = .ok (.value u) w
variable {P : Program} {ρ : Rho} {g : Bool} {o : Oper} {t : Ts} {s : St} {k : KVS}
theorem mov_sem (hg : g = ρ.gl.isSome) {x : Operand} {xa : XA} (hx : xaOf g x = some xa) (ho : o.op = .move x ∨ o.op = .assign x) (h : movF xa t s k = true) : ∃ v, k v s = true ∧ WSem P ρ o t v := by
  obtain ⟨v, hk, hv⟩ := evK_sound hx h
  exact ⟨v, hk, fun r => ⟨_, hv hg r, fun w => by rcases ho with ho | ho <;> simp [execOp, ho]⟩⟩
theorem someK_true {c : Cell} {r : Bool} (h : someK c r = true) : r = true ∧ ((∃ id off, c = .ptr id off) ∨ ∃ f x y, c = .fn f x y) := by
  cases c <;> first | (cases h; done) | exact ⟨h, .inl ⟨_, _, rfl⟩⟩ | exact ⟨h, .inr ⟨_, _, _, rfl⟩⟩
theorem nck_sem (hg : g = ρ.gl.isSome) {x : Operand} {xa : XA} (hx : xaOf g x = some xa) (ho : o.op = .nilCheck x) (h : nckF xa t s k = true) : ∃ v, k v s = true ∧ WSem P ρ o t v := by
  obtain ⟨v, hk, hv⟩ := evK_sound hx h
  obtain ⟨c, rfl, hk⟩ := isOne_true hk
  obtain ⟨hk, hc⟩ := someK_true hk
  refine ⟨_, hk, fun r => ⟨_, hv hg r, fun w => ?_⟩⟩
  have hr := hv hg r
  rcases hc with ⟨id, off, rfl⟩ | ⟨f, x', y', rfl⟩
  · obtain ⟨b, n, _, e⟩ := hr
    simp [execOp, ho, e]
  · obtain ⟨l, m, e, _, _⟩ := hr
    simp [execOp, ho, e]
theorem pick_sem (hg : g = ρ.gl.isSome) {c x y : Operand} {xc xa xb : XA} (hc : xaOf g c = some xc) (hx : xaOf g x = some xa) (hy : xaOf g y = some xb) (ho : o.op = .pick c x y) (h : pickF xc xa xb t s k = true) :
    ∃ v, k v s = true ∧ WSem P ρ o t v := by
  obtain ⟨d, hk, hd⟩ := ev1K_sound hc h
  obtain ⟨b, rfl, hk⟩ := isBoo_true hk
  cases b with
  | false =>
    obtain ⟨v, hk, hv⟩ := evK_sound hy hk
    refine ⟨v, hk, fun r => ⟨_, hv hg r, fun w => ?_⟩⟩
    have e : _ = Value.bool false := hd hg r
    simp [execOp, ho, e, asBool]
  | true =>
    obtain ⟨v, hk, hv⟩ := evK_sound hx hk
    refine ⟨v, hk, fun r => ⟨_, hv hg r, fun w => ?_⟩⟩
    have e : _ = Value.bool true := hd hg r
    simp [execOp, ho, e, asBool]
end Go.Rsf
