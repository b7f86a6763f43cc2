/- An executor over a program's operations: what is held against each other. Conditions: none. -/
import Derived.Test.YtjodpodmeobciaaGreatDoorVH
namespace Go.Rsf
open Go.RowKit
set_option linter.unusedVariables false
set_option linter.unusedSimpArgs false
variable {P : Program} {ρ : Rho} {g : Bool} {o : Oper} {t : Ts} {s : St} {k : KVS}
section
variable {w : World} {ty : TypeId}
theorem eq_bool (h : P.underlying ty = some .bool) (a b : Bool) : (Op.equal ty (.bool a) (.bool b)).run P w = .ok (a == b) w := by
  have key : ∀ n, (Op.equalIn (n + 1) ty (.bool a) (.bool b)).run P w = .ok (a == b) w := fun n => by
    simp only [Op.equalIn, Sem.run_bind, r_und h, Result.andThen_ok, Sem.run_pure]
  exact key 9999
theorem eq_ptr {e : TypeId} (h : P.underlying ty = some (.pointer e)) : (Op.equal ty (.pointer none) (.pointer none)).run P w = .ok true w ∧ (∀ a, (Op.equal ty (.pointer none) (.pointer (some a))).run P w = .ok false w) ∧ ∀ a, (Op.equal ty (.pointer (some a)) (.pointer none)).run P w = .ok false w := by
  refine ⟨(show ∀ n, (Op.equalIn (n + 1) ty (.pointer none) (.pointer none)).run P w = .ok true w from fun n => ?_) 9999, fun a => (show ∀ n, (Op.equalIn (n + 1) ty (.pointer none) (.pointer (some a))).run P w = .ok false w from fun n => ?_) 9999, fun a => (show ∀ n, (Op.equalIn (n + 1) ty (.pointer (some a)) (.pointer none)).run P w = .ok false w from fun n => ?_) 9999⟩ <;>
    (simp only [Op.equalIn, Sem.run_bind, r_und h, Result.andThen_ok, Sem.run_pure]; try rfl)
theorem eq_sl {e : TypeId} (h : P.underlying ty = some (.slice e)) : (Op.equal ty (.slice none 0 0) (.slice none 0 0)).run P w = .ok true w ∧ (∀ a l c, (Op.equal ty (.slice none 0 0) (.slice (some a) l c)).run P w = .ok false w) ∧ ∀ a l c, (Op.equal ty (.slice (some a) l c) (.slice none 0 0)).run P w = .ok false w := by
  refine ⟨(show ∀ n, (Op.equalIn (n + 1) ty (.slice none 0 0) (.slice none 0 0)).run P w = .ok true w from fun n => ?_) 9999, fun a l c => (show ∀ n, (Op.equalIn (n + 1) ty (.slice none 0 0) (.slice (some a) l c)).run P w = .ok false w from fun n => ?_) 9999, fun a l c => (show ∀ n, (Op.equalIn (n + 1) ty (.slice (some a) l c) (.slice none 0 0)).run P w = .ok false w from fun n => ?_) 9999⟩ <;>
    (simp only [Op.equalIn, Sem.run_bind, r_und h, Result.andThen_ok, Sem.run_pure]; try rfl)
theorem eq_fn {x y : Array TypeId} {b : Bool} (h : P.underlying ty = some (.func x y b)) : (Op.equal ty .nilFunc .nilFunc).run P w = .ok true w ∧ (∀ f a l, (Op.equal ty .nilFunc (.func f a l)).run P w = .ok false w) ∧ ∀ f a l, (Op.equal ty (.func f a l) .nilFunc).run P w = .ok false w := by
  refine ⟨(show ∀ n, (Op.equalIn (n + 1) ty (.nilFunc) (.nilFunc)).run P w = .ok true w from fun n => ?_) 9999, fun f a l => (show ∀ n, (Op.equalIn (n + 1) ty (.nilFunc) (.func f a l)).run P w = .ok false w from fun n => ?_) 9999, fun f a l => (show ∀ n, (Op.equalIn (n + 1) ty (.func f a l) (.nilFunc)).run P w = .ok false w from fun n => ?_) 9999⟩ <;>
    (simp only [Op.equalIn, Sem.run_bind, r_und h, Result.andThen_ok, Sem.run_pure]; try rfl)
theorem eq_map {x y : TypeId} (h : P.underlying ty = some (.map x y)) : (Op.equal ty (.map none) (.map none)).run P w = .ok true w ∧ (∀ a, (Op.equal ty (.map none) (.map (some a))).run P w = .ok false w) ∧ ∀ a, (Op.equal ty (.map (some a)) (.map none)).run P w = .ok false w := by
  refine ⟨(show ∀ n, (Op.equalIn (n + 1) ty (.map none) (.map none)).run P w = .ok true w from fun n => ?_) 9999, fun a => (show ∀ n, (Op.equalIn (n + 1) ty (.map none) (.map (some a))).run P w = .ok false w from fun n => ?_) 9999, fun a => (show ∀ n, (Op.equalIn (n + 1) ty (.map (some a)) (.map none)).run P w = .ok false w from fun n => ?_) 9999⟩ <;>
    (simp only [Op.equalIn, Sem.run_bind, r_und h, Result.andThen_ok, Sem.run_pure]; try rfl)
end
theorem toList_data (s : ByteArray) : s.toList = s.data.toList := by
  have key : ∀ (n i : Nat) (r : List UInt8), s.size - i = n → ByteArray.toList.loop s i r = r.reverse ++ s.data.toList.drop i := by
    intro n
    induction n with
    | zero =>
      intro i r h
      unfold ByteArray.toList.loop
      have : ¬ i < s.size := by omega
      rw [if_neg this, List.drop_eq_nil_of_le (by simp; exact Nat.le_of_not_lt this), List.append_nil]
    | succ n ih =>
      intro i r h
      unfold ByteArray.toList.loop
      have hi : i < s.size := by omega
      rw [if_pos hi, ih (i + 1) _ (by omega)]
      have hl : i < s.data.toList.length := by simpa using hi
      rw [List.drop_eq_getElem_cons hl]
      simp only [List.reverse_cons, List.append_assoc, List.singleton_append]
      congr 2
      simp [ByteArray.get!, hi]
  have := key s.size 0 [] rfl
  simpa [ByteArray.toList] using this
theorem str_beq {a b : ByteArray} {l m : List Nat} (ha : a.data.toList.map UInt8.toNat = l) (hb : b.data.toList.map UInt8.toNat = m) : (a.toList == b.toList) = strB l m := by
  rw [strB_eq, toList_data, toList_data, Bool.eq_iff_iff, beq_iff_eq, decide_eq_true_iff, ← ha, ← hb]
  constructor
  · intro h; rw [h]
  · intro h
    have inj : ∀ (x y : List UInt8), x.map UInt8.toNat = y.map UInt8.toNat → x = y := by
      intro x
      induction x with
      | nil => intro y e; cases y with
        | nil => rfl
        | cons _ _ => simp at e
      | cons a x ih => intro y e; cases y with
        | nil => simp at e
        | cons b y =>
          simp only [List.map_cons, List.cons.injEq] at e
          rw [UInt8.toNat_inj.1 e.1, ih y e.2]
    exact inj _ _ h
/-- Held against each other: eql or neq. -/
def eqBin : Bool → BinOp | true => .neq | false => .eql
theorem eqv_run {ek : EK} {d : TypeDesc} {ty : TypeId} (hd : P.underlying ty = some d) (he : ekD ek d = true) {c1 c2 : Cell} {k : Bool → Bool} (h : eqK ek c1 c2 k = true) :
    ∃ r, k r = true ∧ ∀ {ν : Nu} {v u : Value}, CR ν ρ c1 v → CR ν ρ c2 u → ∀ (neg : Bool) (x y : Operand) (w : World),
      (do eqGuard (eqBin neg) ty x y v u; binOp (eqBin neg) ty v u : Sem Value).run P w = .ok (.bool (if neg then !r else r)) w := by
  have fin : ∀ {v u : Value} {r : Bool}, (∀ w, (Op.equal ty v u).run P w = .ok r w) → (∀ neg x y w, (eqGuard (eqBin neg) ty x y v u).run P w = .ok () w) → (∀ neg, binOp (eqBin neg) ty v u = if neg then (do pure (.bool (!(← Op.equal ty v u)))) else (do pure (.bool (← Op.equal ty v u)))) →
      ∀ (neg : Bool) (x y : Operand) (w : World), (do eqGuard (eqBin neg) ty x y v u; binOp (eqBin neg) ty v u : Sem Value).run P w = .ok (.bool (if neg then !r else r)) w := by
    intro v u r h1 h2 h3 neg x y w
    simp only [Sem.run_bind, h2, Result.andThen_ok, h3]
    cases neg <;> simp [h1]
  have two : ∀ {no : Cell → (Bool → Bool) → Bool} {A B : Value → Prop}, (∀ {c : Cell} {k : Bool → Bool}, no c k = true → ∃ b, k b = true ∧ ∀ {ν : Nu} {v : Value}, CR ν ρ c v → (b = true ∧ A v) ∨ (b = false ∧ B v)) → eqN no c1 c2 k = true →
      (∀ v u, A v → A u → (∀ w, (Op.equal ty v u).run P w = .ok true w)) → (∀ v u, A v → B u → (∀ w, (Op.equal ty v u).run P w = .ok false w)) → (∀ v u, B v → A u → (∀ w, (Op.equal ty v u).run P w = .ok false w)) →
      (∀ v u, (A v ∨ B v) → (A u ∨ B u) → (∀ neg x y w, (eqGuard (eqBin neg) ty x y v u).run P w = .ok () w) ∧ (∀ neg, binOp (eqBin neg) ty v u = if neg then (do pure (.bool (!(← Op.equal ty v u)))) else (do pure (.bool (← Op.equal ty v u))))) →
      ∃ r, k r = true ∧ ∀ {ν : Nu} {v u : Value}, CR ν ρ c1 v → CR ν ρ c2 u → ∀ (neg : Bool) (x y : Operand) (w : World), (do eqGuard (eqBin neg) ty x y v u; binOp (eqBin neg) ty v u : Sem Value).run P w = .ok (.bool (if neg then !r else r)) w := by
    intro no A B hno hk haa hab hba hg
    obtain ⟨x, hk, hx⟩ := hno hk
    obtain ⟨y, hk, hy⟩ := hno hk
    cases x <;> cases y
    · cases hk
    · refine ⟨false, hk, fun r1 r2 => ?_⟩
      have v1 := (hx r1).resolve_left (fun h => by cases h.1)
      have v2 := (hy r2).resolve_right (fun h => by cases h.1)
      have hh := hg _ _ (.inr v1.2) (.inl v2.2)
      exact fin (hba _ _ v1.2 v2.2) hh.1 hh.2
    · refine ⟨false, hk, fun r1 r2 => ?_⟩
      have v1 := (hx r1).resolve_right (fun h => by cases h.1)
      have v2 := (hy r2).resolve_left (fun h => by cases h.1)
      have hh := hg _ _ (.inl v1.2) (.inr v2.2)
      exact fin (hab _ _ v1.2 v2.2) hh.1 hh.2
    · refine ⟨true, hk, fun r1 r2 => ?_⟩
      have v1 := (hx r1).resolve_right (fun h => by cases h.1)
      have v2 := (hy r2).resolve_right (fun h => by cases h.1)
      have hh := hg _ _ (.inl v1.2) (.inl v2.2)
      exact fin (haa _ _ v1.2 v2.2) hh.1 hh.2
  cases ek with
  | b =>
    cases d <;> simp only [ekD] at he <;> try (cases he; done)
    obtain ⟨x, rfl, h2⟩ := isBoo_true (show isBoo c1 (fun x => isBoo c2 fun y => @Bool.rec (fun _ => Bool) (@Bool.rec (fun _ => Bool) (k true) (k false) y) (@Bool.rec (fun _ => Bool) (k false) (k true) y) x) = true from h)
    obtain ⟨y, rfl, h3⟩ := isBoo_true h2
    refine ⟨x == y, by cases x <;> cases y <;> exact h3, fun r1 r2 => ?_⟩
    cases r1; cases r2
    exact fin (fun w => eq_bool hd x y) (fun neg _ _ w => by cases neg <;> rfl) (fun neg => by cases neg <;> rfl)
  | s =>
    cases d <;> simp only [ekD] at he <;> try (cases he; done)
    have hs : ∀ {c : Cell} {k : List Nat → Bool}, isStr c k = true → ∃ l, c = .str l ∧ k l = true := by
      intro c k h
      cases c <;> first | exact ⟨_, rfl, h⟩ | cases h
    obtain ⟨x, rfl, h2⟩ := hs (show isStr c1 (fun x => isStr c2 fun y => boolK (strB x y) k) = true from h)
    obtain ⟨y, rfl, h3⟩ := hs h2
    refine ⟨strB x y, boolK_true h3, fun ⟨a, ea, ra⟩ ⟨b, eb, rb⟩ neg p q w => ?_⟩
    subst ea; subst eb
    have := str_beq ra rb
    cases neg
    · simp only [eqBin, Sem.run_bind]
      rw [show (eqGuard .eql ty p q (.string a) (.string b)).run P w = .ok () w from rfl]
      simp [binOp, Op.stringOp, this]
    · simp only [eqBin, Sem.run_bind]
      rw [show (eqGuard .neq ty p q (.string a) (.string b)).run P w = .ok () w from rfl]
      simp [binOp, Op.stringOp, this]
  | p =>
    cases d <;> simp only [ekD] at he <;> try (cases he; done)
    refine two (A := fun v => v = .pointer none) (B := fun v => ∃ a, v = .pointer (some a)) (fun h => noneP_true h) h ?_ ?_ ?_ ?_
    · rintro v u rfl rfl w; exact (eq_ptr hd).1
    · rintro v u rfl ⟨a, rfl⟩ w; exact (eq_ptr hd).2.1 a
    · rintro v u ⟨a, rfl⟩ rfl w; exact (eq_ptr hd).2.2 a
    · rintro v u (rfl | ⟨a, rfl⟩) (rfl | ⟨b, rfl⟩) <;> exact ⟨fun neg _ _ w => by cases neg <;> rfl, fun neg => by cases neg <;> rfl⟩
  | l =>
    cases d <;> simp only [ekD] at he <;> try (cases he; done)
    refine two (A := fun v => v = .slice none 0 0) (B := fun v => ∃ a l c, v = .slice (some a) l c) (fun h => noneL_true h) h ?_ ?_ ?_ ?_
    · rintro v u rfl rfl w; exact (eq_sl hd).1
    · rintro v u rfl ⟨a, l, c, rfl⟩ w; exact (eq_sl hd).2.1 a l c
    · rintro v u ⟨a, l, c, rfl⟩ rfl w; exact (eq_sl hd).2.2 a l c
    · rintro v u (rfl | ⟨a, l, c, rfl⟩) (rfl | ⟨b, l', c', rfl⟩) <;> exact ⟨fun neg _ _ w => by cases neg <;> rfl, fun neg => by cases neg <;> rfl⟩
  | f =>
    cases d <;> simp only [ekD] at he <;> try (cases he; done)
    refine two (A := fun v => v = .nilFunc) (B := fun v => ∃ f x y, v = .func f x y) (fun h => noneF_true h) h ?_ ?_ ?_ ?_
    · rintro v u rfl rfl w; exact (eq_fn hd).1
    · rintro v u rfl ⟨a, l, c, rfl⟩ w; exact (eq_fn hd).2.1 a l c
    · rintro v u ⟨a, l, c, rfl⟩ rfl w; exact (eq_fn hd).2.2 a l c
    · rintro v u (rfl | ⟨a, l, c, rfl⟩) (rfl | ⟨b, l', c', rfl⟩) <;> exact ⟨fun neg _ _ w => by cases neg <;> rfl, fun neg => by cases neg <;> rfl⟩
  | m =>
    cases d <;> simp only [ekD] at he <;> try (cases he; done)
    refine two (A := fun v => v = .map none) (B := fun v => ∃ r, v = .map (some r)) (fun h => noneM_true h) h ?_ ?_ ?_ ?_
    · rintro v u rfl rfl w; exact (eq_map hd).1
    · rintro v u rfl ⟨a, rfl⟩ w; exact (eq_map hd).2.1 a
    · rintro v u ⟨a, rfl⟩ rfl w; exact (eq_map hd).2.2 a
    · rintro v u (rfl | ⟨a, rfl⟩) (rfl | ⟨b, rfl⟩) <;> exact ⟨fun neg _ _ w => by cases neg <;> rfl, fun neg => by cases neg <;> rfl⟩
theorem eqv_sem (hg : g = ρ.gl.isSome) {ek : EK} {neg : Bool} {ty ty' : TypeId} {d : TypeDesc} {x y : Operand} {xa ya : XA} (hx : xaOf g x = some xa) (hy : xaOf g y = some ya) (hd : P.underlying ty = some d) (he : ekD ek d = true)
    (ho : o.op = .binOp (eqBin neg) ty x y ty') (h : eqvF ek neg xa ya t s k = true) : ∃ v, k v s = true ∧ WSem P ρ o t v := by
  obtain ⟨c, h, hc⟩ := ev1K_sound hx h
  obtain ⟨e, h, hd'⟩ := ev1K_sound hy h
  obtain ⟨r, hr, run⟩ := eqv_run (ρ := ρ) hd he h
  refine ⟨_, boolK_true hr, fun {m ν a} q => ⟨_, rfl, fun w => ?_⟩⟩
  have := run (hc hg q) (hd' hg q) neg x y w
  simp only [execOp, ho, Sem.run_bind] at this ⊢
  rw [this]
  cases neg <;> rfl
end Go.Rsf
