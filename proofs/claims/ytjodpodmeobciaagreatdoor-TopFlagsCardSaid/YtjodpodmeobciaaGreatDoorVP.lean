/- An executor over a program's operations: an operation of the program, held against the executor's. Conditions: none. -/
import Derived.Test.YtjodpodmeobciaaGreatDoorVU
namespace Go.Rsf
open Go.RowKit
set_option linter.unusedVariables false
set_option linter.unusedSimpArgs false

/-! ### Values, operands -/
noncomputable def pnB (p : Pth) (n : Nat) : Bool := Nat.beq p.nat n
theorem pnB_eq {p : Pth} {n : Nat} (h : pnB p n = true) : keyF n = p := Pth.nat_inj (by rw [keyF_nat]; exact (Nat.eq_of_beq_eq_true h).symm)
theorem pnB_nat {p : Pth} {n : Nat} (h : pnB p n = true) : p.nat = n := Nat.eq_of_beq_eq_true h
noncomputable def cellB : Value → Cell → Bool
  | .int k n, .int k' n' => kindB k k' && ieqB n n'
  | .bool b, .bool b' => b == b'
  | .string s, .str l => strB (s.data.toList.map UInt8.toNat) l
  | .pointer none, .nilp => true
  | .slice none 0 0, .nils => true
  | .nilFunc, .nilf => true
  | .map none, .nilm => true
  | _, _ => false
theorem cellB_eq {v : Value} {c : Cell} (h : cellB v c = true) : cellOf v = some c := by
  unfold cellB at h
  split at h <;> first
    | (simp only [Bool.and_eq_true] at h; obtain ⟨h1, h2⟩ := h; rw [kindB_true h1]; rw [ieqB_eq] at h2; rw [of_decide_eq_true h2]; rfl)
    | (rw [eq_of_beq h]; rfl)
    | (rw [strB_eq] at h; rw [← of_decide_eq_true h]; rfl)
    | rfl
    | cases h
noncomputable def cellsB : List Value → List Cell → Bool
  | [], [] => true
  | v :: l, c :: r => cellB v c && cellsB l r
  | _, _ => false
theorem cellsB_eq : ∀ {l : List Value} {r : List Cell}, cellsB l r = true → cellsOf l = some r
  | [], [], _ => rfl
  | [], _ :: _, h => by cases h
  | _ :: _, [], h => by cases h
  | v :: l, c :: r, h => by
    simp only [cellsB, Bool.and_eq_true] at h
    simp [cellsOf, cellB_eq h.1, cellsB_eq h.2]
noncomputable def avB : Value → AV → Bool
  | .agg cs, .v (.agg l) => cellsB cs.toList l
  | v, .v (.one c) => cellB v c
  | _, _ => false
theorem avB_eq {v : Value} {a : AV} (h : avB v a = true) : avOf v = some a := by
  unfold avB at h
  split at h
  · simp [avOf, compOf, cellsB_eq h]
  · have e := cellB_eq h
    unfold avOf compOf
    split
    · cases h
    · simp [e]
  · cases h
noncomputable def xaB (g : Bool) : Operand → XA → Bool
  | .tmp n, .t p => pnB p n
  | .const v, .c a => avB v a
  | .global n, .c (.v (.one (.ptr .e 0))) => Nat.beq n 0 && g
  | .func f, .c (.v (.one (.fn f' [] []))) => Nat.beq f f'
  | _, _ => false
theorem xaB_eq {g : Bool} {x : Operand} {a : XA} (h : xaB g x a = true) : xaOf g x = some a := by
  unfold xaB at h
  split at h
  · simp [xaOf, pnB_eq h]
  · simp [xaOf, avB_eq h]
  · simp only [Bool.and_eq_true] at h
    have e := Nat.eq_of_beq_eq_true h.1
    simp [xaOf, e, h.2]
  · have e := Nat.eq_of_beq_eq_true h
    simp [xaOf, e]
  · cases h
noncomputable def xasB (g : Bool) : List Operand → List XA → Bool
  | [], [] => true
  | x :: l, a :: r => xaB g x a && xasB g l r
  | _, _ => false
theorem xasB_eq {g : Bool} : ∀ {l : List Operand} {r : List XA}, xasB g l r = true → l.mapM (xaOf g) = some r
  | [], [], _ => rfl
  | [], _ :: _, h => by cases h
  | _ :: _, [], h => by cases h
  | v :: l, c :: r, h => by
    simp only [xasB, Bool.and_eq_true] at h
    simp [xaB_eq h.1, xasB_eq h.2]
noncomputable def oxaB (g : Bool) : Option Operand → Option XA → Bool
  | none, none => true
  | some x, some a => xaB g x a
  | _, _ => false
theorem oxaB_eq {g : Bool} {x : Option Operand} {a : Option XA} (h : oxaB g x a = true) : oxaOf g x = some a := by
  unfold oxaB at h
  split at h
  · rfl
  · simp [oxaOf, xaB_eq h]
  · cases h
noncomputable def xpsB (g : Bool) (place : Nat → Option (Nat × Nat)) : List (Nat × Operand) → List XP → Bool
  | [], [] => true
  | p :: l, x :: r => (match place p.1 with | some q => Nat.beq q.1 x.off && Nat.beq q.2 x.size | none => false) && xaB g p.2 x.x && xpsB g place l r
  | _, _ => false
theorem xpsB_eq {g : Bool} {place : Nat → Option (Nat × Nat)} : ∀ {l : List (Nat × Operand)} {r : List XP}, xpsB g place l r = true → partsOf g place l = some r
  | [], [], _ => rfl
  | [], _ :: _, h => by cases h
  | _ :: _, [], h => by cases h
  | p :: l, ⟨off, sz, x⟩ :: r, h => by
    simp only [xpsB, Bool.and_eq_true] at h
    obtain ⟨⟨h1, h2⟩, h3⟩ := h
    split at h1
    · rename_i q hq
      simp only [Bool.and_eq_true] at h1
      have e1 := Nat.eq_of_beq_eq_true h1.1
      have e2 := Nat.eq_of_beq_eq_true h1.2
      simp [partsOf, hq, xaB_eq h2, xpsB_eq h3, e1, e2]
    · cases h1
/-! ### Types -/
noncomputable def tyInfo (P : Program) (t : TypeId) (f : TypeInfo → Bool) : Bool := match P.info? t with | some i => f i | none => false
noncomputable def tyUnd (P : Program) (t : TypeId) (f : TypeDesc → Bool) : Bool := match P.underlying t with | some d => f d | none => false
noncomputable def zeroB (i : TypeInfo) (f : Value → Bool) : Bool := match i.zero with | some z => f z | none => false
theorem tyInfo_true {P : Program} {t : TypeId} {f : TypeInfo → Bool} (h : tyInfo P t f = true) : ∃ i, P.info? t = some i ∧ f i = true := by
  unfold tyInfo at h; split at h
  · exact ⟨_, by assumption, h⟩
  · cases h
theorem tyUnd_true {P : Program} {t : TypeId} {f : TypeDesc → Bool} (h : tyUnd P t f = true) : ∃ i, P.underlying t = some i ∧ f i = true := by
  unfold tyUnd at h; split at h
  · exact ⟨_, by assumption, h⟩
  · cases h
theorem zeroB_true {i : TypeInfo} {f : Value → Bool} (h : zeroB i f = true) : ∃ z, i.zero = some z ∧ f z = true := by
  unfold zeroB at h; split at h
  · exact ⟨_, by assumption, h⟩
  · cases h
noncomputable def dSlice (f : TypeId → Bool) : TypeDesc → Bool | .slice e => f e | _ => false
noncomputable def dArray (f : Nat → TypeId → Bool) : TypeDesc → Bool | .array n e => f n e | _ => false
noncomputable def dStruct (f : Array Field → Bool) : TypeDesc → Bool | .struct fs => f fs | _ => false
noncomputable def dInt (f : IntKind → Bool) : TypeDesc → Bool | .int k => f k | _ => false
noncomputable def tySl (P : Program) (t : TypeId) (f : TypeId → TypeInfo → Bool) : Bool := tyUnd P t (dSlice fun e => tyInfo P e (f e))
theorem tySl_true {P : Program} {t : TypeId} {f : TypeId → TypeInfo → Bool} (h : tySl P t f = true) : ∃ e i, P.underlying t = some (.slice e) ∧ P.info? e = some i ∧ f e i = true := by
  obtain ⟨d, hd, h1⟩ := tyUnd_true h
  cases d <;> first | (cases h1; done) | skip
  obtain ⟨i, hi, h2⟩ := tyInfo_true (show tyInfo P _ _ = true from h1)
  exact ⟨_, i, hd, hi, h2⟩
noncomputable def tyAr (P : Program) (t : TypeId) (f : Nat → TypeId → TypeInfo → Bool) : Bool := tyUnd P t (dArray fun n e => tyInfo P e (f n e))
theorem tyAr_true {P : Program} {t : TypeId} {f : Nat → TypeId → TypeInfo → Bool} (h : tyAr P t f = true) : ∃ n e i, P.underlying t = some (.array n e) ∧ P.info? e = some i ∧ f n e i = true := by
  obtain ⟨d, hd, h1⟩ := tyUnd_true h
  cases d <;> first | (cases h1; done) | skip
  obtain ⟨i, hi, h2⟩ := tyInfo_true (show tyInfo P _ _ = true from h1)
  exact ⟨_, _, i, hd, hi, h2⟩
noncomputable def tyFd (P : Program) (t : TypeId) (n : Nat) (f : Field → TypeInfo → Bool) : Bool := tyUnd P t (dStruct fun fs => match fs[n]? with | some fd => tyInfo P fd.type (f fd) | none => false)
theorem tyFd_true {P : Program} {t : TypeId} {n : Nat} {f : Field → TypeInfo → Bool} (h : tyFd P t n f = true) : ∃ fs fd i, P.underlying t = some (.struct fs) ∧ fs[n]? = some fd ∧ P.info? fd.type = some i ∧ f fd i = true := by
  obtain ⟨d, hd, h1⟩ := tyUnd_true h
  cases d <;> first | (cases h1; done) | skip
  rename_i fs
  have h2 : (match fs[n]? with | some fd => tyInfo P fd.type (f fd) | none => false) = true := h1
  split at h2
  · rename_i fd hf
    obtain ⟨i, hi, h3⟩ := tyInfo_true h2
    exact ⟨fs, fd, i, hd, hf, hi, h3⟩
  · cases h2
noncomputable def aggB (P : Program) (t : TypeId) (b : Bool) : Bool := tyUnd P t fun d => aggD d == b
theorem aggB_true {P : Program} {t : TypeId} {b : Bool} (h : aggB P t b = true) : ∃ d, P.underlying t = some d ∧ aggD d = b := by
  obtain ⟨d, hd, h1⟩ := tyUnd_true h
  exact ⟨d, hd, eq_of_beq h1⟩
/-- The places of a struct's parts. -/
noncomputable def placesOf (P : Program) : List Field → Option (List (Nat × Nat))
  | [] => some []
  | f :: l => (P.info? f.type).bind fun i => (placesOf P l).map fun r => (f.offset, i.size) :: r
theorem places_run {P : Program} {w : World} : ∀ {l : List Field} {r : List (Nat × Nat)}, placesOf P l = some r → (l.mapM (fun f => (do pure (f.offset, ← sizeOf f.type) : Sem (Nat × Nat)))).run P w = .ok r w
  | [], r, h => by cases h; simp
  | f :: l, r, h => by
    simp only [placesOf, Option.bind_eq_some_iff, Option.map_eq_some_iff] at h
    obtain ⟨i, hi, r', hr, rfl⟩ := h
    simp only [List.mapM_cons, Sem.run_bind, r_size hi, Result.andThen_ok, Sem.run_pure, places_run hr]
theorem build_struct {P : Program} {ty : TypeId} {i : TypeInfo} {z : Value} {fs : Array Field} {pl : List (Nat × Nat)} (hi : P.info? ty = some i) (hz : i.zero = some z) (hu : P.underlying ty = some (.struct fs)) (hp : placesOf P fs.toList = some pl) :
    ∀ (l : Array (Nat × Value)) (us : Array Value), Instr.fill (pl[·]?) z.cells l.toList = some us → ∀ w, (Instr.build ty l).run P w = .ok (.agg us) w := by
  intro l us h w
  have hm : (fs.mapM (fun f => (do pure (f.offset, ← sizeOf f.type) : Sem (Nat × Nat)))).run P w = .ok pl.toArray w := by
    rw [Array.mapM_eq_mapM_toList, Sem.run_map, places_run hp]; rfl
  have h' : Instr.fill (pl.toArray[·]?) z.cells l.toList = some us := by simpa using h
  simp only [Instr.build, Sem.run_bind, r_zero hi hz, Result.andThen_ok, r_und hu, hm, h', Sem.run_pure]
theorem build_array {P : Program} {ty e : TypeId} {n : Nat} {i ie : TypeInfo} {z : Value} (hi : P.info? ty = some i) (hz : i.zero = some z) (hu : P.underlying ty = some (.array n e)) (he : P.info? e = some ie) :
    ∀ (l : Array (Nat × Value)) (us : Array Value), Instr.fill (fun j => some (j * ie.size, ie.size)) z.cells l.toList = some us → ∀ w, (Instr.build ty l).run P w = .ok (.agg us) w := by
  intro l us h w
  simp only [Instr.build, Sem.run_bind, r_zero hi hz, Result.andThen_ok, r_und hu, r_size he, h, Sem.run_pure]
end Go.Rsf
