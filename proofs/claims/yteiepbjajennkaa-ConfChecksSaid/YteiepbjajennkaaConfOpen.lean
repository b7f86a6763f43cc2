/- A configuration that is handed in: what it holds. Conditions: none. -/
import Derived.Test.YteiepbjajennkaaConfChecks
import Derived.Deep.Slices
import Derived.Deep.Fields
import Derived.ChangeSame
import Derived.WalkKit
import Derived.ProofKit
import Derived.OpenShut
namespace Go.Proofs.Yteiepbjajennkaa.ConfHand
set_option linter.unusedVariables false
set_option linter.unusedSimpArgs false
open Go.Deep
open Go.RowKit Go.ChangeShapes Go.WideShapes Go.ChangeAt Go.Proofs.YteiepbjajennkaaW.PrintWords Go.Proofs.YteiepbjajennkaaW.PrintMore
/-- What a field holds: a number, or a Boolean. -/
inductive FK | n (k : IntKind) | b
def FK.Is : FK → Value → Prop
  | .n k, x => ∃ z, x = .int k z
  | .b, x => ∃ z, x = .bool z
def FK.Of (q : FK) (j : Nat) (f : Field) : Prop := f.offset = j ∧ Try.prog.cellsOf f.type = 1 ∧ match q with | .n k => Try.prog.underlying f.type = some (.int k) | .b => Try.prog.underlying f.type = some .bool
def intAt (W : World) (A : Option Addr) (sz i j : Nat) : Int := match A with
  | some ad => match W.cell? ⟨ad.block, ad.off + i * sz + j, none⟩ with | some (.int _ z) => z | _ => 0
  | none => 0
def boolAt (W : World) (A : Option Addr) (sz i j : Nat) : Bool := match A with
  | some ad => match W.cell? ⟨ad.block, ad.off + i * sz + j, none⟩ with | some (.bool z) => z | _ => false
  | none => false
def FK.at_ (q : FK) (W : World) (A : Option Addr) (sz i j : Nat) : Value := match q with | .n k => .int k (intAt W A sz i j) | .b => .bool (boolAt W A sz i j)
/-- A slice of structs of such fields. -/
def RecK (W : World) (A : Option Addr) (n : Nat) (ks : List FK) : Prop := Recs W A n ks.length fun i => (List.range ks.length).map fun j => (ks.getD j .b).at_ W A ks.length i j
section
variable {H : Type} {enc : TypeId × Value → H} {w : World} {base : Nat} {spare : Nat → Bool} {held : Bool}
theorem recs_kinds {A : Option Addr} {n : Nat} (ks : List FK) (h : 0 < n → ∃ B O, A = some ⟨B, O, none⟩ ∧ ∀ i, i < n → ∀ j, j < ks.length → ∃ x, w.cell? ⟨B, O + i * ks.length + j, none⟩ = some x ∧ (ks.getD j .b).Is x) : RecK w A n ks := by
  intro hn
  obtain ⟨B, O, rfl, hc⟩ := h hn
  refine ⟨B, O, rfl, fun i hi j v hv => ?_⟩
  have hj : j < ks.length := by
    have := (List.getElem?_eq_some_iff.1 hv).1
    simpa using this
  obtain ⟨x, hx, hk⟩ := hc i hi j hj
  rw [List.getElem?_map, List.getElem?_range hj] at hv
  have hv : (ks.getD j .b).at_ w (some ⟨B, O, none⟩) ks.length i j = v := by injection hv
  rw [hx, ← hv]
  congr 1
  cases hq : ks.getD j .b with
  | n k =>
    rw [hq] at hk
    obtain ⟨z, rfl⟩ := hk
    show _ = Value.int k (intAt w (some ⟨B, O, none⟩) ks.length i j)
    unfold intAt
    dsimp only
    rw [hx]
  | b =>
    rw [hq] at hk
    obtain ⟨z, rfl⟩ := hk
    show _ = Value.bool (boolAt w (some ⟨B, O, none⟩) ks.length i j)
    unfold boolAt
    dsimp only
    rw [hx]
theorem take_one {cs : List Value} {j : Nat} {v : Value} (h : (cs.drop j).take 1 = [v]) : cs[j]? = some v := by
  have := congrArg (·[0]?) h
  simpa [List.getElem?_take, List.getElem?_drop] using this
theorem kinds_fields {e : TypeId} {fs : Array Field} {m : Nat} {cs : List Value} {x : DataW H × List MemPlace} (he : Try.prog.underlying e = some (.struct fs)) (ks : List FK) (hfs : ∀ j, j < ks.length → ∃ f, fs[j]? = some f ∧ (ks.getD j .b).Of j f)
    (h : DataW.trod enc Try.prog w base spare held m e cs = some x) : ∀ j, j < ks.length → ∃ v, cs[j]? = some v ∧ (ks.getD j .b).Is v := by
  intro j hj
  obtain ⟨ys, k, _, _, _, hyl, hf⟩ := DataW.trod_struct he h
  obtain ⟨f, hf1, ho, hc, hu⟩ := hfs j hj
  have k0 := hf j f hf1
  rw [ho, hc] at k0
  have hlt : j < ys.length := by
    rw [hyl]
    have := (Array.getElem?_eq_some_iff.1 hf1).1
    simpa using this
  rw [List.getElem?_eq_getElem hlt] at k0
  cases hq : ks.getD j .b with
  | n kk =>
    rw [hq] at hu
    obtain ⟨g, hg, _, _⟩ := DataW.trod_int hu k0
    exact ⟨_, take_one hg, g, rfl⟩
  | b =>
    rw [hq] at hu
    obtain ⟨g, hg, _⟩ := DataW.trod_bool hu k0
    exact ⟨_, take_one hg, g, rfl⟩
theorem rec_add' (b o i j : Nat) : ((⟨b, o, none⟩ : Addr).add i).add j = ⟨b, o + i + j, none⟩ := by
  unfold Addr.add
  by_cases hi : i = 0
  · subst hi
    by_cases hj : j = 0
    · subst hj; rfl
    · rw [if_pos rfl, if_neg hj]; rfl
  · rw [if_neg hi]
    by_cases hj : j = 0
    · subst hj; rfl
    · rw [if_neg hj]
theorem open_kinds {t e : TypeId} {fs : Array Field} {fuel len cap : Nat} {A : Option Addr} {x : DataW H × List MemPlace} (ht : Try.prog.underlying t = some (.slice e)) (he : Try.prog.underlying e = some (.struct fs)) (ks : List FK) (hs : 0 < ks.length)
    (hfs : ∀ j, j < ks.length → ∃ f, fs[j]? = some f ∧ (ks.getD j .b).Of j f) (hC : Try.prog.cellsOf e = ks.length) (h : DataW.trod enc Try.prog w base spare held fuel t [.slice A len cap] = some x) : len ≤ cap ∧ cap ≤ maxLen ∧ RecK w A len ks := by
  rcases open_slice ht h with ⟨hcs, _⟩ | ⟨a, l, c, m, n, D, Pl, hcs, _, hl, hm, hmm, _, hi⟩
  · simp at hcs
    obtain ⟨rfl, rfl, rfl⟩ := hcs
    exact ⟨Nat.le_refl _, Nat.zero_le _, fun h => absurd h (Nat.lt_irrefl 0)⟩
  · simp at hcs
    obtain ⟨rfl, rfl, rfl⟩ := hcs
    have hlm : len ≤ m := by rw [hmm]; split <;> omega
    refine ⟨hl, hm, recs_kinds ks fun h0 => ?_⟩
    have one : ∀ i, i < len → ∀ j, j < ks.length → ∃ x, w.cell? ((a.add (i * ks.length)).add j) = some x ∧ (ks.getD j .b).Is x := by
      intro i hil j hj
      obtain ⟨cs', hc, ht'⟩ := hi i (by omega)
      rw [hC] at hc
      obtain ⟨_, hcl, hat⟩ := World.cells?_some hc
      obtain ⟨v, hv, hk⟩ := kinds_fields he ks hfs ht' j hj
      have h2 := hat j hj
      exact ⟨v, by rw [h2]; exact hv, hk⟩
    obtain ⟨b, o, sp⟩ := a
    obtain ⟨x0, c0, _⟩ := one 0 h0 0 hs
    cases sp with
    | some s =>
      rw [Nat.zero_mul] at c0
      have e0 : (((⟨b, o, some s⟩ : Addr).add 0).add 0) = ⟨b, o, some s⟩ := rfl
      rw [e0] at c0
      unfold World.cell? at c0
      split at c0
      · simp at c0
      · cases c0
    | none => exact ⟨b, o, rfl, fun i hi j hj => by have := one i hi j hj; rwa [rec_add'] at this⟩
theorem open_kinds' {t e : TypeId} {fs : Array Field} {fuel : Nat} {cs : List Value} {x : DataW H × List MemPlace} (ht : Try.prog.underlying t = some (.slice e)) (he : Try.prog.underlying e = some (.struct fs)) (ks : List FK) (hs : 0 < ks.length)
    (hfs : ∀ j, j < ks.length → ∃ f, fs[j]? = some f ∧ (ks.getD j .b).Of j f) (hC : Try.prog.cellsOf e = ks.length) (h : DataW.trod enc Try.prog w base spare held fuel t cs = some x) : ∃ s : SL, cs = [s.v] ∧ s.n ≤ s.c ∧ s.c ≤ maxLen ∧ RecK w s.A s.n ks := by
  rcases open_slice ht h with ⟨hcs, _⟩ | ⟨a, l, c, m, n, D, Pl, hcs, _⟩
  · have hcs : cs = [.slice none 0 0] := hcs
    subst hcs
    exact ⟨⟨none, 0, 0⟩, rfl, open_kinds ht he ks hs hfs hC h⟩
  · have hcs : cs = [.slice (some a) l c] := hcs
    subst hcs
    exact ⟨⟨some a, l, c⟩, rfl, open_kinds ht he ks hs hfs hC h⟩
def mkCF (W : World) (tic al : Int) (t s f d m p y : SL) : CF where
  tic := tic
  al := al
  t := t
  s := s
  f := f
  d := d
  m := m
  p := p
  y := y
  pri := fun i => intAt W t.A 2 i 0
  act := fun i => boolAt W t.A 2 i 1
  sb := fun i => boolAt W s.A 3 i 0
  cnt := fun i => intAt W s.A 3 i 1
  mst := fun i => intAt W s.A 3 i 2
  f0 := fun i => boolAt W f.A 4 i 0
  f1 := fun i => boolAt W f.A 4 i 1
  f2 := fun i => boolAt W f.A 4 i 2
  fb := fun i => intAt W f.A 4 i 3
  db := fun i => boolAt W d.A 2 i 0
  room := fun i => intAt W d.A 2 i 1
  attr := fun i => intAt W m.A 2 i 0
  ceil := fun i => intAt W m.A 2 i 1
  pb := fun i => boolAt W p.A 3 i 0
  blk := fun i => intAt W p.A 3 i 1
  siz := fun i => intAt W p.A 3 i 2
  per := fun i => intAt W y.A 4 i 0
  pha := fun i => intAt W y.A 4 i 1
  ys := fun i => boolAt W y.A 4 i 2
  yk := fun i => boolAt W y.A 4 i 3
theorem mk_in {W : World} {tic al : Int} {t s f d m p y : SL} (ht : RecK W t.A t.n [.n .i64, .b]) (hs : RecK W s.A s.n [.b, .n .i64, .n .i64]) (hf : RecK W f.A f.n [.b, .b, .b, .n .u32]) (hd : RecK W d.A d.n [.b, .n .i64]) (hm : RecK W m.A m.n [.n .i64, .n .i64]) (hp : RecK W p.A p.n [.b, .n .i64, .n .i64]) (hy : RecK W y.A y.n [.n .i64, .n .i64, .b, .b]) : CFin W (mkCF W tic al t s f d m p y) :=
  ⟨ht, hs, hf, hd, hm, hp, hy⟩
set_option maxRecDepth 100000 in
theorem open_conf {fuel : Nat} {cs : Array Value} {x : DataW H × List MemPlace} (hl : cs.size = 9) (h : DataW.trod enc Try.prog w base spare held fuel 58 (Value.cells (.agg cs)).toList = some x) : ∃ c : CF, cs = c.vals ∧ CFin w c ∧ c.y.n ≤ 9223372036854775807 := by
  obtain ⟨ys, k, _, _, _, hyl, hf⟩ := DataW.trod_struct Try.underlying58 h
  have hyl : ys.length = 9 := hyl
  have hg : ∀ j, j < 9 → ∃ y, ys[j]? = some y := fun j hj => ⟨_, List.getElem?_eq_getElem (by omega)⟩
  obtain ⟨y0, e0⟩ := hg 0 (by decide)
  have k0 := hf 0 _ rfl
  rw [e0] at k0
  obtain ⟨y1, e1⟩ := hg 1 (by decide)
  have k1 := hf 1 _ rfl
  rw [e1] at k1
  obtain ⟨y2, e2⟩ := hg 2 (by decide)
  have k2 := hf 2 _ rfl
  rw [e2] at k2
  obtain ⟨y3, e3⟩ := hg 3 (by decide)
  have k3 := hf 3 _ rfl
  rw [e3] at k3
  obtain ⟨y4, e4⟩ := hg 4 (by decide)
  have k4 := hf 4 _ rfl
  rw [e4] at k4
  obtain ⟨y5, e5⟩ := hg 5 (by decide)
  have k5 := hf 5 _ rfl
  rw [e5] at k5
  obtain ⟨y6, e6⟩ := hg 6 (by decide)
  have k6 := hf 6 _ rfl
  rw [e6] at k6
  obtain ⟨y7, e7⟩ := hg 7 (by decide)
  have k7 := hf 7 _ rfl
  rw [e7] at k7
  obtain ⟨y8, e8⟩ := hg 8 (by decide)
  have k8 := hf 8 _ rfl
  rw [e8] at k8
  obtain ⟨n0, q0, _, _⟩ := DataW.trod_int Try.underlying3 k0
  have q0 := take_one (show ((Value.cells (.agg cs)).toList.drop 0).take 1 = _ from q0)
  obtain ⟨n8, q8, _, _⟩ := DataW.trod_int Try.underlying3 k8
  have q8 := take_one (show ((Value.cells (.agg cs)).toList.drop 8).take 1 = _ from q8)
  obtain ⟨st, q1, hta, htb, htc⟩ := open_kinds' Try.underlying50 Try.underlying79 [.n .i64, .b] (by decide) (fun j hj => by
    match j, hj with
    | 0, _ => exact ⟨_, rfl, rfl, by kernel_rfl, (by kernel_rfl : Try.prog.underlying _ = some (.int .i64))⟩
    | 1, _ => exact ⟨_, rfl, rfl, by kernel_rfl, (by kernel_rfl : Try.prog.underlying _ = some .bool)⟩
    | j + 2, hj => exact absurd hj (by simp)) (by kernel_rfl) k1
  have q1 := take_one (show ((Value.cells (.agg cs)).toList.drop 1).take 1 = _ from q1)
  obtain ⟨ss, q2, hsa, hsb, hsc⟩ := open_kinds' Try.underlying51 Try.underlying85 [.b, .n .i64, .n .i64] (by decide) (fun j hj => by
    match j, hj with
    | 0, _ => exact ⟨_, rfl, rfl, by kernel_rfl, (by kernel_rfl : Try.prog.underlying _ = some .bool)⟩
    | 1, _ => exact ⟨_, rfl, rfl, by kernel_rfl, (by kernel_rfl : Try.prog.underlying _ = some (.int .i64))⟩
    | 2, _ => exact ⟨_, rfl, rfl, by kernel_rfl, (by kernel_rfl : Try.prog.underlying _ = some (.int .i64))⟩
    | j + 3, hj => exact absurd hj (by simp)) (by kernel_rfl) k2
  have q2 := take_one (show ((Value.cells (.agg cs)).toList.drop 2).take 1 = _ from q2)
  obtain ⟨sf, q3, hfa, hfb, hfc⟩ := open_kinds' Try.underlying52 Try.underlying95 [.b, .b, .b, .n .u32] (by decide) (fun j hj => by
    match j, hj with
    | 0, _ => exact ⟨_, rfl, rfl, by kernel_rfl, (by kernel_rfl : Try.prog.underlying _ = some .bool)⟩
    | 1, _ => exact ⟨_, rfl, rfl, by kernel_rfl, (by kernel_rfl : Try.prog.underlying _ = some .bool)⟩
    | 2, _ => exact ⟨_, rfl, rfl, by kernel_rfl, (by kernel_rfl : Try.prog.underlying _ = some .bool)⟩
    | 3, _ => exact ⟨_, rfl, rfl, by kernel_rfl, (by kernel_rfl : Try.prog.underlying _ = some (.int .u32))⟩
    | j + 4, hj => exact absurd hj (by simp)) (by kernel_rfl) k3
  have q3 := take_one (show ((Value.cells (.agg cs)).toList.drop 3).take 1 = _ from q3)
  obtain ⟨sd, q4, hda, hdb, hdc⟩ := open_kinds' Try.underlying53 Try.underlying87 [.b, .n .i64] (by decide) (fun j hj => by
    match j, hj with
    | 0, _ => exact ⟨_, rfl, rfl, by kernel_rfl, (by kernel_rfl : Try.prog.underlying _ = some .bool)⟩
    | 1, _ => exact ⟨_, rfl, rfl, by kernel_rfl, (by kernel_rfl : Try.prog.underlying _ = some (.int .i64))⟩
    | j + 2, hj => exact absurd hj (by simp)) (by kernel_rfl) k4
  have q4 := take_one (show ((Value.cells (.agg cs)).toList.drop 4).take 1 = _ from q4)
  obtain ⟨sm, q5, hma, hmb, hmc⟩ := open_kinds' Try.underlying54 Try.underlying89 [.n .i64, .n .i64] (by decide) (fun j hj => by
    match j, hj with
    | 0, _ => exact ⟨_, rfl, rfl, by kernel_rfl, (by kernel_rfl : Try.prog.underlying _ = some (.int .i64))⟩
    | 1, _ => exact ⟨_, rfl, rfl, by kernel_rfl, (by kernel_rfl : Try.prog.underlying _ = some (.int .i64))⟩
    | j + 2, hj => exact absurd hj (by simp)) (by kernel_rfl) k5
  have q5 := take_one (show ((Value.cells (.agg cs)).toList.drop 5).take 1 = _ from q5)
  obtain ⟨sp, q6, hpa, hpb, hpc⟩ := open_kinds' Try.underlying55 Try.underlying81 [.b, .n .i64, .n .i64] (by decide) (fun j hj => by
    match j, hj with
    | 0, _ => exact ⟨_, rfl, rfl, by kernel_rfl, (by kernel_rfl : Try.prog.underlying _ = some .bool)⟩
    | 1, _ => exact ⟨_, rfl, rfl, by kernel_rfl, (by kernel_rfl : Try.prog.underlying _ = some (.int .i64))⟩
    | 2, _ => exact ⟨_, rfl, rfl, by kernel_rfl, (by kernel_rfl : Try.prog.underlying _ = some (.int .i64))⟩
    | j + 3, hj => exact absurd hj (by simp)) (by kernel_rfl) k6
  have q6 := take_one (show ((Value.cells (.agg cs)).toList.drop 6).take 1 = _ from q6)
  obtain ⟨sy, q7, hya, hyb, hyc⟩ := open_kinds' Try.underlying56 Try.underlying91 [.n .i64, .n .i64, .b, .b] (by decide) (fun j hj => by
    match j, hj with
    | 0, _ => exact ⟨_, rfl, rfl, by kernel_rfl, (by kernel_rfl : Try.prog.underlying _ = some (.int .i64))⟩
    | 1, _ => exact ⟨_, rfl, rfl, by kernel_rfl, (by kernel_rfl : Try.prog.underlying _ = some (.int .i64))⟩
    | 2, _ => exact ⟨_, rfl, rfl, by kernel_rfl, (by kernel_rfl : Try.prog.underlying _ = some .bool)⟩
    | 3, _ => exact ⟨_, rfl, rfl, by kernel_rfl, (by kernel_rfl : Try.prog.underlying _ = some .bool)⟩
    | j + 4, hj => exact absurd hj (by simp)) (by kernel_rfl) k7
  have q7 := take_one (show ((Value.cells (.agg cs)).toList.drop 7).take 1 = _ from q7)
  refine ⟨mkCF w n0 n8 st ss sf sd sm sp sy, ?_, mk_in htc hsc hfc hdc hmc hpc hyc, ?_⟩
  · have hcl : (Value.cells (.agg cs)) = cs := rfl
    rw [hcl] at q0 q1 q2 q3 q4 q5 q6 q7 q8
    apply Array.ext_getElem?
    intro j
    by_cases hj : j < 9
    · have hj' : j = 0 ∨ j = 1 ∨ j = 2 ∨ j = 3 ∨ j = 4 ∨ j = 5 ∨ j = 6 ∨ j = 7 ∨ j = 8 := by omega
      rw [← Array.getElem?_toList]
      rcases hj' with rfl | rfl | rfl | rfl | rfl | rfl | rfl | rfl | rfl
      · exact q0
      · exact q1
      · exact q2
      · exact q3
      · exact q4
      · exact q5
      · exact q6
      · exact q7
      · exact q8
    · rw [Array.getElem?_eq_none (by omega), Array.getElem?_eq_none (show (CF.vals _).size ≤ j by show 9 ≤ j; omega)]
  · have : sy.c ≤ maxLen := hyb
    unfold maxLen at this
    show sy.n ≤ _
    omega
end
theorem checks_walk (c : CF) (W : World) (h : CFin W c) (hl : c.y.n ≤ 9223372036854775807) : Calls Try.prog 9 #[.agg c.vals] W fun e w' => e = .returned (.bool true) ∧ Below W.heap.size W w' := checks_in h hl
end Go.Proofs.Yteiepbjajennkaa.ConfHand
