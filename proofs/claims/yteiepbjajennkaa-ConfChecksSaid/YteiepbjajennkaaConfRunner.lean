/- A configuration in memory; how its parts are run. Conditions: none. -/
import Derived.Test.YteiepbjajennkaaConfRun
namespace Go.Proofs.Yteiepbjajennkaa.ConfHand
set_option linter.unusedVariables false
set_option linter.unusedSimpArgs false
open Go.RowKit Go.Proofs.YteiepbjajennkaaW.PrintWords Go.Proofs.YteiepbjajennkaaW.PrintMore
/-- A slice: where, how many, how many there may be. -/
structure SL where
  A : Option Addr
  n : Nat
  c : Nat
def SL.v (s : SL) : Value := .slice s.A s.n s.c
structure CF where
  tic : Int
  al : Int
  t : SL
  s : SL
  f : SL
  d : SL
  m : SL
  p : SL
  y : SL
  pri : Nat → Int
  act : Nat → Bool
  sb : Nat → Bool
  cnt : Nat → Int
  mst : Nat → Int
  f0 : Nat → Bool
  f1 : Nat → Bool
  f2 : Nat → Bool
  fb : Nat → Int
  db : Nat → Bool
  room : Nat → Int
  attr : Nat → Int
  ceil : Nat → Int
  pb : Nat → Bool
  blk : Nat → Int
  siz : Nat → Int
  per : Nat → Int
  pha : Nat → Int
  ys : Nat → Bool
  yk : Nat → Bool
def CF.vals (c : CF) : Array Value := #[.int .i64 c.tic, .slice c.t.A c.t.n c.t.c, .slice c.s.A c.s.n c.s.c, .slice c.f.A c.f.n c.f.c, .slice c.d.A c.d.n c.d.c, .slice c.m.A c.m.n c.m.c, .slice c.p.A c.p.n c.p.c, .slice c.y.A c.y.n c.y.c, .int .i64 c.al]
/-- What the slices hold. -/
structure CFin (W : World) (c : CF) : Prop where
  t : Recs W c.t.A c.t.n 2 fun i => [.int .i64 (c.pri i), .bool (c.act i)]
  s : Recs W c.s.A c.s.n 3 fun i => [.bool (c.sb i), .int .i64 (c.cnt i), .int .i64 (c.mst i)]
  f : Recs W c.f.A c.f.n 4 fun i => [.bool (c.f0 i), .bool (c.f1 i), .bool (c.f2 i), .int .u32 (c.fb i)]
  d : Recs W c.d.A c.d.n 2 fun i => [.bool (c.db i), .int .i64 (c.room i)]
  m : Recs W c.m.A c.m.n 2 fun i => [.int .i64 (c.attr i), .int .i64 (c.ceil i)]
  p : Recs W c.p.A c.p.n 3 fun i => [.bool (c.pb i), .int .i64 (c.blk i), .int .i64 (c.siz i)]
  y : Recs W c.y.A c.y.n 4 fun i => [.int .i64 (c.per i), .int .i64 (c.pha i), .bool (c.ys i), .bool (c.yk i)]
/-- How long the slices are at most. -/
structure CFlen (c : CF) : Prop where
  t : c.t.n ≤ c.t.c ∧ c.t.c ≤ 9223372036854775807
  s : c.s.n ≤ c.s.c ∧ c.s.c ≤ 9223372036854775807
  f : c.f.n ≤ c.f.c ∧ c.f.c ≤ 9223372036854775807
  d : c.d.n ≤ c.d.c ∧ c.d.c ≤ 9223372036854775807
  m : c.m.n ≤ c.m.c ∧ c.m.c ≤ 9223372036854775807
  p : c.p.n ≤ c.p.c ∧ c.p.c ≤ 9223372036854775807
  y : c.y.n ≤ c.y.c ∧ c.y.c ≤ 9223372036854775807
theorem CFin.below {W w' : World} {c : CF} (h : CFin W c) (b : Below W.heap.size W w') : CFin w' c := ⟨h.t.below b, h.s.below b, h.f.below b, h.d.below b, h.m.below b, h.p.below b, h.y.below b⟩
/-- Where the pools begin. -/
def atP (blk siz : Nat → Int) : Nat → Int
  | 0 => 0
  | i + 1 => nx (atP blk siz i) (blk i) (siz i)
def bTask : ByteArray := ⟨#[116, 97, 115, 107]⟩
def CF.parts (c : CF) : List PS := [⟨⟨#[116, 97, 115, 107]⟩, ⟨#[116, 97, 115, 107, 115]⟩, c.t.n, 1, 16, fun i => taskC (c.pri i)⟩,
  ⟨⟨#[115, 101, 109]⟩, ⟨#[115, 101, 109]⟩, c.s.n, 0, 8, fun i => semC (c.cnt i) (c.mst i)⟩,
  ⟨⟨#[102, 108, 97, 103]⟩, ⟨#[102, 108, 97, 103]⟩, c.f.n, 0, 8, fun _ => 0⟩,
  ⟨⟨#[100, 97, 116, 97]⟩, ⟨#[100, 97, 116, 97]⟩, c.d.n, 0, 8, fun i => datC (c.room i)⟩,
  ⟨⟨#[109, 116, 120]⟩, ⟨#[109, 116, 120]⟩, c.m.n, 0, 8, fun i => mtxC (c.attr i) (c.ceil i)⟩,
  ⟨⟨#[112, 111, 111, 108]⟩, ⟨#[112, 111, 111, 108]⟩, c.p.n, 0, 8, fun i => poolC (atP c.blk c.siz i) (c.blk i) (c.siz i)⟩,
  ⟨⟨#[99, 121, 99]⟩, ⟨#[99, 121, 99]⟩, c.y.n, 0, 8, fun i => cycC (c.per i) (c.pha i)⟩,
  ⟨⟨#[97, 108, 97, 114, 109]⟩, ⟨#[97, 108, 97, 114, 109]⟩, c.al, 0, 8, fun _ => 0⟩]
def fidOf (k : Nat) : Nat := [51, 53, 55, 56, 58, 60, 63, 55].getD k 0
def capsOf (b a7 h5 : Nat) (k : Nat) : Array Value := [#[.pointer (some ⟨b, 0, none⟩)], #[.pointer (some ⟨b, 0, none⟩)], #[], #[.pointer (some ⟨b, 0, none⟩)], #[.pointer (some ⟨b, 0, none⟩)], #[.pointer (some ⟨a7, 0, none⟩), .pointer (some ⟨b, 0, none⟩)], #[.pointer (some ⟨b, 0, none⟩), .pointer (some ⟨h5, 0, none⟩)], #[]].getD k #[]
theorem nx_good {at_ blk siz : Int} (a0 : 0 ≤ at_) (a1 : at_ ≤ 65536) (a2 : at_ % 4 = 0) (h : poolC at_ blk siz = 0) : 0 ≤ nx at_ blk siz ∧ nx at_ blk siz ≤ 65536 ∧ nx at_ blk siz % 4 = 0 ∧ nx at_ blk siz = at_ + blk * al siz := by
  unfold poolC at h
  split at h
  · omega
  · rename_i hn
    have h0 : ¬ blk < 1 := fun e => hn (.inl e)
    have h1 : ¬ 256 < blk := fun e => hn (.inr (.inl e))
    have h2 : ¬ siz < 1 := fun e => hn (.inr (.inr (.inl e)))
    have h3 : ¬ 4096 < siz := fun e => hn (.inr (.inr (.inr (.inl e))))
    have h4 : ¬ 65536 - at_ < blk * al siz := fun e => hn (.inr (.inr (.inr (.inr e))))
    have ha := al_bd siz (by omega)
    have hp := (mul_bd (a := blk) (b := al siz) (m := 256) (n := 4099) (by omega) (by omega) (by omega) (by omega)).1
    have hm : (blk * al siz) % 4 = 0 := by rw [Int.mul_emod, ha.2.2]; simp
    have e : nx at_ blk siz = at_ + blk * al siz := by unfold nx; rw [if_neg (by omega)]
    rw [e]
    exact ⟨by omega, by omega, by omega, rfl⟩
section
variable (c : CF) (Wf : World) (b a7 h5 g kk : Nat)
def XX (i : Nat) : Prop := i = a7 ∨ i = g
/-- Between the parts. -/
structure Sk (k : Nat) (W : World) : Prop where
  fr : Fr Wf.heap.size (XX a7 g) Wf W
  at_ : ∃ z, W.cell? ⟨a7, 0, none⟩ = some (.int .i64 z) ∧ (k ≤ 5 → z = 0)
  fz : W.frozen? ⟨a7, 0, none⟩ = false
  hd : k ≤ 6 → ∀ C, Wf.heap.size ≤ C → Hd C W g kk 0
/-- In a part, ahead of the one numbered i. -/
structure Si (B k i : Nat) (W : World) : Prop where
  fr : Fr Wf.heap.size (XX a7 g) Wf W
  b0 : Wf.heap.size ≤ B
  b1 : B ≤ W.heap.size
  at_ : ∃ z, W.cell? ⟨a7, 0, none⟩ = some (.int .i64 z) ∧ (k ≤ 4 → z = 0) ∧ (k = 5 → z = atP c.blk c.siz i ∧ 0 ≤ z ∧ z ≤ 65536 ∧ z % 4 = 0)
  fz : W.frozen? ⟨a7, 0, none⟩ = false
  hd : k ≤ 5 → ∀ C, Wf.heap.size ≤ C → Hd C W g kk 0
  hc : k = 6 → Hd B W g kk i
/-- What is there when the parts are run. -/
structure Env : Prop where
  box : ∀ (j : Nat) v, c.vals[j]? = some v → Wf.cell? ⟨b, j, none⟩ = some v
  dat : CFin Wf c
  far : ∀ s : SL, s = c.t ∨ s = c.s ∨ s = c.d ∨ s = c.m ∨ s = c.p ∨ s = c.y → ∀ ad, s.A = some ad → 0 < s.n → ad.block ≠ a7 ∧ ad.block ≠ g
  hh : Wf.cell? ⟨h5, 0, none⟩ = some (.pointer (some ⟨g, 0, none⟩))
  ba : b ≠ a7 ∧ b ≠ g ∧ h5 ≠ a7 ∧ h5 ≠ g ∧ a7 ≠ g ∧ kk ≠ a7 ∧ kk ≠ g
  at_ : Wf.cell? ⟨a7, 0, none⟩ = some (.int .i64 0)
  fz : Wf.frozen? ⟨a7, 0, none⟩ = false
  hd : ∀ C, Wf.heap.size ≤ C → Hd C Wf g kk 0
variable {c Wf b a7 h5 g kk}
theorem Si.below {B k i : Nat} {W w' : World} (h : Si c Wf a7 g kk B k i W) (q : Below W.heap.size W w') : Si c Wf a7 g kk B k i w' := by
  obtain ⟨z, e1, e2, e3⟩ := h.at_
  have hl := World.block_lt_of_cell? W _ e1
  exact ⟨h.fr.trans (Fr.of_below q h.fr.size), h.b0, Nat.le_trans h.b1 q.size, ⟨z, (q.cell (p := ⟨a7, 0, none⟩) hl).trans e1, e2, e3⟩, (World.frozen?_of_block (a := ⟨a7, 0, none⟩) (q.block a7 hl)).trans h.fz, fun hk C hC => (h.hd hk C hC).below q, fun hk => (h.hc hk).below q⟩
theorem Si.next {B k i : Nat} {W : World} (h : Si c Wf a7 g kk B k i W) (h5' : k ≠ 5) (h6 : k ≠ 6) : Si c Wf a7 g kk B k (i + 1) W := by
  obtain ⟨z, e1, e2, e3⟩ := h.at_
  exact ⟨h.fr, h.b0, h.b1, ⟨z, e1, e2, fun e => absurd e h5'⟩, h.fz, h.hd, fun e => absurd e h6⟩
theorem Sk.below {k : Nat} {W w' : World} (h : Sk Wf a7 g kk k W) (q : Below W.heap.size W w') : Sk Wf a7 g kk k w' := by
  obtain ⟨z, e1, e2⟩ := h.at_
  have hl := World.block_lt_of_cell? W _ e1
  exact ⟨h.fr.trans (Fr.of_below q h.fr.size), ⟨z, (q.cell (p := ⟨a7, 0, none⟩) hl).trans e1, e2⟩, (World.frozen?_of_block (a := ⟨a7, 0, none⟩) (q.block a7 hl)).trans h.fz, fun hk C hC => (h.hd hk C hC).below q⟩
theorem Env.boxAt (E : Env c Wf b a7 h5 g kk) {B k i : Nat} {W : World} (h : Si c Wf a7 g kk B k i W) (j : Nat) (v : Value) (hv : c.vals[j]? = some v) : W.cell? ⟨b, j, none⟩ = some v := by
  have e := E.box j v hv
  exact (h.fr.cell (p := ⟨b, j, none⟩) (World.block_lt_of_cell? _ _ e) (by rintro (q | q); exact E.ba.1 q; exact E.ba.2.1 q)).trans e
theorem Env.recsAt (E : Env c Wf b a7 h5 g kk) {B k i : Nat} {W : World} (h : Si c Wf a7 g kk B k i W) (s : SL) (hs : s = c.t ∨ s = c.s ∨ s = c.d ∨ s = c.m ∨ s = c.p ∨ s = c.y) {sz : Nat} {f : Nat → List Value} (hr : Recs Wf s.A s.n (sz + 1) f) (hf : ∀ i, ∃ v, (f i)[0]? = some v) : Recs W s.A s.n (sz + 1) f := by
  refine hr.fr h.fr fun ad e hn => ⟨?_, ?_⟩
  · obtain ⟨C, O, e', hc⟩ := hr hn
    obtain ⟨v, hv⟩ := hf 0
    have := World.block_lt_of_cell? _ _ (hc 0 hn 0 v hv)
    rw [e] at e'; cases e'
    exact this
  · obtain ⟨h1, h2⟩ := E.far s hs ad e hn
    rintro (q | q)
    · exact h1 q
    · exact h2 q
theorem ret_step {B k i : Nat} {W : World} {f : Nat} {args : Array Value} {r : Int} (h : Si c Wf a7 g kk B k i W) (k5 : k ≠ 5) (k6 : k ≠ 6) (hc : Calls Try.prog f args W (RetC r W)) :
    Calls Try.prog f args W fun e w' => e = .returned (.int .i64 r) ∧ (r = 0 → Si c Wf a7 g kk B k (i + 1) w') ∧ Fr B (XX a7 g) W w' :=
  hc.mono fun e w' ⟨e1, e2⟩ => ⟨e1, fun _ => (h.below e2).next k5 k6, Fr.of_below e2 h.b1⟩
end
end Go.Proofs.Yteiepbjajennkaa.ConfHand
