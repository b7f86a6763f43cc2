/- 'detenttop.TopFlags' answers true, whatever the tasks want and whatever bits are set. Conditions: the table holds what the program's text lays. -/
import Derived.Test.YtjodpodmeobciaaGreatDoorUNO
import Derived.Test.YtjodpodmeobciaaGreatDoorWTopFlags0
import Derived.Test.YtjodpodmeobciaaGreatDoorWTopFlags1
import Derived.Test.YtjodpodmeobciaaGreatDoorWTopFlags2
import Derived.Test.YtjodpodmeobciaaGreatDoorWTopFlags3
import Derived.Test.YtjodpodmeobciaaGreatDoorWTopFlags4
import Derived.Test.YtjodpodmeobciaaGreatDoorWTopFlags5
import Derived.Test.YtjodpodmeobciaaGreatDoorWTopFlags6
import Derived.Test.YtjodpodmeobciaaGreatDoorWTopFlags7
import Derived.Test.YtjodpodmeobciaaGreatDoorWTopFlags8
import Derived.Test.YtjodpodmeobciaaGreatDoorWTopFlags9
import Derived.Test.YtjodpodmeobciaaGreatDoorWTopFlags10
namespace Go.Proofs.YtjodpodmeobciaaGreatDoor.topFlags
open Go.Rsf Go.RowKit
set_option maxRecDepth 1000000
theorem long : callN xs 400 100 10 k10 [.inS (.lin .i64 (.ofNat 1) 1 (.ofNat 0)) .u8 (.all 2), .v (.one (.lin .u8 (.ofNat 1) 0 (.ofNat 0)))] (st0 tab [⟨0, 255, 0⟩, ⟨16, 9223372036854775807, 0⟩]) isT = true := by kernel_rfl
theorem grpR_all {L : LitS} {j0 d : Nat} (h : grpR L j0 d = true) {j u : Nat} (h1 : j0 ≤ j) (h2 : j < j0 + d) (hu : u ≤ j) : runR L (tR0 L) (sR0 L) j u = true := by
  unfold grpR at h
  rw [litR_eq] at h
  have h3 := natK_true (allK_true h (j - j0) (by omega))
  have e : j0 + (j - j0) = j := by omega
  rw [e] at h3
  exact allK_true h3 u (by omega)

theorem runs0 : RunsOK lit0 where
  R := fun j u hj hu => grpR_all r0_0 (Nat.zero_le _) (by have : j ≤ 0 := hj; omega) hu
  F := fun m hm => by
    have hm : m ≤ 0 := hm
    match m, hm with
    | 0, _ => exact f0_0
    | m + 1, hm => exact absurd hm (by omega)
  E := fun m hm => by
    have hm : m ≤ 0 := hm
    match m, hm with
    | 0, _ => exact e0_0
    | m + 1, hm => exact absurd hm (by omega)
  C := c0
  P := p0
theorem runs1 : RunsOK lit1 where
  R := fun j u hj hu => grpR_all r1_0 (Nat.zero_le _) (by have : j ≤ 1 := hj; omega) hu
  F := fun m hm => by
    have hm : m ≤ 1 := hm
    match m, hm with
    | 0, _ => exact f1_0
    | 1, _ => exact f1_1
    | m + 2, hm => exact absurd hm (by omega)
  E := fun m hm => by
    have hm : m ≤ 1 := hm
    match m, hm with
    | 0, _ => exact e1_0
    | 1, _ => exact e1_1
    | m + 2, hm => exact absurd hm (by omega)
  C := c1
  P := p1
theorem runs2 : RunsOK lit2 where
  R := fun j u hj hu => grpR_all r2_0 (Nat.zero_le _) (by have : j ≤ 2 := hj; omega) hu
  F := fun m hm => by
    have hm : m ≤ 2 := hm
    match m, hm with
    | 0, _ => exact f2_0
    | 1, _ => exact f2_1
    | 2, _ => exact f2_2
    | m + 3, hm => exact absurd hm (by omega)
  E := fun m hm => by
    have hm : m ≤ 2 := hm
    match m, hm with
    | 0, _ => exact e2_0
    | 1, _ => exact e2_1
    | 2, _ => exact e2_2
    | m + 3, hm => exact absurd hm (by omega)
  C := c2
  P := p2
theorem runs3 : RunsOK lit3 where
  R := fun j u hj hu => grpR_all r3_0 (Nat.zero_le _) (by have : j ≤ 3 := hj; omega) hu
  F := fun m hm => by
    have hm : m ≤ 3 := hm
    match m, hm with
    | 0, _ => exact f3_0
    | 1, _ => exact f3_1
    | 2, _ => exact f3_2
    | 3, _ => exact f3_3
    | m + 4, hm => exact absurd hm (by omega)
  E := fun m hm => by
    have hm : m ≤ 3 := hm
    match m, hm with
    | 0, _ => exact e3_0
    | 1, _ => exact e3_1
    | 2, _ => exact e3_2
    | 3, _ => exact e3_3
    | m + 4, hm => exact absurd hm (by omega)
  C := c3
  P := p3
theorem runs4 : RunsOK lit4 where
  R := fun j u hj hu => grpR_all r4_0 (Nat.zero_le _) (by have : j ≤ 4 := hj; omega) hu
  F := fun m hm => by
    have hm : m ≤ 4 := hm
    match m, hm with
    | 0, _ => exact f4_0
    | 1, _ => exact f4_1
    | 2, _ => exact f4_2
    | 3, _ => exact f4_3
    | 4, _ => exact f4_4
    | m + 5, hm => exact absurd hm (by omega)
  E := fun m hm => by
    have hm : m ≤ 4 := hm
    match m, hm with
    | 0, _ => exact e4_0
    | 1, _ => exact e4_1
    | 2, _ => exact e4_2
    | 3, _ => exact e4_3
    | 4, _ => exact e4_4
    | m + 5, hm => exact absurd hm (by omega)
  C := c4
  P := p4
theorem runs5 : RunsOK lit5 where
  R := fun j u hj hu => grpR_all r5_0 (Nat.zero_le _) (by have : j ≤ 5 := hj; omega) hu
  F := fun m hm => by
    have hm : m ≤ 5 := hm
    match m, hm with
    | 0, _ => exact f5_0
    | 1, _ => exact f5_1
    | 2, _ => exact f5_2
    | 3, _ => exact f5_3
    | 4, _ => exact f5_4
    | 5, _ => exact f5_5
    | m + 6, hm => exact absurd hm (by omega)
  E := fun m hm => by
    have hm : m ≤ 5 := hm
    match m, hm with
    | 0, _ => exact e5_0
    | 1, _ => exact e5_1
    | 2, _ => exact e5_2
    | 3, _ => exact e5_3
    | 4, _ => exact e5_4
    | 5, _ => exact e5_5
    | m + 6, hm => exact absurd hm (by omega)
  C := c5
  P := p5
theorem runs6 : RunsOK lit6 where
  R := fun j u hj hu => grpR_all r6_0 (Nat.zero_le _) (by have : j ≤ 6 := hj; omega) hu
  F := fun m hm => by
    have hm : m ≤ 6 := hm
    match m, hm with
    | 0, _ => exact f6_0
    | 1, _ => exact f6_1
    | 2, _ => exact f6_2
    | 3, _ => exact f6_3
    | 4, _ => exact f6_4
    | 5, _ => exact f6_5
    | 6, _ => exact f6_6
    | m + 7, hm => exact absurd hm (by omega)
  E := fun m hm => by
    have hm : m ≤ 6 := hm
    match m, hm with
    | 0, _ => exact e6_0
    | 1, _ => exact e6_1
    | 2, _ => exact e6_2
    | 3, _ => exact e6_3
    | 4, _ => exact e6_4
    | 5, _ => exact e6_5
    | 6, _ => exact e6_6
    | m + 7, hm => exact absurd hm (by omega)
  C := c6
  P := p6
theorem runs7 : RunsOK lit7 where
  R := fun j u hj hu => grpR_all r7_0 (Nat.zero_le _) (by have : j ≤ 7 := hj; omega) hu
  F := fun m hm => by
    have hm : m ≤ 7 := hm
    match m, hm with
    | 0, _ => exact f7_0
    | 1, _ => exact f7_1
    | 2, _ => exact f7_2
    | 3, _ => exact f7_3
    | 4, _ => exact f7_4
    | 5, _ => exact f7_5
    | 6, _ => exact f7_6
    | 7, _ => exact f7_7
    | m + 8, hm => exact absurd hm (by omega)
  E := fun m hm => by
    have hm : m ≤ 7 := hm
    match m, hm with
    | 0, _ => exact e7_0
    | 1, _ => exact e7_1
    | 2, _ => exact e7_2
    | 3, _ => exact e7_3
    | 4, _ => exact e7_4
    | 5, _ => exact e7_5
    | 6, _ => exact e7_6
    | 7, _ => exact e7_7
    | m + 8, hm => exact absurd hm (by omega)
  C := c7
  P := p7
theorem runs8 : RunsOK lit8 where
  R := fun j u hj hu => by
    have hj : j ≤ 8 := hj
    by_cases h : j < 8
    · exact grpR_all r8_0 (Nat.zero_le _) (by omega) hu
    · exact grpR_all r8_8 (by omega) (by omega) hu
  F := fun m hm => by
    have hm : m ≤ 8 := hm
    match m, hm with
    | 0, _ => exact f8_0
    | 1, _ => exact f8_1
    | 2, _ => exact f8_2
    | 3, _ => exact f8_3
    | 4, _ => exact f8_4
    | 5, _ => exact f8_5
    | 6, _ => exact f8_6
    | 7, _ => exact f8_7
    | 8, _ => exact f8_8
    | m + 9, hm => exact absurd hm (by omega)
  E := fun m hm => by
    have hm : m ≤ 8 := hm
    match m, hm with
    | 0, _ => exact e8_0
    | 1, _ => exact e8_1
    | 2, _ => exact e8_2
    | 3, _ => exact e8_3
    | 4, _ => exact e8_4
    | 5, _ => exact e8_5
    | 6, _ => exact e8_6
    | 7, _ => exact e8_7
    | 8, _ => exact e8_8
    | m + 9, hm => exact absurd hm (by omega)
  C := c8
  P := p8
theorem runs9 : RunsOK lit9 where
  R := fun j u hj hu => by
    have hj : j ≤ 9 := hj
    by_cases h : j < 8
    · exact grpR_all r9_0 (Nat.zero_le _) (by omega) hu
    · exact grpR_all r9_8 (by omega) (by omega) hu
  F := fun m hm => by
    have hm : m ≤ 9 := hm
    match m, hm with
    | 0, _ => exact f9_0
    | 1, _ => exact f9_1
    | 2, _ => exact f9_2
    | 3, _ => exact f9_3
    | 4, _ => exact f9_4
    | 5, _ => exact f9_5
    | 6, _ => exact f9_6
    | 7, _ => exact f9_7
    | 8, _ => exact f9_8
    | 9, _ => exact f9_9
    | m + 10, hm => exact absurd hm (by omega)
  E := fun m hm => by
    have hm : m ≤ 9 := hm
    match m, hm with
    | 0, _ => exact e9_0
    | 1, _ => exact e9_1
    | 2, _ => exact e9_2
    | 3, _ => exact e9_3
    | 4, _ => exact e9_4
    | 5, _ => exact e9_5
    | 6, _ => exact e9_6
    | 7, _ => exact e9_7
    | 8, _ => exact e9_8
    | 9, _ => exact e9_9
    | m + 10, hm => exact absurd hm (by omega)
  C := c9
  P := p9
theorem runs10 : RunsOK lit10 where
  R := fun j u hj hu => by
    have hj : j ≤ 10 := hj
    by_cases h : j < 8
    · exact grpR_all r10_0 (Nat.zero_le _) (by omega) hu
    · exact grpR_all r10_8 (by omega) (by omega) hu
  F := fun m hm => by
    have hm : m ≤ 10 := hm
    match m, hm with
    | 0, _ => exact f10_0
    | 1, _ => exact f10_1
    | 2, _ => exact f10_2
    | 3, _ => exact f10_3
    | 4, _ => exact f10_4
    | 5, _ => exact f10_5
    | 6, _ => exact f10_6
    | 7, _ => exact f10_7
    | 8, _ => exact f10_8
    | 9, _ => exact f10_9
    | 10, _ => exact f10_10
    | m + 11, hm => exact absurd hm (by omega)
  E := fun m hm => by
    have hm : m ≤ 10 := hm
    match m, hm with
    | 0, _ => exact e10_0
    | 1, _ => exact e10_1
    | 2, _ => exact e10_2
    | 3, _ => exact e10_3
    | 4, _ => exact e10_4
    | 5, _ => exact e10_5
    | 6, _ => exact e10_6
    | 7, _ => exact e10_7
    | 8, _ => exact e10_8
    | 9, _ => exact e10_9
    | 10, _ => exact e10_10
    | m + 11, hm => exact absurd hm (by omega)
  C := c10
  P := p10
theorem runs11 : RunsOK lit11 where
  R := fun j u hj hu => by
    have hj : j ≤ 11 := hj
    by_cases h : j < 8
    · exact grpR_all r11_0 (Nat.zero_le _) (by omega) hu
    · exact grpR_all r11_8 (by omega) (by omega) hu
  F := fun m hm => by
    have hm : m ≤ 11 := hm
    match m, hm with
    | 0, _ => exact f11_0
    | 1, _ => exact f11_1
    | 2, _ => exact f11_2
    | 3, _ => exact f11_3
    | 4, _ => exact f11_4
    | 5, _ => exact f11_5
    | 6, _ => exact f11_6
    | 7, _ => exact f11_7
    | 8, _ => exact f11_8
    | 9, _ => exact f11_9
    | 10, _ => exact f11_10
    | 11, _ => exact f11_11
    | m + 12, hm => exact absurd hm (by omega)
  E := fun m hm => by
    have hm : m ≤ 11 := hm
    match m, hm with
    | 0, _ => exact e11_0
    | 1, _ => exact e11_1
    | 2, _ => exact e11_2
    | 3, _ => exact e11_3
    | 4, _ => exact e11_4
    | 5, _ => exact e11_5
    | 6, _ => exact e11_6
    | 7, _ => exact e11_7
    | 8, _ => exact e11_8
    | 9, _ => exact e11_9
    | 10, _ => exact e11_10
    | 11, _ => exact e11_11
    | m + 12, hm => exact absurd hm (by omega)
  C := c11
  P := p11
theorem runs12 : RunsOK lit12 where
  R := fun j u hj hu => by
    have hj : j ≤ 12 := hj
    by_cases h : j < 8
    · exact grpR_all r12_0 (Nat.zero_le _) (by omega) hu
    · exact grpR_all r12_8 (by omega) (by omega) hu
  F := fun m hm => by
    have hm : m ≤ 12 := hm
    match m, hm with
    | 0, _ => exact f12_0
    | 1, _ => exact f12_1
    | 2, _ => exact f12_2
    | 3, _ => exact f12_3
    | 4, _ => exact f12_4
    | 5, _ => exact f12_5
    | 6, _ => exact f12_6
    | 7, _ => exact f12_7
    | 8, _ => exact f12_8
    | 9, _ => exact f12_9
    | 10, _ => exact f12_10
    | 11, _ => exact f12_11
    | 12, _ => exact f12_12
    | m + 13, hm => exact absurd hm (by omega)
  E := fun m hm => by
    have hm : m ≤ 12 := hm
    match m, hm with
    | 0, _ => exact e12_0
    | 1, _ => exact e12_1
    | 2, _ => exact e12_2
    | 3, _ => exact e12_3
    | 4, _ => exact e12_4
    | 5, _ => exact e12_5
    | 6, _ => exact e12_6
    | 7, _ => exact e12_7
    | 8, _ => exact e12_8
    | 9, _ => exact e12_9
    | 10, _ => exact e12_10
    | 11, _ => exact e12_11
    | 12, _ => exact e12_12
    | m + 13, hm => exact absurd hm (by omega)
  C := c12
  P := p12
theorem runs13 : RunsOK lit13 where
  R := fun j u hj hu => by
    have hj : j ≤ 13 := hj
    by_cases h : j < 8
    · exact grpR_all r13_0 (Nat.zero_le _) (by omega) hu
    · exact grpR_all r13_8 (by omega) (by omega) hu
  F := fun m hm => by
    have hm : m ≤ 13 := hm
    match m, hm with
    | 0, _ => exact f13_0
    | 1, _ => exact f13_1
    | 2, _ => exact f13_2
    | 3, _ => exact f13_3
    | 4, _ => exact f13_4
    | 5, _ => exact f13_5
    | 6, _ => exact f13_6
    | 7, _ => exact f13_7
    | 8, _ => exact f13_8
    | 9, _ => exact f13_9
    | 10, _ => exact f13_10
    | 11, _ => exact f13_11
    | 12, _ => exact f13_12
    | 13, _ => exact f13_13
    | m + 14, hm => exact absurd hm (by omega)
  E := fun m hm => by
    have hm : m ≤ 13 := hm
    match m, hm with
    | 0, _ => exact e13_0
    | 1, _ => exact e13_1
    | 2, _ => exact e13_2
    | 3, _ => exact e13_3
    | 4, _ => exact e13_4
    | 5, _ => exact e13_5
    | 6, _ => exact e13_6
    | 7, _ => exact e13_7
    | 8, _ => exact e13_8
    | 9, _ => exact e13_9
    | 10, _ => exact e13_10
    | 11, _ => exact e13_11
    | 12, _ => exact e13_12
    | 13, _ => exact e13_13
    | m + 14, hm => exact absurd hm (by omega)
  C := c13
  P := p13
theorem runs14 : RunsOK lit14 where
  R := fun j u hj hu => by
    have hj : j ≤ 14 := hj
    by_cases h : j < 8
    · exact grpR_all r14_0 (Nat.zero_le _) (by omega) hu
    · exact grpR_all r14_8 (by omega) (by omega) hu
  F := fun m hm => by
    have hm : m ≤ 14 := hm
    match m, hm with
    | 0, _ => exact f14_0
    | 1, _ => exact f14_1
    | 2, _ => exact f14_2
    | 3, _ => exact f14_3
    | 4, _ => exact f14_4
    | 5, _ => exact f14_5
    | 6, _ => exact f14_6
    | 7, _ => exact f14_7
    | 8, _ => exact f14_8
    | 9, _ => exact f14_9
    | 10, _ => exact f14_10
    | 11, _ => exact f14_11
    | 12, _ => exact f14_12
    | 13, _ => exact f14_13
    | 14, _ => exact f14_14
    | m + 15, hm => exact absurd hm (by omega)
  E := fun m hm => by
    have hm : m ≤ 14 := hm
    match m, hm with
    | 0, _ => exact e14_0
    | 1, _ => exact e14_1
    | 2, _ => exact e14_2
    | 3, _ => exact e14_3
    | 4, _ => exact e14_4
    | 5, _ => exact e14_5
    | 6, _ => exact e14_6
    | 7, _ => exact e14_7
    | 8, _ => exact e14_8
    | 9, _ => exact e14_9
    | 10, _ => exact e14_10
    | 11, _ => exact e14_11
    | 12, _ => exact e14_12
    | 13, _ => exact e14_13
    | 14, _ => exact e14_14
    | m + 15, hm => exact absurd hm (by omega)
  C := c14
  P := p14
theorem runs15 : RunsOK lit15 where
  R := fun j u hj hu => by
    have hj : j ≤ 15 := hj
    by_cases h : j < 8
    · exact grpR_all r15_0 (Nat.zero_le _) (by omega) hu
    · exact grpR_all r15_8 (by omega) (by omega) hu
  F := fun m hm => by
    have hm : m ≤ 15 := hm
    match m, hm with
    | 0, _ => exact f15_0
    | 1, _ => exact f15_1
    | 2, _ => exact f15_2
    | 3, _ => exact f15_3
    | 4, _ => exact f15_4
    | 5, _ => exact f15_5
    | 6, _ => exact f15_6
    | 7, _ => exact f15_7
    | 8, _ => exact f15_8
    | 9, _ => exact f15_9
    | 10, _ => exact f15_10
    | 11, _ => exact f15_11
    | 12, _ => exact f15_12
    | 13, _ => exact f15_13
    | 14, _ => exact f15_14
    | 15, _ => exact f15_15
    | m + 16, hm => exact absurd hm (by omega)
  E := fun m hm => by
    have hm : m ≤ 15 := hm
    match m, hm with
    | 0, _ => exact e15_0
    | 1, _ => exact e15_1
    | 2, _ => exact e15_2
    | 3, _ => exact e15_3
    | 4, _ => exact e15_4
    | 5, _ => exact e15_5
    | 6, _ => exact e15_6
    | 7, _ => exact e15_7
    | 8, _ => exact e15_8
    | 9, _ => exact e15_9
    | 10, _ => exact e15_10
    | 11, _ => exact e15_11
    | 12, _ => exact e15_12
    | 13, _ => exact e15_13
    | 14, _ => exact e15_14
    | 15, _ => exact e15_15
    | m + 16, hm => exact absurd hm (by omega)
  C := c15
  P := p15
theorem u8_in {a : Int} (h : (Go.Lit.int .u8 a).wf = true) : 0 ≤ a ∧ a ≤ 255 := by
  simp only [Go.Lit.wf, Bool.and_eq_true, decide_eq_true_eq] at h
  exact h
/-- Which tasks' wants are met. -/
def metOf (n : Nat) (wt : Nat → Nat) (b i : Nat) : Bool := decide (i < n ∧ (if i % 2 = 0 then Nat.land b (wt i) = wt i else Nat.land b (wt i) ≠ 0))
theorem go {a : Option Addr} {cap : Nat} {z : List Int} {c : Int} {W : World} {L : LitS} (hl : L.n ≤ 15) (hr : RunsOK L) (w0 : RowIn .u8 W a L.n cap z) (w1 : (Go.Lit.int .u8 c).wf = true) (hT : TabIs W 64 tab) :
    Calls Tryz.prog 10 #[.slice a L.n cap, .int .u8 c] W fun e W' => e = .returned (.bool true) ∧ Below W.heap.size W W' := by
  obtain ⟨c0, c1⟩ := u8_in w1
  have key := law_run (L := L) (wt := fun i => (z.getD i 0).toNat) (b := c.toNat) (μ := metOf L.n (fun i => (z.getD i 0).toNat) c.toNat) ⟨hl, by omega, fun i hi => ?_, fun i => by unfold metOf; exact decide_eq_true_iff⟩ hr w0 (fun i hi => ?_) hT
  · have e : ((c.toNat : Nat) : Int) = c := by omega
    rw [e] at key
    exact key
  · have := u8_in (w0.wf hi)
    omega
  · have := u8_in (w0.wf hi)
    show z.getD i 0 = (((z.getD i 0).toNat : Nat) : Int)
    omega
theorem goL {a : Option Addr} {len cap : Nat} {z : List Int} {c : Int} {W : World} (hl : 15 < len) (w0 : RowIn .u8 W a len cap z) (w1 : (Go.Lit.int .u8 c).wf = true) (hT : TabIs W 64 tab) :
    Calls Tryz.prog 10 #[.slice a len cap, .int .u8 c] W fun e W' => e = .returned (.bool true) ∧ Below W.heap.size W W' := by
  have hle := w0.le
  obtain ⟨c0, c1⟩ := u8_in w1
  have hlen : (len : Int) ≤ 9223372036854775807 := by
    have := hle.1; have := hle.2.1; unfold maxLen at this; omega
  refine run_law hmix xs_get (p := k10) rfl long (fun i => if i = 0 then c else if i = 1 then (len : Int) else z.getD (i - 2) 0) (fun i x hx => ?_) hT (vals := [.slice a len cap, .int .u8 c]) ⟨inS_row w0 ?_ ?_, ?_, trivial⟩
  · match i, hx with
    | 0, hx =>
      have hx : some (⟨0, 255, 0⟩ : Iv) = some x := hx
      cases hx
      exact ⟨⟨by show (0 : Int) ≤ c; omega, by show c ≤ (255 : Int); omega⟩, md_no _ _⟩
    | 1, hx =>
      have hx : some (⟨16, 9223372036854775807, 0⟩ : Iv) = some x := hx
      cases hx
      exact ⟨⟨by show (16 : Int) ≤ (len : Int); omega, by show (len : Int) ≤ 9223372036854775807; omega⟩, md_no _ _⟩
    | i + 2, hx => simp at hx
  · show Value.int .i64 (len : Int) = .int .i64 (1 * (len : Int) + 0)
    simp
  · intro j hj
    show z.getD j 0 = (if 2 + j = 0 then c else if 2 + j = 1 then (len : Int) else z.getD (2 + j - 2) 0)
    rw [if_neg (by omega), if_neg (by omega), show 2 + j - 2 = j by omega]
  · show Value.int .u8 c = .int .u8 (1 * c + 0)
    simp
theorem walk (a : Option Addr) (len cap : Nat) (z : List Int) (c : Int) (W : World) (w0 : RowIn .u8 W a len cap z) (w1 : (Go.Lit.int .u8 c).wf = true) (hT : TabIs W 64 tab) : Calls Tryz.prog 10 #[.slice a len cap, .int .u8 c] W fun e W' => e = .returned (.bool true) ∧ Below W.heap.size W W' := by
  by_cases hl : 15 < len
  · exact goL hl w0 w1 hT
  · match len, hl, w0 with
    | 0, _, w0 => exact go (L := lit0) (by show (0 : Nat) ≤ 15; omega) runs0 w0 w1 hT
    | 1, _, w0 => exact go (L := lit1) (by show (1 : Nat) ≤ 15; omega) runs1 w0 w1 hT
    | 2, _, w0 => exact go (L := lit2) (by show (2 : Nat) ≤ 15; omega) runs2 w0 w1 hT
    | 3, _, w0 => exact go (L := lit3) (by show (3 : Nat) ≤ 15; omega) runs3 w0 w1 hT
    | 4, _, w0 => exact go (L := lit4) (by show (4 : Nat) ≤ 15; omega) runs4 w0 w1 hT
    | 5, _, w0 => exact go (L := lit5) (by show (5 : Nat) ≤ 15; omega) runs5 w0 w1 hT
    | 6, _, w0 => exact go (L := lit6) (by show (6 : Nat) ≤ 15; omega) runs6 w0 w1 hT
    | 7, _, w0 => exact go (L := lit7) (by show (7 : Nat) ≤ 15; omega) runs7 w0 w1 hT
    | 8, _, w0 => exact go (L := lit8) (by show (8 : Nat) ≤ 15; omega) runs8 w0 w1 hT
    | 9, _, w0 => exact go (L := lit9) (by show (9 : Nat) ≤ 15; omega) runs9 w0 w1 hT
    | 10, _, w0 => exact go (L := lit10) (by show (10 : Nat) ≤ 15; omega) runs10 w0 w1 hT
    | 11, _, w0 => exact go (L := lit11) (by show (11 : Nat) ≤ 15; omega) runs11 w0 w1 hT
    | 12, _, w0 => exact go (L := lit12) (by show (12 : Nat) ≤ 15; omega) runs12 w0 w1 hT
    | 13, _, w0 => exact go (L := lit13) (by show (13 : Nat) ≤ 15; omega) runs13 w0 w1 hT
    | 14, _, w0 => exact go (L := lit14) (by show (14 : Nat) ≤ 15; omega) runs14 w0 w1 hT
    | 15, _, w0 => exact go (L := lit15) (by show (15 : Nat) ≤ 15; omega) runs15 w0 w1 hT
    | n + 16, hl, _ => exact absurd (by omega) hl
end Go.Proofs.YtjodpodmeobciaaGreatDoor.topFlags
