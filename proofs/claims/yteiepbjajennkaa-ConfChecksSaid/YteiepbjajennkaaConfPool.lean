/- Pools, the program's way: one that is made, where the next one may begin. Conditions: none. -/
import Derived.Test.YteiepbjajennkaaConfHands
namespace Go.Proofs.Yteiepbjajennkaa.ConfHand
set_option linter.unusedVariables false
set_option linter.unusedSimpArgs false
open Go.RowKit Go.Proofs.YteiepbjajennkaaW.PrintWords Go.Proofs.YteiepbjajennkaaW.PrintMore
def poolC (at_ blk siz : Int) : Int := if blk < 1 ∨ 256 < blk ∨ siz < 1 ∨ 4096 < siz ∨ 65536 - at_ < blk * al siz then -17 else 0
theorem mul_bd {a b m n : Int} (a0 : 0 ≤ a) (a1 : a ≤ m) (b0 : 0 ≤ b) (b1 : b ≤ n) : 0 ≤ a * b ∧ a * b ≤ m * n :=
  ⟨Int.mul_nonneg a0 b0, Int.mul_le_mul a1 b1 b0 (by omega)⟩

theorem pool_no0 (b : Bool) (at_ blk siz : Int)  (h0 : (blk < 1)) (W : World) : Calls Try.prog 62 #[.bool b, .int .i64 at_, .int .i64 blk, .int .i64 siz] W (RetPC (-17) W) := by
  go_enter Try.func62, Try.ntmps62
  go_wp2
  go_ret2
  exact ⟨⟨_, rfl⟩, Below.refl _ _⟩
theorem pool_no1 (b : Bool) (at_ blk siz : Int) (h0 : ¬ (blk < 1)) (h1 : (256 < blk)) (W : World) : Calls Try.prog 62 #[.bool b, .int .i64 at_, .int .i64 blk, .int .i64 siz] W (RetPC (-17) W) := by
  go_enter Try.func62, Try.ntmps62
  go_wp2
  go_ret2
  exact ⟨⟨_, rfl⟩, Below.refl _ _⟩
theorem pool_no2 (b : Bool) (at_ blk siz : Int) (h0 : ¬ (blk < 1)) (h1 : ¬ (256 < blk)) (h2 : (siz < 1)) (W : World) : Calls Try.prog 62 #[.bool b, .int .i64 at_, .int .i64 blk, .int .i64 siz] W (RetPC (-17) W) := by
  go_enter Try.func62, Try.ntmps62
  go_wp2
  go_ret2
  exact ⟨⟨_, rfl⟩, Below.refl _ _⟩
theorem pool_no3 (b : Bool) (at_ blk siz : Int) (h0 : ¬ (blk < 1)) (h1 : ¬ (256 < blk)) (h2 : ¬ (siz < 1)) (h3 : (4096 < siz)) (W : World) : Calls Try.prog 62 #[.bool b, .int .i64 at_, .int .i64 blk, .int .i64 siz] W (RetPC (-17) W) := by
  go_enter Try.func62, Try.ntmps62
  go_wp2
  go_ret2
  exact ⟨⟨_, rfl⟩, Below.refl _ _⟩
theorem pool_no4 (b : Bool) (at_ blk siz : Int) (a0 : 0 ≤ at_) (a1 : at_ ≤ 65536) (a2 : at_ % 4 = 0) (h0 : ¬ (blk < 1)) (h1 : ¬ (256 < blk)) (h2 : ¬ (siz < 1)) (h3 : ¬ (4096 < siz)) (hz : 65536 - at_ < blk * al siz) (W : World) : Calls Try.prog 62 #[.bool b, .int .i64 at_, .int .i64 blk, .int .i64 siz] W (RetPC (-17) W) := by
  have ab := al_bd siz (by omega)
  have pb := mul_bd (a := blk) (b := al siz) (m := 256) (n := 4099) (by omega) (by omega) (by omega) (by omega)
  have HA := Aside0.mk (align_calls siz (by omega) (by omega) W)
  obtain ⟨p0, p1⟩ := pb
  have b4 : (at_ % 4 != 0) = false := by simp [a2]
  have b5 : (at_ % 4 == 0) = true := by simp [a2]
  clear a2 ab
  generalize hzz : al siz = z at *
  clear hzz
  have hz2 := hz
  go_enter Try.func62, Try.ntmps62
  go_wp2_with fail
  refine HA.out.mono ?_
  rintro e w' ⟨rfl, rfl⟩
  go_wp2
  go_ret2
  exact ⟨⟨_, rfl⟩, Below.refl _ _⟩
theorem pool_yes (b : Bool) (at_ blk siz : Int) (a0 : 0 ≤ at_) (a1 : at_ ≤ 65536) (a2 : at_ % 4 = 0) (h0 : ¬ (blk < 1)) (h1 : ¬ (256 < blk)) (h2 : ¬ (siz < 1)) (h3 : ¬ (4096 < siz)) (hz : blk * al siz ≤ 65536 - at_) (W : World) : Calls Try.prog 62 #[.bool b, .int .i64 at_, .int .i64 blk, .int .i64 siz] W (RetPC 0 W) := by
  have ab := al_bd siz (by omega)
  have pb := mul_bd (a := blk) (b := al siz) (m := 256) (n := 4099) (by omega) (by omega) (by omega) (by omega)
  have HA := Aside0.mk (align_calls siz (by omega) (by omega) W)
  obtain ⟨p0, p1⟩ := pb
  have b4 : (at_ % 4 != 0) = false := by simp [a2]
  have b5 : (at_ % 4 == 0) = true := by simp [a2]
  clear a2 ab
  generalize hzz : al siz = z at *
  clear hzz
  have hz2 := hz
  go_enter Try.func62, Try.ntmps62
  go_wp2_with fail
  refine HA.out.mono ?_
  rintro e w' ⟨rfl, rfl⟩
  go_wp2_with fail
  refine (order_calls b W).mono ?_
  rintro e w' ⟨rfl, rfl⟩
  go_wp2
  go_ret2
  exact ⟨⟨_, rfl⟩, below_alloc (below_alloc (Below.refl _ _) _) _⟩
theorem pool_calls (b : Bool) (at_ blk siz : Int) (a0 : 0 ≤ at_) (a1 : at_ ≤ 65536) (a2 : at_ % 4 = 0) (W : World) : Calls Try.prog 62 #[.bool b, .int .i64 at_, .int .i64 blk, .int .i64 siz] W (RetPC (poolC at_ blk siz) W) := by
  unfold poolC
  by_cases h0 : blk < 1
  · rw [if_pos (.inl h0)]; exact pool_no0 b at_ blk siz h0 W
  · by_cases h1 : 256 < blk
    · rw [if_pos (.inr (.inl h1))]; exact pool_no1 b at_ blk siz h0 h1 W
    · by_cases h2 : siz < 1
      · rw [if_pos (.inr (.inr (.inl h2)))]; exact pool_no2 b at_ blk siz h0 h1 h2 W
      · by_cases h3 : 4096 < siz
        · rw [if_pos (.inr (.inr (.inr (.inl h3))))]; exact pool_no3 b at_ blk siz h0 h1 h2 h3 W
        · by_cases h4 : 65536 - at_ < blk * al siz
          · rw [if_pos (.inr (.inr (.inr (.inr h4))))]; exact pool_no4 b at_ blk siz a0 a1 a2 h0 h1 h2 h3 h4 W
          · rw [if_neg (by rintro (h | h | h | h | h) <;> contradiction)]; exact pool_yes b at_ blk siz a0 a1 a2 h0 h1 h2 h3 (by omega) W
/-- A pool of the document's: how many blocks, how long they are. -/
def RefPool (at_ blk siz : Int) (W : World) (e : Ending) (w' : World) : Prop := ∃ q, e = .returned (.tuple #[.pointer (some ⟨q, 0, none⟩), .int .i64 0]) ∧ w'.cell? ⟨q, 2, none⟩ = some (.int .i64 blk) ∧ w'.cell? ⟨q, 3, none⟩ = some (.int .i64 siz) ∧ Below W.heap.size W w'
theorem ref_pool_no0 (b : Bool) (at_ blk siz : Int)  (h0 : (blk < 1)) (W : World) : Calls Try.prog 69 #[.bool b, .int .i64 at_, .int .i64 blk, .int .i64 siz] W (RetPC (-17) W) := by
  go_enter Try.func69, Try.ntmps69
  go_wp2
  go_ret2
  exact ⟨⟨_, rfl⟩, Below.refl _ _⟩
theorem ref_pool_no1 (b : Bool) (at_ blk siz : Int) (h0 : ¬ (blk < 1)) (h1 : (256 < blk)) (W : World) : Calls Try.prog 69 #[.bool b, .int .i64 at_, .int .i64 blk, .int .i64 siz] W (RetPC (-17) W) := by
  go_enter Try.func69, Try.ntmps69
  go_wp2
  go_ret2
  exact ⟨⟨_, rfl⟩, Below.refl _ _⟩
theorem ref_pool_no2 (b : Bool) (at_ blk siz : Int) (h0 : ¬ (blk < 1)) (h1 : ¬ (256 < blk)) (h2 : (siz < 1)) (W : World) : Calls Try.prog 69 #[.bool b, .int .i64 at_, .int .i64 blk, .int .i64 siz] W (RetPC (-17) W) := by
  go_enter Try.func69, Try.ntmps69
  go_wp2
  go_ret2
  exact ⟨⟨_, rfl⟩, Below.refl _ _⟩
theorem ref_pool_no3 (b : Bool) (at_ blk siz : Int) (h0 : ¬ (blk < 1)) (h1 : ¬ (256 < blk)) (h2 : ¬ (siz < 1)) (h3 : (4096 < siz)) (W : World) : Calls Try.prog 69 #[.bool b, .int .i64 at_, .int .i64 blk, .int .i64 siz] W (RetPC (-17) W) := by
  go_enter Try.func69, Try.ntmps69
  go_wp2
  go_ret2
  exact ⟨⟨_, rfl⟩, Below.refl _ _⟩
theorem ref_pool_no4 (b : Bool) (at_ blk siz : Int) (a0 : 0 ≤ at_) (a1 : at_ ≤ 65536) (a2 : at_ % 4 = 0) (h0 : ¬ (blk < 1)) (h1 : ¬ (256 < blk)) (h2 : ¬ (siz < 1)) (h3 : ¬ (4096 < siz)) (hz : 65536 - at_ < blk * al siz) (W : World) : Calls Try.prog 69 #[.bool b, .int .i64 at_, .int .i64 blk, .int .i64 siz] W (RetPC (-17) W) := by
  have ab := al_bd siz (by omega)
  have pb := mul_bd (a := blk) (b := al siz) (m := 256) (n := 4099) (by omega) (by omega) (by omega) (by omega)
  have HA := Aside0.mk (ref_align siz (by omega) (by omega) W)
  obtain ⟨p0, p1⟩ := pb
  have b4 : (at_ % 4 != 0) = false := by simp [a2]
  have b5 : (at_ % 4 == 0) = true := by simp [a2]
  clear a2 ab
  generalize hzz : al siz = z at *
  clear hzz
  have hz2 : 65536 < at_ + blk * z := by omega
  go_enter Try.func69, Try.ntmps69
  go_wp2_with fail
  refine HA.out.mono ?_
  rintro e w' ⟨rfl, rfl⟩
  go_wp2
  go_ret2
  exact ⟨⟨_, rfl⟩, Below.refl _ _⟩
theorem ref_pool_yes (b : Bool) (at_ blk siz : Int) (a0 : 0 ≤ at_) (a1 : at_ ≤ 65536) (a2 : at_ % 4 = 0) (h0 : ¬ (blk < 1)) (h1 : ¬ (256 < blk)) (h2 : ¬ (siz < 1)) (h3 : ¬ (4096 < siz)) (hz : blk * al siz ≤ 65536 - at_) (W : World) : Calls Try.prog 69 #[.bool b, .int .i64 at_, .int .i64 blk, .int .i64 siz] W (RefPool at_ blk siz W) := by
  have ab := al_bd siz (by omega)
  have pb := mul_bd (a := blk) (b := al siz) (m := 256) (n := 4099) (by omega) (by omega) (by omega) (by omega)
  have HA := Aside0.mk (ref_align siz (by omega) (by omega) W)
  obtain ⟨p0, p1⟩ := pb
  have b4 : (at_ % 4 != 0) = false := by simp [a2]
  have b5 : (at_ % 4 == 0) = true := by simp [a2]
  clear a2 ab
  generalize hzz : al siz = z at *
  clear hzz
  have hz2 : at_ + blk * z ≤ 65536 := by omega
  go_enter Try.func69, Try.ntmps69
  go_wp2_with fail
  refine HA.out.mono ?_
  rintro e w' ⟨rfl, rfl⟩
  go_wp2
  go_ret2
  refine ⟨W.heap.size + 1, rfl, ?_, ?_, below_alloc (below_alloc (Below.refl _ _) _) _⟩
  · rw [World.cell?_alloc_at _ _ _ _ (by simp)]; rfl
  · rw [World.cell?_alloc_at _ _ _ _ (by simp)]; rfl
/-- Where the one behind a pool may begin. -/
def nx (at_ blk siz : Int) : Int := if blk < 0 ∨ 65536 < blk ∨ siz < 0 ∨ 65536 < siz then at_ else at_ + blk * al siz

theorem next_no0 (b : Bool) (at_ blk siz : Int) (a0 : 0 ≤ at_) (a1 : at_ ≤ 65536) (a2 : at_ % 4 = 0)  (h0 : (blk < 0)) (W : World) : Calls Try.prog 61 #[.int .i64 at_, .agg #[.bool b, .int .i64 blk, .int .i64 siz]] W fun e w' => e = .returned (.tuple #[.int .i64 at_, .int .i64 at_]) ∧ Below W.heap.size W w' := by
  have HA := Aside0.mk (fun w => align_calls at_ a0 (by omega) w)
  have HE := Aside0.mk (al_of at_ a2); clear a2
  go_enter Try.func61, Try.ntmps61
  go_wp2_with fail
  refine (HA.out _).mono ?_
  rintro e w' ⟨rfl, rfl⟩
  rw [HE.out]
  go_wp2
  go_ret2
  exact ⟨rfl, below_alloc (Below.refl _ _) _⟩
theorem next_no1 (b : Bool) (at_ blk siz : Int) (a0 : 0 ≤ at_) (a1 : at_ ≤ 65536) (a2 : at_ % 4 = 0) (h0 : ¬ (blk < 0)) (h1 : (65536 < blk)) (W : World) : Calls Try.prog 61 #[.int .i64 at_, .agg #[.bool b, .int .i64 blk, .int .i64 siz]] W fun e w' => e = .returned (.tuple #[.int .i64 at_, .int .i64 at_]) ∧ Below W.heap.size W w' := by
  have HA := Aside0.mk (fun w => align_calls at_ a0 (by omega) w)
  have HE := Aside0.mk (al_of at_ a2); clear a2
  go_enter Try.func61, Try.ntmps61
  go_wp2_with fail
  refine (HA.out _).mono ?_
  rintro e w' ⟨rfl, rfl⟩
  rw [HE.out]
  go_wp2
  go_ret2
  exact ⟨rfl, below_alloc (Below.refl _ _) _⟩
theorem next_no2 (b : Bool) (at_ blk siz : Int) (a0 : 0 ≤ at_) (a1 : at_ ≤ 65536) (a2 : at_ % 4 = 0) (h0 : ¬ (blk < 0)) (h1 : ¬ (65536 < blk)) (h2 : (siz < 0)) (W : World) : Calls Try.prog 61 #[.int .i64 at_, .agg #[.bool b, .int .i64 blk, .int .i64 siz]] W fun e w' => e = .returned (.tuple #[.int .i64 at_, .int .i64 at_]) ∧ Below W.heap.size W w' := by
  have HA := Aside0.mk (fun w => align_calls at_ a0 (by omega) w)
  have HE := Aside0.mk (al_of at_ a2); clear a2
  go_enter Try.func61, Try.ntmps61
  go_wp2_with fail
  refine (HA.out _).mono ?_
  rintro e w' ⟨rfl, rfl⟩
  rw [HE.out]
  go_wp2
  go_ret2
  exact ⟨rfl, below_alloc (Below.refl _ _) _⟩
theorem next_no3 (b : Bool) (at_ blk siz : Int) (a0 : 0 ≤ at_) (a1 : at_ ≤ 65536) (a2 : at_ % 4 = 0) (h0 : ¬ (blk < 0)) (h1 : ¬ (65536 < blk)) (h2 : ¬ (siz < 0)) (h3 : (65536 < siz)) (W : World) : Calls Try.prog 61 #[.int .i64 at_, .agg #[.bool b, .int .i64 blk, .int .i64 siz]] W fun e w' => e = .returned (.tuple #[.int .i64 at_, .int .i64 at_]) ∧ Below W.heap.size W w' := by
  have HA := Aside0.mk (fun w => align_calls at_ a0 (by omega) w)
  have HE := Aside0.mk (al_of at_ a2); clear a2
  go_enter Try.func61, Try.ntmps61
  go_wp2_with fail
  refine (HA.out _).mono ?_
  rintro e w' ⟨rfl, rfl⟩
  rw [HE.out]
  go_wp2
  go_ret2
  exact ⟨rfl, below_alloc (Below.refl _ _) _⟩
theorem next_yes (b : Bool) (at_ blk siz : Int) (a0 : 0 ≤ at_) (a1 : at_ ≤ 65536) (a2 : at_ % 4 = 0) (h0 : ¬ (blk < 0)) (h1 : ¬ (65536 < blk)) (h2 : ¬ (siz < 0)) (h3 : ¬ (65536 < siz)) (W : World) : Calls Try.prog 61 #[.int .i64 at_, .agg #[.bool b, .int .i64 blk, .int .i64 siz]] W fun e w' => e = .returned (.tuple #[.int .i64 at_, .int .i64 (at_ + blk * al siz)]) ∧ Below W.heap.size W w' := by
  have ab := al_bd siz (by omega)
  have pb := mul_bd (a := blk) (b := al siz) (m := 65536) (n := 65539) (by omega) (by omega) (by omega) (by omega)
  obtain ⟨p0, p1⟩ := pb
  have HA := Aside0.mk (fun w => align_calls at_ a0 (by omega) w)
  have HS := Aside0.mk (fun w => align_calls siz (by omega) (by omega) w)
  have HE := Aside0.mk (al_of at_ a2); clear a2 ab
  generalize al siz = z at *
  have q1 : IntKind.i64.wrap (blk * z) = blk * z := IntWalk.i64_in _ (by omega)
  have q2 : IntKind.i64.wrap (at_ + blk * z) = at_ + blk * z := IntWalk.i64_in _ (by omega)
  have HQ1 := Aside0.mk q1
  have HQ2 := Aside0.mk q2
  clear q1 q2
  go_enter Try.func61, Try.ntmps61
  go_wp2_with fail
  refine (HA.out _).mono ?_
  rintro e w' ⟨rfl, rfl⟩
  rw [HE.out]
  go_wp2
  have q1 := HQ1.out
  have q2 := HQ2.out
  go_quiet (((go_at_call 78; exact Calls.quiet_of_same ((HS.out _).mono fun e w' ⟨h1, h2⟩ => ⟨h1, h2.symm⟩))))
  clear q1 q2
  go_wp2
  go_ret2
  exact ⟨rfl, below_drewN (below_alloc (Below.refl _ _) _) _⟩
theorem next_calls (b : Bool) (at_ blk siz : Int) (a0 : 0 ≤ at_) (a1 : at_ ≤ 65536) (a2 : at_ % 4 = 0) (W : World) : Calls Try.prog 61 #[.int .i64 at_, .agg #[.bool b, .int .i64 blk, .int .i64 siz]] W fun e w' => e = .returned (.tuple #[.int .i64 at_, .int .i64 (nx at_ blk siz)]) ∧ Below W.heap.size W w' := by
  unfold nx
  by_cases h0 : blk < 0
  · rw [if_pos (.inl h0)]; exact next_no0 b at_ blk siz a0 a1 a2 h0 W
  · by_cases h1 : 65536 < blk
    · rw [if_pos (.inr (.inl h1))]; exact next_no1 b at_ blk siz a0 a1 a2 h0 h1 W
    · by_cases h2 : siz < 0
      · rw [if_pos (.inr (.inr (.inl h2)))]; exact next_no2 b at_ blk siz a0 a1 a2 h0 h1 h2 W
      · by_cases h3 : 65536 < siz
        · rw [if_pos (.inr (.inr (.inr h3)))]; exact next_no3 b at_ blk siz a0 a1 a2 h0 h1 h2 h3 W
        · rw [if_neg (by rintro (h | h | h | h) <;> contradiction)]; exact next_yes b at_ blk siz a0 a1 a2 h0 h1 h2 h3 W
end Go.Proofs.Yteiepbjajennkaa.ConfHand
