/- Of a Dormant task nothing but to be activated may be asked, and nothing is changed: the walk of TaskRefuses. Conditions: none. -/
import Derived.Test.YtgkemmhpfekoaaaTaskSim
namespace Go.Proofs.Ytgkemmhpfekoaaa.TaskHand
set_option linter.unusedVariables false
open Go.RowKit Go.Proofs.Ytgkemmhpfekoaaa.PTaskPlays Go.Proofs.YtgkemmhpfekoaaaW.PrintWords Go.Proofs.YtgkemmhpfekoaaaW.PrintLast Go.Proofs.YtgkemmhpfekoaaaW.PrintMore
theorem reads_one (w : World) (x : Int) : Kd.C (Kd.int .i64) (w.alloc (.cells #[.int .i64 x] 3)) (some ⟨w.heap.size, 0, none⟩) [x].length [x] :=
  Kd.C_of_reads (d := 0) ⟨rfl, by simp, fun _ => ⟨_, rfl, fun j hj => by
    have hb : (w.alloc (.cells #[.int .i64 x] 3)).heap[w.heap.size]? = some (.cells #[.int .i64 x] 3 (0, 0)) := heap_alloc_new w _
    have : j = 0 := by simp at hj; omega
    subst this
    exact (blk_cell hb 0).trans rfl⟩⟩
def D (w0 W : World) (g : Nat) : Prop := IsS55 w0 W g 0 0 0 16 false ∧ Below w0.heap.size w0 W
variable {w0 W : World} {g : Nat}
theorem is_D (h : D w0 W g) {n : Nat} (hn : n = W.heap.size) :
    Calls Try.prog 25 #[.pointer (some ⟨g, 0, none⟩), .slice (some ⟨n, 0, none⟩) 1 1] (W.alloc (.cells #[.int .i64 16] 3)) fun r w' => r = .returned (.bool true) ∧ D w0 w' g := by
  subst hn
  refine (tcb_Task_Is.calls 3 g 0 0 0 16 false (some ⟨W.heap.size, 0, none⟩) 1 [16] true 0 0 0 16 false w0 _ (h.1.alloc _) (below_alloc h.2 _) (reads_one W 16) (by simp)
    (fun ad he _ => by cases he; exact fun hg => h.1.fresh W.heap.size (Nat.le_refl _) hg) (by rw [is_one 3 (by omega)]; simp)).mono ?_
  rintro r w' ⟨hr, hi, hb, hk⟩
  exact ⟨hr, hi, hb⟩
theorem any_D (h : D w0 W g) : Calls Try.prog 26 #[.agg #[.int .i64 0, .int .i64 0, .int .i64 0]] W fun r w' => r = .returned (.bool false) ∧ D w0 w' g := by
  refine (tcb_Counts_Any.calls 0 0 0 false W rfl).mono ?_
  rintro r w' ⟨hr, hb⟩
  exact ⟨hr, h.1.below hb, h.2.trans ⟨hb.os, hb.tape, hb.output, hb.size, fun i hi => hb.block i (Nat.lt_of_lt_of_le hi h.2.size)⟩⟩
theorem do_D (h : D w0 W g) (a r : Int) (hr : detentlaw10_do.f 40 0 0 0 16 false a = some (0, r, 0, 0, 0, 16, false)) :
    Calls Try.prog 35 #[.pointer (some ⟨g, 0, none⟩), .int .i64 a] W fun e w' => e = .returned (.tuple #[.int .i64 0, .int .i64 r]) ∧ D w0 w' g := by
  refine (detentlaw10_do.calls 40 g 0 0 0 16 false a 0 r 0 0 0 16 false w0 W h.1 h.2 hr).mono ?_
  rintro e w' ⟨he, hi, hb, _⟩
  exact ⟨he, hi, hb⟩
theorem do_else (a : Int) (h : a < 0 ∨ 11 < a) : detentlaw10_do.f 40 0 0 0 16 false a = some (0, 0, 0, 0, 0, 16, false) := by
  unfold detentlaw10_do.f
  rw [if_neg (by omega), if_neg (by omega), if_neg (by omega), if_neg (by omega), if_neg (by omega), if_neg (by omega), if_neg (by omega), if_neg (by omega), if_neg (by omega), if_neg (by omega), if_neg (by omega)]
  have : (a == 11) = false := by simp; omega
  rw [this]; rfl
set_option maxHeartbeats 4000000 in
set_option maxRecDepth 100000 in
theorem refuses_core (a : Int) (h0 : a ≠ 0) (bad : Bool) (r : Int) (hr : detentlaw10_do.f 40 0 0 0 16 false a = some (0, r, 0, 0, 0, 16, false)) (hb : bad = false ∧ r = 0 ∧ (a == 3) = false ∧ (a == 4) = false ∧ (a == 5) = false ∧ (a == 6) = false ∧ (a == 7) = false ∧ (a == 9) = false ∧ (a == 10) = false ∧ (a == 11) = false) (w : World) :
    Calls Try.prog 12 #[.int .i64 a] w fun e w' => e = .returned (.bool true) ∧ Below w.heap.size w w' := by
  have q0 : (a == 0) = false := beq_eq_false_iff_ne.2 h0
  clear h0
  obtain ⟨rfl, rfl, b3, b4, b5, b6, b7, b9, b10, b11⟩ := hb
  have HR := Aside0.mk hr; clear hr
  go_enter Try.func12, Try.ntmps12
  go_wp2_with fail
  refine (detentlaw10_known.calls 40 true w known_is).mono ?_
  rintro e w1 ⟨rfl, h1⟩
  have H1 := Aside0.mk h1; clear h1
  go_wp2_with fail
  refine (tcb_New.calls 0 0 0 16 false w w1 H1.out rfl).mono ?_
  rintro e w2 ⟨g, rfl, hi, hb, _⟩
  have H2 := Aside0.mk (show D w w2 g from ⟨hi, hb⟩); clear hi hb
  go_wp2_with fail
  refine (do_D H2.out a 0 HR.out).mono ?_
  rintro e w3 ⟨rfl, h3⟩
  have H3 := Aside0.mk h3; clear h3
  go_wp2_with fail
  refine (is_D H3.out rfl).mono ?_
  rintro e w4 ⟨rfl, h4⟩
  have p0 := cellS55_0 h4.1.1
  have p1 := cellS55_1 h4.1.1
  have p2 := cellS55_2 h4.1.1
  have H4 := Aside0.mk h4; clear h4
  have hu53 := Try.underlying53
  go_wp2_with fail
  refine (any_D H4.out).mono ?_
  rintro e w5 ⟨rfl, h5⟩
  have H5 := Aside0.mk h5; clear h5
  go_wp2
  go_ret
  exact ⟨rfl, H5.out.2⟩
set_option maxHeartbeats 4000000 in
set_option maxRecDepth 100000 in
theorem refuses_3 (w : World) : Calls Try.prog 12 #[.int .i64 3] w fun e w' => e = .returned (.bool true) ∧ Below w.heap.size w w' := by
  have hr : detentlaw10_do.f 40 0 0 0 16 false 3 = some (0, -41, 0, 0, 0, 16, false) := by kernel_rfl
  have HR := Aside0.mk hr; clear hr
  go_enter Try.func12, Try.ntmps12
  go_wp2_with fail
  refine (detentlaw10_known.calls 40 true w known_is).mono ?_
  rintro e w1 ⟨rfl, h1⟩
  have H1 := Aside0.mk h1; clear h1
  go_wp2_with fail
  refine (tcb_New.calls 0 0 0 16 false w w1 H1.out rfl).mono ?_
  rintro e w2 ⟨g, rfl, hi, hb, _⟩
  have H2 := Aside0.mk (show D w w2 g from ⟨hi, hb⟩); clear hi hb
  go_wp2_with fail
  refine (do_D H2.out 3 (-41) HR.out).mono ?_
  rintro e w3 ⟨rfl, h3⟩
  have H3 := Aside0.mk h3; clear h3
  go_wp2_with fail
  refine (is_D H3.out rfl).mono ?_
  rintro e w4 ⟨rfl, h4⟩
  have p0 := cellS55_0 h4.1.1
  have p1 := cellS55_1 h4.1.1
  have p2 := cellS55_2 h4.1.1
  have H4 := Aside0.mk h4; clear h4
  have hu53 := Try.underlying53
  go_wp2_with fail
  refine (any_D H4.out).mono ?_
  rintro e w5 ⟨rfl, h5⟩
  have H5 := Aside0.mk h5; clear h5
  go_wp2
  go_ret
  exact ⟨rfl, H5.out.2⟩
set_option maxHeartbeats 4000000 in
set_option maxRecDepth 100000 in
theorem refuses_4 (w : World) : Calls Try.prog 12 #[.int .i64 4] w fun e w' => e = .returned (.bool true) ∧ Below w.heap.size w w' := by
  have hr : detentlaw10_do.f 40 0 0 0 16 false 4 = some (0, -41, 0, 0, 0, 16, false) := by kernel_rfl
  have HR := Aside0.mk hr; clear hr
  go_enter Try.func12, Try.ntmps12
  go_wp2_with fail
  refine (detentlaw10_known.calls 40 true w known_is).mono ?_
  rintro e w1 ⟨rfl, h1⟩
  have H1 := Aside0.mk h1; clear h1
  go_wp2_with fail
  refine (tcb_New.calls 0 0 0 16 false w w1 H1.out rfl).mono ?_
  rintro e w2 ⟨g, rfl, hi, hb, _⟩
  have H2 := Aside0.mk (show D w w2 g from ⟨hi, hb⟩); clear hi hb
  go_wp2_with fail
  refine (do_D H2.out 4 (-41) HR.out).mono ?_
  rintro e w3 ⟨rfl, h3⟩
  have H3 := Aside0.mk h3; clear h3
  go_wp2_with fail
  refine (is_D H3.out rfl).mono ?_
  rintro e w4 ⟨rfl, h4⟩
  have p0 := cellS55_0 h4.1.1
  have p1 := cellS55_1 h4.1.1
  have p2 := cellS55_2 h4.1.1
  have H4 := Aside0.mk h4; clear h4
  have hu53 := Try.underlying53
  go_wp2_with fail
  refine (any_D H4.out).mono ?_
  rintro e w5 ⟨rfl, h5⟩
  have H5 := Aside0.mk h5; clear h5
  go_wp2
  go_ret
  exact ⟨rfl, H5.out.2⟩
set_option maxHeartbeats 4000000 in
set_option maxRecDepth 100000 in
theorem refuses_5 (w : World) : Calls Try.prog 12 #[.int .i64 5] w fun e w' => e = .returned (.bool true) ∧ Below w.heap.size w w' := by
  have hr : detentlaw10_do.f 40 0 0 0 16 false 5 = some (0, -41, 0, 0, 0, 16, false) := by kernel_rfl
  have HR := Aside0.mk hr; clear hr
  go_enter Try.func12, Try.ntmps12
  go_wp2_with fail
  refine (detentlaw10_known.calls 40 true w known_is).mono ?_
  rintro e w1 ⟨rfl, h1⟩
  have H1 := Aside0.mk h1; clear h1
  go_wp2_with fail
  refine (tcb_New.calls 0 0 0 16 false w w1 H1.out rfl).mono ?_
  rintro e w2 ⟨g, rfl, hi, hb, _⟩
  have H2 := Aside0.mk (show D w w2 g from ⟨hi, hb⟩); clear hi hb
  go_wp2_with fail
  refine (do_D H2.out 5 (-41) HR.out).mono ?_
  rintro e w3 ⟨rfl, h3⟩
  have H3 := Aside0.mk h3; clear h3
  go_wp2_with fail
  refine (is_D H3.out rfl).mono ?_
  rintro e w4 ⟨rfl, h4⟩
  have p0 := cellS55_0 h4.1.1
  have p1 := cellS55_1 h4.1.1
  have p2 := cellS55_2 h4.1.1
  have H4 := Aside0.mk h4; clear h4
  have hu53 := Try.underlying53
  go_wp2_with fail
  refine (any_D H4.out).mono ?_
  rintro e w5 ⟨rfl, h5⟩
  have H5 := Aside0.mk h5; clear h5
  go_wp2
  go_ret
  exact ⟨rfl, H5.out.2⟩
set_option maxHeartbeats 4000000 in
set_option maxRecDepth 100000 in
theorem refuses_6 (w : World) : Calls Try.prog 12 #[.int .i64 6] w fun e w' => e = .returned (.bool true) ∧ Below w.heap.size w w' := by
  have hr : detentlaw10_do.f 40 0 0 0 16 false 6 = some (0, -41, 0, 0, 0, 16, false) := by kernel_rfl
  have HR := Aside0.mk hr; clear hr
  go_enter Try.func12, Try.ntmps12
  go_wp2_with fail
  refine (detentlaw10_known.calls 40 true w known_is).mono ?_
  rintro e w1 ⟨rfl, h1⟩
  have H1 := Aside0.mk h1; clear h1
  go_wp2_with fail
  refine (tcb_New.calls 0 0 0 16 false w w1 H1.out rfl).mono ?_
  rintro e w2 ⟨g, rfl, hi, hb, _⟩
  have H2 := Aside0.mk (show D w w2 g from ⟨hi, hb⟩); clear hi hb
  go_wp2_with fail
  refine (do_D H2.out 6 (-41) HR.out).mono ?_
  rintro e w3 ⟨rfl, h3⟩
  have H3 := Aside0.mk h3; clear h3
  go_wp2_with fail
  refine (is_D H3.out rfl).mono ?_
  rintro e w4 ⟨rfl, h4⟩
  have p0 := cellS55_0 h4.1.1
  have p1 := cellS55_1 h4.1.1
  have p2 := cellS55_2 h4.1.1
  have H4 := Aside0.mk h4; clear h4
  have hu53 := Try.underlying53
  go_wp2_with fail
  refine (any_D H4.out).mono ?_
  rintro e w5 ⟨rfl, h5⟩
  have H5 := Aside0.mk h5; clear h5
  go_wp2
  go_ret
  exact ⟨rfl, H5.out.2⟩
set_option maxHeartbeats 4000000 in
set_option maxRecDepth 100000 in
theorem refuses_7 (w : World) : Calls Try.prog 12 #[.int .i64 7] w fun e w' => e = .returned (.bool true) ∧ Below w.heap.size w w' := by
  have hr : detentlaw10_do.f 40 0 0 0 16 false 7 = some (0, -41, 0, 0, 0, 16, false) := by kernel_rfl
  have HR := Aside0.mk hr; clear hr
  go_enter Try.func12, Try.ntmps12
  go_wp2_with fail
  refine (detentlaw10_known.calls 40 true w known_is).mono ?_
  rintro e w1 ⟨rfl, h1⟩
  have H1 := Aside0.mk h1; clear h1
  go_wp2_with fail
  refine (tcb_New.calls 0 0 0 16 false w w1 H1.out rfl).mono ?_
  rintro e w2 ⟨g, rfl, hi, hb, _⟩
  have H2 := Aside0.mk (show D w w2 g from ⟨hi, hb⟩); clear hi hb
  go_wp2_with fail
  refine (do_D H2.out 7 (-41) HR.out).mono ?_
  rintro e w3 ⟨rfl, h3⟩
  have H3 := Aside0.mk h3; clear h3
  go_wp2_with fail
  refine (is_D H3.out rfl).mono ?_
  rintro e w4 ⟨rfl, h4⟩
  have p0 := cellS55_0 h4.1.1
  have p1 := cellS55_1 h4.1.1
  have p2 := cellS55_2 h4.1.1
  have H4 := Aside0.mk h4; clear h4
  have hu53 := Try.underlying53
  go_wp2_with fail
  refine (any_D H4.out).mono ?_
  rintro e w5 ⟨rfl, h5⟩
  have H5 := Aside0.mk h5; clear h5
  go_wp2
  go_ret
  exact ⟨rfl, H5.out.2⟩
set_option maxHeartbeats 4000000 in
set_option maxRecDepth 100000 in
theorem refuses_9 (w : World) : Calls Try.prog 12 #[.int .i64 9] w fun e w' => e = .returned (.bool true) ∧ Below w.heap.size w w' := by
  have hr : detentlaw10_do.f 40 0 0 0 16 false 9 = some (0, -41, 0, 0, 0, 16, false) := by kernel_rfl
  have HR := Aside0.mk hr; clear hr
  go_enter Try.func12, Try.ntmps12
  go_wp2_with fail
  refine (detentlaw10_known.calls 40 true w known_is).mono ?_
  rintro e w1 ⟨rfl, h1⟩
  have H1 := Aside0.mk h1; clear h1
  go_wp2_with fail
  refine (tcb_New.calls 0 0 0 16 false w w1 H1.out rfl).mono ?_
  rintro e w2 ⟨g, rfl, hi, hb, _⟩
  have H2 := Aside0.mk (show D w w2 g from ⟨hi, hb⟩); clear hi hb
  go_wp2_with fail
  refine (do_D H2.out 9 (-41) HR.out).mono ?_
  rintro e w3 ⟨rfl, h3⟩
  have H3 := Aside0.mk h3; clear h3
  go_wp2_with fail
  refine (is_D H3.out rfl).mono ?_
  rintro e w4 ⟨rfl, h4⟩
  have p0 := cellS55_0 h4.1.1
  have p1 := cellS55_1 h4.1.1
  have p2 := cellS55_2 h4.1.1
  have H4 := Aside0.mk h4; clear h4
  have hu53 := Try.underlying53
  go_wp2_with fail
  refine (any_D H4.out).mono ?_
  rintro e w5 ⟨rfl, h5⟩
  have H5 := Aside0.mk h5; clear h5
  go_wp2
  go_ret
  exact ⟨rfl, H5.out.2⟩
set_option maxHeartbeats 4000000 in
set_option maxRecDepth 100000 in
theorem refuses_10 (w : World) : Calls Try.prog 12 #[.int .i64 10] w fun e w' => e = .returned (.bool true) ∧ Below w.heap.size w w' := by
  have hr : detentlaw10_do.f 40 0 0 0 16 false 10 = some (0, -41, 0, 0, 0, 16, false) := by kernel_rfl
  have HR := Aside0.mk hr; clear hr
  go_enter Try.func12, Try.ntmps12
  go_wp2_with fail
  refine (detentlaw10_known.calls 40 true w known_is).mono ?_
  rintro e w1 ⟨rfl, h1⟩
  have H1 := Aside0.mk h1; clear h1
  go_wp2_with fail
  refine (tcb_New.calls 0 0 0 16 false w w1 H1.out rfl).mono ?_
  rintro e w2 ⟨g, rfl, hi, hb, _⟩
  have H2 := Aside0.mk (show D w w2 g from ⟨hi, hb⟩); clear hi hb
  go_wp2_with fail
  refine (do_D H2.out 10 (-41) HR.out).mono ?_
  rintro e w3 ⟨rfl, h3⟩
  have H3 := Aside0.mk h3; clear h3
  go_wp2_with fail
  refine (is_D H3.out rfl).mono ?_
  rintro e w4 ⟨rfl, h4⟩
  have p0 := cellS55_0 h4.1.1
  have p1 := cellS55_1 h4.1.1
  have p2 := cellS55_2 h4.1.1
  have H4 := Aside0.mk h4; clear h4
  have hu53 := Try.underlying53
  go_wp2_with fail
  refine (any_D H4.out).mono ?_
  rintro e w5 ⟨rfl, h5⟩
  have H5 := Aside0.mk h5; clear h5
  go_wp2
  go_ret
  exact ⟨rfl, H5.out.2⟩
set_option maxHeartbeats 4000000 in
set_option maxRecDepth 100000 in
theorem refuses_11 (w : World) : Calls Try.prog 12 #[.int .i64 11] w fun e w' => e = .returned (.bool true) ∧ Below w.heap.size w w' := by
  have hr : detentlaw10_do.f 40 0 0 0 16 false 11 = some (0, -41, 0, 0, 0, 16, false) := by kernel_rfl
  have HR := Aside0.mk hr; clear hr
  go_enter Try.func12, Try.ntmps12
  go_wp2_with fail
  refine (detentlaw10_known.calls 40 true w known_is).mono ?_
  rintro e w1 ⟨rfl, h1⟩
  have H1 := Aside0.mk h1; clear h1
  go_wp2_with fail
  refine (tcb_New.calls 0 0 0 16 false w w1 H1.out rfl).mono ?_
  rintro e w2 ⟨g, rfl, hi, hb, _⟩
  have H2 := Aside0.mk (show D w w2 g from ⟨hi, hb⟩); clear hi hb
  go_wp2_with fail
  refine (do_D H2.out 11 (-41) HR.out).mono ?_
  rintro e w3 ⟨rfl, h3⟩
  have H3 := Aside0.mk h3; clear h3
  go_wp2_with fail
  refine (is_D H3.out rfl).mono ?_
  rintro e w4 ⟨rfl, h4⟩
  have p0 := cellS55_0 h4.1.1
  have p1 := cellS55_1 h4.1.1
  have p2 := cellS55_2 h4.1.1
  have H4 := Aside0.mk h4; clear h4
  have hu53 := Try.underlying53
  go_wp2_with fail
  refine (any_D H4.out).mono ?_
  rintro e w5 ⟨rfl, h5⟩
  have H5 := Aside0.mk h5; clear h5
  go_wp2
  go_ret
  exact ⟨rfl, H5.out.2⟩
theorem refuses_0 (w : World) : Calls Try.prog 12 #[.int .i64 0] w fun e w' => e = .returned (.bool true) ∧ Below w.heap.size w w' := by
  go_enter Try.func12, Try.ntmps12
  go_wp2_with fail
  refine (detentlaw10_known.calls 40 true w known_is).mono ?_
  rintro e w1 ⟨rfl, h1⟩
  have H1 := Aside0.mk h1; clear h1
  go_wp2
  go_ret
  exact ⟨rfl, H1.out⟩
theorem refuses_walk (a : Int) (w : World) (wa : (Lit.int .i64 a).wf = true) : Calls Try.prog 12 #[.int .i64 a] w fun e w' => e = .returned (.bool true) ∧ Below w.heap.size w w' := by
  by_cases h : 0 ≤ a ∧ a ≤ 11
  · have : a = 0 ∨ a = 1 ∨ a = 2 ∨ a = 3 ∨ a = 4 ∨ a = 5 ∨ a = 6 ∨ a = 7 ∨ a = 8 ∨ a = 9 ∨ a = 10 ∨ a = 11 := by omega
    rcases this with rfl | rfl | rfl | rfl | rfl | rfl | rfl | rfl | rfl | rfl | rfl | rfl
    · exact refuses_0 w
    · exact refuses_core 1 (by decide) false 0 (by kernel_rfl) ⟨rfl, rfl, rfl, rfl, rfl, rfl, rfl, rfl, rfl, rfl⟩ w
    · exact refuses_core 2 (by decide) false 0 (by kernel_rfl) ⟨rfl, rfl, rfl, rfl, rfl, rfl, rfl, rfl, rfl, rfl⟩ w
    · exact refuses_3 w
    · exact refuses_4 w
    · exact refuses_5 w
    · exact refuses_6 w
    · exact refuses_7 w
    · exact refuses_core 8 (by decide) false 0 (by kernel_rfl) ⟨rfl, rfl, rfl, rfl, rfl, rfl, rfl, rfl, rfl, rfl⟩ w
    · exact refuses_9 w
    · exact refuses_10 w
    · exact refuses_11 w
  · exact refuses_core a (by omega) false 0 (do_else a (by omega)) ⟨rfl, rfl, beq_eq_false_iff_ne.2 (by omega), beq_eq_false_iff_ne.2 (by omega), beq_eq_false_iff_ne.2 (by omega), beq_eq_false_iff_ne.2 (by omega), beq_eq_false_iff_ne.2 (by omega), beq_eq_false_iff_ne.2 (by omega), beq_eq_false_iff_ne.2 (by omega), beq_eq_false_iff_ne.2 (by omega)⟩ w
end Go.Proofs.Ytgkemmhpfekoaaa.TaskHand
