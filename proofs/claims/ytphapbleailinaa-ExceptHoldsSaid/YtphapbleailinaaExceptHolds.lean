/- Disabled, what is raised waits; enabled, it is taken whole; reset, nothing waits: the walk of ExceptHolds. Conditions: none. -/
import Derived.Test.YtphapbleailinaaExceptBase
namespace Go.Proofs.Ytphapbleailinaa.ExceptHand
open Go.RowKit Go.Proofs.YtphapbleailinaaW.PrintWords Go.Proofs.YtphapbleailinaaW.PrintLast Go.Proofs.YtphapbleailinaaW.PrintMore Go.Proofs.Ytphapbleailinaa.PExceptPlays
theorem U.of {x : Int} (h : (Lit.int .u32 x).wf = true) : U x := by
  simp [Lit.wf, IntKind.min, IntKind.max, IntKind.signed, IntKind.bits] at h
  unfold U; omega
set_option maxHeartbeats 2000000 in
set_option maxRecDepth 100000 in
theorem holds_walk (a b : Int) (r : Bool) (w : World) (wa : (Lit.int .u32 a).wf = true) (wb : (Lit.int .u32 b).wf = true) :
    Calls Try.prog 5 #[.int .u32 a, .int .u32 b, .bool r] w fun e w' => e = .returned (.bool true) ∧ Below w.heap.size w w' := by
  have ha := U.of wa
  have hb := U.of wb
  by_cases za : a = 0
  · have q1 : (a == 0) = true := beq_iff_eq.2 za
    clear za ha hb wa wb
    go_enter Try.func5, Try.ntmps5
    go_wp2_with fail
    refine (known_calls w).mono ?_
    rintro e w1 ⟨rfl, h1⟩
    have H1 := Aside0.mk h1; clear h1
    go_wp2
    go_ret
    exact ⟨rfl, H1.out⟩
  by_cases zb : b = 0
  · have q1 : (a == 0) = false := beq_eq_false_iff_ne.2 za
    have q2 : (b == 0) = true := beq_iff_eq.2 zb
    clear za zb ha hb wa wb
    go_enter Try.func5, Try.ntmps5
    go_wp2_with fail
    refine (known_calls w).mono ?_
    rintro e w1 ⟨rfl, h1⟩
    have H1 := Aside0.mk h1; clear h1
    go_wp2
    go_ret
    exact ⟨rfl, H1.out⟩
  have q1 : (a == 0) = false := beq_eq_false_iff_ne.2 za
  have q2 : (b == 0) = false := beq_eq_false_iff_ne.2 zb
  have za' := Aside0.mk za; clear za
  have zb' := Aside0.mk zb; clear zb
  have ha' := Aside0.mk ha; clear ha
  have hb' := Aside0.mk hb; clear hb
  clear wa wb
  go_enter Try.func5, Try.ntmps5
  go_wp2_with fail
  refine (known_calls w).mono ?_
  rintro e w1 ⟨rfl, h1⟩
  have H1 := Aside0.mk h1; clear h1
  go_wp2_with fail
  refine (raise_one (T.made H1.out) (by simp) a ha'.out za'.out).mono ?_
  rintro e w2 ⟨rfl, h2⟩
  have H2 := Aside0.mk h2; clear h2
  go_wp2_with fail
  refine (take_no H2.out (.inl rfl)).mono ?_
  rintro e w3 ⟨rfl, h3⟩
  have H3 := Aside0.mk h3; clear h3
  go_wp2_with fail
  refine (raise_one H3.out rfl b hb'.out zb'.out).mono ?_
  rintro e w4 ⟨rfl, h4⟩
  rw [zero_or ha'.out] at h4
  have H4 := Aside0.mk h4; clear h4
  cases r with
  | true =>
    go_wp2_with fail
    refine (reset_T H4.out).mono ?_
    rintro e w5 ⟨rfl, h5⟩
    have H5 := Aside0.mk h5; clear h5
    go_wp2_with fail
    refine (enable_T H5.out).mono ?_
    rintro e w6 ⟨rfl, h6⟩
    have H6 := Aside0.mk h6; clear h6
    go_wp2_with fail
    refine (take_no H6.out (.inr rfl)).mono ?_
    rintro e w7 ⟨rfl, h7⟩
    have H7 := Aside0.mk h7; clear h7
    go_wp2
    go_ret
    exact ⟨rfl, H7.out.2⟩
  | false =>
    have hne : o32 a b ≠ 0 := or_ne ha'.out hb'.out za'.out
    have hne' := Aside0.mk hne; clear hne
    go_wp2_with fail
    refine (enable_T H4.out).mono ?_
    rintro e w6 ⟨rfl, h6⟩
    have H6 := Aside0.mk h6; clear h6
    go_wp2_with fail
    refine (take_yes H6.out hne'.out rfl).mono ?_
    rintro e w7 ⟨rfl, h7⟩
    have H7 := Aside0.mk h7; clear h7
    go_wp2
    go_ret
    exact ⟨by simp, H7.out.2⟩
end Go.Proofs.Ytphapbleailinaa.ExceptHand
