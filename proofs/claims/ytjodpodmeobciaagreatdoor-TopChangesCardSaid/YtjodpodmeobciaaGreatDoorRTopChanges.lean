/- The card of TopChanges: a priority that is changed is told, and decides at once who runs. Conditions: none beside the statement's own. -/
import Derived.Test.YtjodpodmeobciaaGreatDoorCards
import Derived.Test.YtjodpodmeobciaaGreatDoorTie
import Derived.Test.YtjodpodmeobciaaGreatDoorWTopChanges
import Derived.WalkKit
import Derived.ProofKit
import Derived.OpenShut
import Derived.LaidMore
import Derived.SevenTiedAt
import Derived.Below
import Derived.ChangeSame
import Derived.Stop.Joined
namespace Go.Proofs.YtjodpodmeobciaaGreatDoor.topChanges
open Go.ChangeShapes Go.WideShapes Go.ChangeAt Go.RowKit
set_option linter.unusedVariables false
set_option maxRecDepth 100000 in
theorem lifted (os : Os) (started : os.Started) (H : Type) (enc : TypeId × Value → H) :
    ReturnsInHanded {} Tryz.checked os 9 .any (fun w args => (Rows.topChangesSpec.pre enc Tryz.prog Tryz.f9 [] false w args ∧ laidMetH Tryz.prog laidT w) ∧ sizedMet enc Tryz.prog Tryz.f9 (OpenSpec.ofChange Rows.topChangesSpec) false w args)
      (Rows.topChangesSpec.post enc Tryz.prog Tryz.f9 false true false false) := by
  refine returnsInHanded_of_change_and (C := Tryz.checked) (X := (fun w _ => laidMetH Tryz.prog laidT w)) (fun _ _ _ hh h => h.of_heap hh) hown started (by kernel_rfl) Tryz.func9
    (ChangeSpec.witness_shaped (enc := enc) (C := Tryz.checked) (os := os) (X := (fun w _ => laidMetH Tryz.prog laidT w)) false (World.doorLaid Tryz.prog 400 os) #[.int .u8 0, .int .u8 0, .int .u8 0] 8 rfl (World.shaped_of_RefB (by kernel_rfl) (by kernel_rfl)) (by kernel_rfl) (by kernel_rfl) (by kernel_rfl) (door_met os _)) ?_
  intro W base args ds gs before hval0 hW _ _ hL _
  have hval : ∀ (j : Nat) t v, Tryz.f9.params[j]? = some t → args[j]? = some v → Value.okWide Tryz.prog W .any base t v := hval0
  have hW' := hW
  obtain ⟨p, q, hA0, hV, rfl, hfz, hnd⟩ := hW
  have hA : DataW.TrodAll enc Tryz.prog W 0 (fun _ => true) true Tryz.f9.params.toList args.toList ds p := hA0
  rw [Tryz.params9] at hA hval
  obtain ⟨v0, vs0, d0, ds0, p0, q0, hargs, rfl, rfl, h0, r0⟩ := trodAll_cons hA
  obtain ⟨v1, vs1, d1, ds1, p1, q1, rfl, rfl, rfl, h1, r1⟩ := trodAll_cons r0
  obtain ⟨v2, vs2, d2, ds2, p2, q2, rfl, rfl, rfl, h2, r2⟩ := trodAll_cons r1
  obtain ⟨rfl, rfl, rfl⟩ := trodAll_nil r2
  obtain rfl : args = #[v0, v1, v2] := by cases args; simp_all
  obtain ⟨rfl, rfl⟩ := trodVars_none hV
  obtain ⟨a0, rfl, rfl, rfl, w0⟩ := open_int Tryz.underlying5 (hval 0 5 v0 rfl rfl) h0
  obtain ⟨a1, rfl, rfl, rfl, w1⟩ := open_int Tryz.underlying5 (hval 1 5 v1 rfl rfl) h1
  obtain ⟨a2, rfl, rfl, rfl, w2⟩ := open_int Tryz.underlying5 (hval 2 5 v2 rfl rfl) h2
  clear hA0 hval0
  refine (walk a0 a1 a2 W w0 w1 w2 (tab_of_laid hL)).mono fun e W' ⟨he, bel⟩ => ?_
  subst he
  exact ⟨_, rfl, _, _, _, [], _, [], hW', trodAll_mk1 (shut_bool Tryz.underlying4 _), (trodAll_cons_mk (shut_int Tryz.underlying5 w0) (trodAll_cons_mk (shut_int Tryz.underlying5 w1) (trodAll_cons_mk (shut_int Tryz.underlying5 w2) trodAll_mk0))), rfl, bel.frame _, fun h => by cases h⟩
theorem cc1 : Rows.topChangesRow.inPlace = Tryz.prog.inPlace 9 := by kernel_rfl
theorem cc2 : Rows.topChangesRow.unfollowed = Tryz.prog.unfollowed 9 := by kernel_rfl
theorem cc3 : Rows.topChangesRow.recurses = Tryz.prog.recurses 9 := by kernel_rfl
theorem cc4 : Rows.topChangesRow.named = Tryz.prog.varsNamed 9 := by kernel_rfl
theorem closed : joinedFacts Tryz.prog 9 Tryz.f9 Rows.topChangesSpec Rows.topChangesRow = true := by
  unfold joinedFacts
  rw [← cc1, ← cc2, ← cc3, ← cc4]
  kernel_rfl
theorem goes : false = Rows.topChangesRow.goesBy Tryz.prog := by kernel_rfl
theorem over : Rows.topChangesRow.holds Tryz.pinned (OpenSpec.ofChange Rows.topChangesSpec) :=
  OpenClaim.holds_of_wide 9 Tryz.f9 rfl rfl rfl rfl rfl rfl rfl ⟨rfl, rfl, rfl, rfl, rfl⟩ rfl rfl rfl rfl rfl (by kernel_rfl) Tryz.func9 closed
    (of_decide_eq_true (by kernel_rfl)) (by unfold Func.isWrapper; first | (rw [if_pos (by decide +kernel)]; kernel_rfl) | (rw [if_neg (by decide +kernel)]; exact ⟨rfl, rfl⟩))
    (fun os started H enc _ => lifted os started H enc)
theorem card : Claim7.holds Tryz.pinned (.plain (OpenSpec.ofChange Rows.topChangesSpec)) Rows.topChangesCard :=
  Claim7.holds_tied_plain_at .later [] [.data] true (true, "993d361bf3b44063e8d21e331ebcc8464b1c344382fdc2b3236c34a7d61c096d") false
    over (fun _ h => by cases h) (by kernel_rfl) (fun _ h => by cases h) topChanges_row_tie rfl ⟨rfl, rfl⟩ (by kernel_rfl) rfl
    (fun f fn hf hfn => by
      obtain rfl : f = 9 := Option.some.inj ((show Tryz.prog.funcNamed Rows.topChangesRow.func = some 9 by kernel_rfl).symm.trans hf) |>.symm
      obtain rfl : fn = Tryz.f9 := (Option.some.inj (Tryz.func9.symm.trans hfn)).symm
      exact ⟨by kernel_rfl, fun j t ht => by
        rw [Tryz.params9] at ht
        have hw : (#[5, 5, 5] : Array Nat).all (fun t => !Tryz.prog.wantsStandIn t) = true := by kernel_rfl
        have := (Array.all_eq_true_iff_forall_mem.1 hw) t (Array.mem_of_getElem? ht)
        show Tryz.prog.wantsStandIn t = false
        simpa using this⟩)
    goes
end Go.Proofs.YtjodpodmeobciaaGreatDoor.topChanges
namespace Go.Proofs.YtjodpodmeobciaaGreatDoor
/-- The card, for the claim. -/
theorem topChanges_holds : Rows.TopChangesCardSaid := topChanges.card
#print axioms topChanges_holds
end Go.Proofs.YtjodpodmeobciaaGreatDoor
