/- The card of TopRotates: rotated, tasks of one priority run in turn, round and round. Conditions: none beside the statement's own. -/
import Derived.Test.YtjodpodmeobciaaGreatDoorCards
import Derived.Test.YtjodpodmeobciaaGreatDoorTie
import Derived.Test.YtjodpodmeobciaaGreatDoorWTopRotates
import Derived.WalkKit
import Derived.ProofKit
import Derived.OpenShut
import Derived.LaidMore
import Derived.SevenTiedAt
import Derived.Below
import Derived.ChangeSame
import Derived.Stop.Joined
namespace Go.Proofs.YtjodpodmeobciaaGreatDoor.topRotates
open Go.ChangeShapes Go.WideShapes Go.ChangeAt Go.RowKit
set_option linter.unusedVariables false
set_option maxRecDepth 100000 in
theorem lifted (os : Os) (started : os.Started) (H : Type) (enc : TypeId × Value → H) :
    ReturnsInHanded {} Tryz.checked os 8 .any (fun w args => (Rows.topRotatesSpec.pre enc Tryz.prog Tryz.f8 [] false w args ∧ laidMetH Tryz.prog laidT w) ∧ sizedMet enc Tryz.prog Tryz.f8 (OpenSpec.ofChange Rows.topRotatesSpec) false w args)
      (Rows.topRotatesSpec.post enc Tryz.prog Tryz.f8 false true false false) := by
  refine returnsInHanded_of_change_and (C := Tryz.checked) (X := (fun w _ => laidMetH Tryz.prog laidT w)) (fun _ _ _ hh h => h.of_heap hh) hown started (by kernel_rfl) Tryz.func8
    (ChangeSpec.witness_shaped (enc := enc) (C := Tryz.checked) (os := os) (X := (fun w _ => laidMetH Tryz.prog laidT w)) false (World.doorLaid Tryz.prog 400 os) #[.int .u8 0, .int .u8 0] 8 rfl (World.shaped_of_RefB (by kernel_rfl) (by kernel_rfl)) (by kernel_rfl) (by kernel_rfl) (by kernel_rfl) (door_met os _)) ?_
  intro W base args ds gs before hval0 hW _ _ hL _
  have hval : ∀ (j : Nat) t v, Tryz.f8.params[j]? = some t → args[j]? = some v → Value.okWide Tryz.prog W .any base t v := hval0
  have hW' := hW
  obtain ⟨p, q, hA0, hV, rfl, hfz, hnd⟩ := hW
  have hA : DataW.TrodAll enc Tryz.prog W 0 (fun _ => true) true Tryz.f8.params.toList args.toList ds p := hA0
  rw [Tryz.params8] at hA hval
  obtain ⟨v0, vs0, d0, ds0, p0, q0, hargs, rfl, rfl, h0, r0⟩ := trodAll_cons hA
  obtain ⟨v1, vs1, d1, ds1, p1, q1, rfl, rfl, rfl, h1, r1⟩ := trodAll_cons r0
  obtain ⟨rfl, rfl, rfl⟩ := trodAll_nil r1
  obtain rfl : args = #[v0, v1] := by cases args; simp_all
  obtain ⟨rfl, rfl⟩ := trodVars_none hV
  obtain ⟨a0, rfl, rfl, rfl, w0⟩ := open_int Tryz.underlying5 (hval 0 5 v0 rfl rfl) h0
  obtain ⟨a1, rfl, rfl, rfl, w1⟩ := open_int Tryz.underlying5 (hval 1 5 v1 rfl rfl) h1
  clear hA0 hval0
  refine (walk a0 a1 W w0 w1 (tab_of_laid hL)).mono fun e W' ⟨he, bel⟩ => ?_
  subst he
  exact ⟨_, rfl, _, _, _, [], _, [], hW', trodAll_mk1 (shut_bool Tryz.underlying4 _), (trodAll_cons_mk (shut_int Tryz.underlying5 w0) (trodAll_cons_mk (shut_int Tryz.underlying5 w1) trodAll_mk0)), rfl, bel.frame _, fun h => by cases h⟩
theorem cc1 : Rows.topRotatesRow.inPlace = Tryz.prog.inPlace 8 := by kernel_rfl
theorem cc2 : Rows.topRotatesRow.unfollowed = Tryz.prog.unfollowed 8 := by kernel_rfl
theorem cc3 : Rows.topRotatesRow.recurses = Tryz.prog.recurses 8 := by kernel_rfl
theorem cc4 : Rows.topRotatesRow.named = Tryz.prog.varsNamed 8 := by kernel_rfl
theorem closed : joinedFacts Tryz.prog 8 Tryz.f8 Rows.topRotatesSpec Rows.topRotatesRow = true := by
  unfold joinedFacts
  rw [← cc1, ← cc2, ← cc3, ← cc4]
  kernel_rfl
theorem goes : false = Rows.topRotatesRow.goesBy Tryz.prog := by kernel_rfl
theorem over : Rows.topRotatesRow.holds Tryz.pinned (OpenSpec.ofChange Rows.topRotatesSpec) :=
  OpenClaim.holds_of_wide 8 Tryz.f8 rfl rfl rfl rfl rfl rfl rfl ⟨rfl, rfl, rfl, rfl, rfl⟩ rfl rfl rfl rfl rfl (by kernel_rfl) Tryz.func8 closed
    (of_decide_eq_true (by kernel_rfl)) (by unfold Func.isWrapper; first | (rw [if_pos (by decide +kernel)]; kernel_rfl) | (rw [if_neg (by decide +kernel)]; exact ⟨rfl, rfl⟩))
    (fun os started H enc _ => lifted os started H enc)
theorem card : Claim7.holds Tryz.pinned (.plain (OpenSpec.ofChange Rows.topRotatesSpec)) Rows.topRotatesCard :=
  Claim7.holds_tied_plain_at .later [] [.data] true (true, "993d361bf3b44063e8d21e331ebcc8464b1c344382fdc2b3236c34a7d61c096d") false
    over (fun _ h => by cases h) (by kernel_rfl) (fun _ h => by cases h) topRotates_row_tie rfl ⟨rfl, rfl⟩ (by kernel_rfl) rfl
    (fun f fn hf hfn => by
      obtain rfl : f = 8 := Option.some.inj ((show Tryz.prog.funcNamed Rows.topRotatesRow.func = some 8 by kernel_rfl).symm.trans hf) |>.symm
      obtain rfl : fn = Tryz.f8 := (Option.some.inj (Tryz.func8.symm.trans hfn)).symm
      exact ⟨by kernel_rfl, fun j t ht => by
        rw [Tryz.params8] at ht
        have hw : (#[5, 5] : Array Nat).all (fun t => !Tryz.prog.wantsStandIn t) = true := by kernel_rfl
        have := (Array.all_eq_true_iff_forall_mem.1 hw) t (Array.mem_of_getElem? ht)
        show Tryz.prog.wantsStandIn t = false
        simpa using this⟩)
    goes
end Go.Proofs.YtjodpodmeobciaaGreatDoor.topRotates
namespace Go.Proofs.YtjodpodmeobciaaGreatDoor
/-- The card, for the claim. -/
theorem topRotates_holds : Rows.TopRotatesCardSaid := topRotates.card
#print axioms topRotates_holds
end Go.Proofs.YtjodpodmeobciaaGreatDoor
