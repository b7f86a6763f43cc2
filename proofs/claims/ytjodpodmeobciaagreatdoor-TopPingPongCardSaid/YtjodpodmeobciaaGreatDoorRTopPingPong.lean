/- The card of TopPingPong: two tasks that signal each other run in turn, as often as one likes. Conditions: none beside the statement's own. -/
import Derived.Test.YtjodpodmeobciaaGreatDoorCards
import Derived.Test.YtjodpodmeobciaaGreatDoorTie
import Derived.Test.YtjodpodmeobciaaGreatDoorWTopPingPong
import Derived.WalkKit
import Derived.ProofKit
import Derived.OpenShut
import Derived.LaidMore
import Derived.SevenTiedAt
import Derived.Below
import Derived.ChangeSame
import Derived.Stop.Joined
namespace Go.Proofs.YtjodpodmeobciaaGreatDoor.topPingPong
open Go.ChangeShapes Go.WideShapes Go.ChangeAt Go.RowKit
set_option linter.unusedVariables false
set_option maxRecDepth 100000 in
theorem lifted (os : Os) (started : os.Started) (H : Type) (enc : TypeId × Value → H) :
    ReturnsInHanded {} Tryz.checked os 13 .any (fun w args => (Rows.topPingPongSpec.pre enc Tryz.prog Tryz.f13 [] false w args ∧ laidMetH Tryz.prog laidT w) ∧ sizedMet enc Tryz.prog Tryz.f13 (OpenSpec.ofChange Rows.topPingPongSpec) false w args)
      (Rows.topPingPongSpec.post enc Tryz.prog Tryz.f13 false true false false) := by
  refine returnsInHanded_of_change_and (C := Tryz.checked) (X := (fun w _ => laidMetH Tryz.prog laidT w)) (fun _ _ _ hh h => h.of_heap hh) hown started (by kernel_rfl) Tryz.func13
    (ChangeSpec.witness_shaped (enc := enc) (C := Tryz.checked) (os := os) (X := (fun w _ => laidMetH Tryz.prog laidT w)) false (World.doorLaid Tryz.prog 400 os) #[.int .u8 0] 8 rfl (World.shaped_of_RefB (by kernel_rfl) (by kernel_rfl)) (by kernel_rfl) (by kernel_rfl) (by kernel_rfl) (door_met os _)) ?_
  intro W base args ds gs before hval0 hW _ _ hL _
  have hval : ∀ (j : Nat) t v, Tryz.f13.params[j]? = some t → args[j]? = some v → Value.okWide Tryz.prog W .any base t v := hval0
  have hW' := hW
  obtain ⟨p, q, hA0, hV, rfl, hfz, hnd⟩ := hW
  have hA : DataW.TrodAll enc Tryz.prog W 0 (fun _ => true) true Tryz.f13.params.toList args.toList ds p := hA0
  rw [Tryz.params13] at hA hval
  obtain ⟨v0, vs0, d0, ds0, p0, q0, hargs, rfl, rfl, h0, r0⟩ := trodAll_cons hA
  obtain ⟨rfl, rfl, rfl⟩ := trodAll_nil r0
  obtain rfl : args = #[v0] := by cases args; simp_all
  obtain ⟨rfl, rfl⟩ := trodVars_none hV
  obtain ⟨a0, rfl, rfl, rfl, w0⟩ := open_int Tryz.underlying5 (hval 0 5 v0 rfl rfl) h0
  clear hA0 hval0
  refine (walk a0 W w0 (tab_of_laid hL)).mono fun e W' ⟨he, bel⟩ => ?_
  subst he
  exact ⟨_, rfl, _, _, _, [], _, [], hW', trodAll_mk1 (shut_bool Tryz.underlying4 _), (trodAll_cons_mk (shut_int Tryz.underlying5 w0) trodAll_mk0), rfl, bel.frame _, fun h => by cases h⟩
theorem c1 : Rows.topPingPongRow.inPlace = Tryz.prog.inPlace 13 := by kernel_rfl
theorem c2 : Rows.topPingPongRow.unfollowed = Tryz.prog.unfollowed 13 := by kernel_rfl
theorem c3 : Rows.topPingPongRow.recurses = Tryz.prog.recurses 13 := by kernel_rfl
theorem c4 : Rows.topPingPongRow.named = Tryz.prog.varsNamed 13 := by kernel_rfl
theorem closed : joinedFacts Tryz.prog 13 Tryz.f13 Rows.topPingPongSpec Rows.topPingPongRow = true := by
  unfold joinedFacts
  rw [← c1, ← c2, ← c3, ← c4]
  kernel_rfl
theorem goes : false = Rows.topPingPongRow.goesBy Tryz.prog := by kernel_rfl
theorem over : Rows.topPingPongRow.holds Tryz.pinned (OpenSpec.ofChange Rows.topPingPongSpec) :=
  OpenClaim.holds_of_wide 13 Tryz.f13 rfl rfl rfl rfl rfl rfl rfl ⟨rfl, rfl, rfl, rfl, rfl⟩ rfl rfl rfl rfl rfl (by kernel_rfl) Tryz.func13 closed
    (of_decide_eq_true (by kernel_rfl)) (by unfold Func.isWrapper; first | (rw [if_pos (by decide +kernel)]; kernel_rfl) | (rw [if_neg (by decide +kernel)]; exact ⟨rfl, rfl⟩))
    (fun os started H enc _ => lifted os started H enc)
theorem card : Claim7.holds Tryz.pinned (.plain (OpenSpec.ofChange Rows.topPingPongSpec)) Rows.topPingPongCard :=
  Claim7.holds_tied_plain_at .later [] [.data] true (true, "993d361bf3b44063e8d21e331ebcc8464b1c344382fdc2b3236c34a7d61c096d") false
    over (fun _ h => by cases h) (by kernel_rfl) (fun _ h => by cases h) topPingPong_row_tie rfl ⟨rfl, rfl⟩ (by kernel_rfl) rfl
    (fun f fn hf hfn => by
      obtain rfl : f = 13 := Option.some.inj ((show Tryz.prog.funcNamed Rows.topPingPongRow.func = some 13 by kernel_rfl).symm.trans hf) |>.symm
      obtain rfl : fn = Tryz.f13 := (Option.some.inj (Tryz.func13.symm.trans hfn)).symm
      exact ⟨by kernel_rfl, fun j t ht => by
        rw [Tryz.params13] at ht
        have hw : (#[5] : Array Nat).all (fun t => !Tryz.prog.wantsStandIn t) = true := by kernel_rfl
        have := (Array.all_eq_true_iff_forall_mem.1 hw) t (Array.mem_of_getElem? ht)
        show Tryz.prog.wantsStandIn t = false
        simpa using this⟩)
    goes
end Go.Proofs.YtjodpodmeobciaaGreatDoor.topPingPong
namespace Go.Proofs.YtjodpodmeobciaaGreatDoor
/-- The card, for the claim. -/
theorem topPingPong_holds : Rows.TopPingPongCardSaid := topPingPong.card
#print axioms topPingPong_holds
end Go.Proofs.YtjodpodmeobciaaGreatDoor
