/- The card of TopFlags: bits that are set wake all that wait for them, each told the bits; who waits for others stays. Conditions: none beside the statement's own. -/
import Derived.Test.YtjodpodmeobciaaGreatDoorCards
import Derived.Test.YtjodpodmeobciaaGreatDoorTie
import Derived.Test.YtjodpodmeobciaaGreatDoorWTopFlags
import Derived.WalkKit
import Derived.ProofKit
import Derived.OpenShut
import Derived.LaidMore
import Derived.SevenTiedAt
import Derived.Below
import Derived.ChangeSame
import Derived.Stop.Joined
namespace Go.Proofs.YtjodpodmeobciaaGreatDoor.topFlags
open Go.ChangeShapes Go.WideShapes Go.ChangeAt Go.RowKit
set_option linter.unusedVariables false
theorem laidOut : laidOutB Tryz.prog = true := by kernel_rfl
set_option maxRecDepth 100000 in
theorem lifted (os : Os) (started : os.Started) (H : Type) (enc : TypeId × Value → H) :
    ReturnsInHanded {} Tryz.checked os 10 .any (fun w args => (Rows.topFlagsSpec.pre enc Tryz.prog Tryz.f10 [] false w args ∧ laidMetH Tryz.prog laidT w) ∧ sizedMet enc Tryz.prog Tryz.f10 (OpenSpec.ofChange Rows.topFlagsSpec) false w args)
      (Rows.topFlagsSpec.post enc Tryz.prog Tryz.f10 false true false false) := by
  refine returnsInHanded_of_change_and (C := Tryz.checked) (X := (fun w _ => laidMetH Tryz.prog laidT w)) (fun _ _ _ hh h => h.of_heap hh) hown started (by kernel_rfl) Tryz.func10
    (ChangeSpec.witness_shaped (enc := enc) (C := Tryz.checked) (os := os) (X := (fun w _ => laidMetH Tryz.prog laidT w)) false (World.doorLaid Tryz.prog 400 os) #[.slice none 0 0, .int .u8 0] 8 rfl (World.shaped_of_RefB (by kernel_rfl) (by kernel_rfl)) (by kernel_rfl) (by kernel_rfl) (by kernel_rfl) (door_met os _)) ?_
  intro W base args ds gs before hval0 hW _ _ hL _
  have hval : ∀ (j : Nat) t v, Tryz.f10.params[j]? = some t → args[j]? = some v → Value.okWide Tryz.prog W .any base t v := hval0
  have hW' := hW
  obtain ⟨p, q, hA0, hV, rfl, hfz, hnd⟩ := hW
  have hA : DataW.TrodAll enc Tryz.prog W 0 (fun _ => true) true Tryz.f10.params.toList args.toList ds p := hA0
  rw [Tryz.params10] at hA hval
  obtain ⟨v0, vs0, d0, ds0, p0, q0, hargs, rfl, rfl, h0, r0⟩ := trodAll_cons hA
  obtain ⟨v1, vs1, d1, ds1, p1, q1, rfl, rfl, rfl, h1, r1⟩ := trodAll_cons r0
  obtain ⟨rfl, rfl, rfl⟩ := trodAll_nil r1
  obtain rfl : args = #[v0, v1] := by cases args; simp_all
  obtain ⟨rfl, rfl⟩ := trodVars_none hV
  obtain ⟨a0, len0, cap0, rfl⟩ := okWide_slice Tryz.underlying62 (hval 0 62 v0 rfl rfl)
  have k0 := h0
  have lt0 : ∀ x ∈ p0, x.block < W.heap.size := by obtain ⟨m, hm⟩ := k0; exact DataW.trod_lt m _ _ _ hm
  obtain ⟨z0, w0⟩ : ∃ zs, Go.Rsf.RowIn .u8 W a0 len0 cap0 zs := by
    obtain ⟨fuel, hf⟩ := h0
    rcases open_ints Tryz.underlying62 Tryz.underlying5 (by kernel_rfl) hf with ⟨hcs, _⟩ | ⟨x, l, c, zs, hcs, _, hl, hm, hz, _, hcell, hwz⟩
    · simp [Value.cells] at hcs
      obtain ⟨rfl, rfl, rfl⟩ := hcs
      exact ⟨[], .inl ⟨rfl, rfl, rfl, rfl⟩⟩
    · simp [Value.cells] at hcs
      obtain ⟨rfl, rfl, rfl⟩ := hcs
      exact ⟨zs, .inr ⟨_, rfl, hl, hm, by simpa using hz, hcell, hwz⟩⟩
  obtain ⟨a1, rfl, rfl, rfl, w1⟩ := open_int Tryz.underlying5 (hval 1 5 v1 rfl rfl) h1
  clear hA0 hval0
  refine (walk a0 len0 cap0 z0 a1 W w0 w1 (tab_of_laid hL)).mono fun e W' ⟨he, bel⟩ => ?_
  subst he
  exact ⟨_, rfl, _, _, _, [], _, [], hW', trodAll_mk1 (shut_bool Tryz.underlying4 _), (trodAll_cons_mk (Below.trod laidOut (by kernel_rfl) (of_decide_eq_true (by kernel_rfl)) k0 bel lt0) (trodAll_cons_mk (shut_int Tryz.underlying5 w1) trodAll_mk0)), rfl, bel.frame _, fun h => by cases h⟩
theorem cc1 : Rows.topFlagsRow.inPlace = Tryz.prog.inPlace 10 := by kernel_rfl
theorem cc2 : Rows.topFlagsRow.unfollowed = Tryz.prog.unfollowed 10 := by kernel_rfl
theorem cc3 : Rows.topFlagsRow.recurses = Tryz.prog.recurses 10 := by kernel_rfl
theorem cc4 : Rows.topFlagsRow.named = Tryz.prog.varsNamed 10 := by kernel_rfl
theorem closed : joinedFacts Tryz.prog 10 Tryz.f10 Rows.topFlagsSpec Rows.topFlagsRow = true := by
  unfold joinedFacts
  rw [← cc1, ← cc2, ← cc3, ← cc4]
  kernel_rfl
theorem goes : false = Rows.topFlagsRow.goesBy Tryz.prog := by kernel_rfl
theorem over : Rows.topFlagsRow.holds Tryz.pinned (OpenSpec.ofChange Rows.topFlagsSpec) :=
  OpenClaim.holds_of_wide 10 Tryz.f10 rfl rfl rfl rfl rfl rfl rfl ⟨rfl, rfl, rfl, rfl, rfl⟩ rfl rfl rfl rfl rfl (by kernel_rfl) Tryz.func10 closed
    (of_decide_eq_true (by kernel_rfl)) (by unfold Func.isWrapper; first | (rw [if_pos (by decide +kernel)]; kernel_rfl) | (rw [if_neg (by decide +kernel)]; exact ⟨rfl, rfl⟩))
    (fun os started H enc _ => lifted os started H enc)
theorem card : Claim7.holds Tryz.pinned (.plain (OpenSpec.ofChange Rows.topFlagsSpec)) Rows.topFlagsCard :=
  Claim7.holds_tied_plain_at .later [] [.data] true (true, "993d361bf3b44063e8d21e331ebcc8464b1c344382fdc2b3236c34a7d61c096d") false
    over (fun _ h => by cases h) (by kernel_rfl) (fun _ h => by cases h) topFlags_row_tie rfl ⟨rfl, rfl⟩ (by kernel_rfl) rfl
    (fun f fn hf hfn => by
      obtain rfl : f = 10 := Option.some.inj ((show Tryz.prog.funcNamed Rows.topFlagsRow.func = some 10 by kernel_rfl).symm.trans hf) |>.symm
      obtain rfl : fn = Tryz.f10 := (Option.some.inj (Tryz.func10.symm.trans hfn)).symm
      exact ⟨by kernel_rfl, fun j t ht => by
        rw [Tryz.params10] at ht
        have hw : (#[62, 5] : Array Nat).all (fun t => !Tryz.prog.wantsStandIn t) = true := by kernel_rfl
        have := (Array.all_eq_true_iff_forall_mem.1 hw) t (Array.mem_of_getElem? ht)
        show Tryz.prog.wantsStandIn t = false
        simpa using this⟩)
    goes
end Go.Proofs.YtjodpodmeobciaaGreatDoor.topFlags
namespace Go.Proofs.YtjodpodmeobciaaGreatDoor
/-- The card, for the claim. -/
theorem topFlags_holds : Rows.TopFlagsCardSaid := topFlags.card
#print axioms topFlags_holds
end Go.Proofs.YtjodpodmeobciaaGreatDoor
