/-
  DERIVED. GIVEN WITH THE SEED: THE CARDS: each row of YtjodpodmeobciaaGreatDoorRows.lean that lists a variable, with what it lists TIED to the program's text (the seventh form; the later family's looks); each row that meets fmt, with fmt's text TOLD by the authors' own Lean function (tested against real Go, not proved from fmt's source: count such statements apart). THE CARD IS WHAT COUNTS. Prove the row's statement (the work); the ties are given (YtjodpodmeobciaaGreatDoorTie.lean); close each card by the builder's one call (the guide's Derived/Test/ToyasCard.lean, 'card_holds'). Laid BY PROGRAM, IN A SANDBOX (cutbox-door.mjs). By AI agents, Wed Nov 11 2026. No macro, syntax, notation, axiom, sorry.
-/
import Derived.Test.YtjodpodmeobciaaGreatDoorRows
import GoSem.ClaimSeven
namespace Go.Proofs.YtjodpodmeobciaaGreatDoor
namespace Rows

/-- THE TIED CARD OF 'detenttop.TopLocked'. -/
def topLockedCard : Claim7 := { stood := { row := topLockedRow, standIns := [], harness := (true, "993d361bf3b44063e8d21e331ebcc8464b1c344382fdc2b3236c34a7d61c096d"), looks := false }, kinds := [], alts := [], laidByText := true, laidKinds := [.data], laidTests := true, laidLooks := .later }
def TopLockedCardSaid : Prop := Claim7.holds Tryz.pinned (.plain (OpenSpec.ofChange topLockedSpec)) topLockedCard

/-- THE TIED CARD OF 'detenttop.TopDisabled'. -/
def topDisabledCard : Claim7 := { stood := { row := topDisabledRow, standIns := [], harness := (true, "993d361bf3b44063e8d21e331ebcc8464b1c344382fdc2b3236c34a7d61c096d"), looks := false }, kinds := [], alts := [], laidByText := true, laidKinds := [.data], laidTests := true, laidLooks := .later }
def TopDisabledCardSaid : Prop := Claim7.holds Tryz.pinned (.plain (OpenSpec.ofChange topDisabledSpec)) topDisabledCard

/-- THE TIED CARD OF 'detenttop.TopActivates'. -/
def topActivatesCard : Claim7 := { stood := { row := topActivatesRow, standIns := [], harness := (true, "993d361bf3b44063e8d21e331ebcc8464b1c344382fdc2b3236c34a7d61c096d"), looks := false }, kinds := [], alts := [], laidByText := true, laidKinds := [.data], laidTests := true, laidLooks := .later }
def TopActivatesCardSaid : Prop := Claim7.holds Tryz.pinned (.plain (OpenSpec.ofChange topActivatesSpec)) topActivatesCard

/-- THE TIED CARD OF 'detenttop.TopWakes'. -/
def topWakesCard : Claim7 := { stood := { row := topWakesRow, standIns := [], harness := (true, "993d361bf3b44063e8d21e331ebcc8464b1c344382fdc2b3236c34a7d61c096d"), looks := false }, kinds := [], alts := [], laidByText := true, laidKinds := [.data], laidTests := true, laidLooks := .later }
def TopWakesCardSaid : Prop := Claim7.holds Tryz.pinned (.plain (OpenSpec.ofChange topWakesSpec)) topWakesCard

/-- THE TIED CARD OF 'detenttop.TopSuspends'. -/
def topSuspendsCard : Claim7 := { stood := { row := topSuspendsRow, standIns := [], harness := (true, "993d361bf3b44063e8d21e331ebcc8464b1c344382fdc2b3236c34a7d61c096d"), looks := false }, kinds := [], alts := [], laidByText := true, laidKinds := [.data], laidTests := true, laidLooks := .later }
def TopSuspendsCardSaid : Prop := Claim7.holds Tryz.pinned (.plain (OpenSpec.ofChange topSuspendsSpec)) topSuspendsCard

/-- THE TIED CARD OF 'detenttop.TopRotates'. -/
def topRotatesCard : Claim7 := { stood := { row := topRotatesRow, standIns := [], harness := (true, "993d361bf3b44063e8d21e331ebcc8464b1c344382fdc2b3236c34a7d61c096d"), looks := false }, kinds := [], alts := [], laidByText := true, laidKinds := [.data], laidTests := true, laidLooks := .later }
def TopRotatesCardSaid : Prop := Claim7.holds Tryz.pinned (.plain (OpenSpec.ofChange topRotatesSpec)) topRotatesCard

/-- THE TIED CARD OF 'detenttop.TopChanges'. -/
def topChangesCard : Claim7 := { stood := { row := topChangesRow, standIns := [], harness := (true, "993d361bf3b44063e8d21e331ebcc8464b1c344382fdc2b3236c34a7d61c096d"), looks := false }, kinds := [], alts := [], laidByText := true, laidKinds := [.data], laidTests := true, laidLooks := .later }
def TopChangesCardSaid : Prop := Claim7.holds Tryz.pinned (.plain (OpenSpec.ofChange topChangesSpec)) topChangesCard

/-- THE TIED CARD OF 'detenttop.TopFlags'. -/
def topFlagsCard : Claim7 := { stood := { row := topFlagsRow, standIns := [], harness := (true, "993d361bf3b44063e8d21e331ebcc8464b1c344382fdc2b3236c34a7d61c096d"), looks := false }, kinds := [], alts := [], laidByText := true, laidKinds := [.data], laidTests := true, laidLooks := .later }
def TopFlagsCardSaid : Prop := Claim7.holds Tryz.pinned (.plain (OpenSpec.ofChange topFlagsSpec)) topFlagsCard

/-- THE TIED CARD OF 'detenttop.TopPolls'. -/
def topPollsCard : Claim7 := { stood := { row := topPollsRow, standIns := [], harness := (true, "993d361bf3b44063e8d21e331ebcc8464b1c344382fdc2b3236c34a7d61c096d"), looks := false }, kinds := [], alts := [], laidByText := true, laidKinds := [.data], laidTests := true, laidLooks := .later }
def TopPollsCardSaid : Prop := Claim7.holds Tryz.pinned (.plain (OpenSpec.ofChange topPollsSpec)) topPollsCard

/-- THE TIED CARD OF 'detenttop.TopCycles'. -/
def topCyclesCard : Claim7 := { stood := { row := topCyclesRow, standIns := [], harness := (true, "993d361bf3b44063e8d21e331ebcc8464b1c344382fdc2b3236c34a7d61c096d"), looks := false }, kinds := [], alts := [], laidByText := true, laidKinds := [.data], laidTests := true, laidLooks := .later }
def TopCyclesCardSaid : Prop := Claim7.holds Tryz.pinned (.plain (OpenSpec.ofChange topCyclesSpec)) topCyclesCard

/-- THE TIED CARD OF 'detenttop.TopPingPong'. -/
def topPingPongCard : Claim7 := { stood := { row := topPingPongRow, standIns := [], harness := (true, "993d361bf3b44063e8d21e331ebcc8464b1c344382fdc2b3236c34a7d61c096d"), looks := false }, kinds := [], alts := [], laidByText := true, laidKinds := [.data], laidTests := true, laidLooks := .later }
def TopPingPongCardSaid : Prop := Claim7.holds Tryz.pinned (.plain (OpenSpec.ofChange topPingPongSpec)) topPingPongCard

/-- THE TIED CARD OF 'detenttop.TopPipes'. -/
def topPipesCard : Claim7 := { stood := { row := topPipesRow, standIns := [], harness := (true, "993d361bf3b44063e8d21e331ebcc8464b1c344382fdc2b3236c34a7d61c096d"), looks := false }, kinds := [], alts := [], laidByText := true, laidKinds := [.data], laidTests := true, laidLooks := .later }
def TopPipesCardSaid : Prop := Claim7.holds Tryz.pinned (.plain (OpenSpec.ofChange topPipesSpec)) topPipesCard

/-- THE TIED CARD OF 'detenttop.TopCounts'. -/
def topCountsCard : Claim7 := { stood := { row := topCountsRow, standIns := [], harness := (true, "993d361bf3b44063e8d21e331ebcc8464b1c344382fdc2b3236c34a7d61c096d"), looks := false }, kinds := [], alts := [], laidByText := true, laidKinds := [.data], laidTests := true, laidLooks := .later }
def TopCountsCardSaid : Prop := Claim7.holds Tryz.pinned (.plain (OpenSpec.ofChange topCountsSpec)) topCountsCard

/-- THE TIED CARD OF 'detenttop.TopStarves'. -/
def topStarvesCard : Claim7 := { stood := { row := topStarvesRow, standIns := [], harness := (true, "993d361bf3b44063e8d21e331ebcc8464b1c344382fdc2b3236c34a7d61c096d"), looks := false }, kinds := [], alts := [], laidByText := true, laidKinds := [.data], laidTests := true, laidLooks := .later }
def TopStarvesCardSaid : Prop := Claim7.holds Tryz.pinned (.plain (OpenSpec.ofChange topStarvesSpec)) topStarvesCard

/-- THE SECOND FORM's CARD OF 'detenttop.TopLocked'. -/
def topLockedUptoCard : Claim7 := { stood := { row := topLockedUptoRow, standIns := [], harness := (true, "993d361bf3b44063e8d21e331ebcc8464b1c344382fdc2b3236c34a7d61c096d"), looks := false }, kinds := [], alts := [], laidByText := true, laidKinds := [.data], laidTests := true, laidLooks := .later }
def TopLockedUptoCardSaid : Prop := Claim7.holds Tryz.pinned (.plain (OpenSpec.upto topLockedSpec)) topLockedUptoCard

/-- THE SECOND FORM's CARD OF 'detenttop.TopDisabled'. -/
def topDisabledUptoCard : Claim7 := { stood := { row := topDisabledUptoRow, standIns := [], harness := (true, "993d361bf3b44063e8d21e331ebcc8464b1c344382fdc2b3236c34a7d61c096d"), looks := false }, kinds := [], alts := [], laidByText := true, laidKinds := [.data], laidTests := true, laidLooks := .later }
def TopDisabledUptoCardSaid : Prop := Claim7.holds Tryz.pinned (.plain (OpenSpec.upto topDisabledSpec)) topDisabledUptoCard

/-- THE SECOND FORM's CARD OF 'detenttop.TopActivates'. -/
def topActivatesUptoCard : Claim7 := { stood := { row := topActivatesUptoRow, standIns := [], harness := (true, "993d361bf3b44063e8d21e331ebcc8464b1c344382fdc2b3236c34a7d61c096d"), looks := false }, kinds := [], alts := [], laidByText := true, laidKinds := [.data], laidTests := true, laidLooks := .later }
def TopActivatesUptoCardSaid : Prop := Claim7.holds Tryz.pinned (.plain (OpenSpec.upto topActivatesSpec)) topActivatesUptoCard

/-- THE SECOND FORM's CARD OF 'detenttop.TopWakes'. -/
def topWakesUptoCard : Claim7 := { stood := { row := topWakesUptoRow, standIns := [], harness := (true, "993d361bf3b44063e8d21e331ebcc8464b1c344382fdc2b3236c34a7d61c096d"), looks := false }, kinds := [], alts := [], laidByText := true, laidKinds := [.data], laidTests := true, laidLooks := .later }
def TopWakesUptoCardSaid : Prop := Claim7.holds Tryz.pinned (.plain (OpenSpec.upto topWakesSpec)) topWakesUptoCard

/-- THE SECOND FORM's CARD OF 'detenttop.TopSuspends'. -/
def topSuspendsUptoCard : Claim7 := { stood := { row := topSuspendsUptoRow, standIns := [], harness := (true, "993d361bf3b44063e8d21e331ebcc8464b1c344382fdc2b3236c34a7d61c096d"), looks := false }, kinds := [], alts := [], laidByText := true, laidKinds := [.data], laidTests := true, laidLooks := .later }
def TopSuspendsUptoCardSaid : Prop := Claim7.holds Tryz.pinned (.plain (OpenSpec.upto topSuspendsSpec)) topSuspendsUptoCard

/-- THE SECOND FORM's CARD OF 'detenttop.TopRotates'. -/
def topRotatesUptoCard : Claim7 := { stood := { row := topRotatesUptoRow, standIns := [], harness := (true, "993d361bf3b44063e8d21e331ebcc8464b1c344382fdc2b3236c34a7d61c096d"), looks := false }, kinds := [], alts := [], laidByText := true, laidKinds := [.data], laidTests := true, laidLooks := .later }
def TopRotatesUptoCardSaid : Prop := Claim7.holds Tryz.pinned (.plain (OpenSpec.upto topRotatesSpec)) topRotatesUptoCard

/-- THE SECOND FORM's CARD OF 'detenttop.TopChanges'. -/
def topChangesUptoCard : Claim7 := { stood := { row := topChangesUptoRow, standIns := [], harness := (true, "993d361bf3b44063e8d21e331ebcc8464b1c344382fdc2b3236c34a7d61c096d"), looks := false }, kinds := [], alts := [], laidByText := true, laidKinds := [.data], laidTests := true, laidLooks := .later }
def TopChangesUptoCardSaid : Prop := Claim7.holds Tryz.pinned (.plain (OpenSpec.upto topChangesSpec)) topChangesUptoCard

/-- THE SECOND FORM's CARD OF 'detenttop.TopFlags'. -/
def topFlagsUptoCard : Claim7 := { stood := { row := topFlagsUptoRow, standIns := [], harness := (true, "993d361bf3b44063e8d21e331ebcc8464b1c344382fdc2b3236c34a7d61c096d"), looks := false }, kinds := [], alts := [], laidByText := true, laidKinds := [.data], laidTests := true, laidLooks := .later }
def TopFlagsUptoCardSaid : Prop := Claim7.holds Tryz.pinned (.plain (OpenSpec.upto topFlagsSpec)) topFlagsUptoCard

/-- THE SECOND FORM's CARD OF 'detenttop.TopPolls'. -/
def topPollsUptoCard : Claim7 := { stood := { row := topPollsUptoRow, standIns := [], harness := (true, "993d361bf3b44063e8d21e331ebcc8464b1c344382fdc2b3236c34a7d61c096d"), looks := false }, kinds := [], alts := [], laidByText := true, laidKinds := [.data], laidTests := true, laidLooks := .later }
def TopPollsUptoCardSaid : Prop := Claim7.holds Tryz.pinned (.plain (OpenSpec.upto topPollsSpec)) topPollsUptoCard

/-- THE SECOND FORM's CARD OF 'detenttop.TopCycles'. -/
def topCyclesUptoCard : Claim7 := { stood := { row := topCyclesUptoRow, standIns := [], harness := (true, "993d361bf3b44063e8d21e331ebcc8464b1c344382fdc2b3236c34a7d61c096d"), looks := false }, kinds := [], alts := [], laidByText := true, laidKinds := [.data], laidTests := true, laidLooks := .later }
def TopCyclesUptoCardSaid : Prop := Claim7.holds Tryz.pinned (.plain (OpenSpec.upto topCyclesSpec)) topCyclesUptoCard

/-- THE SECOND FORM's CARD OF 'detenttop.TopPingPong'. -/
def topPingPongUptoCard : Claim7 := { stood := { row := topPingPongUptoRow, standIns := [], harness := (true, "993d361bf3b44063e8d21e331ebcc8464b1c344382fdc2b3236c34a7d61c096d"), looks := false }, kinds := [], alts := [], laidByText := true, laidKinds := [.data], laidTests := true, laidLooks := .later }
def TopPingPongUptoCardSaid : Prop := Claim7.holds Tryz.pinned (.plain (OpenSpec.upto topPingPongSpec)) topPingPongUptoCard

/-- THE SECOND FORM's CARD OF 'detenttop.TopPipes'. -/
def topPipesUptoCard : Claim7 := { stood := { row := topPipesUptoRow, standIns := [], harness := (true, "993d361bf3b44063e8d21e331ebcc8464b1c344382fdc2b3236c34a7d61c096d"), looks := false }, kinds := [], alts := [], laidByText := true, laidKinds := [.data], laidTests := true, laidLooks := .later }
def TopPipesUptoCardSaid : Prop := Claim7.holds Tryz.pinned (.plain (OpenSpec.upto topPipesSpec)) topPipesUptoCard

/-- THE SECOND FORM's CARD OF 'detenttop.TopCounts'. -/
def topCountsUptoCard : Claim7 := { stood := { row := topCountsUptoRow, standIns := [], harness := (true, "993d361bf3b44063e8d21e331ebcc8464b1c344382fdc2b3236c34a7d61c096d"), looks := false }, kinds := [], alts := [], laidByText := true, laidKinds := [.data], laidTests := true, laidLooks := .later }
def TopCountsUptoCardSaid : Prop := Claim7.holds Tryz.pinned (.plain (OpenSpec.upto topCountsSpec)) topCountsUptoCard

/-- THE SECOND FORM's CARD OF 'detenttop.TopStarves'. -/
def topStarvesUptoCard : Claim7 := { stood := { row := topStarvesUptoRow, standIns := [], harness := (true, "993d361bf3b44063e8d21e331ebcc8464b1c344382fdc2b3236c34a7d61c096d"), looks := false }, kinds := [], alts := [], laidByText := true, laidKinds := [.data], laidTests := true, laidLooks := .later }
def TopStarvesUptoCardSaid : Prop := Claim7.holds Tryz.pinned (.plain (OpenSpec.upto topStarvesSpec)) topStarvesUptoCard
end Rows
end Go.Proofs.YtjodpodmeobciaaGreatDoor
