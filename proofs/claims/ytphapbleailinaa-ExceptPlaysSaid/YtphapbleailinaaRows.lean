/-
  No cell of these rows narrows 'for every input' (looked for: loops, veiled, ifaces, maps, wideKeys, modest, calm, conditions, laid).
  DERIVED. THE GIVEN ROWS OF THIS SEAT. 12 by the template 'for every input the law returns true; each argument reads behind the call as it read before'; 0 by the template 'total and deterministic' (their statements: YtphapbleailinaaTotals.lean).
  GIVEN WITH THE SEED: the statements are not yours to turn. If you find one false, say at which input.
  Laid BY PROGRAM, IN A SANDBOX (cutbox-rows.mjs): the forced cells as the released guide's own fill.sh prints them over the translation 0c4819d5d783d267… (all of the seat's roots in one cut). By AI agents, Wed Nov 11 2026. No macro, syntax, notation, axiom, sorry.
-/
import Derived.Test.YtphapbleailinaaChecked
import GoSem.Claim
import GoSem.ClaimJoined
import GoSem.ClaimMapViews
import Derived.JoinedTies
import Derived.KernelRfl
namespace Go.Proofs.Ytphapbleailinaa
/- THE CELL 'sum', in the pinned program and in every row, IS THE sha256 OF THE DUMP (.gsa) THAT YtphapbleailinaaProg.lean LOADS. Nothing in Lean hashes anything: it is a label: what it is worth is what the hold of that sum in a sandbox is worth. -/
noncomputable def Try.pinned : Pinned := { name := "ytphapbleailinaa", sum := "0c4819d5d783d267ae5ce8d3e76b2d464f67857485356d7e50b78729da52735d", checked := Try.checked }
namespace Rows
def none {H : Type} : Left H := { results := [], args := [] }

/-- 'detentlaw21.ExceptAll': WHATEVER THE INPUT: true; the input reads as it did. -/
def exceptAllSpec : ChangeSpec := { name := "exceptAll", fn := fun _ => fun
  | [d1, d2] => { results := [.lit (.bool true)], args := [d1, d2] }
  | _ => none }
def exceptAllRow : OpenClaim := { program := "ytphapbleailinaa", sum := "0c4819d5d783d267ae5ce8d3e76b2d464f67857485356d7e50b78729da52735d", func := "detent/detentlaw21.ExceptAll", spec := "exceptAll", apart := false }
def ExceptAllSaid : Prop := exceptAllRow.holds Try.pinned (OpenSpec.ofChange exceptAllSpec)

/-- ITS FALSE NEIGHBOUR: 'it returns false'. Refute it at one input. -/
def exceptAllWrong : ChangeSpec := { name := "exceptAll", fn := fun _ => fun
  | [d1, d2] => { results := [.lit (.bool false)], args := [d1, d2] }
  | _ => none }
def ExceptAllWrongFalsely : Prop := exceptAllRow.holds Try.pinned (OpenSpec.ofChange exceptAllWrong)

/-- 'detentlaw21.ExceptNests': WHATEVER THE INPUT: true; the input reads as it did. -/
def exceptNestsSpec : ChangeSpec := { name := "exceptNests", fn := fun _ => fun
  | [d] => { results := [.lit (.bool true)], args := [d] }
  | _ => none }
def exceptNestsRow : OpenClaim := { program := "ytphapbleailinaa", sum := "0c4819d5d783d267ae5ce8d3e76b2d464f67857485356d7e50b78729da52735d", func := "detent/detentlaw21.ExceptNests", spec := "exceptNests", apart := false }
def ExceptNestsSaid : Prop := exceptNestsRow.holds Try.pinned (OpenSpec.ofChange exceptNestsSpec)

/-- ITS FALSE NEIGHBOUR: 'it returns false'. Refute it at one input. -/
def exceptNestsWrong : ChangeSpec := { name := "exceptNests", fn := fun _ => fun
  | [d] => { results := [.lit (.bool false)], args := [d] }
  | _ => none }
def ExceptNestsWrongFalsely : Prop := exceptNestsRow.holds Try.pinned (OpenSpec.ofChange exceptNestsWrong)

/-- 'detentlaw21.ExceptHolds': WHATEVER THE INPUT: true; the input reads as it did. -/
def exceptHoldsSpec : ChangeSpec := { name := "exceptHolds", fn := fun _ => fun
  | [d1, d2, d3] => { results := [.lit (.bool true)], args := [d1, d2, d3] }
  | _ => none }
def exceptHoldsRow : OpenClaim := { program := "ytphapbleailinaa", sum := "0c4819d5d783d267ae5ce8d3e76b2d464f67857485356d7e50b78729da52735d", func := "detent/detentlaw21.ExceptHolds", spec := "exceptHolds", apart := false }
def ExceptHoldsSaid : Prop := exceptHoldsRow.holds Try.pinned (OpenSpec.ofChange exceptHoldsSpec)

/-- ITS FALSE NEIGHBOUR: 'it returns false'. Refute it at one input. -/
def exceptHoldsWrong : ChangeSpec := { name := "exceptHolds", fn := fun _ => fun
  | [d1, d2, d3] => { results := [.lit (.bool false)], args := [d1, d2, d3] }
  | _ => none }
def ExceptHoldsWrongFalsely : Prop := exceptHoldsRow.holds Try.pinned (OpenSpec.ofChange exceptHoldsWrong)

/-- 'detentlaw21.ExceptPlays': WHATEVER THE INPUT: true; the input reads as it did. -/
def exceptPlaysSpec : ChangeSpec := { name := "exceptPlays", fn := fun _ => fun
  | [d] => { results := [.lit (.bool true)], args := [d] }
  | _ => none }
def exceptPlaysRow : OpenClaim := { program := "ytphapbleailinaa", sum := "0c4819d5d783d267ae5ce8d3e76b2d464f67857485356d7e50b78729da52735d", func := "detent/detentlaw21.ExceptPlays", spec := "exceptPlays", apart := false }
def ExceptPlaysSaid : Prop := exceptPlaysRow.holds Try.pinned (OpenSpec.ofChange exceptPlaysSpec)

/-- ITS FALSE NEIGHBOUR: 'it returns false'. Refute it at one input. -/
def exceptPlaysWrong : ChangeSpec := { name := "exceptPlays", fn := fun _ => fun
  | [d] => { results := [.lit (.bool false)], args := [d] }
  | _ => none }
def ExceptPlaysWrongFalsely : Prop := exceptPlaysRow.holds Try.pinned (OpenSpec.ofChange exceptPlaysWrong)

/-- 'detentlaw1.TimesRound': WHATEVER THE INPUT: true; the input reads as it did. -/
def timesRoundSpec : ChangeSpec := { name := "timesRound", fn := fun _ => fun
  | [d1, d2, d3] => { results := [.lit (.bool true)], args := [d1, d2, d3] }
  | _ => none }
def timesRoundRow : OpenClaim := { program := "ytphapbleailinaa", sum := "0c4819d5d783d267ae5ce8d3e76b2d464f67857485356d7e50b78729da52735d", func := "detent/detentlaw1.TimesRound", spec := "timesRound", apart := false }
def TimesRoundSaid : Prop := timesRoundRow.holds Try.pinned (OpenSpec.ofChange timesRoundSpec)

/-- ITS FALSE NEIGHBOUR: 'it returns false'. Refute it at one input. -/
def timesRoundWrong : ChangeSpec := { name := "timesRound", fn := fun _ => fun
  | [d1, d2, d3] => { results := [.lit (.bool false)], args := [d1, d2, d3] }
  | _ => none }
def TimesRoundWrongFalsely : Prop := timesRoundRow.holds Try.pinned (OpenSpec.ofChange timesRoundWrong)

/-- 'detentlaw1.TimesTurn': WHATEVER THE INPUT: true; the input reads as it did. -/
def timesTurnSpec : ChangeSpec := { name := "timesTurn", fn := fun _ => fun
  | [d1, d2, d3] => { results := [.lit (.bool true)], args := [d1, d2, d3] }
  | _ => none }
def timesTurnRow : OpenClaim := { program := "ytphapbleailinaa", sum := "0c4819d5d783d267ae5ce8d3e76b2d464f67857485356d7e50b78729da52735d", func := "detent/detentlaw1.TimesTurn", spec := "timesTurn", apart := false }
def TimesTurnSaid : Prop := timesTurnRow.holds Try.pinned (OpenSpec.ofChange timesTurnSpec)

/-- ITS FALSE NEIGHBOUR: 'it returns false'. Refute it at one input. -/
def timesTurnWrong : ChangeSpec := { name := "timesTurn", fn := fun _ => fun
  | [d1, d2, d3] => { results := [.lit (.bool false)], args := [d1, d2, d3] }
  | _ => none }
def TimesTurnWrongFalsely : Prop := timesTurnRow.holds Try.pinned (OpenSpec.ofChange timesTurnWrong)

/-- 'detentlaw1.TimesRel': WHATEVER THE INPUT: true; the input reads as it did. -/
def timesRelSpec : ChangeSpec := { name := "timesRel", fn := fun _ => fun
  | [d1, d2, d3, d4, d5] => { results := [.lit (.bool true)], args := [d1, d2, d3, d4, d5] }
  | _ => none }
def timesRelRow : OpenClaim := { program := "ytphapbleailinaa", sum := "0c4819d5d783d267ae5ce8d3e76b2d464f67857485356d7e50b78729da52735d", func := "detent/detentlaw1.TimesRel", spec := "timesRel", apart := false }
def TimesRelSaid : Prop := timesRelRow.holds Try.pinned (OpenSpec.ofChange timesRelSpec)

/-- ITS FALSE NEIGHBOUR: 'it returns false'. Refute it at one input. -/
def timesRelWrong : ChangeSpec := { name := "timesRel", fn := fun _ => fun
  | [d1, d2, d3, d4, d5] => { results := [.lit (.bool false)], args := [d1, d2, d3, d4, d5] }
  | _ => none }
def TimesRelWrongFalsely : Prop := timesRelRow.holds Try.pinned (OpenSpec.ofChange timesRelWrong)

/-- 'detentlaw1.TimesMost': WHATEVER THE INPUT: true; the input reads as it did. -/
def timesMostSpec : ChangeSpec := { name := "timesMost", fn := fun _ => fun
  | [d] => { results := [.lit (.bool true)], args := [d] }
  | _ => none }
def timesMostRow : OpenClaim := { program := "ytphapbleailinaa", sum := "0c4819d5d783d267ae5ce8d3e76b2d464f67857485356d7e50b78729da52735d", func := "detent/detentlaw1.TimesMost", spec := "timesMost", apart := false }
def TimesMostSaid : Prop := timesMostRow.holds Try.pinned (OpenSpec.ofChange timesMostSpec)

/-- ITS FALSE NEIGHBOUR: 'it returns false'. Refute it at one input. -/
def timesMostWrong : ChangeSpec := { name := "timesMost", fn := fun _ => fun
  | [d] => { results := [.lit (.bool false)], args := [d] }
  | _ => none }
def TimesMostWrongFalsely : Prop := timesMostRow.holds Try.pinned (OpenSpec.ofChange timesMostWrong)

/-- 'detentlaw1.TimesAligned': WHATEVER THE INPUT: true; the input reads as it did. -/
def timesAlignedSpec : ChangeSpec := { name := "timesAligned", fn := fun _ => fun
  | [d1, d2] => { results := [.lit (.bool true)], args := [d1, d2] }
  | _ => none }
def timesAlignedRow : OpenClaim := { program := "ytphapbleailinaa", sum := "0c4819d5d783d267ae5ce8d3e76b2d464f67857485356d7e50b78729da52735d", func := "detent/detentlaw1.TimesAligned", spec := "timesAligned", apart := false }
def TimesAlignedSaid : Prop := timesAlignedRow.holds Try.pinned (OpenSpec.ofChange timesAlignedSpec)

/-- ITS FALSE NEIGHBOUR: 'it returns false'. Refute it at one input. -/
def timesAlignedWrong : ChangeSpec := { name := "timesAligned", fn := fun _ => fun
  | [d1, d2] => { results := [.lit (.bool false)], args := [d1, d2] }
  | _ => none }
def TimesAlignedWrongFalsely : Prop := timesAlignedRow.holds Try.pinned (OpenSpec.ofChange timesAlignedWrong)

/-- 'detentlaw1.TimesTicked': WHATEVER THE INPUT: true; the input reads as it did. -/
def timesTickedSpec : ChangeSpec := { name := "timesTicked", fn := fun _ => fun
  | [d1, d2] => { results := [.lit (.bool true)], args := [d1, d2] }
  | _ => none }
def timesTickedRow : OpenClaim := { program := "ytphapbleailinaa", sum := "0c4819d5d783d267ae5ce8d3e76b2d464f67857485356d7e50b78729da52735d", func := "detent/detentlaw1.TimesTicked", spec := "timesTicked", apart := false }
def TimesTickedSaid : Prop := timesTickedRow.holds Try.pinned (OpenSpec.ofChange timesTickedSpec)

/-- ITS FALSE NEIGHBOUR: 'it returns false'. Refute it at one input. -/
def timesTickedWrong : ChangeSpec := { name := "timesTicked", fn := fun _ => fun
  | [d1, d2] => { results := [.lit (.bool false)], args := [d1, d2] }
  | _ => none }
def TimesTickedWrongFalsely : Prop := timesTickedRow.holds Try.pinned (OpenSpec.ofChange timesTickedWrong)

/-- 'detentlaw1.TimesSums': WHATEVER THE INPUT: true; the input reads as it did. -/
def timesSumsSpec : ChangeSpec := { name := "timesSums", fn := fun _ => fun
  | [d1, d2] => { results := [.lit (.bool true)], args := [d1, d2] }
  | _ => none }
def timesSumsRow : OpenClaim := { program := "ytphapbleailinaa", sum := "0c4819d5d783d267ae5ce8d3e76b2d464f67857485356d7e50b78729da52735d", func := "detent/detentlaw1.TimesSums", spec := "timesSums", apart := false }
def TimesSumsSaid : Prop := timesSumsRow.holds Try.pinned (OpenSpec.ofChange timesSumsSpec)

/-- ITS FALSE NEIGHBOUR: 'it returns false'. Refute it at one input. -/
def timesSumsWrong : ChangeSpec := { name := "timesSums", fn := fun _ => fun
  | [d1, d2] => { results := [.lit (.bool false)], args := [d1, d2] }
  | _ => none }
def TimesSumsWrongFalsely : Prop := timesSumsRow.holds Try.pinned (OpenSpec.ofChange timesSumsWrong)

/-- 'detentlaw1.TimesDue': WHATEVER THE INPUT: true; the input reads as it did. -/
def timesDueSpec : ChangeSpec := { name := "timesDue", fn := fun _ => fun
  | [d1, d2] => { results := [.lit (.bool true)], args := [d1, d2] }
  | _ => none }
def timesDueRow : OpenClaim := { program := "ytphapbleailinaa", sum := "0c4819d5d783d267ae5ce8d3e76b2d464f67857485356d7e50b78729da52735d", func := "detent/detentlaw1.TimesDue", spec := "timesDue", apart := false }
def TimesDueSaid : Prop := timesDueRow.holds Try.pinned (OpenSpec.ofChange timesDueSpec)

/-- ITS FALSE NEIGHBOUR: 'it returns false'. Refute it at one input. -/
def timesDueWrong : ChangeSpec := { name := "timesDue", fn := fun _ => fun
  | [d1, d2] => { results := [.lit (.bool false)], args := [d1, d2] }
  | _ => none }
def TimesDueWrongFalsely : Prop := timesDueRow.holds Try.pinned (OpenSpec.ofChange timesDueWrong)

/- THE SECOND FORM. 'bulk': how many values and letters a reading holds, each counted each time it is reached (what is shared counts as often as it is met; a slice's spare places count too). A statement '..UptoSaid' is the law's where the arguments, and the package variables that the reading takes, are together of bulk at most 1048576: NARROWER than '..Said'. Prove '..Said' where nothing that the law and all that it calls make is longer than what came in: it says more and counts as full. Else prove '..UptoSaid'. A law counts once. -/
mutual
def uptoBulk {H : Type} : DataW H → Nat
  | .lit (.string bytes) => bytes.length + 1
  | .lit _ => 1
  | .nil => 1
  | .ptr d => uptoBulk d + 1
  | .slice elems spare => uptoBulkAll elems + uptoBulkAll spare + 1
  | .agg parts => uptoBulkAll parts + 1
  | .iface _ d => uptoBulk d + 1
  | .map entries => uptoBulkEntries entries + 1
  | .held _ => 1
def uptoBulkAll {H : Type} : List (DataW H) → Nat
  | [] => 0
  | d :: r => uptoBulk d + uptoBulkAll r
def uptoBulkEntries {H : Type} : List (Lit × DataW H) → Nat
  | [] => 0
  | x :: r => uptoBulkEntry x + uptoBulkEntries r
def uptoBulkEntry {H : Type} : Lit × DataW H → Nat
  | (.string bytes, d) => bytes.length + uptoBulk d + 1
  | (_, d) => uptoBulk d + 1
 end
def uptoSmall : (H : Type) → List (DataW H) → Bool := fun _ ds => decide (uptoBulkAll ds ≤ 1048576)
def OpenSpec.upto (s : _root_.Go.ChangeSpec) : _root_.Go.OpenSpec := { _root_.Go.OpenSpec.ofChange s with cond := some uptoSmall }

/-- 'detentlaw21.ExceptAll', WHERE WHAT IT READS IS OF BULK AT MOST 1048576: true; the input reads as it did. -/
def exceptAllUptoRow : OpenClaim := { program := "ytphapbleailinaa", sum := "0c4819d5d783d267ae5ce8d3e76b2d464f67857485356d7e50b78729da52735d", func := "detent/detentlaw21.ExceptAll", spec := "exceptAll", apart := false, narrowed := true }
def ExceptAllUptoSaid : Prop := exceptAllUptoRow.holds Try.pinned (OpenSpec.upto exceptAllSpec)

/-- 'detentlaw21.ExceptNests', WHERE WHAT IT READS IS OF BULK AT MOST 1048576: true; the input reads as it did. -/
def exceptNestsUptoRow : OpenClaim := { program := "ytphapbleailinaa", sum := "0c4819d5d783d267ae5ce8d3e76b2d464f67857485356d7e50b78729da52735d", func := "detent/detentlaw21.ExceptNests", spec := "exceptNests", apart := false, narrowed := true }
def ExceptNestsUptoSaid : Prop := exceptNestsUptoRow.holds Try.pinned (OpenSpec.upto exceptNestsSpec)

/-- 'detentlaw21.ExceptHolds', WHERE WHAT IT READS IS OF BULK AT MOST 1048576: true; the input reads as it did. -/
def exceptHoldsUptoRow : OpenClaim := { program := "ytphapbleailinaa", sum := "0c4819d5d783d267ae5ce8d3e76b2d464f67857485356d7e50b78729da52735d", func := "detent/detentlaw21.ExceptHolds", spec := "exceptHolds", apart := false, narrowed := true }
def ExceptHoldsUptoSaid : Prop := exceptHoldsUptoRow.holds Try.pinned (OpenSpec.upto exceptHoldsSpec)

/-- 'detentlaw21.ExceptPlays', WHERE WHAT IT READS IS OF BULK AT MOST 1048576: true; the input reads as it did. -/
def exceptPlaysUptoRow : OpenClaim := { program := "ytphapbleailinaa", sum := "0c4819d5d783d267ae5ce8d3e76b2d464f67857485356d7e50b78729da52735d", func := "detent/detentlaw21.ExceptPlays", spec := "exceptPlays", apart := false, narrowed := true }
def ExceptPlaysUptoSaid : Prop := exceptPlaysUptoRow.holds Try.pinned (OpenSpec.upto exceptPlaysSpec)

/-- 'detentlaw1.TimesRound', WHERE WHAT IT READS IS OF BULK AT MOST 1048576: true; the input reads as it did. -/
def timesRoundUptoRow : OpenClaim := { program := "ytphapbleailinaa", sum := "0c4819d5d783d267ae5ce8d3e76b2d464f67857485356d7e50b78729da52735d", func := "detent/detentlaw1.TimesRound", spec := "timesRound", apart := false, narrowed := true }
def TimesRoundUptoSaid : Prop := timesRoundUptoRow.holds Try.pinned (OpenSpec.upto timesRoundSpec)

/-- 'detentlaw1.TimesTurn', WHERE WHAT IT READS IS OF BULK AT MOST 1048576: true; the input reads as it did. -/
def timesTurnUptoRow : OpenClaim := { program := "ytphapbleailinaa", sum := "0c4819d5d783d267ae5ce8d3e76b2d464f67857485356d7e50b78729da52735d", func := "detent/detentlaw1.TimesTurn", spec := "timesTurn", apart := false, narrowed := true }
def TimesTurnUptoSaid : Prop := timesTurnUptoRow.holds Try.pinned (OpenSpec.upto timesTurnSpec)

/-- 'detentlaw1.TimesRel', WHERE WHAT IT READS IS OF BULK AT MOST 1048576: true; the input reads as it did. -/
def timesRelUptoRow : OpenClaim := { program := "ytphapbleailinaa", sum := "0c4819d5d783d267ae5ce8d3e76b2d464f67857485356d7e50b78729da52735d", func := "detent/detentlaw1.TimesRel", spec := "timesRel", apart := false, narrowed := true }
def TimesRelUptoSaid : Prop := timesRelUptoRow.holds Try.pinned (OpenSpec.upto timesRelSpec)

/-- 'detentlaw1.TimesMost', WHERE WHAT IT READS IS OF BULK AT MOST 1048576: true; the input reads as it did. -/
def timesMostUptoRow : OpenClaim := { program := "ytphapbleailinaa", sum := "0c4819d5d783d267ae5ce8d3e76b2d464f67857485356d7e50b78729da52735d", func := "detent/detentlaw1.TimesMost", spec := "timesMost", apart := false, narrowed := true }
def TimesMostUptoSaid : Prop := timesMostUptoRow.holds Try.pinned (OpenSpec.upto timesMostSpec)

/-- 'detentlaw1.TimesAligned', WHERE WHAT IT READS IS OF BULK AT MOST 1048576: true; the input reads as it did. -/
def timesAlignedUptoRow : OpenClaim := { program := "ytphapbleailinaa", sum := "0c4819d5d783d267ae5ce8d3e76b2d464f67857485356d7e50b78729da52735d", func := "detent/detentlaw1.TimesAligned", spec := "timesAligned", apart := false, narrowed := true }
def TimesAlignedUptoSaid : Prop := timesAlignedUptoRow.holds Try.pinned (OpenSpec.upto timesAlignedSpec)

/-- 'detentlaw1.TimesTicked', WHERE WHAT IT READS IS OF BULK AT MOST 1048576: true; the input reads as it did. -/
def timesTickedUptoRow : OpenClaim := { program := "ytphapbleailinaa", sum := "0c4819d5d783d267ae5ce8d3e76b2d464f67857485356d7e50b78729da52735d", func := "detent/detentlaw1.TimesTicked", spec := "timesTicked", apart := false, narrowed := true }
def TimesTickedUptoSaid : Prop := timesTickedUptoRow.holds Try.pinned (OpenSpec.upto timesTickedSpec)

/-- 'detentlaw1.TimesSums', WHERE WHAT IT READS IS OF BULK AT MOST 1048576: true; the input reads as it did. -/
def timesSumsUptoRow : OpenClaim := { program := "ytphapbleailinaa", sum := "0c4819d5d783d267ae5ce8d3e76b2d464f67857485356d7e50b78729da52735d", func := "detent/detentlaw1.TimesSums", spec := "timesSums", apart := false, narrowed := true }
def TimesSumsUptoSaid : Prop := timesSumsUptoRow.holds Try.pinned (OpenSpec.upto timesSumsSpec)

/-- 'detentlaw1.TimesDue', WHERE WHAT IT READS IS OF BULK AT MOST 1048576: true; the input reads as it did. -/
def timesDueUptoRow : OpenClaim := { program := "ytphapbleailinaa", sum := "0c4819d5d783d267ae5ce8d3e76b2d464f67857485356d7e50b78729da52735d", func := "detent/detentlaw1.TimesDue", spec := "timesDue", apart := false, narrowed := true }
def TimesDueUptoSaid : Prop := timesDueUptoRow.holds Try.pinned (OpenSpec.upto timesDueSpec)

end Rows
end Go.Proofs.Ytphapbleailinaa
