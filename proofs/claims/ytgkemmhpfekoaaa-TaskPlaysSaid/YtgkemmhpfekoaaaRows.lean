/-
  No cell of these rows narrows 'for every input' (looked for: loops, veiled, ifaces, maps, wideKeys, modest, calm, conditions, laid).
  DERIVED. THE GIVEN ROWS OF THIS SEAT. 11 by the template 'for every input the law returns true; each argument reads behind the call as it read before'; 0 by the template 'total and deterministic' (their statements: YtgkemmhpfekoaaaTotals.lean).
  GIVEN WITH THE SEED: the statements are not yours to turn. If you find one false, say at which input.
  Laid BY PROGRAM, IN A SANDBOX (cutbox-rows.mjs): the forced cells as the released guide's own fill.sh prints them over the translation 5fed50ef1ace68ea… (all of the seat's roots in one cut). By AI agents, Wed Nov 11 2026. No macro, syntax, notation, axiom, sorry.
-/
import Derived.Test.YtgkemmhpfekoaaaChecked
import GoSem.Claim
import GoSem.ClaimJoined
import GoSem.ClaimMapViews
import Derived.JoinedTies
import Derived.KernelRfl
namespace Go.Proofs.Ytgkemmhpfekoaaa
/- THE CELL 'sum', in the pinned program and in every row, IS THE sha256 OF THE DUMP (.gsa) THAT YtgkemmhpfekoaaaProg.lean LOADS. Nothing in Lean hashes anything: it is a label: what it is worth is what the hold of that sum in a sandbox is worth. -/
noncomputable def Try.pinned : Pinned := { name := "ytgkemmhpfekoaaa", sum := "5fed50ef1ace68ea864e9b963f20196c61667731674451f59306b16143ef627c", checked := Try.checked }
namespace Rows
def none {H : Type} : Left H := { results := [], args := [] }

/-- 'detentlaw22.WatchParts': WHATEVER THE INPUT: true; the input reads as it did. -/
def watchPartsSpec : ChangeSpec := { name := "watchParts", fn := fun _ => fun
  | [d1, d2] => { results := [.lit (.bool true)], args := [d1, d2] }
  | _ => none }
def watchPartsRow : OpenClaim := { program := "ytgkemmhpfekoaaa", sum := "5fed50ef1ace68ea864e9b963f20196c61667731674451f59306b16143ef627c", func := "detent/detentlaw22.WatchParts", spec := "watchParts", apart := false }
def WatchPartsSaid : Prop := watchPartsRow.holds Try.pinned (OpenSpec.ofChange watchPartsSpec)

/-- ITS FALSE NEIGHBOUR: 'it returns false'. Refute it at one input. -/
def watchPartsWrong : ChangeSpec := { name := "watchParts", fn := fun _ => fun
  | [d1, d2] => { results := [.lit (.bool false)], args := [d1, d2] }
  | _ => none }
def WatchPartsWrongFalsely : Prop := watchPartsRow.holds Try.pinned (OpenSpec.ofChange watchPartsWrong)

/-- 'detentlaw22.WatchSums': WHATEVER THE INPUT: true; the input reads as it did. -/
def watchSumsSpec : ChangeSpec := { name := "watchSums", fn := fun _ => fun
  | [d1, d2] => { results := [.lit (.bool true)], args := [d1, d2] }
  | _ => none }
def watchSumsRow : OpenClaim := { program := "ytgkemmhpfekoaaa", sum := "5fed50ef1ace68ea864e9b963f20196c61667731674451f59306b16143ef627c", func := "detent/detentlaw22.WatchSums", spec := "watchSums", apart := false }
def WatchSumsSaid : Prop := watchSumsRow.holds Try.pinned (OpenSpec.ofChange watchSumsSpec)

/-- ITS FALSE NEIGHBOUR: 'it returns false'. Refute it at one input. -/
def watchSumsWrong : ChangeSpec := { name := "watchSums", fn := fun _ => fun
  | [d1, d2] => { results := [.lit (.bool false)], args := [d1, d2] }
  | _ => none }
def WatchSumsWrongFalsely : Prop := watchSumsRow.holds Try.pinned (OpenSpec.ofChange watchSumsWrong)

/-- 'detentlaw22.WatchPlays': WHATEVER THE INPUT: true; the input reads as it did. -/
def watchPlaysSpec : ChangeSpec := { name := "watchPlays", fn := fun _ => fun
  | [d1, d2, d3] => { results := [.lit (.bool true)], args := [d1, d2, d3] }
  | _ => none }
def watchPlaysRow : OpenClaim := { program := "ytgkemmhpfekoaaa", sum := "5fed50ef1ace68ea864e9b963f20196c61667731674451f59306b16143ef627c", func := "detent/detentlaw22.WatchPlays", spec := "watchPlays", apart := false }
def WatchPlaysSaid : Prop := watchPlaysRow.holds Try.pinned (OpenSpec.ofChange watchPlaysSpec)

/-- ITS FALSE NEIGHBOUR: 'it returns false'. Refute it at one input. -/
def watchPlaysWrong : ChangeSpec := { name := "watchPlays", fn := fun _ => fun
  | [d1, d2, d3] => { results := [.lit (.bool false)], args := [d1, d2, d3] }
  | _ => none }
def WatchPlaysWrongFalsely : Prop := watchPlaysRow.holds Try.pinned (OpenSpec.ofChange watchPlaysWrong)

/-- 'detentlaw22.WatchAgain': WHATEVER THE INPUT: true; the input reads as it did. -/
def watchAgainSpec : ChangeSpec := { name := "watchAgain", fn := fun _ => fun
  | [d1, d2, d3] => { results := [.lit (.bool true)], args := [d1, d2, d3] }
  | _ => none }
def watchAgainRow : OpenClaim := { program := "ytgkemmhpfekoaaa", sum := "5fed50ef1ace68ea864e9b963f20196c61667731674451f59306b16143ef627c", func := "detent/detentlaw22.WatchAgain", spec := "watchAgain", apart := false }
def WatchAgainSaid : Prop := watchAgainRow.holds Try.pinned (OpenSpec.ofChange watchAgainSpec)

/-- ITS FALSE NEIGHBOUR: 'it returns false'. Refute it at one input. -/
def watchAgainWrong : ChangeSpec := { name := "watchAgain", fn := fun _ => fun
  | [d1, d2, d3] => { results := [.lit (.bool false)], args := [d1, d2, d3] }
  | _ => none }
def WatchAgainWrongFalsely : Prop := watchAgainRow.holds Try.pinned (OpenSpec.ofChange watchAgainWrong)

/-- 'detentlaw10.TaskRounds': WHATEVER THE INPUT: true; the input reads as it did. -/
def taskRoundsSpec : ChangeSpec := { name := "taskRounds", fn := fun _ => fun
  | [d] => { results := [.lit (.bool true)], args := [d] }
  | _ => none }
def taskRoundsRow : OpenClaim := { program := "ytgkemmhpfekoaaa", sum := "5fed50ef1ace68ea864e9b963f20196c61667731674451f59306b16143ef627c", func := "detent/detentlaw10.TaskRounds", spec := "taskRounds", apart := false }
def TaskRoundsSaid : Prop := taskRoundsRow.holds Try.pinned (OpenSpec.ofChange taskRoundsSpec)

/-- ITS FALSE NEIGHBOUR: 'it returns false'. Refute it at one input. -/
def taskRoundsWrong : ChangeSpec := { name := "taskRounds", fn := fun _ => fun
  | [d] => { results := [.lit (.bool false)], args := [d] }
  | _ => none }
def TaskRoundsWrongFalsely : Prop := taskRoundsRow.holds Try.pinned (OpenSpec.ofChange taskRoundsWrong)

/-- 'detentlaw10.TaskForgets': WHATEVER THE INPUT: true; the input reads as it did. -/
def taskForgetsSpec : ChangeSpec := { name := "taskForgets", fn := fun _ => fun
  | [d1, d2, d3, d4] => { results := [.lit (.bool true)], args := [d1, d2, d3, d4] }
  | _ => none }
def taskForgetsRow : OpenClaim := { program := "ytgkemmhpfekoaaa", sum := "5fed50ef1ace68ea864e9b963f20196c61667731674451f59306b16143ef627c", func := "detent/detentlaw10.TaskForgets", spec := "taskForgets", apart := false }
def TaskForgetsSaid : Prop := taskForgetsRow.holds Try.pinned (OpenSpec.ofChange taskForgetsSpec)

/-- ITS FALSE NEIGHBOUR: 'it returns false'. Refute it at one input. -/
def taskForgetsWrong : ChangeSpec := { name := "taskForgets", fn := fun _ => fun
  | [d1, d2, d3, d4] => { results := [.lit (.bool false)], args := [d1, d2, d3, d4] }
  | _ => none }
def TaskForgetsWrongFalsely : Prop := taskForgetsRow.holds Try.pinned (OpenSpec.ofChange taskForgetsWrong)

/-- 'detentlaw10.TaskBoth': WHATEVER THE INPUT: true; the input reads as it did. -/
def taskBothSpec : ChangeSpec := { name := "taskBoth", fn := fun _ => fun
  | [d1, d2] => { results := [.lit (.bool true)], args := [d1, d2] }
  | _ => none }
def taskBothRow : OpenClaim := { program := "ytgkemmhpfekoaaa", sum := "5fed50ef1ace68ea864e9b963f20196c61667731674451f59306b16143ef627c", func := "detent/detentlaw10.TaskBoth", spec := "taskBoth", apart := false }
def TaskBothSaid : Prop := taskBothRow.holds Try.pinned (OpenSpec.ofChange taskBothSpec)

/-- ITS FALSE NEIGHBOUR: 'it returns false'. Refute it at one input. -/
def taskBothWrong : ChangeSpec := { name := "taskBoth", fn := fun _ => fun
  | [d1, d2] => { results := [.lit (.bool false)], args := [d1, d2] }
  | _ => none }
def TaskBothWrongFalsely : Prop := taskBothRow.holds Try.pinned (OpenSpec.ofChange taskBothWrong)

/-- 'detentlaw10.TaskCounts': WHATEVER THE INPUT: true; the input reads as it did. -/
def taskCountsSpec : ChangeSpec := { name := "taskCounts", fn := fun _ => fun
  | [d1, d2, d3] => { results := [.lit (.bool true)], args := [d1, d2, d3] }
  | _ => none }
def taskCountsRow : OpenClaim := { program := "ytgkemmhpfekoaaa", sum := "5fed50ef1ace68ea864e9b963f20196c61667731674451f59306b16143ef627c", func := "detent/detentlaw10.TaskCounts", spec := "taskCounts", apart := false }
def TaskCountsSaid : Prop := taskCountsRow.holds Try.pinned (OpenSpec.ofChange taskCountsSpec)

/-- ITS FALSE NEIGHBOUR: 'it returns false'. Refute it at one input. -/
def taskCountsWrong : ChangeSpec := { name := "taskCounts", fn := fun _ => fun
  | [d1, d2, d3] => { results := [.lit (.bool false)], args := [d1, d2, d3] }
  | _ => none }
def TaskCountsWrongFalsely : Prop := taskCountsRow.holds Try.pinned (OpenSpec.ofChange taskCountsWrong)

/-- 'detentlaw10.TaskPlays': WHATEVER THE INPUT: true; the input reads as it did. -/
def taskPlaysSpec : ChangeSpec := { name := "taskPlays", fn := fun _ => fun
  | [d] => { results := [.lit (.bool true)], args := [d] }
  | _ => none }
def taskPlaysRow : OpenClaim := { program := "ytgkemmhpfekoaaa", sum := "5fed50ef1ace68ea864e9b963f20196c61667731674451f59306b16143ef627c", func := "detent/detentlaw10.TaskPlays", spec := "taskPlays", apart := false }
def TaskPlaysSaid : Prop := taskPlaysRow.holds Try.pinned (OpenSpec.ofChange taskPlaysSpec)

/-- ITS FALSE NEIGHBOUR: 'it returns false'. Refute it at one input. -/
def taskPlaysWrong : ChangeSpec := { name := "taskPlays", fn := fun _ => fun
  | [d] => { results := [.lit (.bool false)], args := [d] }
  | _ => none }
def TaskPlaysWrongFalsely : Prop := taskPlaysRow.holds Try.pinned (OpenSpec.ofChange taskPlaysWrong)

/-- 'detentlaw10.TaskRefuses': WHATEVER THE INPUT: true; the input reads as it did. -/
def taskRefusesSpec : ChangeSpec := { name := "taskRefuses", fn := fun _ => fun
  | [d] => { results := [.lit (.bool true)], args := [d] }
  | _ => none }
def taskRefusesRow : OpenClaim := { program := "ytgkemmhpfekoaaa", sum := "5fed50ef1ace68ea864e9b963f20196c61667731674451f59306b16143ef627c", func := "detent/detentlaw10.TaskRefuses", spec := "taskRefuses", apart := false }
def TaskRefusesSaid : Prop := taskRefusesRow.holds Try.pinned (OpenSpec.ofChange taskRefusesSpec)

/-- ITS FALSE NEIGHBOUR: 'it returns false'. Refute it at one input. -/
def taskRefusesWrong : ChangeSpec := { name := "taskRefuses", fn := fun _ => fun
  | [d] => { results := [.lit (.bool false)], args := [d] }
  | _ => none }
def TaskRefusesWrongFalsely : Prop := taskRefusesRow.holds Try.pinned (OpenSpec.ofChange taskRefusesWrong)

/-- 'detentlaw10.TaskIs': WHATEVER THE INPUT: true; the input reads as it did. -/
def taskIsSpec : ChangeSpec := { name := "taskIs", fn := fun _ => fun
  | [d1, d2] => { results := [.lit (.bool true)], args := [d1, d2] }
  | _ => none }
def taskIsRow : OpenClaim := { program := "ytgkemmhpfekoaaa", sum := "5fed50ef1ace68ea864e9b963f20196c61667731674451f59306b16143ef627c", func := "detent/detentlaw10.TaskIs", spec := "taskIs", apart := false }
def TaskIsSaid : Prop := taskIsRow.holds Try.pinned (OpenSpec.ofChange taskIsSpec)

/-- ITS FALSE NEIGHBOUR: 'it returns false'. Refute it at one input. -/
def taskIsWrong : ChangeSpec := { name := "taskIs", fn := fun _ => fun
  | [d1, d2] => { results := [.lit (.bool false)], args := [d1, d2] }
  | _ => none }
def TaskIsWrongFalsely : Prop := taskIsRow.holds Try.pinned (OpenSpec.ofChange taskIsWrong)

/- THE SECOND FORM. 'bulk': how many values and letters a reading holds, each counted each time it is reached (what is shared counts as often as it is met; a slice's spare places count too). A statement '..UptoSaid' is the law's where the arguments, and the package variables that the reading takes, are together of bulk at most 1048576: NARROWER than '..Said'. Prove '..Said' where nothing that the law and all that it calls make is longer than what came in: it says more and counts as full. Else prove '..UptoSaid'. A law counts once. -/
mutual
def uptoBulk {H : Type} : DataW H → Nat
  | .lit (.string bytes) => bytes.length + 1
  | .lit _ => 1
  | .nil => 1
  | .ptr d => uptoBulk d + 1
  | .slice elems spare => uptoBulkAll elems + uptoBulkAll spare + 1
  | .agg parts => uptoBulkAll parts + 1
  | .iface _ d => uptoBulk d + 1
  | .map entries => uptoBulkEntries entries + 1
  | .held _ => 1
def uptoBulkAll {H : Type} : List (DataW H) → Nat
  | [] => 0
  | d :: r => uptoBulk d + uptoBulkAll r
def uptoBulkEntries {H : Type} : List (Lit × DataW H) → Nat
  | [] => 0
  | x :: r => uptoBulkEntry x + uptoBulkEntries r
def uptoBulkEntry {H : Type} : Lit × DataW H → Nat
  | (.string bytes, d) => bytes.length + uptoBulk d + 1
  | (_, d) => uptoBulk d + 1
 end
def uptoSmall : (H : Type) → List (DataW H) → Bool := fun _ ds => decide (uptoBulkAll ds ≤ 1048576)
def OpenSpec.upto (s : _root_.Go.ChangeSpec) : _root_.Go.OpenSpec := { _root_.Go.OpenSpec.ofChange s with cond := some uptoSmall }

/-- 'detentlaw22.WatchParts', WHERE WHAT IT READS IS OF BULK AT MOST 1048576: true; the input reads as it did. -/
def watchPartsUptoRow : OpenClaim := { program := "ytgkemmhpfekoaaa", sum := "5fed50ef1ace68ea864e9b963f20196c61667731674451f59306b16143ef627c", func := "detent/detentlaw22.WatchParts", spec := "watchParts", apart := false, narrowed := true }
def WatchPartsUptoSaid : Prop := watchPartsUptoRow.holds Try.pinned (OpenSpec.upto watchPartsSpec)

/-- 'detentlaw22.WatchSums', WHERE WHAT IT READS IS OF BULK AT MOST 1048576: true; the input reads as it did. -/
def watchSumsUptoRow : OpenClaim := { program := "ytgkemmhpfekoaaa", sum := "5fed50ef1ace68ea864e9b963f20196c61667731674451f59306b16143ef627c", func := "detent/detentlaw22.WatchSums", spec := "watchSums", apart := false, narrowed := true }
def WatchSumsUptoSaid : Prop := watchSumsUptoRow.holds Try.pinned (OpenSpec.upto watchSumsSpec)

/-- 'detentlaw22.WatchPlays', WHERE WHAT IT READS IS OF BULK AT MOST 1048576: true; the input reads as it did. -/
def watchPlaysUptoRow : OpenClaim := { program := "ytgkemmhpfekoaaa", sum := "5fed50ef1ace68ea864e9b963f20196c61667731674451f59306b16143ef627c", func := "detent/detentlaw22.WatchPlays", spec := "watchPlays", apart := false, narrowed := true }
def WatchPlaysUptoSaid : Prop := watchPlaysUptoRow.holds Try.pinned (OpenSpec.upto watchPlaysSpec)

/-- 'detentlaw22.WatchAgain', WHERE WHAT IT READS IS OF BULK AT MOST 1048576: true; the input reads as it did. -/
def watchAgainUptoRow : OpenClaim := { program := "ytgkemmhpfekoaaa", sum := "5fed50ef1ace68ea864e9b963f20196c61667731674451f59306b16143ef627c", func := "detent/detentlaw22.WatchAgain", spec := "watchAgain", apart := false, narrowed := true }
def WatchAgainUptoSaid : Prop := watchAgainUptoRow.holds Try.pinned (OpenSpec.upto watchAgainSpec)

/-- 'detentlaw10.TaskRounds', WHERE WHAT IT READS IS OF BULK AT MOST 1048576: true; the input reads as it did. -/
def taskRoundsUptoRow : OpenClaim := { program := "ytgkemmhpfekoaaa", sum := "5fed50ef1ace68ea864e9b963f20196c61667731674451f59306b16143ef627c", func := "detent/detentlaw10.TaskRounds", spec := "taskRounds", apart := false, narrowed := true }
def TaskRoundsUptoSaid : Prop := taskRoundsUptoRow.holds Try.pinned (OpenSpec.upto taskRoundsSpec)

/-- 'detentlaw10.TaskForgets', WHERE WHAT IT READS IS OF BULK AT MOST 1048576: true; the input reads as it did. -/
def taskForgetsUptoRow : OpenClaim := { program := "ytgkemmhpfekoaaa", sum := "5fed50ef1ace68ea864e9b963f20196c61667731674451f59306b16143ef627c", func := "detent/detentlaw10.TaskForgets", spec := "taskForgets", apart := false, narrowed := true }
def TaskForgetsUptoSaid : Prop := taskForgetsUptoRow.holds Try.pinned (OpenSpec.upto taskForgetsSpec)

/-- 'detentlaw10.TaskBoth', WHERE WHAT IT READS IS OF BULK AT MOST 1048576: true; the input reads as it did. -/
def taskBothUptoRow : OpenClaim := { program := "ytgkemmhpfekoaaa", sum := "5fed50ef1ace68ea864e9b963f20196c61667731674451f59306b16143ef627c", func := "detent/detentlaw10.TaskBoth", spec := "taskBoth", apart := false, narrowed := true }
def TaskBothUptoSaid : Prop := taskBothUptoRow.holds Try.pinned (OpenSpec.upto taskBothSpec)

/-- 'detentlaw10.TaskCounts', WHERE WHAT IT READS IS OF BULK AT MOST 1048576: true; the input reads as it did. -/
def taskCountsUptoRow : OpenClaim := { program := "ytgkemmhpfekoaaa", sum := "5fed50ef1ace68ea864e9b963f20196c61667731674451f59306b16143ef627c", func := "detent/detentlaw10.TaskCounts", spec := "taskCounts", apart := false, narrowed := true }
def TaskCountsUptoSaid : Prop := taskCountsUptoRow.holds Try.pinned (OpenSpec.upto taskCountsSpec)

/-- 'detentlaw10.TaskPlays', WHERE WHAT IT READS IS OF BULK AT MOST 1048576: true; the input reads as it did. -/
def taskPlaysUptoRow : OpenClaim := { program := "ytgkemmhpfekoaaa", sum := "5fed50ef1ace68ea864e9b963f20196c61667731674451f59306b16143ef627c", func := "detent/detentlaw10.TaskPlays", spec := "taskPlays", apart := false, narrowed := true }
def TaskPlaysUptoSaid : Prop := taskPlaysUptoRow.holds Try.pinned (OpenSpec.upto taskPlaysSpec)

/-- 'detentlaw10.TaskRefuses', WHERE WHAT IT READS IS OF BULK AT MOST 1048576: true; the input reads as it did. -/
def taskRefusesUptoRow : OpenClaim := { program := "ytgkemmhpfekoaaa", sum := "5fed50ef1ace68ea864e9b963f20196c61667731674451f59306b16143ef627c", func := "detent/detentlaw10.TaskRefuses", spec := "taskRefuses", apart := false, narrowed := true }
def TaskRefusesUptoSaid : Prop := taskRefusesUptoRow.holds Try.pinned (OpenSpec.upto taskRefusesSpec)

/-- 'detentlaw10.TaskIs', WHERE WHAT IT READS IS OF BULK AT MOST 1048576: true; the input reads as it did. -/
def taskIsUptoRow : OpenClaim := { program := "ytgkemmhpfekoaaa", sum := "5fed50ef1ace68ea864e9b963f20196c61667731674451f59306b16143ef627c", func := "detent/detentlaw10.TaskIs", spec := "taskIs", apart := false, narrowed := true }
def TaskIsUptoSaid : Prop := taskIsUptoRow.holds Try.pinned (OpenSpec.upto taskIsSpec)

end Rows
end Go.Proofs.Ytgkemmhpfekoaaa
