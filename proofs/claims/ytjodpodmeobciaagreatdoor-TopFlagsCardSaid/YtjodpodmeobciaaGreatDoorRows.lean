/-
  NARROWER THAN 'FOR EVERY INPUT', by the rows' own cells (each row's printed sentence says how): TopLocked: laid · TopDisabled: laid · TopActivates: laid · TopWakes: laid · TopSuspends: laid · TopRotates: laid · TopChanges: laid · TopFlags: laid · TopPolls: laid · TopCycles: laid · TopPingPong: laid · TopPipes: laid · TopCounts: laid · TopStarves: laid.
  DERIVED. THE GIVEN ROWS OF THIS SEAT. 14 by the template 'for every input the law returns true; each argument reads behind the call as it read before'; 0 by the template 'total and deterministic' (their statements: YtjodpodmeobciaaGreatDoorTotals.lean).
  GIVEN WITH THE SEED: the statements are not yours to turn. If you find one false, say at which input.
  Laid BY PROGRAM, IN A SANDBOX (cutbox-rows.mjs): the forced cells as the released guide's own fill.sh prints them over the translation 301bf0cfcaa96003… (all of the seat's roots in one cut). By AI agents, Wed Nov 11 2026. No macro, syntax, notation, axiom, sorry.
-/
import Derived.Test.YtjodpodmeobciaaGreatDoorChecked
import GoSem.Claim
import GoSem.ClaimJoined
import GoSem.ClaimMapViews
import Derived.JoinedTies
import Derived.KernelRfl
namespace Go.Proofs.YtjodpodmeobciaaGreatDoor
/- THE CELL 'sum', in the pinned program and in every row, IS THE sha256 OF THE DUMP (.gsa) THAT YtjodpodmeobciaaGreatDoorProg.lean LOADS. Nothing in Lean hashes anything: it is a label: what it is worth is what the hold of that sum in a sandbox is worth. -/
noncomputable def Tryz.pinned : Pinned := { name := "ytjodpodmeobciaagreatdoor", sum := "301bf0cfcaa960032844abdc6baa5c59721de85c15fa8bf88d02e80e23b3f340", checked := Tryz.checked }
namespace Rows
def none {H : Type} : Left H := { results := [], args := [] }

/- WHAT THE LISTED PACKAGE-LEVEL VARIABLES READ AS WHEN THE CALL BEGINS. Each datum BY PROGRAM (the guide's laid-datum.mjs) off the statement by which the dump's own 'gosem.cut.vars' lays the variable. In a bare row this is a premise. The card (YtjodpodmeobciaaGreatDoorCards.lean) ties it to the program's text. -/
def laid_math_bits_deBruijn64tab {H : Type} : DataW H := .agg [.lit (.int .u8 0), .lit (.int .u8 1), .lit (.int .u8 56), .lit (.int .u8 2), .lit (.int .u8 57), .lit (.int .u8 49), .lit (.int .u8 28), .lit (.int .u8 3), .lit (.int .u8 61), .lit (.int .u8 58), .lit (.int .u8 42), .lit (.int .u8 50), .lit (.int .u8 38), .lit (.int .u8 29), .lit (.int .u8 17), .lit (.int .u8 4), .lit (.int .u8 62), .lit (.int .u8 47), .lit (.int .u8 59), .lit (.int .u8 36), .lit (.int .u8 45), .lit (.int .u8 43), .lit (.int .u8 51), .lit (.int .u8 22), .lit (.int .u8 53), .lit (.int .u8 39), .lit (.int .u8 33), .lit (.int .u8 30), .lit (.int .u8 24), .lit (.int .u8 18), .lit (.int .u8 12), .lit (.int .u8 5), .lit (.int .u8 63), .lit (.int .u8 55), .lit (.int .u8 48), .lit (.int .u8 27), .lit (.int .u8 60), .lit (.int .u8 41), .lit (.int .u8 37), .lit (.int .u8 16), .lit (.int .u8 46), .lit (.int .u8 35), .lit (.int .u8 44), .lit (.int .u8 21), .lit (.int .u8 52), .lit (.int .u8 32), .lit (.int .u8 23), .lit (.int .u8 11), .lit (.int .u8 54), .lit (.int .u8 26), .lit (.int .u8 40), .lit (.int .u8 15), .lit (.int .u8 34), .lit (.int .u8 20), .lit (.int .u8 31), .lit (.int .u8 10), .lit (.int .u8 25), .lit (.int .u8 14), .lit (.int .u8 19), .lit (.int .u8 9), .lit (.int .u8 13), .lit (.int .u8 8), .lit (.int .u8 7), .lit (.int .u8 6)]

/-- 'detenttop.TopLocked': WHATEVER THE INPUT: true; the input reads as it did. -/
def topLockedSpec : ChangeSpec := { name := "topLocked", fn := fun _ => fun
  | [d1, d2, d3] => { results := [.lit (.bool true)], args := [d1, d2, d3] }
  | _ => none }
def topLockedRow : OpenClaim := { program := "ytjodpodmeobciaagreatdoor", sum := "301bf0cfcaa960032844abdc6baa5c59721de85c15fa8bf88d02e80e23b3f340", func := "detent/detenttop.TopLocked", spec := "topLocked", inPlace := ["slices.overlaps[int]", "slices.overlaps[detent/order.Item]"], unfollowed := true, recurses := true, named := ["math/bits.deBruijn64tab"], apart := false, laid := [("math/bits.deBruijn64tab", laid_math_bits_deBruijn64tab)] }
def TopLockedSaid : Prop := topLockedRow.holds Tryz.pinned (OpenSpec.ofChange topLockedSpec)

/-- ITS FALSE NEIGHBOUR: 'it returns false'. Refute it at one input. -/
def topLockedWrong : ChangeSpec := { name := "topLocked", fn := fun _ => fun
  | [d1, d2, d3] => { results := [.lit (.bool false)], args := [d1, d2, d3] }
  | _ => none }
def TopLockedWrongFalsely : Prop := topLockedRow.holds Tryz.pinned (OpenSpec.ofChange topLockedWrong)

/-- 'detenttop.TopDisabled': WHATEVER THE INPUT: true; the input reads as it did. -/
def topDisabledSpec : ChangeSpec := { name := "topDisabled", fn := fun _ => fun
  | [d] => { results := [.lit (.bool true)], args := [d] }
  | _ => none }
def topDisabledRow : OpenClaim := { program := "ytjodpodmeobciaagreatdoor", sum := "301bf0cfcaa960032844abdc6baa5c59721de85c15fa8bf88d02e80e23b3f340", func := "detent/detenttop.TopDisabled", spec := "topDisabled", inPlace := ["slices.overlaps[int]", "slices.overlaps[detent/order.Item]"], unfollowed := true, recurses := true, named := ["math/bits.deBruijn64tab"], apart := false, laid := [("math/bits.deBruijn64tab", laid_math_bits_deBruijn64tab)] }
def TopDisabledSaid : Prop := topDisabledRow.holds Tryz.pinned (OpenSpec.ofChange topDisabledSpec)

/-- ITS FALSE NEIGHBOUR: 'it returns false'. Refute it at one input. -/
def topDisabledWrong : ChangeSpec := { name := "topDisabled", fn := fun _ => fun
  | [d] => { results := [.lit (.bool false)], args := [d] }
  | _ => none }
def TopDisabledWrongFalsely : Prop := topDisabledRow.holds Tryz.pinned (OpenSpec.ofChange topDisabledWrong)

/-- 'detenttop.TopActivates': WHATEVER THE INPUT: true; the input reads as it did. -/
def topActivatesSpec : ChangeSpec := { name := "topActivates", fn := fun _ => fun
  | [d] => { results := [.lit (.bool true)], args := [d] }
  | _ => none }
def topActivatesRow : OpenClaim := { program := "ytjodpodmeobciaagreatdoor", sum := "301bf0cfcaa960032844abdc6baa5c59721de85c15fa8bf88d02e80e23b3f340", func := "detent/detenttop.TopActivates", spec := "topActivates", inPlace := ["slices.overlaps[int]", "slices.overlaps[detent/order.Item]"], unfollowed := true, recurses := true, named := ["math/bits.deBruijn64tab"], apart := false, laid := [("math/bits.deBruijn64tab", laid_math_bits_deBruijn64tab)] }
def TopActivatesSaid : Prop := topActivatesRow.holds Tryz.pinned (OpenSpec.ofChange topActivatesSpec)

/-- ITS FALSE NEIGHBOUR: 'it returns false'. Refute it at one input. -/
def topActivatesWrong : ChangeSpec := { name := "topActivates", fn := fun _ => fun
  | [d] => { results := [.lit (.bool false)], args := [d] }
  | _ => none }
def TopActivatesWrongFalsely : Prop := topActivatesRow.holds Tryz.pinned (OpenSpec.ofChange topActivatesWrong)

/-- 'detenttop.TopWakes': WHATEVER THE INPUT: true; the input reads as it did. -/
def topWakesSpec : ChangeSpec := { name := "topWakes", fn := fun _ => fun
  | [d] => { results := [.lit (.bool true)], args := [d] }
  | _ => none }
def topWakesRow : OpenClaim := { program := "ytjodpodmeobciaagreatdoor", sum := "301bf0cfcaa960032844abdc6baa5c59721de85c15fa8bf88d02e80e23b3f340", func := "detent/detenttop.TopWakes", spec := "topWakes", inPlace := ["slices.overlaps[int]", "slices.overlaps[detent/order.Item]"], unfollowed := true, recurses := true, named := ["math/bits.deBruijn64tab"], apart := false, laid := [("math/bits.deBruijn64tab", laid_math_bits_deBruijn64tab)] }
def TopWakesSaid : Prop := topWakesRow.holds Tryz.pinned (OpenSpec.ofChange topWakesSpec)

/-- ITS FALSE NEIGHBOUR: 'it returns false'. Refute it at one input. -/
def topWakesWrong : ChangeSpec := { name := "topWakes", fn := fun _ => fun
  | [d] => { results := [.lit (.bool false)], args := [d] }
  | _ => none }
def TopWakesWrongFalsely : Prop := topWakesRow.holds Tryz.pinned (OpenSpec.ofChange topWakesWrong)

/-- 'detenttop.TopSuspends': WHATEVER THE INPUT: true; the input reads as it did. -/
def topSuspendsSpec : ChangeSpec := { name := "topSuspends", fn := fun _ => fun
  | [d1, d2, d3] => { results := [.lit (.bool true)], args := [d1, d2, d3] }
  | _ => none }
def topSuspendsRow : OpenClaim := { program := "ytjodpodmeobciaagreatdoor", sum := "301bf0cfcaa960032844abdc6baa5c59721de85c15fa8bf88d02e80e23b3f340", func := "detent/detenttop.TopSuspends", spec := "topSuspends", inPlace := ["slices.overlaps[int]", "slices.overlaps[detent/order.Item]"], unfollowed := true, recurses := true, named := ["math/bits.deBruijn64tab"], apart := false, laid := [("math/bits.deBruijn64tab", laid_math_bits_deBruijn64tab)] }
def TopSuspendsSaid : Prop := topSuspendsRow.holds Tryz.pinned (OpenSpec.ofChange topSuspendsSpec)

/-- ITS FALSE NEIGHBOUR: 'it returns false'. Refute it at one input. -/
def topSuspendsWrong : ChangeSpec := { name := "topSuspends", fn := fun _ => fun
  | [d1, d2, d3] => { results := [.lit (.bool false)], args := [d1, d2, d3] }
  | _ => none }
def TopSuspendsWrongFalsely : Prop := topSuspendsRow.holds Tryz.pinned (OpenSpec.ofChange topSuspendsWrong)

/-- 'detenttop.TopRotates': WHATEVER THE INPUT: true; the input reads as it did. -/
def topRotatesSpec : ChangeSpec := { name := "topRotates", fn := fun _ => fun
  | [d1, d2] => { results := [.lit (.bool true)], args := [d1, d2] }
  | _ => none }
def topRotatesRow : OpenClaim := { program := "ytjodpodmeobciaagreatdoor", sum := "301bf0cfcaa960032844abdc6baa5c59721de85c15fa8bf88d02e80e23b3f340", func := "detent/detenttop.TopRotates", spec := "topRotates", inPlace := ["slices.overlaps[int]", "slices.overlaps[detent/order.Item]"], unfollowed := true, recurses := true, named := ["math/bits.deBruijn64tab"], apart := false, laid := [("math/bits.deBruijn64tab", laid_math_bits_deBruijn64tab)] }
def TopRotatesSaid : Prop := topRotatesRow.holds Tryz.pinned (OpenSpec.ofChange topRotatesSpec)

/-- ITS FALSE NEIGHBOUR: 'it returns false'. Refute it at one input. -/
def topRotatesWrong : ChangeSpec := { name := "topRotates", fn := fun _ => fun
  | [d1, d2] => { results := [.lit (.bool false)], args := [d1, d2] }
  | _ => none }
def TopRotatesWrongFalsely : Prop := topRotatesRow.holds Tryz.pinned (OpenSpec.ofChange topRotatesWrong)

/-- 'detenttop.TopChanges': WHATEVER THE INPUT: true; the input reads as it did. -/
def topChangesSpec : ChangeSpec := { name := "topChanges", fn := fun _ => fun
  | [d1, d2, d3] => { results := [.lit (.bool true)], args := [d1, d2, d3] }
  | _ => none }
def topChangesRow : OpenClaim := { program := "ytjodpodmeobciaagreatdoor", sum := "301bf0cfcaa960032844abdc6baa5c59721de85c15fa8bf88d02e80e23b3f340", func := "detent/detenttop.TopChanges", spec := "topChanges", inPlace := ["slices.overlaps[int]", "slices.overlaps[detent/order.Item]"], unfollowed := true, recurses := true, named := ["math/bits.deBruijn64tab"], apart := false, laid := [("math/bits.deBruijn64tab", laid_math_bits_deBruijn64tab)] }
def TopChangesSaid : Prop := topChangesRow.holds Tryz.pinned (OpenSpec.ofChange topChangesSpec)

/-- ITS FALSE NEIGHBOUR: 'it returns false'. Refute it at one input. -/
def topChangesWrong : ChangeSpec := { name := "topChanges", fn := fun _ => fun
  | [d1, d2, d3] => { results := [.lit (.bool false)], args := [d1, d2, d3] }
  | _ => none }
def TopChangesWrongFalsely : Prop := topChangesRow.holds Tryz.pinned (OpenSpec.ofChange topChangesWrong)

/-- 'detenttop.TopFlags': WHATEVER THE INPUT: true; the input reads as it did. -/
def topFlagsSpec : ChangeSpec := { name := "topFlags", fn := fun _ => fun
  | [d1, d2] => { results := [.lit (.bool true)], args := [d1, d2] }
  | _ => none }
def topFlagsRow : OpenClaim := { program := "ytjodpodmeobciaagreatdoor", sum := "301bf0cfcaa960032844abdc6baa5c59721de85c15fa8bf88d02e80e23b3f340", func := "detent/detenttop.TopFlags", spec := "topFlags", inPlace := ["slices.overlaps[int]", "slices.overlaps[detent/order.Item]"], unfollowed := true, recurses := true, named := ["math/bits.deBruijn64tab"], apart := false, laid := [("math/bits.deBruijn64tab", laid_math_bits_deBruijn64tab)] }
def TopFlagsSaid : Prop := topFlagsRow.holds Tryz.pinned (OpenSpec.ofChange topFlagsSpec)

/-- ITS FALSE NEIGHBOUR: 'it returns false'. Refute it at one input. -/
def topFlagsWrong : ChangeSpec := { name := "topFlags", fn := fun _ => fun
  | [d1, d2] => { results := [.lit (.bool false)], args := [d1, d2] }
  | _ => none }
def TopFlagsWrongFalsely : Prop := topFlagsRow.holds Tryz.pinned (OpenSpec.ofChange topFlagsWrong)

/-- 'detenttop.TopPolls': WHATEVER THE INPUT: true; the input reads as it did. -/
def topPollsSpec : ChangeSpec := { name := "topPolls", fn := fun _ => fun
  | [d1, d2] => { results := [.lit (.bool true)], args := [d1, d2] }
  | _ => none }
def topPollsRow : OpenClaim := { program := "ytjodpodmeobciaagreatdoor", sum := "301bf0cfcaa960032844abdc6baa5c59721de85c15fa8bf88d02e80e23b3f340", func := "detent/detenttop.TopPolls", spec := "topPolls", inPlace := ["slices.overlaps[int]", "slices.overlaps[detent/order.Item]"], unfollowed := true, recurses := true, named := ["math/bits.deBruijn64tab"], apart := false, laid := [("math/bits.deBruijn64tab", laid_math_bits_deBruijn64tab)] }
def TopPollsSaid : Prop := topPollsRow.holds Tryz.pinned (OpenSpec.ofChange topPollsSpec)

/-- ITS FALSE NEIGHBOUR: 'it returns false'. Refute it at one input. -/
def topPollsWrong : ChangeSpec := { name := "topPolls", fn := fun _ => fun
  | [d1, d2] => { results := [.lit (.bool false)], args := [d1, d2] }
  | _ => none }
def TopPollsWrongFalsely : Prop := topPollsRow.holds Tryz.pinned (OpenSpec.ofChange topPollsWrong)

/-- 'detenttop.TopCycles': WHATEVER THE INPUT: true; the input reads as it did. -/
def topCyclesSpec : ChangeSpec := { name := "topCycles", fn := fun _ => fun
  | [d1, d2, d3] => { results := [.lit (.bool true)], args := [d1, d2, d3] }
  | _ => none }
def topCyclesRow : OpenClaim := { program := "ytjodpodmeobciaagreatdoor", sum := "301bf0cfcaa960032844abdc6baa5c59721de85c15fa8bf88d02e80e23b3f340", func := "detent/detenttop.TopCycles", spec := "topCycles", inPlace := ["slices.overlaps[int]", "slices.overlaps[detent/order.Item]"], unfollowed := true, recurses := true, named := ["math/bits.deBruijn64tab"], apart := false, laid := [("math/bits.deBruijn64tab", laid_math_bits_deBruijn64tab)] }
def TopCyclesSaid : Prop := topCyclesRow.holds Tryz.pinned (OpenSpec.ofChange topCyclesSpec)

/-- ITS FALSE NEIGHBOUR: 'it returns false'. Refute it at one input. -/
def topCyclesWrong : ChangeSpec := { name := "topCycles", fn := fun _ => fun
  | [d1, d2, d3] => { results := [.lit (.bool false)], args := [d1, d2, d3] }
  | _ => none }
def TopCyclesWrongFalsely : Prop := topCyclesRow.holds Tryz.pinned (OpenSpec.ofChange topCyclesWrong)

/-- 'detenttop.TopPingPong': WHATEVER THE INPUT: true; the input reads as it did. -/
def topPingPongSpec : ChangeSpec := { name := "topPingPong", fn := fun _ => fun
  | [d] => { results := [.lit (.bool true)], args := [d] }
  | _ => none }
def topPingPongRow : OpenClaim := { program := "ytjodpodmeobciaagreatdoor", sum := "301bf0cfcaa960032844abdc6baa5c59721de85c15fa8bf88d02e80e23b3f340", func := "detent/detenttop.TopPingPong", spec := "topPingPong", inPlace := ["slices.overlaps[int]", "slices.overlaps[detent/order.Item]"], unfollowed := true, recurses := true, named := ["math/bits.deBruijn64tab"], apart := false, laid := [("math/bits.deBruijn64tab", laid_math_bits_deBruijn64tab)] }
def TopPingPongSaid : Prop := topPingPongRow.holds Tryz.pinned (OpenSpec.ofChange topPingPongSpec)

/-- ITS FALSE NEIGHBOUR: 'it returns false'. Refute it at one input. -/
def topPingPongWrong : ChangeSpec := { name := "topPingPong", fn := fun _ => fun
  | [d] => { results := [.lit (.bool false)], args := [d] }
  | _ => none }
def TopPingPongWrongFalsely : Prop := topPingPongRow.holds Tryz.pinned (OpenSpec.ofChange topPingPongWrong)

/-- 'detenttop.TopPipes': WHATEVER THE INPUT: true; the input reads as it did. -/
def topPipesSpec : ChangeSpec := { name := "topPipes", fn := fun _ => fun
  | [d] => { results := [.lit (.bool true)], args := [d] }
  | _ => none }
def topPipesRow : OpenClaim := { program := "ytjodpodmeobciaagreatdoor", sum := "301bf0cfcaa960032844abdc6baa5c59721de85c15fa8bf88d02e80e23b3f340", func := "detent/detenttop.TopPipes", spec := "topPipes", inPlace := ["slices.overlaps[int]", "slices.overlaps[detent/order.Item]"], unfollowed := true, recurses := true, named := ["math/bits.deBruijn64tab"], apart := false, laid := [("math/bits.deBruijn64tab", laid_math_bits_deBruijn64tab)] }
def TopPipesSaid : Prop := topPipesRow.holds Tryz.pinned (OpenSpec.ofChange topPipesSpec)

/-- ITS FALSE NEIGHBOUR: 'it returns false'. Refute it at one input. -/
def topPipesWrong : ChangeSpec := { name := "topPipes", fn := fun _ => fun
  | [d] => { results := [.lit (.bool false)], args := [d] }
  | _ => none }
def TopPipesWrongFalsely : Prop := topPipesRow.holds Tryz.pinned (OpenSpec.ofChange topPipesWrong)

/-- 'detenttop.TopCounts': WHATEVER THE INPUT: true; the input reads as it did. -/
def topCountsSpec : ChangeSpec := { name := "topCounts", fn := fun _ => fun
  | [d] => { results := [.lit (.bool true)], args := [d] }
  | _ => none }
def topCountsRow : OpenClaim := { program := "ytjodpodmeobciaagreatdoor", sum := "301bf0cfcaa960032844abdc6baa5c59721de85c15fa8bf88d02e80e23b3f340", func := "detent/detenttop.TopCounts", spec := "topCounts", inPlace := ["slices.overlaps[int]", "slices.overlaps[detent/order.Item]"], unfollowed := true, recurses := true, named := ["math/bits.deBruijn64tab"], apart := false, laid := [("math/bits.deBruijn64tab", laid_math_bits_deBruijn64tab)] }
def TopCountsSaid : Prop := topCountsRow.holds Tryz.pinned (OpenSpec.ofChange topCountsSpec)

/-- ITS FALSE NEIGHBOUR: 'it returns false'. Refute it at one input. -/
def topCountsWrong : ChangeSpec := { name := "topCounts", fn := fun _ => fun
  | [d] => { results := [.lit (.bool false)], args := [d] }
  | _ => none }
def TopCountsWrongFalsely : Prop := topCountsRow.holds Tryz.pinned (OpenSpec.ofChange topCountsWrong)

/-- 'detenttop.TopStarves': WHATEVER THE INPUT: true; the input reads as it did. -/
def topStarvesSpec : ChangeSpec := { name := "topStarves", fn := fun _ => fun
  | [d1, d2, d3] => { results := [.lit (.bool true)], args := [d1, d2, d3] }
  | _ => none }
def topStarvesRow : OpenClaim := { program := "ytjodpodmeobciaagreatdoor", sum := "301bf0cfcaa960032844abdc6baa5c59721de85c15fa8bf88d02e80e23b3f340", func := "detent/detenttop.TopStarves", spec := "topStarves", inPlace := ["slices.overlaps[int]", "slices.overlaps[detent/order.Item]"], unfollowed := true, recurses := true, named := ["math/bits.deBruijn64tab"], apart := false, laid := [("math/bits.deBruijn64tab", laid_math_bits_deBruijn64tab)] }
def TopStarvesSaid : Prop := topStarvesRow.holds Tryz.pinned (OpenSpec.ofChange topStarvesSpec)

/-- ITS FALSE NEIGHBOUR: 'it returns false'. Refute it at one input. -/
def topStarvesWrong : ChangeSpec := { name := "topStarves", fn := fun _ => fun
  | [d1, d2, d3] => { results := [.lit (.bool false)], args := [d1, d2, d3] }
  | _ => none }
def TopStarvesWrongFalsely : Prop := topStarvesRow.holds Tryz.pinned (OpenSpec.ofChange topStarvesWrong)

/- THE SECOND FORM. 'bulk': how many values and letters a reading holds, each counted each time it is reached (what is shared counts as often as it is met; a slice's spare places count too). A statement '..UptoSaid' is the law's where the arguments, and the package variables that the reading takes, are together of bulk at most 1048576: NARROWER than '..Said'. Prove '..Said' where nothing that the law and all that it calls make is longer than what came in: it says more and counts as full. Else prove '..UptoSaid'. A law counts once. -/
mutual
def uptoBulk {H : Type} : DataW H → Nat
  | .lit (.string bytes) => bytes.length + 1
  | .lit _ => 1
  | .nil => 1
  | .ptr d => uptoBulk d + 1
  | .slice elems spare => uptoBulkAll elems + uptoBulkAll spare + 1
  | .agg parts => uptoBulkAll parts + 1
  | .iface _ d => uptoBulk d + 1
  | .map entries => uptoBulkEntries entries + 1
  | .held _ => 1
def uptoBulkAll {H : Type} : List (DataW H) → Nat
  | [] => 0
  | d :: r => uptoBulk d + uptoBulkAll r
def uptoBulkEntries {H : Type} : List (Lit × DataW H) → Nat
  | [] => 0
  | x :: r => uptoBulkEntry x + uptoBulkEntries r
def uptoBulkEntry {H : Type} : Lit × DataW H → Nat
  | (.string bytes, d) => bytes.length + uptoBulk d + 1
  | (_, d) => uptoBulk d + 1
 end
def uptoSmall : (H : Type) → List (DataW H) → Bool := fun _ ds => decide (uptoBulkAll ds ≤ 1048576)
def OpenSpec.upto (s : _root_.Go.ChangeSpec) : _root_.Go.OpenSpec := { _root_.Go.OpenSpec.ofChange s with cond := some uptoSmall }

/-- 'detenttop.TopLocked', WHERE WHAT IT READS IS OF BULK AT MOST 1048576: true; the input reads as it did. -/
def topLockedUptoRow : OpenClaim := { program := "ytjodpodmeobciaagreatdoor", sum := "301bf0cfcaa960032844abdc6baa5c59721de85c15fa8bf88d02e80e23b3f340", func := "detent/detenttop.TopLocked", spec := "topLocked", inPlace := ["slices.overlaps[int]", "slices.overlaps[detent/order.Item]"], unfollowed := true, recurses := true, named := ["math/bits.deBruijn64tab"], apart := false, laid := [("math/bits.deBruijn64tab", laid_math_bits_deBruijn64tab)], narrowed := true }
def TopLockedUptoSaid : Prop := topLockedUptoRow.holds Tryz.pinned (OpenSpec.upto topLockedSpec)

/-- 'detenttop.TopDisabled', WHERE WHAT IT READS IS OF BULK AT MOST 1048576: true; the input reads as it did. -/
def topDisabledUptoRow : OpenClaim := { program := "ytjodpodmeobciaagreatdoor", sum := "301bf0cfcaa960032844abdc6baa5c59721de85c15fa8bf88d02e80e23b3f340", func := "detent/detenttop.TopDisabled", spec := "topDisabled", inPlace := ["slices.overlaps[int]", "slices.overlaps[detent/order.Item]"], unfollowed := true, recurses := true, named := ["math/bits.deBruijn64tab"], apart := false, laid := [("math/bits.deBruijn64tab", laid_math_bits_deBruijn64tab)], narrowed := true }
def TopDisabledUptoSaid : Prop := topDisabledUptoRow.holds Tryz.pinned (OpenSpec.upto topDisabledSpec)

/-- 'detenttop.TopActivates', WHERE WHAT IT READS IS OF BULK AT MOST 1048576: true; the input reads as it did. -/
def topActivatesUptoRow : OpenClaim := { program := "ytjodpodmeobciaagreatdoor", sum := "301bf0cfcaa960032844abdc6baa5c59721de85c15fa8bf88d02e80e23b3f340", func := "detent/detenttop.TopActivates", spec := "topActivates", inPlace := ["slices.overlaps[int]", "slices.overlaps[detent/order.Item]"], unfollowed := true, recurses := true, named := ["math/bits.deBruijn64tab"], apart := false, laid := [("math/bits.deBruijn64tab", laid_math_bits_deBruijn64tab)], narrowed := true }
def TopActivatesUptoSaid : Prop := topActivatesUptoRow.holds Tryz.pinned (OpenSpec.upto topActivatesSpec)

/-- 'detenttop.TopWakes', WHERE WHAT IT READS IS OF BULK AT MOST 1048576: true; the input reads as it did. -/
def topWakesUptoRow : OpenClaim := { program := "ytjodpodmeobciaagreatdoor", sum := "301bf0cfcaa960032844abdc6baa5c59721de85c15fa8bf88d02e80e23b3f340", func := "detent/detenttop.TopWakes", spec := "topWakes", inPlace := ["slices.overlaps[int]", "slices.overlaps[detent/order.Item]"], unfollowed := true, recurses := true, named := ["math/bits.deBruijn64tab"], apart := false, laid := [("math/bits.deBruijn64tab", laid_math_bits_deBruijn64tab)], narrowed := true }
def TopWakesUptoSaid : Prop := topWakesUptoRow.holds Tryz.pinned (OpenSpec.upto topWakesSpec)

/-- 'detenttop.TopSuspends', WHERE WHAT IT READS IS OF BULK AT MOST 1048576: true; the input reads as it did. -/
def topSuspendsUptoRow : OpenClaim := { program := "ytjodpodmeobciaagreatdoor", sum := "301bf0cfcaa960032844abdc6baa5c59721de85c15fa8bf88d02e80e23b3f340", func := "detent/detenttop.TopSuspends", spec := "topSuspends", inPlace := ["slices.overlaps[int]", "slices.overlaps[detent/order.Item]"], unfollowed := true, recurses := true, named := ["math/bits.deBruijn64tab"], apart := false, laid := [("math/bits.deBruijn64tab", laid_math_bits_deBruijn64tab)], narrowed := true }
def TopSuspendsUptoSaid : Prop := topSuspendsUptoRow.holds Tryz.pinned (OpenSpec.upto topSuspendsSpec)

/-- 'detenttop.TopRotates', WHERE WHAT IT READS IS OF BULK AT MOST 1048576: true; the input reads as it did. -/
def topRotatesUptoRow : OpenClaim := { program := "ytjodpodmeobciaagreatdoor", sum := "301bf0cfcaa960032844abdc6baa5c59721de85c15fa8bf88d02e80e23b3f340", func := "detent/detenttop.TopRotates", spec := "topRotates", inPlace := ["slices.overlaps[int]", "slices.overlaps[detent/order.Item]"], unfollowed := true, recurses := true, named := ["math/bits.deBruijn64tab"], apart := false, laid := [("math/bits.deBruijn64tab", laid_math_bits_deBruijn64tab)], narrowed := true }
def TopRotatesUptoSaid : Prop := topRotatesUptoRow.holds Tryz.pinned (OpenSpec.upto topRotatesSpec)

/-- 'detenttop.TopChanges', WHERE WHAT IT READS IS OF BULK AT MOST 1048576: true; the input reads as it did. -/
def topChangesUptoRow : OpenClaim := { program := "ytjodpodmeobciaagreatdoor", sum := "301bf0cfcaa960032844abdc6baa5c59721de85c15fa8bf88d02e80e23b3f340", func := "detent/detenttop.TopChanges", spec := "topChanges", inPlace := ["slices.overlaps[int]", "slices.overlaps[detent/order.Item]"], unfollowed := true, recurses := true, named := ["math/bits.deBruijn64tab"], apart := false, laid := [("math/bits.deBruijn64tab", laid_math_bits_deBruijn64tab)], narrowed := true }
def TopChangesUptoSaid : Prop := topChangesUptoRow.holds Tryz.pinned (OpenSpec.upto topChangesSpec)

/-- 'detenttop.TopFlags', WHERE WHAT IT READS IS OF BULK AT MOST 1048576: true; the input reads as it did. -/
def topFlagsUptoRow : OpenClaim := { program := "ytjodpodmeobciaagreatdoor", sum := "301bf0cfcaa960032844abdc6baa5c59721de85c15fa8bf88d02e80e23b3f340", func := "detent/detenttop.TopFlags", spec := "topFlags", inPlace := ["slices.overlaps[int]", "slices.overlaps[detent/order.Item]"], unfollowed := true, recurses := true, named := ["math/bits.deBruijn64tab"], apart := false, laid := [("math/bits.deBruijn64tab", laid_math_bits_deBruijn64tab)], narrowed := true }
def TopFlagsUptoSaid : Prop := topFlagsUptoRow.holds Tryz.pinned (OpenSpec.upto topFlagsSpec)

/-- 'detenttop.TopPolls', WHERE WHAT IT READS IS OF BULK AT MOST 1048576: true; the input reads as it did. -/
def topPollsUptoRow : OpenClaim := { program := "ytjodpodmeobciaagreatdoor", sum := "301bf0cfcaa960032844abdc6baa5c59721de85c15fa8bf88d02e80e23b3f340", func := "detent/detenttop.TopPolls", spec := "topPolls", inPlace := ["slices.overlaps[int]", "slices.overlaps[detent/order.Item]"], unfollowed := true, recurses := true, named := ["math/bits.deBruijn64tab"], apart := false, laid := [("math/bits.deBruijn64tab", laid_math_bits_deBruijn64tab)], narrowed := true }
def TopPollsUptoSaid : Prop := topPollsUptoRow.holds Tryz.pinned (OpenSpec.upto topPollsSpec)

/-- 'detenttop.TopCycles', WHERE WHAT IT READS IS OF BULK AT MOST 1048576: true; the input reads as it did. -/
def topCyclesUptoRow : OpenClaim := { program := "ytjodpodmeobciaagreatdoor", sum := "301bf0cfcaa960032844abdc6baa5c59721de85c15fa8bf88d02e80e23b3f340", func := "detent/detenttop.TopCycles", spec := "topCycles", inPlace := ["slices.overlaps[int]", "slices.overlaps[detent/order.Item]"], unfollowed := true, recurses := true, named := ["math/bits.deBruijn64tab"], apart := false, laid := [("math/bits.deBruijn64tab", laid_math_bits_deBruijn64tab)], narrowed := true }
def TopCyclesUptoSaid : Prop := topCyclesUptoRow.holds Tryz.pinned (OpenSpec.upto topCyclesSpec)

/-- 'detenttop.TopPingPong', WHERE WHAT IT READS IS OF BULK AT MOST 1048576: true; the input reads as it did. -/
def topPingPongUptoRow : OpenClaim := { program := "ytjodpodmeobciaagreatdoor", sum := "301bf0cfcaa960032844abdc6baa5c59721de85c15fa8bf88d02e80e23b3f340", func := "detent/detenttop.TopPingPong", spec := "topPingPong", inPlace := ["slices.overlaps[int]", "slices.overlaps[detent/order.Item]"], unfollowed := true, recurses := true, named := ["math/bits.deBruijn64tab"], apart := false, laid := [("math/bits.deBruijn64tab", laid_math_bits_deBruijn64tab)], narrowed := true }
def TopPingPongUptoSaid : Prop := topPingPongUptoRow.holds Tryz.pinned (OpenSpec.upto topPingPongSpec)

/-- 'detenttop.TopPipes', WHERE WHAT IT READS IS OF BULK AT MOST 1048576: true; the input reads as it did. -/
def topPipesUptoRow : OpenClaim := { program := "ytjodpodmeobciaagreatdoor", sum := "301bf0cfcaa960032844abdc6baa5c59721de85c15fa8bf88d02e80e23b3f340", func := "detent/detenttop.TopPipes", spec := "topPipes", inPlace := ["slices.overlaps[int]", "slices.overlaps[detent/order.Item]"], unfollowed := true, recurses := true, named := ["math/bits.deBruijn64tab"], apart := false, laid := [("math/bits.deBruijn64tab", laid_math_bits_deBruijn64tab)], narrowed := true }
def TopPipesUptoSaid : Prop := topPipesUptoRow.holds Tryz.pinned (OpenSpec.upto topPipesSpec)

/-- 'detenttop.TopCounts', WHERE WHAT IT READS IS OF BULK AT MOST 1048576: true; the input reads as it did. -/
def topCountsUptoRow : OpenClaim := { program := "ytjodpodmeobciaagreatdoor", sum := "301bf0cfcaa960032844abdc6baa5c59721de85c15fa8bf88d02e80e23b3f340", func := "detent/detenttop.TopCounts", spec := "topCounts", inPlace := ["slices.overlaps[int]", "slices.overlaps[detent/order.Item]"], unfollowed := true, recurses := true, named := ["math/bits.deBruijn64tab"], apart := false, laid := [("math/bits.deBruijn64tab", laid_math_bits_deBruijn64tab)], narrowed := true }
def TopCountsUptoSaid : Prop := topCountsUptoRow.holds Tryz.pinned (OpenSpec.upto topCountsSpec)

/-- 'detenttop.TopStarves', WHERE WHAT IT READS IS OF BULK AT MOST 1048576: true; the input reads as it did. -/
def topStarvesUptoRow : OpenClaim := { program := "ytjodpodmeobciaagreatdoor", sum := "301bf0cfcaa960032844abdc6baa5c59721de85c15fa8bf88d02e80e23b3f340", func := "detent/detenttop.TopStarves", spec := "topStarves", inPlace := ["slices.overlaps[int]", "slices.overlaps[detent/order.Item]"], unfollowed := true, recurses := true, named := ["math/bits.deBruijn64tab"], apart := false, laid := [("math/bits.deBruijn64tab", laid_math_bits_deBruijn64tab)], narrowed := true }
def TopStarvesUptoSaid : Prop := topStarvesUptoRow.holds Tryz.pinned (OpenSpec.upto topStarvesSpec)

end Rows
end Go.Proofs.YtjodpodmeobciaaGreatDoor
