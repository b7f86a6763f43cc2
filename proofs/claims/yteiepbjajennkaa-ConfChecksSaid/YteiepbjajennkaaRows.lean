/-
  No cell of these rows narrows 'for every input' (looked for: loops, veiled, ifaces, maps, wideKeys, modest, calm, conditions, laid).
  DERIVED. THE GIVEN ROWS OF THIS SEAT. 10 by the template 'for every input the law returns true; each argument reads behind the call as it read before'; 0 by the template 'total and deterministic' (their statements: YteiepbjajennkaaTotals.lean).
  GIVEN WITH THE SEED: the statements are not yours to turn. If you find one false, say at which input.
  Laid BY PROGRAM, IN A SANDBOX (cutbox-rows.mjs): the forced cells as the released guide's own fill.sh prints them over the translation 78c252ada74c9f14… (all of the seat's roots in one cut). By AI agents, Wed Nov 11 2026. No macro, syntax, notation, axiom, sorry.
-/
import Derived.Test.YteiepbjajennkaaChecked
import GoSem.Claim
import GoSem.ClaimJoined
import GoSem.ClaimMapViews
import Derived.JoinedTies
import Derived.KernelRfl
namespace Go.Proofs.Yteiepbjajennkaa
/- THE CELL 'sum', in the pinned program and in every row, IS THE sha256 OF THE DUMP (.gsa) THAT YteiepbjajennkaaProg.lean LOADS. Nothing in Lean hashes anything: it is a label: what it is worth is what the hold of that sum in a sandbox is worth. -/
noncomputable def Try.pinned : Pinned := { name := "yteiepbjajennkaa", sum := "78c252ada74c9f1404296b89a04997567b781f7f60c6e602a328dc0a96bdd8a4", checked := Try.checked }
namespace Rows
def none {H : Type} : Left H := { results := [], args := [] }

/-- 'detentlaw3.ListBacks': WHATEVER THE INPUT: true; the input reads as it did. -/
def listBacksSpec : ChangeSpec := { name := "listBacks", fn := fun _ => fun
  | [d] => { results := [.lit (.bool true)], args := [d] }
  | _ => none }
def listBacksRow : OpenClaim := { program := "yteiepbjajennkaa", sum := "78c252ada74c9f1404296b89a04997567b781f7f60c6e602a328dc0a96bdd8a4", func := "detent/detentlaw3.ListBacks", spec := "listBacks", apart := false }
def ListBacksSaid : Prop := listBacksRow.holds Try.pinned (OpenSpec.ofChange listBacksSpec)

/-- ITS FALSE NEIGHBOUR: 'it returns false'. Refute it at one input. -/
def listBacksWrong : ChangeSpec := { name := "listBacks", fn := fun _ => fun
  | [d] => { results := [.lit (.bool false)], args := [d] }
  | _ => none }
def ListBacksWrongFalsely : Prop := listBacksRow.holds Try.pinned (OpenSpec.ofChange listBacksWrong)

/-- 'detentlaw3.ListAlone': WHATEVER THE INPUT: true; the input reads as it did. -/
def listAloneSpec : ChangeSpec := { name := "listAlone", fn := fun _ => fun
  | [d1, d2] => { results := [.lit (.bool true)], args := [d1, d2] }
  | _ => none }
def listAloneRow : OpenClaim := { program := "yteiepbjajennkaa", sum := "78c252ada74c9f1404296b89a04997567b781f7f60c6e602a328dc0a96bdd8a4", func := "detent/detentlaw3.ListAlone", spec := "listAlone", apart := false }
def ListAloneSaid : Prop := listAloneRow.holds Try.pinned (OpenSpec.ofChange listAloneSpec)

/-- ITS FALSE NEIGHBOUR: 'it returns false'. Refute it at one input. -/
def listAloneWrong : ChangeSpec := { name := "listAlone", fn := fun _ => fun
  | [d1, d2] => { results := [.lit (.bool false)], args := [d1, d2] }
  | _ => none }
def ListAloneWrongFalsely : Prop := listAloneRow.holds Try.pinned (OpenSpec.ofChange listAloneWrong)

/-- 'detentlaw3.ListBefore': WHATEVER THE INPUT: true; the input reads as it did. -/
def listBeforeSpec : ChangeSpec := { name := "listBefore", fn := fun _ => fun
  | [d1, d2] => { results := [.lit (.bool true)], args := [d1, d2] }
  | _ => none }
def listBeforeRow : OpenClaim := { program := "yteiepbjajennkaa", sum := "78c252ada74c9f1404296b89a04997567b781f7f60c6e602a328dc0a96bdd8a4", func := "detent/detentlaw3.ListBefore", spec := "listBefore", apart := false }
def ListBeforeSaid : Prop := listBeforeRow.holds Try.pinned (OpenSpec.ofChange listBeforeSpec)

/-- ITS FALSE NEIGHBOUR: 'it returns false'. Refute it at one input. -/
def listBeforeWrong : ChangeSpec := { name := "listBefore", fn := fun _ => fun
  | [d1, d2] => { results := [.lit (.bool false)], args := [d1, d2] }
  | _ => none }
def ListBeforeWrongFalsely : Prop := listBeforeRow.holds Try.pinned (OpenSpec.ofChange listBeforeWrong)

/-- 'detentlaw3.ListRooms': WHATEVER THE INPUT: true; the input reads as it did. -/
def listRoomsSpec : ChangeSpec := { name := "listRooms", fn := fun _ => fun
  | [d1, d2] => { results := [.lit (.bool true)], args := [d1, d2] }
  | _ => none }
def listRoomsRow : OpenClaim := { program := "yteiepbjajennkaa", sum := "78c252ada74c9f1404296b89a04997567b781f7f60c6e602a328dc0a96bdd8a4", func := "detent/detentlaw3.ListRooms", spec := "listRooms", apart := false }
def ListRoomsSaid : Prop := listRoomsRow.holds Try.pinned (OpenSpec.ofChange listRoomsSpec)

/-- ITS FALSE NEIGHBOUR: 'it returns false'. Refute it at one input. -/
def listRoomsWrong : ChangeSpec := { name := "listRooms", fn := fun _ => fun
  | [d1, d2] => { results := [.lit (.bool false)], args := [d1, d2] }
  | _ => none }
def ListRoomsWrongFalsely : Prop := listRoomsRow.holds Try.pinned (OpenSpec.ofChange listRoomsWrong)

/-- 'detentlaw3.ListPlays': WHATEVER THE INPUT: true; the input reads as it did. -/
def listPlaysSpec : ChangeSpec := { name := "listPlays", fn := fun _ => fun
  | [d1, d2, d3] => { results := [.lit (.bool true)], args := [d1, d2, d3] }
  | _ => none }
def listPlaysRow : OpenClaim := { program := "yteiepbjajennkaa", sum := "78c252ada74c9f1404296b89a04997567b781f7f60c6e602a328dc0a96bdd8a4", func := "detent/detentlaw3.ListPlays", spec := "listPlays", apart := false }
def ListPlaysSaid : Prop := listPlaysRow.holds Try.pinned (OpenSpec.ofChange listPlaysSpec)

/-- ITS FALSE NEIGHBOUR: 'it returns false'. Refute it at one input. -/
def listPlaysWrong : ChangeSpec := { name := "listPlays", fn := fun _ => fun
  | [d1, d2, d3] => { results := [.lit (.bool false)], args := [d1, d2, d3] }
  | _ => none }
def ListPlaysWrongFalsely : Prop := listPlaysRow.holds Try.pinned (OpenSpec.ofChange listPlaysWrong)

/-- 'detentlaw3.ListMoves': WHATEVER THE INPUT: true; the input reads as it did. -/
def listMovesSpec : ChangeSpec := { name := "listMoves", fn := fun _ => fun
  | [d] => { results := [.lit (.bool true)], args := [d] }
  | _ => none }
def listMovesRow : OpenClaim := { program := "yteiepbjajennkaa", sum := "78c252ada74c9f1404296b89a04997567b781f7f60c6e602a328dc0a96bdd8a4", func := "detent/detentlaw3.ListMoves", spec := "listMoves", apart := false }
def ListMovesSaid : Prop := listMovesRow.holds Try.pinned (OpenSpec.ofChange listMovesSpec)

/-- ITS FALSE NEIGHBOUR: 'it returns false'. Refute it at one input. -/
def listMovesWrong : ChangeSpec := { name := "listMoves", fn := fun _ => fun
  | [d] => { results := [.lit (.bool false)], args := [d] }
  | _ => none }
def ListMovesWrongFalsely : Prop := listMovesRow.holds Try.pinned (OpenSpec.ofChange listMovesWrong)

/-- 'detentlaw24.ConfChecks': WHATEVER THE INPUT: true; the input reads as it did. -/
def confChecksSpec : ChangeSpec := { name := "confChecks", fn := fun _ => fun
  | [d] => { results := [.lit (.bool true)], args := [d] }
  | _ => none }
def confChecksRow : OpenClaim := { program := "yteiepbjajennkaa", sum := "78c252ada74c9f1404296b89a04997567b781f7f60c6e602a328dc0a96bdd8a4", func := "detent/detentlaw24.ConfChecks", spec := "confChecks", unfollowed := true, recurses := true, apart := false }
def ConfChecksSaid : Prop := confChecksRow.holds Try.pinned (OpenSpec.ofChange confChecksSpec)

/-- ITS FALSE NEIGHBOUR: 'it returns false'. Refute it at one input. -/
def confChecksWrong : ChangeSpec := { name := "confChecks", fn := fun _ => fun
  | [d] => { results := [.lit (.bool false)], args := [d] }
  | _ => none }
def ConfChecksWrongFalsely : Prop := confChecksRow.holds Try.pinned (OpenSpec.ofChange confChecksWrong)

/-- 'detentlaw24.ConfPools': WHATEVER THE INPUT: true; the input reads as it did. -/
def confPoolsSpec : ChangeSpec := { name := "confPools", fn := fun _ => fun
  | [d1, d2] => { results := [.lit (.bool true)], args := [d1, d2] }
  | _ => none }
def confPoolsRow : OpenClaim := { program := "yteiepbjajennkaa", sum := "78c252ada74c9f1404296b89a04997567b781f7f60c6e602a328dc0a96bdd8a4", func := "detent/detentlaw24.ConfPools", spec := "confPools", unfollowed := true, recurses := true, apart := false }
def ConfPoolsSaid : Prop := confPoolsRow.holds Try.pinned (OpenSpec.ofChange confPoolsSpec)

/-- ITS FALSE NEIGHBOUR: 'it returns false'. Refute it at one input. -/
def confPoolsWrong : ChangeSpec := { name := "confPools", fn := fun _ => fun
  | [d1, d2] => { results := [.lit (.bool false)], args := [d1, d2] }
  | _ => none }
def ConfPoolsWrongFalsely : Prop := confPoolsRow.holds Try.pinned (OpenSpec.ofChange confPoolsWrong)

/-- 'detentlaw24.ConfFirst': WHATEVER THE INPUT: true; the input reads as it did. -/
def confFirstSpec : ChangeSpec := { name := "confFirst", fn := fun _ => fun
  | [d] => { results := [.lit (.bool true)], args := [d] }
  | _ => none }
def confFirstRow : OpenClaim := { program := "yteiepbjajennkaa", sum := "78c252ada74c9f1404296b89a04997567b781f7f60c6e602a328dc0a96bdd8a4", func := "detent/detentlaw24.ConfFirst", spec := "confFirst", unfollowed := true, recurses := true, apart := false }
def ConfFirstSaid : Prop := confFirstRow.holds Try.pinned (OpenSpec.ofChange confFirstSpec)

/-- ITS FALSE NEIGHBOUR: 'it returns false'. Refute it at one input. -/
def confFirstWrong : ChangeSpec := { name := "confFirst", fn := fun _ => fun
  | [d] => { results := [.lit (.bool false)], args := [d] }
  | _ => none }
def ConfFirstWrongFalsely : Prop := confFirstRow.holds Try.pinned (OpenSpec.ofChange confFirstWrong)

/-- 'detentlaw24.ConfMany': WHATEVER THE INPUT: true; the input reads as it did. -/
def confManySpec : ChangeSpec := { name := "confMany", fn := fun _ => fun
  | [d1, d2] => { results := [.lit (.bool true)], args := [d1, d2] }
  | _ => none }
def confManyRow : OpenClaim := { program := "yteiepbjajennkaa", sum := "78c252ada74c9f1404296b89a04997567b781f7f60c6e602a328dc0a96bdd8a4", func := "detent/detentlaw24.ConfMany", spec := "confMany", unfollowed := true, recurses := true, apart := false }
def ConfManySaid : Prop := confManyRow.holds Try.pinned (OpenSpec.ofChange confManySpec)

/-- ITS FALSE NEIGHBOUR: 'it returns false'. Refute it at one input. -/
def confManyWrong : ChangeSpec := { name := "confMany", fn := fun _ => fun
  | [d1, d2] => { results := [.lit (.bool false)], args := [d1, d2] }
  | _ => none }
def ConfManyWrongFalsely : Prop := confManyRow.holds Try.pinned (OpenSpec.ofChange confManyWrong)

/- THE SECOND FORM. 'bulk': how many values and letters a reading holds, each counted each time it is reached (what is shared counts as often as it is met; a slice's spare places count too). A statement '..UptoSaid' is the law's where the arguments, and the package variables that the reading takes, are together of bulk at most 1048576: NARROWER than '..Said'. Prove '..Said' where nothing that the law and all that it calls make is longer than what came in: it says more and counts as full. Else prove '..UptoSaid'. A law counts once. -/
mutual
def uptoBulk {H : Type} : DataW H → Nat
  | .lit (.string bytes) => bytes.length + 1
  | .lit _ => 1
  | .nil => 1
  | .ptr d => uptoBulk d + 1
  | .slice elems spare => uptoBulkAll elems + uptoBulkAll spare + 1
  | .agg parts => uptoBulkAll parts + 1
  | .iface _ d => uptoBulk d + 1
  | .map entries => uptoBulkEntries entries + 1
  | .held _ => 1
def uptoBulkAll {H : Type} : List (DataW H) → Nat
  | [] => 0
  | d :: r => uptoBulk d + uptoBulkAll r
def uptoBulkEntries {H : Type} : List (Lit × DataW H) → Nat
  | [] => 0
  | x :: r => uptoBulkEntry x + uptoBulkEntries r
def uptoBulkEntry {H : Type} : Lit × DataW H → Nat
  | (.string bytes, d) => bytes.length + uptoBulk d + 1
  | (_, d) => uptoBulk d + 1
 end
def uptoSmall : (H : Type) → List (DataW H) → Bool := fun _ ds => decide (uptoBulkAll ds ≤ 1048576)
def OpenSpec.upto (s : _root_.Go.ChangeSpec) : _root_.Go.OpenSpec := { _root_.Go.OpenSpec.ofChange s with cond := some uptoSmall }

/-- 'detentlaw3.ListBacks', WHERE WHAT IT READS IS OF BULK AT MOST 1048576: true; the input reads as it did. -/
def listBacksUptoRow : OpenClaim := { program := "yteiepbjajennkaa", sum := "78c252ada74c9f1404296b89a04997567b781f7f60c6e602a328dc0a96bdd8a4", func := "detent/detentlaw3.ListBacks", spec := "listBacks", apart := false, narrowed := true }
def ListBacksUptoSaid : Prop := listBacksUptoRow.holds Try.pinned (OpenSpec.upto listBacksSpec)

/-- 'detentlaw3.ListAlone', WHERE WHAT IT READS IS OF BULK AT MOST 1048576: true; the input reads as it did. -/
def listAloneUptoRow : OpenClaim := { program := "yteiepbjajennkaa", sum := "78c252ada74c9f1404296b89a04997567b781f7f60c6e602a328dc0a96bdd8a4", func := "detent/detentlaw3.ListAlone", spec := "listAlone", apart := false, narrowed := true }
def ListAloneUptoSaid : Prop := listAloneUptoRow.holds Try.pinned (OpenSpec.upto listAloneSpec)

/-- 'detentlaw3.ListBefore', WHERE WHAT IT READS IS OF BULK AT MOST 1048576: true; the input reads as it did. -/
def listBeforeUptoRow : OpenClaim := { program := "yteiepbjajennkaa", sum := "78c252ada74c9f1404296b89a04997567b781f7f60c6e602a328dc0a96bdd8a4", func := "detent/detentlaw3.ListBefore", spec := "listBefore", apart := false, narrowed := true }
def ListBeforeUptoSaid : Prop := listBeforeUptoRow.holds Try.pinned (OpenSpec.upto listBeforeSpec)

/-- 'detentlaw3.ListRooms', WHERE WHAT IT READS IS OF BULK AT MOST 1048576: true; the input reads as it did. -/
def listRoomsUptoRow : OpenClaim := { program := "yteiepbjajennkaa", sum := "78c252ada74c9f1404296b89a04997567b781f7f60c6e602a328dc0a96bdd8a4", func := "detent/detentlaw3.ListRooms", spec := "listRooms", apart := false, narrowed := true }
def ListRoomsUptoSaid : Prop := listRoomsUptoRow.holds Try.pinned (OpenSpec.upto listRoomsSpec)

/-- 'detentlaw3.ListPlays', WHERE WHAT IT READS IS OF BULK AT MOST 1048576: true; the input reads as it did. -/
def listPlaysUptoRow : OpenClaim := { program := "yteiepbjajennkaa", sum := "78c252ada74c9f1404296b89a04997567b781f7f60c6e602a328dc0a96bdd8a4", func := "detent/detentlaw3.ListPlays", spec := "listPlays", apart := false, narrowed := true }
def ListPlaysUptoSaid : Prop := listPlaysUptoRow.holds Try.pinned (OpenSpec.upto listPlaysSpec)

/-- 'detentlaw3.ListMoves', WHERE WHAT IT READS IS OF BULK AT MOST 1048576: true; the input reads as it did. -/
def listMovesUptoRow : OpenClaim := { program := "yteiepbjajennkaa", sum := "78c252ada74c9f1404296b89a04997567b781f7f60c6e602a328dc0a96bdd8a4", func := "detent/detentlaw3.ListMoves", spec := "listMoves", apart := false, narrowed := true }
def ListMovesUptoSaid : Prop := listMovesUptoRow.holds Try.pinned (OpenSpec.upto listMovesSpec)

/-- 'detentlaw24.ConfChecks', WHERE WHAT IT READS IS OF BULK AT MOST 1048576: true; the input reads as it did. -/
def confChecksUptoRow : OpenClaim := { program := "yteiepbjajennkaa", sum := "78c252ada74c9f1404296b89a04997567b781f7f60c6e602a328dc0a96bdd8a4", func := "detent/detentlaw24.ConfChecks", spec := "confChecks", unfollowed := true, recurses := true, apart := false, narrowed := true }
def ConfChecksUptoSaid : Prop := confChecksUptoRow.holds Try.pinned (OpenSpec.upto confChecksSpec)

/-- 'detentlaw24.ConfPools', WHERE WHAT IT READS IS OF BULK AT MOST 1048576: true; the input reads as it did. -/
def confPoolsUptoRow : OpenClaim := { program := "yteiepbjajennkaa", sum := "78c252ada74c9f1404296b89a04997567b781f7f60c6e602a328dc0a96bdd8a4", func := "detent/detentlaw24.ConfPools", spec := "confPools", unfollowed := true, recurses := true, apart := false, narrowed := true }
def ConfPoolsUptoSaid : Prop := confPoolsUptoRow.holds Try.pinned (OpenSpec.upto confPoolsSpec)

/-- 'detentlaw24.ConfFirst', WHERE WHAT IT READS IS OF BULK AT MOST 1048576: true; the input reads as it did. -/
def confFirstUptoRow : OpenClaim := { program := "yteiepbjajennkaa", sum := "78c252ada74c9f1404296b89a04997567b781f7f60c6e602a328dc0a96bdd8a4", func := "detent/detentlaw24.ConfFirst", spec := "confFirst", unfollowed := true, recurses := true, apart := false, narrowed := true }
def ConfFirstUptoSaid : Prop := confFirstUptoRow.holds Try.pinned (OpenSpec.upto confFirstSpec)

/-- 'detentlaw24.ConfMany', WHERE WHAT IT READS IS OF BULK AT MOST 1048576: true; the input reads as it did. -/
def confManyUptoRow : OpenClaim := { program := "yteiepbjajennkaa", sum := "78c252ada74c9f1404296b89a04997567b781f7f60c6e602a328dc0a96bdd8a4", func := "detent/detentlaw24.ConfMany", spec := "confMany", unfollowed := true, recurses := true, apart := false, narrowed := true }
def ConfManyUptoSaid : Prop := confManyUptoRow.holds Try.pinned (OpenSpec.upto confManySpec)

end Rows
end Go.Proofs.Yteiepbjajennkaa
