-- Laid by a program out of Lean's own print of the program; not by print.sh as it stands (NOTES.md tells what differs)
import Derived.Test.YtgkemmhpfekoaaaProg
import Derived.Below
import Derived.Deep.Draws
import Derived.Deep.AppendLies
import Derived.Maps.AppendAt
import Derived.OwnWalk
import Derived.Laws.BytesArg
import Derived.Laws.MakeOwn
import Derived.Laws.OwnMore
import Derived.Deep.OwnRows
import Derived.Tactics
import Derived.Lib.ConvBytes
import Derived.Laws.Slices
import Derived.WalkKit
import Derived.KernelRfl
import Derived.RowKit3
import Derived.Deep.LoopGhost
import Derived.Deep.QuietTactic
import Derived.BigQuiet
import Derived.WideLaws
import Derived.Deep.DeepCutAuto
import Derived.Deep.CutBlock
import Derived.Deep.RegionHeld3
import Derived.Laws.Rows
import Derived.Lib.AppendStr
import Derived.ArgAppend
import Derived.Laws.IdiomCopy
import Derived.OrdersHeld
import Derived.Laws.BitsLemmas
import Derived.RowKit
import Derived.Test.YtgkemmhpfekoaaaWWords
import Derived.Test.YtgkemmhpfekoaaaWLast
import Derived.Test.YtgkemmhpfekoaaaWTab
import Derived.Test.YtgkemmhpfekoaaaWFour
import Derived.Test.YtgkemmhpfekoaaaWQPut
import Derived.Test.YtgkemmhpfekoaaaWApart
import Derived.Test.YtgkemmhpfekoaaaWArr
import Derived.Test.YtgkemmhpfekoaaaWZeros
import Derived.Test.YtgkemmhpfekoaaaWFoot
import Derived.Test.YtgkemmhpfekoaaaWKept
import Derived.Test.YtgkemmhpfekoaaaWShare
import Derived.Test.YtgkemmhpfekoaaaWN
import Derived.Test.YtgkemmhpfekoaaaWFootNe
import Derived.Test.YtgkemmhpfekoaaaWAt
import Derived.Test.YtgkemmhpfekoaaaWEqStruct
import Derived.Test.YtgkemmhpfekoaaaWRepsOne
import Derived.Test.YtgkemmhpfekoaaaWInv
import Derived.Test.YtgkemmhpfekoaaaWInvWords
import Derived.Test.YtgkemmhpfekoaaaWGuard
import Derived.Test.YtgkemmhpfekoaaaWNEv
import Derived.Test.YtgkemmhpfekoaaaWMore
namespace Go.Proofs.Ytgkemmhpfekoaaa.PTaskPlays
open Go.RowKit Go.Proofs.YtgkemmhpfekoaaaW.PrintWords Go.Proofs.YtgkemmhpfekoaaaW.PrintLast Go.Proofs.YtgkemmhpfekoaaaW.PrintMore
attribute [local go_sem] max2_int min2_int max_two min_two max_three min_three max_four min_four   -- for this text's walks alone
set_option linter.unusedVariables false
set_option linter.unusedSimpArgs false



def errW : Option Int → Value
  | none => .nilIface
  | some c => .iface 0 (.int .i64 c)
theorem errW_none : errW none = .nilIface := rfl
theorem errW_some (c : Int) : errW (some c) = .iface 0 (.int .i64 c) := rfl

theorem info3 : (Try.prog.info? 3).map (fun i => (i.zero, i.size, i.bytes)) = some (some (.int .i64 0), 1, 8) := by kernel_rfl
-- the values' own types

end Go.Proofs.Ytgkemmhpfekoaaa.PTaskPlays
