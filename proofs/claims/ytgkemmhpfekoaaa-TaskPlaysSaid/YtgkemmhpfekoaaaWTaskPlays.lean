/- 'detentlaw10.TaskPlays' answers true, whatever the calls. Conditions: none. -/
import Derived.Test.YtgkemmhpfekoaaaWTask0
import Derived.Test.YtgkemmhpfekoaaaWTask1
import Derived.Test.YtgkemmhpfekoaaaWTask2
import Derived.Test.YtgkemmhpfekoaaaWTask3
import Derived.Test.YtgkemmhpfekoaaaWTask4
import Derived.Test.YtgkemmhpfekoaaaWTask5
import Derived.Test.YtgkemmhpfekoaaaWTask6
import Derived.Test.YtgkemmhpfekoaaaWTask7
import Derived.Test.YtgkemmhpfekoaaaWTask8
import Derived.Test.YtgkemmhpfekoaaaWTask9
namespace Go.Proofs.Ytgkemmhpfekoaaa.taskPlays
open Go.Rse Go.RowKit
set_option linter.unusedVariables false
set_option maxRecDepth 1000000
noncomputable section
theorem hmix : Try.prog.follows .mixedOrders = true := by kernel_rfl
theorem obs : obl ckC 400 (tcL ps) kC := ob ⟨o0, o1, o2, o3, o4, o5, o6, o7, o8, o9, o10, o11, o12, o13, o14, o15, o16, o17, o18, o19, o20, o21, o22, o23, o24, o25, o26, o27, o28, o29, o30, o31, o32, o33, o34, o35, o36, o37, o38, o39, o40, o41, o42, o43, o44, o45, o46, o47, o48, o49, o50, o51, o52, o53, o54, o55, o56, o57, o58, o59, o60, o61, o62, o63, o64, o65, o66, o67, o68, o69, o70, o71, o72, o73, o74, o75, o76, o77, o78, o79, o80, o81, o82, o83, o84, o85, o86, o87, o88, o89, o90, o91, o92, o93, o94, o95, o96, o97, o98, o99, o100, o101, o102, o103, o104, o105, o106, o107, o108, o109, o110, o111, o112, o113, o114, o115, o116, o117, o118, o119, o120, o121, o122, o123, o124, o125, o126, o127, o128, o129, o130, o131, o132, o133, o134, o135, o136, trivial⟩
theorem walk (a : Option Addr) (len cap : Nat) (z : List Int) (W : World) (w0 : RowIn .i64 W a len cap z) : Calls Try.prog 11 #[.slice a len cap] W fun e W' => e = .returned (.bool true) ∧ Below W.heap.size W W' := by
  have hle := w0.le
  have hlen : (len : Int) ≤ 9223372036854775807 := by
    have := hle.1; have := hle.2.1; unfold maxLen at this; omega
  refine run_top0 hmix xs_get (fn := Try.f11) Try.func11 (chk ps) run obs (fun i => if i = 0 then (len : Int) else z.getD (i - 1) 0) (fun i x hx => ?_) (vals := [.slice a len cap]) ⟨inS_row w0 ?_ ?_, trivial⟩
  · cases i with
    | zero =>
      have hx : some (⟨0, 9223372036854775807, 0⟩ : Iv) = some x := hx
      cases hx
      exact ⟨⟨by show (0 : Int) ≤ (len : Int); omega, by show (len : Int) ≤ 9223372036854775807; omega⟩, md_no _ _⟩
    | succ i => simp at hx
  · show Value.int .i64 (len : Int) = .int .i64 (1 * (len : Int) + 0)
    simp
  · intro j hj
    show z.getD j 0 = (if 1 + j = 0 then (len : Int) else z.getD (1 + j - 1) 0)
    rw [if_neg (by omega), show 1 + j - 1 = j by omega]
end
end Go.Proofs.Ytgkemmhpfekoaaa.taskPlays
