/- 'detentlaw24.ConfFirst' answers true, whichever of the eight things are wrong: the runs. Conditions: none. -/
import Derived.Test.YteiepbjajennkaaYE
import Derived.Test.YteiepbjajennkaaZGT
namespace Go.Proofs.Yteiepbjajennkaa.confFirst
open Go.Rse Go.RowKit
set_option maxRecDepth 1000000
noncomputable def run (l : List Bool) : Bool := callN xs 400 100 11 k11 [.v (.agg (l.map Cell.bool))] ⟨.nil, .e, 0, 0, []⟩ isT
theorem run_false_false_false : allB 5 (fun l => run (false :: false :: false :: l)) = true := by kernel_rfl
theorem run_false_false_true : allB 5 (fun l => run (false :: false :: true :: l)) = true := by kernel_rfl
theorem run_false_true_false : allB 5 (fun l => run (false :: true :: false :: l)) = true := by kernel_rfl
theorem run_false_true_true : allB 5 (fun l => run (false :: true :: true :: l)) = true := by kernel_rfl
theorem run_true_false_false : allB 5 (fun l => run (true :: false :: false :: l)) = true := by kernel_rfl
theorem run_true_false_true : allB 5 (fun l => run (true :: false :: true :: l)) = true := by kernel_rfl
theorem run_true_true_false : allB 5 (fun l => run (true :: true :: false :: l)) = true := by kernel_rfl
theorem run_true_true_true : allB 5 (fun l => run (true :: true :: true :: l)) = true := by kernel_rfl
theorem hmix : Try.prog.follows .mixedOrders = true := by kernel_rfl
theorem runs : ∀ l : List Bool, l.length = 8 → run l = true
  | b0 :: b1 :: b2 :: l, h => by
    have hl : l.length = 5 := by simpa using h
    cases b0 <;> cases b1 <;> cases b2
    · exact allB_true run_false_false_false l hl
    · exact allB_true run_false_false_true l hl
    · exact allB_true run_false_true_false l hl
    · exact allB_true run_false_true_true l hl
    · exact allB_true run_true_false_false l hl
    · exact allB_true run_true_false_true l hl
    · exact allB_true run_true_true_false l hl
    · exact allB_true run_true_true_true l hl
theorem walk (l : List Bool) (W : World) (hl : l.length = 8) : Calls Try.prog 11 #[.agg (l.map Value.bool).toArray] W fun e W' => e = .returned (.bool true) ∧ Below W.heap.size W W' :=
  run_law0 hmix xs_get (p := k11) rfl (runs l hl) (fun _ => 0) iv_nil W (vals := [.agg (l.map Value.bool).toArray]) ⟨⟨_, rfl, bools_ok l⟩, trivial⟩
end Go.Proofs.Yteiepbjajennkaa.confFirst
