/- The document's lists, refused. Conditions: none. -/
import Derived.Test.YteiepbjajennkaaListRefNew
namespace Go.Proofs.Yteiepbjajennkaa.ListHand
set_option linter.unusedVariables false
open Go.RowKit Go.Proofs.YteiepbjajennkaaW.PrintWords Go.Proofs.YteiepbjajennkaaW.PrintMore
theorem new_ref_no (N H : Int) (h : N < 1 ∨ 1024 < N ∨ H < 1 ∨ 64 < H) (W : World) :
    Calls Try.prog 23 #[.int .i64 N, .int .i64 H] W fun e w' => e = .returned (.tuple #[.pointer none, .int .i64 (-17)]) ∧ W = w' := by
  by_cases h0 : N < 1
  · clear h
    go_enter Try.func23, Try.ntmps23
    go_wp2
    go_ret2
    exact ⟨rfl, rfl⟩
  · by_cases h1 : 1024 < N
    · clear h
      go_enter Try.func23, Try.ntmps23
      go_wp2
      go_ret2
      exact ⟨rfl, rfl⟩
    · by_cases h2 : H < 1
      · clear h
        go_enter Try.func23, Try.ntmps23
        go_wp2
        go_ret2
        exact ⟨rfl, rfl⟩
      · have h3 : 64 < H := by omega
        clear h
        go_enter Try.func23, Try.ntmps23
        go_wp2
        go_ret2
        exact ⟨rfl, rfl⟩
end Go.Proofs.Yteiepbjajennkaa.ListHand
