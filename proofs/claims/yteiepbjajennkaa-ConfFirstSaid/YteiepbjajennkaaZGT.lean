/- Each of the program's functions is the executor's. Conditions: none. -/
import Derived.Test.YteiepbjajennkaaYB
import Derived.Test.YteiepbjajennkaaZG0
import Derived.Test.YteiepbjajennkaaProg
import Derived.KernelRfl
namespace Go.Proofs.Yteiepbjajennkaa
open Go.Rse
set_option linter.unusedVariables false
set_option maxRecDepth 100000
set_option maxRecDepth 1000000
theorem ok11 : FnOK Try.prog false 11 x11 := fnok (fn := Try.f11) (by kernel_rfl) (by kernel_rfl) (by kernel_rfl)
theorem ok12 : FnOK Try.prog false 12 x12 := fnok (fn := Try.f12) (by kernel_rfl) (by kernel_rfl) (by kernel_rfl)
theorem ok31 : FnOK Try.prog false 31 x31 := fnok (fn := Try.f31) (by kernel_rfl) (by kernel_rfl) (by kernel_rfl)
theorem ok33 : FnOK Try.prog false 33 x33 := fnok (fn := Try.f33) (by kernel_rfl) (by kernel_rfl) (by kernel_rfl)
theorem ok37 : FnOK Try.prog false 37 x37 := fnok (fn := Try.f37) (by kernel_rfl) (by kernel_rfl) (by kernel_rfl)
theorem ok38 : FnOK Try.prog false 38 x38 := fnok (fn := Try.f38) (by kernel_rfl) (by kernel_rfl) (by kernel_rfl)
theorem ok49 : FnOK Try.prog false 49 x49 := fnok (fn := Try.f49) (by kernel_rfl) (by kernel_rfl) (by kernel_rfl)
theorem ok50 : FnOK Try.prog false 50 x50 := fnok (fn := Try.f50) (by kernel_rfl) (by kernel_rfl) (by kernel_rfl)
theorem ok51 : FnOK Try.prog false 51 x51 := fnok (fn := Try.f51) (by kernel_rfl) (by kernel_rfl) (by kernel_rfl)
theorem ok52 : FnOK Try.prog false 52 x52 := fnok (fn := Try.f52) (by kernel_rfl) (by kernel_rfl) (by kernel_rfl)
theorem ok53 : FnOK Try.prog false 53 x53 := fnok (fn := Try.f53) (by kernel_rfl) (by kernel_rfl) (by kernel_rfl)
theorem ok54 : FnOK Try.prog false 54 x54 := fnok (fn := Try.f54) (by kernel_rfl) (by kernel_rfl) (by kernel_rfl)
theorem ok55 : FnOK Try.prog false 55 x55 := fnok (fn := Try.f55) (by kernel_rfl) (by kernel_rfl) (by kernel_rfl)
theorem ok56 : FnOK Try.prog false 56 x56 := fnok (fn := Try.f56) (by kernel_rfl) (by kernel_rfl) (by kernel_rfl)
theorem ok57 : FnOK Try.prog false 57 x57 := fnok (fn := Try.f57) (by kernel_rfl) (by kernel_rfl) (by kernel_rfl)
theorem ok58 : FnOK Try.prog false 58 x58 := fnok (fn := Try.f58) (by kernel_rfl) (by kernel_rfl) (by kernel_rfl)
theorem ok59 : FnOK Try.prog false 59 x59 := fnok (fn := Try.f59) (by kernel_rfl) (by kernel_rfl) (by kernel_rfl)
theorem ok60 : FnOK Try.prog false 60 x60 := fnok (fn := Try.f60) (by kernel_rfl) (by kernel_rfl) (by kernel_rfl)
theorem ok61 : FnOK Try.prog false 61 x61 := fnok (fn := Try.f61) (by kernel_rfl) (by kernel_rfl) (by kernel_rfl)
theorem ok62 : FnOK Try.prog false 62 x62 := fnok (fn := Try.f62) (by kernel_rfl) (by kernel_rfl) (by kernel_rfl)
theorem ok63 : FnOK Try.prog false 63 x63 := fnok (fn := Try.f63) (by kernel_rfl) (by kernel_rfl) (by kernel_rfl)
theorem ok64 : FnOK Try.prog false 64 x64 := fnok (fn := Try.f64) (by kernel_rfl) (by kernel_rfl) (by kernel_rfl)
theorem ok75 : FnOK Try.prog false 75 x75 := fnok (fn := Try.f75) (by kernel_rfl) (by kernel_rfl) (by kernel_rfl)
theorem ok76 : FnOK Try.prog false 76 x76 := fnok (fn := Try.f76) (by kernel_rfl) (by kernel_rfl) (by kernel_rfl)
theorem ok77 : FnOK Try.prog false 77 x77 := fnok (fn := Try.f77) (by kernel_rfl) (by kernel_rfl) (by kernel_rfl)
theorem ok78 : FnOK Try.prog false 78 x78 := fnok (fn := Try.f78) (by kernel_rfl) (by kernel_rfl) (by kernel_rfl)
theorem ok79 : FnOK Try.prog false 79 x79 := fnok (fn := Try.f79) (by kernel_rfl) (by kernel_rfl) (by kernel_rfl)
theorem ok80 : FnOK Try.prog false 80 x80 := fnok (fn := Try.f80) (by kernel_rfl) (by kernel_rfl) (by kernel_rfl)
theorem ok81 : FnOK Try.prog false 81 x81 := fnok (fn := Try.f81) (by kernel_rfl) (by kernel_rfl) (by kernel_rfl)
theorem ok82 : FnOK Try.prog false 82 x82 := fnok (fn := Try.f82) (by kernel_rfl) (by kernel_rfl) (by kernel_rfl)
def xs : Tr XFn := (.node (.node (.node (.node (.node (.vnode x31 (.leaf x63) .nil) (.node (.leaf x79) .nil)) (.node .nil (.leaf x55))) (.vnode x11 (.node .nil (.leaf x51)) (.node (.node (.leaf x75) .nil) (.leaf x59)))) (.node (.node (.node (.leaf x33) (.vnode x49 (.leaf x81) .nil)) (.node .nil (.leaf x57))) (.node (.node (.leaf x37) (.leaf x53)) (.node (.node (.leaf x77) .nil) (.leaf x61))))) (.node (.node (.node (.node (.node (.leaf x64) .nil) (.node (.leaf x80) .nil)) (.node .nil (.leaf x56))) (.vnode x12 (.node .nil (.leaf x52)) (.node (.node (.leaf x76) .nil) (.leaf x60)))) (.node (.node (.node .nil (.vnode x50 (.leaf x82) .nil)) (.node .nil (.leaf x58))) (.node (.node (.leaf x38) (.leaf x54)) (.node (.node (.leaf x78) .nil) (.leaf x62))))))
theorem xs_ok : AllT (FnOK Try.prog false) (fun p => p) xs := ⟨⟨⟨⟨⟨⟨ok31, ok63, trivial⟩, ⟨ok79, trivial⟩⟩, ⟨trivial, ok55⟩⟩, ⟨ok11, ⟨trivial, ok51⟩, ⟨⟨ok75, trivial⟩, ok59⟩⟩⟩, ⟨⟨⟨ok33, ⟨ok49, ok81, trivial⟩⟩, ⟨trivial, ok57⟩⟩, ⟨⟨ok37, ok53⟩, ⟨⟨ok77, trivial⟩, ok61⟩⟩⟩⟩, ⟨⟨⟨⟨⟨ok64, trivial⟩, ⟨ok80, trivial⟩⟩, ⟨trivial, ok56⟩⟩, ⟨ok12, ⟨trivial, ok52⟩, ⟨⟨ok76, trivial⟩, ok60⟩⟩⟩, ⟨⟨⟨trivial, ⟨ok50, ok82, trivial⟩⟩, ⟨trivial, ok58⟩⟩, ⟨⟨ok38, ok54⟩, ⟨⟨ok78, trivial⟩, ok62⟩⟩⟩⟩⟩
theorem xs_get : ∀ p x, xs.get p = some x → FnOK Try.prog false p.nat x := fun p x h => AllT.get (c := fun p => p) xs_ok h
end Go.Proofs.Yteiepbjajennkaa
