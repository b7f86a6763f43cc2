/- Each of the program's functions is the executor's. Conditions: none. -/
import Derived.Test.YtgkemmhpfekoaaaYB
import Derived.Test.YtgkemmhpfekoaaaZH0
import Derived.Test.YtgkemmhpfekoaaaProg
import Derived.KernelRfl
namespace Go.Proofs.Ytgkemmhpfekoaaa
open Go.Rse
set_option linter.unusedVariables false
set_option maxRecDepth 100000
set_option maxRecDepth 1000000
theorem ok11 : FnOK Try.prog false 11 x11 := fnok (fn := Try.f11) (by kernel_rfl) (by kernel_rfl) (by kernel_rfl)
theorem ok21 : FnOK Try.prog false 21 x21 := fnok (fn := Try.f21) (by kernel_rfl) (by kernel_rfl) (by kernel_rfl)
theorem ok22 : FnOK Try.prog false 22 x22 := fnok (fn := Try.f22) (by kernel_rfl) (by kernel_rfl) (by kernel_rfl)
theorem ok23 : FnOK Try.prog false 23 x23 := fnok (fn := Try.f23) (by kernel_rfl) (by kernel_rfl) (by kernel_rfl)
theorem ok24 : FnOK Try.prog false 24 x24 := fnok (fn := Try.f24) (by kernel_rfl) (by kernel_rfl) (by kernel_rfl)
theorem ok25 : FnOK Try.prog false 25 x25 := fnok (fn := Try.f25) (by kernel_rfl) (by kernel_rfl) (by kernel_rfl)
theorem ok26 : FnOK Try.prog false 26 x26 := fnok (fn := Try.f26) (by kernel_rfl) (by kernel_rfl) (by kernel_rfl)
theorem ok27 : FnOK Try.prog false 27 x27 := fnok (fn := Try.f27) (by kernel_rfl) (by kernel_rfl) (by kernel_rfl)
theorem ok28 : FnOK Try.prog false 28 x28 := fnok (fn := Try.f28) (by kernel_rfl) (by kernel_rfl) (by kernel_rfl)
theorem ok29 : FnOK Try.prog false 29 x29 := fnok (fn := Try.f29) (by kernel_rfl) (by kernel_rfl) (by kernel_rfl)
theorem ok30 : FnOK Try.prog false 30 x30 := fnok (fn := Try.f30) (by kernel_rfl) (by kernel_rfl) (by kernel_rfl)
theorem ok31 : FnOK Try.prog false 31 x31 := fnok (fn := Try.f31) (by kernel_rfl) (by kernel_rfl) (by kernel_rfl)
theorem ok32 : FnOK Try.prog false 32 x32 := fnok (fn := Try.f32) (by kernel_rfl) (by kernel_rfl) (by kernel_rfl)
theorem ok33 : FnOK Try.prog false 33 x33 := fnok (fn := Try.f33) (by kernel_rfl) (by kernel_rfl) (by kernel_rfl)
theorem ok34 : FnOK Try.prog false 34 x34 := fnok (fn := Try.f34) (by kernel_rfl) (by kernel_rfl) (by kernel_rfl)
theorem ok35 : FnOK Try.prog false 35 x35 := fnok (fn := Try.f35) (by kernel_rfl) (by kernel_rfl) (by kernel_rfl)
theorem ok36 : FnOK Try.prog false 36 x36 := fnok (fn := Try.f36) (by kernel_rfl) (by kernel_rfl) (by kernel_rfl)
theorem ok37 : FnOK Try.prog false 37 x37 := fnok (fn := Try.f37) (by kernel_rfl) (by kernel_rfl) (by kernel_rfl)
theorem ok39 : FnOK Try.prog false 39 x39 := fnok (fn := Try.f39) (by kernel_rfl) (by kernel_rfl) (by kernel_rfl)
theorem ok40 : FnOK Try.prog false 40 x40 := fnok (fn := Try.f40) (by kernel_rfl) (by kernel_rfl) (by kernel_rfl)
theorem ok41 : FnOK Try.prog false 41 x41 := fnok (fn := Try.f41) (by kernel_rfl) (by kernel_rfl) (by kernel_rfl)
theorem ok42 : FnOK Try.prog false 42 x42 := fnok (fn := Try.f42) (by kernel_rfl) (by kernel_rfl) (by kernel_rfl)
theorem ok43 : FnOK Try.prog false 43 x43 := fnok (fn := Try.f43) (by kernel_rfl) (by kernel_rfl) (by kernel_rfl)
theorem ok44 : FnOK Try.prog false 44 x44 := fnok (fn := Try.f44) (by kernel_rfl) (by kernel_rfl) (by kernel_rfl)
theorem ok45 : FnOK Try.prog false 45 x45 := fnok (fn := Try.f45) (by kernel_rfl) (by kernel_rfl) (by kernel_rfl)
theorem ok46 : FnOK Try.prog false 46 x46 := fnok (fn := Try.f46) (by kernel_rfl) (by kernel_rfl) (by kernel_rfl)
theorem ok47 : FnOK Try.prog false 47 x47 := fnok (fn := Try.f47) (by kernel_rfl) (by kernel_rfl) (by kernel_rfl)
theorem ok48 : FnOK Try.prog false 48 x48 := fnok (fn := Try.f48) (by kernel_rfl) (by kernel_rfl) (by kernel_rfl)
theorem ok49 : FnOK Try.prog false 49 x49 := fnok (fn := Try.f49) (by kernel_rfl) (by kernel_rfl) (by kernel_rfl)
theorem ok50 : FnOK Try.prog false 50 x50 := fnok (fn := Try.f50) (by kernel_rfl) (by kernel_rfl) (by kernel_rfl)
theorem ok51 : FnOK Try.prog false 51 x51 := fnok (fn := Try.f51) (by kernel_rfl) (by kernel_rfl) (by kernel_rfl)
theorem ok52 : FnOK Try.prog false 52 x52 := fnok (fn := Try.f52) (by kernel_rfl) (by kernel_rfl) (by kernel_rfl)
theorem ok53 : FnOK Try.prog false 53 x53 := fnok (fn := Try.f53) (by kernel_rfl) (by kernel_rfl) (by kernel_rfl)
theorem ok54 : FnOK Try.prog false 54 x54 := fnok (fn := Try.f54) (by kernel_rfl) (by kernel_rfl) (by kernel_rfl)
theorem ok55 : FnOK Try.prog false 55 x55 := fnok (fn := Try.f55) (by kernel_rfl) (by kernel_rfl) (by kernel_rfl)
theorem ok56 : FnOK Try.prog false 56 x56 := fnok (fn := Try.f56) (by kernel_rfl) (by kernel_rfl) (by kernel_rfl)
def xs : Tr XFn := (.node (.node (.node (.node (.node (.leaf x31) (.leaf x47)) (.vnode x23 (.leaf x39) (.leaf x55))) (.vnode x11 (.node (.leaf x35) (.leaf x51)) (.vnode x27 (.leaf x43) .nil))) (.node (.node (.node (.leaf x33) (.leaf x49)) (.vnode x25 (.leaf x41) .nil)) (.node (.vnode x21 (.leaf x37) (.leaf x53)) (.vnode x29 (.leaf x45) .nil)))) (.node (.node (.node (.node (.leaf x32) (.leaf x48)) (.vnode x24 (.leaf x40) (.leaf x56))) (.node (.node (.leaf x36) (.leaf x52)) (.vnode x28 (.leaf x44) .nil))) (.node (.node (.node (.leaf x34) (.leaf x50)) (.vnode x26 (.leaf x42) .nil)) (.node (.vnode x22 .nil (.leaf x54)) (.vnode x30 (.leaf x46) .nil)))))
theorem xs_ok : AllT (FnOK Try.prog false) (fun p => p) xs := ⟨⟨⟨⟨⟨ok31, ok47⟩, ⟨ok23, ok39, ok55⟩⟩, ⟨ok11, ⟨ok35, ok51⟩, ⟨ok27, ok43, trivial⟩⟩⟩, ⟨⟨⟨ok33, ok49⟩, ⟨ok25, ok41, trivial⟩⟩, ⟨⟨ok21, ok37, ok53⟩, ⟨ok29, ok45, trivial⟩⟩⟩⟩, ⟨⟨⟨⟨ok32, ok48⟩, ⟨ok24, ok40, ok56⟩⟩, ⟨⟨ok36, ok52⟩, ⟨ok28, ok44, trivial⟩⟩⟩, ⟨⟨⟨ok34, ok50⟩, ⟨ok26, ok42, trivial⟩⟩, ⟨⟨ok22, trivial, ok54⟩, ⟨ok30, ok46, trivial⟩⟩⟩⟩⟩
theorem xs_get : ∀ p x, xs.get p = some x → FnOK Try.prog false p.nat x := fun p x h => AllT.get (c := fun p => p) xs_ok h
end Go.Proofs.Ytgkemmhpfekoaaa
