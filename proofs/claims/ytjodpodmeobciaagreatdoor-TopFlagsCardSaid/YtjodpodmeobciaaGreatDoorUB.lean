/- An executor over a program's operations: a program's functions, held against the executor's. Conditions: none. -/
import Derived.Test.YtjodpodmeobciaaGreatDoorUA
namespace Go.Rsf
set_option linter.unusedVariables false
noncomputable def chkFn (P : Program) (g : Bool) (fn : Func) (x : XFn) : Bool :=
  match fn.body with
  | some c => chkCode P g fn.ntmps x.body c && chkRess P fn.results.toList x.res
  | none => false
theorem fnok {P : Program} {g : Bool} {f : Nat} {fn : Func} {x : XFn} (hf : P.funcs[f]? = some fn) (hn : (fn.name == "runtime.NumGoroutine") = false) (hc : chkFn P g fn x = true) : FnOK P g f x := by
  unfold chkFn at hc
  split at hc
  · rename_i c hb
    rw [Bool.and_eq_true] at hc
    exact ⟨enters_of hf (by rw [hb]; rfl) hn, fn, c, hf, hb, hc.1, hc.2⟩
  · cases hc
/-- Of all the entries of a trie. -/
def AllT (Q : Nat → XFn → Prop) : (Pth → Pth) → Tr XFn → Prop
  | _, .nil => True
  | c, .leaf v => Q (c .e).nat v
  | c, .node l r => AllT Q (fun p => c (.z p)) l ∧ AllT Q (fun p => c (.s p)) r
  | c, .vnode v l r => Q (c .e).nat v ∧ AllT Q (fun p => c (.z p)) l ∧ AllT Q (fun p => c (.s p)) r
theorem AllT.get {Q : Nat → XFn → Prop} : ∀ {t : Tr XFn} {c : Pth → Pth} {p : Pth} {x : XFn}, AllT Q c t → t.get p = some x → Q (c p).nat x
  | .nil, c, p, x, _, h => by rw [Tr.get_nil] at h; cases h
  | .leaf v, c, .e, x, a, h => by cases h; exact a
  | .leaf v, c, .z p, x, a, h => by rw [show (Tr.leaf v).get (.z p) = Tr.nil.get p from rfl, Tr.get_nil] at h; cases h
  | .leaf v, c, .s p, x, a, h => by rw [show (Tr.leaf v).get (.s p) = Tr.nil.get p from rfl, Tr.get_nil] at h; cases h
  | .node l r, c, .e, x, a, h => by cases h
  | .node l r, c, .z p, x, a, h => AllT.get (c := fun p => c (.z p)) (t := l) a.1 h
  | .node l r, c, .s p, x, a, h => AllT.get (c := fun p => c (.s p)) (t := r) a.2 h
  | .vnode v l r, c, .e, x, a, h => by cases h; exact a.1
  | .vnode v l r, c, .z p, x, a, h => AllT.get (c := fun p => c (.z p)) (t := l) a.2.1 h
  | .vnode v l r, c, .s p, x, a, h => AllT.get (c := fun p => c (.s p)) (t := r) a.2.2 h
end Go.Rsf
