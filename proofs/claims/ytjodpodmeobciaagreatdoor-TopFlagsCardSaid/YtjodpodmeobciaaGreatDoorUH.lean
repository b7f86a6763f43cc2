/- The eventflag's kernel: its calls carried out otherwise, and the law's run. Conditions: none. -/
import Derived.Test.YtjodpodmeobciaaGreatDoorUG
import Derived.Test.YtjodpodmeobciaaGreatDoorUZ
namespace Go.Proofs.YtjodpodmeobciaaGreatDoor
open Go.Rsf Go.RowKit
set_option linter.unusedVariables false
noncomputable section
def ckP : CK := callN xs 400 100
def fnX (ck : CK) (sel : XCode → Bool) (fam : XCode → XM) (x : XFn) (l : List AV) (s : St) (k : KVS) : Bool := @XFn.rec (fun _ => Bool) (fun m body res => fnO ck 400 sel fam l s k m body res) x
def isSet (f : Nat) (l : List AV) : Bool := Bool.and (Nat.beq f 48) (match l with | _ :: a :: _ => (match a with | .v c => (match c with | .agg (x :: _) => (match x with | .int _ z => ieqB z (Int.ofNat 28) | _ => false) | _ => false) | _ => false) | _ => false)
def callO (F : Tr XFn) (loops : Nat) (o : CK → CK) (fuel : Nat) : CK :=
  @Nat.rec (fun _ => CK) (fun _ _ _ _ _ => false) (fun _ ih => o (fun f p l s k => getK p F fun fn => @XFn.rec (fun _ => Bool) (fnF ih loops l s k) fn)) fuel
def ivB (n : Nat) : IvT :=
  ⟨iv3 0 255 0, fun i => iv3 0 255 0, fun i => iv3 0 255 (mdA n i), fun i => iv3 0 (ifB (Nat.blt i n) 1 0) (mdM n i), fun i => iv3 0 255 (Nat.add Go.Rsf.LT (3 + 8 * (48 + i))), iv3 32768 65535 (Nat.add Go.Rsf.LT (4 + 8 * 48)), iv3 0 15 0, fun _ => iv3 0 15 0, fun _ => iv3 0 15 0⟩
def lawArgs (n : Nat) : List AV := [.inS (.int .i64 (Int.ofNat n)) .u8 (.all 16), .v (.one (.lin .u8 (Int.ofNat 1) 0 (Int.ofNat 0)))]
end
end Go.Proofs.YtjodpodmeobciaaGreatDoor
