/- The eventflag's kernel, out of a state that is laid down: the stations' runs, and the law's run around them. Conditions: none. -/
import Derived.Test.YtjodpodmeobciaaGreatDoorUH
namespace Go.Proofs.YtjodpodmeobciaaGreatDoor
open Go.Rsf Go.RowKit
set_option linter.unusedVariables false
/-- The kernel's blocks ahead of the call that sets the bits: the number of tasks that wait, the kernel's address, how many blocks there were, the next key, the blocks. -/
structure LitS where
  n : Nat
  kp : Pth
  cnt : Nat
  nx : Pth
  bl : List (Pth × Bk)
noncomputable section
/-! ### Where the eventflag's blocks are -/
def flF (h : Tr Blk) (kp : Pth) : Pth := rdId (rdC (rdRow h (rdId (rdC (rdRow h kp) 1))) 0)
def flQ (h : Tr Blk) (kp : Pth) : Pth := rdId (rdC (rdRow h (flF h kp)) 0)
def flA (h : Tr Blk) (kp : Pth) : Pth := rdId (rdC (rdRow h (flQ h kp)) 0)
def flM (h : Tr Blk) (kp : Pth) : Pth := rdId (rdC (rdRow h (flF h kp)) 4)
def resB : Bk := .row false [cI 0, cI 0]
def slice0 (p : Pth) (m : Nat) : AV := .v (.one (ifB (Nat.beq m 0) .nils (.sl p 0 m m)))
/-- The loops with a call. -/
def lpOf (f : Nat) (x : XFn) : XCode := match (loopsOf x.body).filter (callsB f) with | y :: _ => y | [] => .skip
def lpR : XCode := lpOf 74 x103
def lpF : XCode := lpOf 99 x48
def lpL : XCode := lpOf 23 x10
/-- All the tasks want something. -/
def wantB (n : Nat) (s : St) : Bool := allK n fun i => nthIv s.iv (16 + i) fun x => ileB (Int.ofNat 1) x.lo
/-! ### The loop of Raise -/
def uR0 (L : LitS) (h : Tr Blk) : List (Pth × Bk) :=
  (flF h L.kp, .row false (wrC (rdRow h (flF h L.kp)) 1 (.lin .u32 (Int.ofNat 1) 0 (Int.ofNat 0)))) :: (keyP L.nx 1, resB) :: ifB (Nat.beq L.n 0) [] [(p1022, .row true (tkC (2 * L.n) (rdRow h (flA h L.kp))))]
def vR0 (L : LitS) (h : Tr Blk) : List (Pth × AV) := [(q0, .v (.one (.ptr (flF h L.kp) 0))), (q31, slice0 p1022 L.n), (q32, .v (.one (cI L.n)))]
def litH (L : LitS) : Tr Blk := layL L.bl .nil
def sR0 (L : LitS) : St := ⟨layL (uR0 L (litH L)) (litH L), p1023, 1023, 1, []⟩
def tR0 (L : LitS) : Ts := putsL (vR0 L (litH L)) .nil
def litR (L : LitS) (k : Ts → St → Bool) : Bool := layK L.bl .nil fun h => layK (uR0 L h) h fun h1 => putsK (vR0 L h) .nil fun t => k t ⟨h1, p1023, 1023, 1, []⟩
theorem litR_eq (L : LitS) (k : Ts → St → Bool) : litR L k = k (tR0 L) (sR0 L) := by
  unfold litR; rw [layK_spec, layK_spec, putsK_spec]; rfl
def kR (L : LitS) (u : Nat) : KX := fun e t s => exK e false (fun i => guardK (Nat.beq i 2) <| guardK (Nat.ble s.cnt 2046) (litR L fun t0 s0 => staR L.n t0 s0 L.n u fun tp sp => matF 1023 [] [] tp ⟨sp.heap, nx11, 2046, 1, []⟩ t s)) false
/-- A station's run. -/
def runR (L : LitS) (t0 : Ts) (s0 : St) (j u : Nat) : Bool := staR L.n t0 s0 j u fun tp sp => codeK ckP 400 lpR tp sp (stepK 2046 nx11 (nxR L.n t0 s0 j u) (Nat.beq j L.n) (kR L u))
/-- The runs from j on, d of them. -/
def grpR (L : LitS) (j d : Nat) : Bool := litR L fun t0 s0 => allK d fun i => natK (j + i) fun j => allK (j + 1) fun u => runR L t0 s0 j u
def famR2 (L : LitS) (_ : XCode) (t : Ts) (s : St) (k : KX) : Bool :=
  guardK (wantB L.n s) (guardK (Nat.ble s.cnt 1022) (litR L fun t0 s0 =>
    guardK (staR L.n t0 s0 0 0 fun tp sp => matF s.cnt (ifB (Nat.beq L.n 0) [] [(p1022, rdId (rdS t q31))]) [] tp sp t s)
      (allK (L.n + 1) fun u => staR L.n t0 s0 L.n u fun tp sp => k (.exit 2) tp ⟨sp.heap, nx11, 2046, 1, sp.iv⟩)))
/-! ### The loop that tells them -/
def uF0 (L : LitS) (h : Tr Blk) (m : Nat) : List (Pth × Bk) :=
  (flF h L.kp, .dead) :: (flQ h L.kp, .dead) :: (flM h L.kp, .dead) :: (keyP L.nx 1, resB) :: ifB (Nat.beq L.n 0) [] ((flA h L.kp, .dead) :: ifB (Nat.beq m 0) [] [(p3070, .row true (tbC (fun k => [cL (96 + k), .lin .u32 (Int.ofNat 1) 0 (Int.ofNat 0)]) m 0))])
def vF0 (L : LitS) (m : Nat) : List (Pth × AV) := [(q0, .v (.one (.ptr L.kp 0))), (q4, .v (.one (.ptr (keyP L.nx 1) 0))), (q65, slice0 p3070 m), (q66, .v (.one (cI m)))]
def sF0 (L : LitS) (m : Nat) : St := ⟨layL (uF0 L (litH L) m) (litH L), p3071, 3071, 1, []⟩
def tF0 (L : LitS) (m : Nat) : Ts := putsL (vF0 L m) .nil
def litF (L : LitS) (m : Nat) (k : Ts → St → Bool) : Bool := layK L.bl .nil fun h => layK (uF0 L h m) h fun h1 => putsK (vF0 L m) .nil fun t => k t ⟨h1, p3071, 3071, 1, []⟩
theorem litF_eq (L : LitS) (m : Nat) (k : Ts → St → Bool) : litF L m k = k (tF0 L m) (sF0 L m) := by
  unfold litF; rw [layK_spec, layK_spec, putsK_spec]; rfl
def kF (L : LitS) (m : Nat) : KX := fun e t s => exK e false (fun i => guardK (Nat.beq i 2) <| guardK (Nat.ble s.cnt 4094) (litF L m fun t0 s0 => layF L.n t0 s0 fun h _ _ => slF t0 m fun tp => matF 3071 [] [] tp ⟨h, nx12, 4094, 1, []⟩ t s)) false
def grpF (L : LitS) (m : Nat) : Bool := litF L m fun t0 s0 => layF L.n t0 s0 fun h nx c =>
  guardK (allK m fun k => allK (L.n - m + 1) fun d => natK (k + 1 + d) fun t' => slF t0 k fun tp => ivAllK (ivF k t') fun iv => codeK ckP 400 lpF tp ⟨h, nx, c, 1, iv⟩ (stepK 4094 nx12 (nxF L.n t0 s0 h nx c k t') false (fun _ _ _ => false)))
    (slF t0 m fun tp => ivAllK (ivF m 16) fun iv => codeK ckP 400 lpF tp ⟨h, nx, c, 1, iv⟩ (stepK 4094 nx12 (fun _ _ => false) true (kF L m)))
def famF2 (L : LitS) (_ : XCode) (t : Ts) (s : St) (f : KX) : Bool :=
  natK (rdN (rdS t q66)) fun m => guardK (nthIv s.iv 81 fun y => guardK (ieqB y.lo (Int.ofNat m)) (ieqB y.hi (Int.ofNat m))) (guardK (Nat.ble m L.n) (guardK (Nat.ble s.cnt 3070) (litF L m fun t0 s0 => layF L.n t0 s0 fun h nx c =>
    guardK (slF t0 0 fun tp => matF s.cnt (ifB (Nat.beq m 0) (rensF L.n L.kp s.heap p3071) ((p3070, rdId (rdS t q65)) :: rensF L.n L.kp s.heap p3071)) (sg0 15) tp ⟨h, nx, c, 1, []⟩ t s)
      (slF t0 m fun tp => ivAllK (ivF m 16) fun iv => f (.exit 2) tp ⟨h, nx12, 4094, 1, iv⟩))))
/-! ### The call -/
def ckR2 (L : LitS) : CK := fun f p l s k => @Bool.rec (fun _ => Bool) (ckP f p l s k) (getK p xs fun x => fnX ckP (callsB 74) (famR2 L) x l s k) (Nat.beq f 103)
def fArgs (L : LitS) : List AV := [.v (.one (.ptr L.kp 0)), .v (.agg [cI 28, cI 1, cL 0, cI 0, cI 0])]
def ivB1 (n : Nat) : IvT :=
  ⟨iv3 0 255 0, fun i => iv3 (ifB (Nat.blt i n) 1 0) 255 0, fun i => iv3 0 255 (mdA n i), fun i => iv3 0 (ifB (Nat.blt i n) 1 0) (mdM n i), fun i => iv3 0 255 (Nat.add Go.Rsf.LT (3 + 8 * (48 + i))), iv3 32768 65535 (Nat.add Go.Rsf.LT (4 + 8 * 48)), iv3 0 15 0, fun _ => iv3 0 15 0, fun _ => iv3 0 15 0⟩
def s2H (L : LitS) : Tr Blk := layL (updS L.n L.kp (litH L) L.nx) (litH L)
def s2K (L : LitS) (k : Tr Blk → Tr Blk → Bool) : Bool := layK L.bl .nil fun h => layK (updS L.n L.kp h L.nx) h fun h2 => k h h2
theorem s2K_eq (L : LitS) (k : Tr Blk → Tr Blk → Bool) : s2K L k = k (litH L) (s2H L) := by
  unfold s2K; rw [layK_spec, layK_spec]; rfl
/-- The call's run, from its beginning to its end, around the stations. -/
def flgN (L : LitS) : Bool := s2K L fun h h2 => ivAllK (ivB1 L.n) fun iv =>
  fnX (ckR2 L) (callsB 99) (famF2 L) x48 (fArgs L) ⟨h, L.nx, L.cnt, 1, iv⟩ fun v s1 => guardK (Nat.ble s1.cnt 8190) (matF L.cnt (rensF L.n L.kp s1.heap L.nx) [] (.leaf vOK) ⟨h2, nx13, 8190, 1, []⟩ (.leaf v) s1)
def len2 (l : List AV) : Bool := match l with | [_, _] => true | _ => false
def flagOv2 (L : LitS) (l : List AV) (s : St) (k : KVS) : Bool :=
  guardK (len2 l) (guardK (Nat.beq s.cnt L.cnt) (guardK (wantB L.n s) (s2K L fun h h2 =>
    guardK (argsK (fArgs L) .e .nil fun tp => argsK l .e .nil fun t => matF L.cnt [] [] tp ⟨h, L.nx, L.cnt, 1, []⟩ t s) (k vOK ⟨h2, nx13, 8190, 1, s.iv⟩))))
def ov2 (L : LitS) (d : CK) : CK := fun f p l s k => @Bool.rec (fun _ => Bool) (d f p l s k) (flagOv2 L l s k) (isSet f l)
/-! ### The law's last loop: behind the call, p the first task that is met -/
def ivL (n p : Nat) : IvT :=
  ⟨iv3 0 255 0, fun i => iv3 (ifB (Nat.blt i n) 1 0) 255 0, fun i => iv3 0 255 (mdA n i), fun i => iv3 (ifB (Nat.blt i n) (ifB (Nat.beq i p) 1 0) 0) (ifB (Nat.blt i n) (ifB (Nat.blt i p) 0 1) 0) (mdM n i), fun i => iv3 0 255 (Nat.add Go.Rsf.LT (3 + 8 * (48 + i))), iv3 32768 65535 (Nat.add Go.Rsf.LT (4 + 8 * 48)), iv3 0 15 0, fun _ => iv3 0 15 0, fun _ => iv3 0 15 0⟩
def uL0 (L : LitS) (h2 : Tr Blk) (p : Nat) : List (Pth × Bk) := [(L.kp, .row false (wrC (rdRow h2 L.kp) 12 (cI (p + 1))))]
def litL (L : LitS) (p : Nat) (k : Tr Blk → Bool) : Bool := s2K L fun _ h2 => layK (uL0 L h2 p) h2 k
def hL (L : LitS) (p : Nat) : Tr Blk := layL (uL0 L (s2H L) p) (s2H L)
theorem litL_eq (L : LitS) (p : Nat) (k : Tr Blk → Bool) : litL L p k = k (hL L p) := by
  unfold litL; rw [s2K_eq, layK_spec]; rfl
def vL (L : LitS) (i : Nat) : List (Pth × AV) := [(q0, .inS (cI L.n) .u8 (.all 16)), (q1, .v (.one (.lin .u8 (Int.ofNat 1) 0 (Int.ofNat 0)))), (q7, .v (.one (.ptr L.kp 0))), (q13, .v (.one (cI i)))]
def nxL2 (L : LitS) (h : Tr Blk) (i : Nat) (t1 : Ts) (s1 : St) : Bool := guardK (Nat.blt i L.n) (natK (i + 1) fun j => putsK (vL L j) .nil fun tq => matF 9000 [] [] tq ⟨h, p9000, 9000, 1, []⟩ t1 s1)
def kL (L : LitS) (p : Nat) : KX := fun e t s => exK e false (fun i => guardK (Nat.beq i 4) <| guardK (Nat.ble s.cnt 16382) (litL L p fun h => putsK (vL L L.n) .nil fun tp => matF 9000 [] [] tp ⟨h, nx14, 16382, 1, []⟩ t s)) false
def grpL (L : LitS) (p : Nat) : Bool := litL L p fun h => ivAllK (ivL L.n p) fun iv => allK (L.n + 1) fun i => putsK (vL L i) .nil fun tp => codeK ckP 400 lpL tp ⟨h, p9000, 9000, 1, iv⟩ (stepK 16382 nx14 (nxL2 L h i) (Nat.beq i L.n) (kL L p))
/-- Is p the first task that is met? -/
def firstB (n p : Nat) (s : St) : Bool := guardK (allK p fun i => nthIv s.iv (48 + i) fun x => ileB x.hi (Int.ofNat 0)) (ifB (Nat.blt p n) (nthIv s.iv (48 + p) fun x => ileB (Int.ofNat 1) x.lo) true)
def famL2 (L : LitS) (_ : XCode) (t : Ts) (s : St) (k : KX) : Bool :=
  natK (rdN (rdC (rdRow s.heap L.kp) 12) - 1) fun p => guardK (Nat.ble p L.n) (guardK (firstB L.n p s) (guardK (wantB L.n s) (guardK (Nat.ble s.cnt 9000) (litL L p fun h =>
    guardK (putsK (vL L 0) .nil fun tp => matF 9000 [] [] tp ⟨h, p9000, 9000, 1, []⟩ t s)
      (putsK (vL L L.n) .nil fun tp => ivAllK (ivL L.n p) fun iv => k (.exit 4) tp ⟨h, nx14, 16382, 1, iv⟩)))))
/-- The law's run, around the call's. -/
def lawP (L : LitS) : Bool := cellsF tab fun tb => ivAllK (ivB L.n) fun iv => fnX (callO xs 400 (ov2 L) 100) (callsB 23) (famL2 L) x10 (lawArgs L.n) (st0 tb iv) isT
end
end Go.Proofs.YtjodpodmeobciaaGreatDoor
