/- Rows that are made. Conditions: none. -/
import Derived.Test.YteiepbjajennkaaListRow
namespace Go.Proofs.Yteiepbjajennkaa.ListHand
set_option linter.unusedVariables false
open Go.RowKit Go.Proofs.YteiepbjajennkaaW.PrintWords Go.Proofs.YteiepbjajennkaaW.PrintMore
theorem info102 : (Try.prog.info? 102).map (fun i => (i.zero, i.size, i.bytes)) = some (some (.agg #[.int .i64 0, .int .i64 0, .int .i64 0]), 3, 24) := by kernel_rfl
theorem info104 : (Try.prog.info? 104).map (fun i => (i.zero, i.size, i.bytes)) = some (some (.agg #[.int .i64 0, .int .i64 0, .int .i64 0]), 3, 24) := by kernel_rfl
theorem zeros_at (w : World) (n E : Nat) (j : Nat) (hj : j < n * 3) : (w.alloc (.cells (madeCells #[Value.int .i64 0, .int .i64 0, .int .i64 0] (n * 3)) E)).cell? ⟨w.heap.size, j, none⟩ = some (.int .i64 0) := by
  rw [World.cell?_alloc_at _ _ _ _ rfl]
  have : (madeCells #[Value.int .i64 0, .int .i64 0, .int .i64 0] (n * 3))[j]? = some (#[Value.int .i64 0, .int .i64 0, .int .i64 0][j % 3]!) := by
    simp [madeCells, hj]
  rw [this]
  have hm : j % 3 = 0 ∨ j % 3 = 1 ∨ j % 3 = 2 := by omega
  rcases hm with e | e | e <;> rw [e] <;> rfl
theorem Ls.made1 {w0 w : World} (h : Below w0.heap.size w0 w) {N H : Nat} (N0 : 1 ≤ N) (N1 : N ≤ 1024) (H0 : 1 ≤ H) (H1 : H ≤ 64) :
    Ls w0 (((w.alloc (.cells (madeCells #[Value.int .i64 0, .int .i64 0, .int .i64 0] (N * 3)) 102)).alloc (.cells (madeCells #[Value.int .i64 0, .int .i64 0, .int .i64 0] (H * 3)) 104)).alloc (.cells #[.slice (some ⟨w.heap.size, 0, none⟩) N N, .slice (some ⟨w.heap.size + 1, 0, none⟩) H H] 100))
      (w.heap.size + 2) w.heap.size (w.heap.size + 1) N H (fun _ => 0) (fun _ => 0) := by
  have hs := h.size
  refine ⟨?_, ?_, fun j hj => ?_, fun j hj => ?_, fun j => ?_, fun j => ?_, by omega, by omega, by omega, by omega, by omega, by omega, N0, N1, H0, H1, below_alloc (below_alloc (below_alloc h _) _) _⟩
  · rw [World.cell?_alloc_at _ _ _ _ (by simp)]; rfl
  · rw [World.cell?_alloc_at _ _ _ _ (by simp)]; rfl
  · rw [World.cell?_alloc_past _ _ _ (by simp; omega), World.cell?_alloc_past _ _ _ (by simp)]
    exact zeros_at w N 102 j hj
  · rw [World.cell?_alloc_past _ _ _ (by simp)]
    have := zeros_at (w.alloc (.cells (madeCells #[Value.int .i64 0, .int .i64 0, .int .i64 0] (N * 3)) 102)) H 104 j hj
    simpa using this
  · rw [World.frozen?_alloc_past _ _ _ (by simp; omega), World.frozen?_alloc_past _ _ _ (by simp), World.frozen?_alloc_at _ _ _ _ rfl]
  · rw [World.frozen?_alloc_past _ _ _ (by simp), World.frozen?_alloc_at _ _ _ _ (by simp)]
theorem Ls.made2 {w0 w : World} (h : Below w0.heap.size w0 w) {N H : Nat} (N0 : 1 ≤ N) (N1 : N ≤ 1024) (H0 : 1 ≤ H) (H1 : H ≤ 64) :
    Ls w0 (((w.alloc (.cells (madeCells #[Value.int .i64 0, .int .i64 0, .int .i64 0] (H * 3)) 104)).alloc (.cells (madeCells #[Value.int .i64 0, .int .i64 0, .int .i64 0] (N * 3)) 102)).alloc (.cells #[.slice (some ⟨w.heap.size + 1, 0, none⟩) N N, .slice (some ⟨w.heap.size, 0, none⟩) H H] 100))
      (w.heap.size + 2) (w.heap.size + 1) w.heap.size N H (fun _ => 0) (fun _ => 0) := by
  have hs := h.size
  refine ⟨?_, ?_, fun j hj => ?_, fun j hj => ?_, fun j => ?_, fun j => ?_, by omega, by omega, by omega, by omega, by omega, by omega, N0, N1, H0, H1, below_alloc (below_alloc (below_alloc h _) _) _⟩
  · rw [World.cell?_alloc_at _ _ _ _ (by simp)]; rfl
  · rw [World.cell?_alloc_at _ _ _ _ (by simp)]; rfl
  · rw [World.cell?_alloc_past _ _ _ (by simp)]
    have := zeros_at (w.alloc (.cells (madeCells #[Value.int .i64 0, .int .i64 0, .int .i64 0] (H * 3)) 104)) N 102 j hj
    simpa using this
  · rw [World.cell?_alloc_past _ _ _ (by simp; omega), World.cell?_alloc_past _ _ _ (by simp)]
    exact zeros_at w H 104 j hj
  · rw [World.frozen?_alloc_past _ _ _ (by simp), World.frozen?_alloc_at _ _ _ _ (by simp)]
  · rw [World.frozen?_alloc_past _ _ _ (by simp; omega), World.frozen?_alloc_past _ _ _ (by simp), World.frozen?_alloc_at _ _ _ _ rfl]
/-- The nodes, the first j of them free already; the heads. -/
def fa (j : Nat) : Nat → Int := fun k => if k < j * 3 then -1 else 0
def fb (j : Nat) : Nat → Int := fun k => if k < j * 3 then (if k % 3 = 2 then 0 else -1) else 0
theorem fa_step (j k : Nat) : updI (updI (updI (fa j) (j * 3) (-1)) (j * 3 + 1) (-1)) (j * 3 + 2) (-1) k = fa (j + 1) k := by
  unfold updI fa
  by_cases e2 : k = j * 3 + 2
  · rw [if_pos e2, if_pos (by omega)]
  · rw [if_neg e2]
    by_cases e1 : k = j * 3 + 1
    · rw [if_pos e1, if_pos (by omega)]
    · rw [if_neg e1]
      by_cases e0 : k = j * 3
      · rw [if_pos e0, if_pos (by omega)]
      · rw [if_neg e0]
        by_cases h : k < j * 3
        · rw [if_pos h, if_pos (by omega)]
        · rw [if_neg h, if_neg (by omega)]
theorem fb_step (j k : Nat) : updI (updI (updI (fb j) (j * 3) (-1)) (j * 3 + 1) (-1)) (j * 3 + 2) 0 k = fb (j + 1) k := by
  unfold updI fb
  by_cases e2 : k = j * 3 + 2
  · rw [if_pos e2, if_pos (by omega), if_pos (by omega)]
  · rw [if_neg e2]
    by_cases e1 : k = j * 3 + 1
    · rw [if_pos e1, if_pos (by omega), if_neg (by omega)]
    · rw [if_neg e1]
      by_cases e0 : k = j * 3
      · rw [if_pos e0, if_pos (by omega), if_neg (by omega)]
      · rw [if_neg e0]
        by_cases h : k < j * 3
        · simp only [if_pos h, if_pos (show k < (j + 1) * 3 by omega)]
        · rw [if_neg h, if_neg (by omega)]
theorem Ls.up {w0 W w' : World} {g a b N H : Nat} {ca cb : Nat → Int} (h : Ls W w' g a b N H ca cb) (be : Below w0.heap.size w0 W) : Ls w0 w' g a b N H ca cb :=
  ⟨h.cg0, h.cg1, h.ca, h.cb, h.fa, h.fb, h.ga, h.gb, h.ab, Nat.le_trans be.size h.gw, Nat.le_trans be.size h.aw, Nat.le_trans be.size h.bw, h.N0, h.N1, h.H0, h.H1,
    be.trans ⟨h.be.os, h.be.tape, h.be.output, h.be.size, fun i hi => h.be.block i (Nat.lt_of_lt_of_le hi be.size)⟩⟩
theorem LR.fresh {w0 W : World} {g a b N H : Nat} (h : Ls w0 W g a b N H (fa N) (fb H)) : LR w0 W g a b N H (fun _ => []) := by
  refine ⟨_, _, h, fun x hx => ?_, fun x hx k n hk => by simp at hk, fun x hx _ => ?_, fun _ _ => List.nodup_nil⟩
  · have b0 : fb H (x * 3) = -1 := by unfold fb; rw [if_pos (by omega), if_neg (by omega)]
    have b1 : fb H (x * 3 + 1) = -1 := by unfold fb; rw [if_pos (by omega), if_neg (by omega)]
    have b2 : fb H (x * 3 + 2) = 0 := by unfold fb; rw [if_pos (by omega), if_pos (by omega)]
    show (fb H (x * 3), fb H (x * 3 + 1), fb H (x * 3 + 2)) = _
    rw [b0, b1, b2]; rfl
  · show (fa N (x * 3), fa N (x * 3 + 1), fa N (x * 3 + 2)) = _
    unfold fa
    rw [if_pos (by omega), if_pos (by omega), if_pos (by omega)]
set_option maxHeartbeats 2000000 in
theorem new_calls {w0 W : World} (N H : Nat) (hN : 1 ≤ N ∧ N ≤ 1024) (hH : 1 ≤ H ∧ H ≤ 64) (be : Below w0.heap.size w0 W) :
    Calls Try.prog 14 #[.int .i64 N, .int .i64 H] W fun e w' => ∃ g a b, e = .returned (.tuple #[.pointer (some ⟨g, 0, none⟩), .int .i64 0]) ∧ LR w0 w' g a b N H (fun _ => []) ∧ Below W.heap.size W w' ∧ W.heap.size ≤ g ∧ W.heap.size ≤ a ∧ W.heap.size ≤ b := by
  obtain ⟨N0, N1⟩ := hN
  obtain ⟨H0, H1⟩ := hH
  obtain ⟨i0, hi, hz0, hz1, hz2⟩ := info_parts info102
  obtain ⟨j0, gi, gz0, gz1, gz2⟩ := info_parts info104
  have hmk := fun w : World => run_make (P := Try.prog) w 97 102 i0 _ Try.underlying97 hi hz0 .i64 .i64 N N (by omega) (by omega) (by rw [hz2]; omega) (by omega)
  rw [hz1, Int.toNat_natCast] at hmk
  have hmh := fun w : World => run_make (P := Try.prog) w 98 104 j0 _ Try.underlying98 gi gz0 .i64 .i64 H H (by omega) (by omega) (by rw [gz2]; omega) (by omega)
  rw [gz1, Int.toNat_natCast] at hmh
  clear hi hz0 hz1 hz2 gi gz0 gz1 gz2
  have HB := Aside0.mk be; clear be
  go_enter Try.func14, Try.ntmps14
  go_wp2
  go_region
  · go_wp2
    have HL0 := Aside0.mk ((Ls.made1 (Below.refl W.heap.size W) N0 N1 H0 H1).drew.congr (ca' := fa 0) (cb' := fb 0) (fun j _ => by unfold fa; rw [if_neg (by omega)]) (fun j _ => by unfold fb; rw [if_neg (by omega)]))
    go_loopw [34] (fun i w' => ∃ j : Nat, j ≤ N ∧ i = .int .i64 j ∧ Aside0 (Ls W w' (W.heap.size + 2) W.heap.size (W.heap.size + 1) N H (fa j) (fb 0))) (fun i _ => N - (intOf i).toNat)
    case atStart => exact ⟨0, Nat.zero_le _, rfl, HL0⟩
    case round =>
      clear HL0
      obtain ⟨j, hj, rfl, HLj⟩ := hrel
      have c0 := HLj.out.cg0
      by_cases hlt : j < N
      · have a0 := HLj.out.ca (j * 3) (by omega)
        have a1 := HLj.out.ca (j * 3 + 1) (by omega)
        have a2 := HLj.out.ca (j * 3 + 2) (by omega)
        have f0 := HLj.out.fa (j * 3)
        have f1 := HLj.out.fa (j * 3 + 1)
        have f2 := HLj.out.fa (j * 3 + 2)
        have HS := Aside0.mk ((((HLj.out.sa (j * 3) (by omega) (-1)).sa (j * 3 + 1) (by omega) (-1)).sa (j * 3 + 2) (by omega) (-1)).congr (ca' := fa (j + 1)) (cb' := fb 0) (fun k _ => fa_step j k) (fun _ _ => rfl))
        go_wp2
        go_roundw
        case rel => exact ⟨j + 1, by omega, by go_num, HS⟩
        case measure => simp [intOf]; omega
      · obtain rfl : j = N := by omega
        have c1 := HLj.out.cg1
        go_wp2
        go_loopw [50] (fun i w' => ∃ k : Nat, k ≤ H ∧ i = .int .i64 k ∧ Aside0 (Ls W w' (W.heap.size + 2) W.heap.size (W.heap.size + 1) j H (fa j) (fb k))) (fun i _ => H - (intOf i).toNat)
        case atStart => exact ⟨0, Nat.zero_le _, rfl, HLj⟩
        case round =>
          clear HLj c0 c1
          obtain ⟨k, hk, rfl, HLk⟩ := hrel
          have c1 := HLk.out.cg1
          by_cases hlt : k < H
          · have a0 := HLk.out.cb (k * 3) (by omega)
            have a1 := HLk.out.cb (k * 3 + 1) (by omega)
            have a2 := HLk.out.cb (k * 3 + 2) (by omega)
            have f0 := HLk.out.fb (k * 3)
            have f1 := HLk.out.fb (k * 3 + 1)
            have f2 := HLk.out.fb (k * 3 + 2)
            have HS := Aside0.mk ((((HLk.out.sb (k * 3) (by omega) (-1)).sb (k * 3 + 1) (by omega) (-1)).sb (k * 3 + 2) (by omega) 0).congr (ca' := fa j) (cb' := fb (k + 1)) (fun _ _ => rfl) (fun i _ => fb_step k i))
            go_wp2
            go_roundw
            case rel => exact ⟨k + 1, by omega, by go_num, HS⟩
            case measure => simp [intOf]; omega
          · obtain rfl : k = H := by omega
            go_wp2
            go_ret2
            exact ⟨_, _, _, rfl, LR.fresh (HLk.out.up HB.out), HLk.out.be, by omega, by omega, by omega⟩
  · go_wp2
    have HL0 := Aside0.mk ((Ls.made2 (Below.refl W.heap.size W) N0 N1 H0 H1).drew.congr (ca' := fa 0) (cb' := fb 0) (fun j _ => by unfold fa; rw [if_neg (by omega)]) (fun j _ => by unfold fb; rw [if_neg (by omega)]))
    go_loopw [34] (fun i w' => ∃ j : Nat, j ≤ N ∧ i = .int .i64 j ∧ Aside0 (Ls W w' (W.heap.size + 2) (W.heap.size + 1) W.heap.size N H (fa j) (fb 0))) (fun i _ => N - (intOf i).toNat)
    case atStart => exact ⟨0, Nat.zero_le _, rfl, HL0⟩
    case round =>
      clear HL0
      obtain ⟨j, hj, rfl, HLj⟩ := hrel
      have c0 := HLj.out.cg0
      by_cases hlt : j < N
      · have a0 := HLj.out.ca (j * 3) (by omega)
        have a1 := HLj.out.ca (j * 3 + 1) (by omega)
        have a2 := HLj.out.ca (j * 3 + 2) (by omega)
        have f0 := HLj.out.fa (j * 3)
        have f1 := HLj.out.fa (j * 3 + 1)
        have f2 := HLj.out.fa (j * 3 + 2)
        have HS := Aside0.mk ((((HLj.out.sa (j * 3) (by omega) (-1)).sa (j * 3 + 1) (by omega) (-1)).sa (j * 3 + 2) (by omega) (-1)).congr (ca' := fa (j + 1)) (cb' := fb 0) (fun k _ => fa_step j k) (fun _ _ => rfl))
        go_wp2
        go_roundw
        case rel => exact ⟨j + 1, by omega, by go_num, HS⟩
        case measure => simp [intOf]; omega
      · obtain rfl : j = N := by omega
        have c1 := HLj.out.cg1
        go_wp2
        go_loopw [50] (fun i w' => ∃ k : Nat, k ≤ H ∧ i = .int .i64 k ∧ Aside0 (Ls W w' (W.heap.size + 2) (W.heap.size + 1) W.heap.size j H (fa j) (fb k))) (fun i _ => H - (intOf i).toNat)
        case atStart => exact ⟨0, Nat.zero_le _, rfl, HLj⟩
        case round =>
          clear HLj c0 c1
          obtain ⟨k, hk, rfl, HLk⟩ := hrel
          have c1 := HLk.out.cg1
          by_cases hlt : k < H
          · have a0 := HLk.out.cb (k * 3) (by omega)
            have a1 := HLk.out.cb (k * 3 + 1) (by omega)
            have a2 := HLk.out.cb (k * 3 + 2) (by omega)
            have f0 := HLk.out.fb (k * 3)
            have f1 := HLk.out.fb (k * 3 + 1)
            have f2 := HLk.out.fb (k * 3 + 2)
            have HS := Aside0.mk ((((HLk.out.sb (k * 3) (by omega) (-1)).sb (k * 3 + 1) (by omega) (-1)).sb (k * 3 + 2) (by omega) 0).congr (ca' := fa j) (cb' := fb (k + 1)) (fun _ _ => rfl) (fun i _ => fb_step k i))
            go_wp2
            go_roundw
            case rel => exact ⟨k + 1, by omega, by go_num, HS⟩
            case measure => simp [intOf]; omega
          · obtain rfl : k = H := by omega
            go_wp2
            go_ret2
            exact ⟨_, _, _, rfl, LR.fresh (HLk.out.up HB.out), HLk.out.be, by omega, by omega, by omega⟩
theorem new_no (N H : Int) (h : N < 1 ∨ 1024 < N ∨ H < 1 ∨ 64 < H) (W : World) :
    Calls Try.prog 14 #[.int .i64 N, .int .i64 H] W fun e w' => e = .returned (.tuple #[.pointer none, .int .i64 (-17)]) ∧ W = w' := by
  by_cases h0 : N < 1
  · clear h
    go_enter Try.func14, Try.ntmps14
    go_wp2
    go_ret2
    exact ⟨rfl, rfl⟩
  · by_cases h1 : 1024 < N
    · clear h
      go_enter Try.func14, Try.ntmps14
      go_wp2
      go_ret2
      exact ⟨rfl, rfl⟩
    · by_cases h2 : H < 1
      · clear h
        go_enter Try.func14, Try.ntmps14
        go_wp2
        go_ret2
        exact ⟨rfl, rfl⟩
      · have h3 : 64 < H := by omega
        clear h
        go_enter Try.func14, Try.ntmps14
        go_wp2
        go_ret2
        exact ⟨rfl, rfl⟩
end Go.Proofs.Yteiepbjajennkaa.ListHand
