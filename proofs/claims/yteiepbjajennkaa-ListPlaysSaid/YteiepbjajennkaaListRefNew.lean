/- The document's lists, made. Conditions: none. -/
import Derived.Test.YteiepbjajennkaaListRefRems
namespace Go.Proofs.Yteiepbjajennkaa.ListHand
set_option linter.unusedVariables false
open Go.RowKit Go.Proofs.YteiepbjajennkaaW.PrintWords Go.Proofs.YteiepbjajennkaaW.PrintMore
theorem info28 : (Try.prog.info? 28).map (fun i => (i.zero, i.size, i.bytes)) = some (some (.slice none 0 0), 1, 24) := by kernel_rfl
theorem nils_at (w : World) (n E : Nat) (j : Nat) (hj : j < n) : (w.alloc (.cells (madeCells #[Value.slice none 0 0] n) E)).cell? ⟨w.heap.size, j, none⟩ = some (.slice none 0 0) := by
  rw [World.cell?_alloc_at _ _ _ _ rfl]
  simp [madeCells, hj, Nat.mod_one]
theorem Rf.made {w0 W : World} (h : Below w0.heap.size w0 W) {N H lo : Nat} (N0 : 1 ≤ N) (N1 : N ≤ 1024) (H0 : 1 ≤ H) (H1 : H ≤ 64) (hlo : lo ≤ W.heap.size) (hw : w0.heap.size ≤ lo) :
    Rf w0 lo ((W.alloc (.cells (madeCells #[Value.slice none 0 0] H) 28)).alloc (.cells #[.int .i64 N, .slice (some ⟨W.heap.size, 0, none⟩) H H] 110)) (W.heap.size + 1) W.heap.size N H (fun _ => []) := by
  refine ⟨?_, ?_, fun j hj => ⟨.slice none 0 0, ?_, own_nil _ _ _ _, by simp [Value.ownBlock]⟩, fun j => ?_, by omega, by omega, hlo, hw, N0, N1, H0, H1, fun j _ => by simp, fun j _ x hx => by simp at hx, fun j _ => by simp, fun i j x _ _ hx => by simp at hx, below_alloc (below_alloc h _) _⟩
  · rw [World.cell?_alloc_at _ _ _ _ (by simp)]; rfl
  · rw [World.cell?_alloc_at _ _ _ _ (by simp)]; rfl
  · rw [World.cell?_alloc_past _ _ _ (by simp)]; exact nils_at W H 28 j hj
  · rw [World.frozen?_alloc_past _ _ _ (by simp), World.frozen?_alloc_at _ _ _ _ rfl]
theorem new_ref {w0 W : World} (N H lo : Nat) (hN : 1 ≤ N ∧ N ≤ 1024) (hH : 1 ≤ H ∧ H ≤ 64) (be : Below w0.heap.size w0 W) (hlo : lo ≤ W.heap.size) (hw : w0.heap.size ≤ lo) :
    Calls Try.prog 23 #[.int .i64 N, .int .i64 H] W fun e w' => ∃ q s, e = .returned (.tuple #[.pointer (some ⟨q, 0, none⟩), .int .i64 0]) ∧ Rf w0 lo w' q s N H (fun _ => []) ∧ Below W.heap.size W w' := by
  obtain ⟨N0, N1⟩ := hN
  obtain ⟨H0, H1⟩ := hH
  obtain ⟨i0, hi, hz0, hz1, hz2⟩ := info_parts info28
  have hmk := fun w : World => run_make (P := Try.prog) w 108 28 i0 _ Try.underlying108 hi hz0 .i64 .i64 H H (by omega) (by omega) (by rw [hz2]; omega) (by omega)
  rw [hz1, Int.toNat_natCast] at hmk
  clear hi hz0 hz1 hz2
  have HM := Aside0.mk (Rf.made be N0 N1 H0 H1 hlo hw)
  have HB := Aside0.mk (below_alloc (below_alloc (Below.refl W.heap.size W) (.cells (madeCells #[Value.slice none 0 0] H) 28)) (.cells #[.int .i64 N, .slice (some ⟨W.heap.size, 0, none⟩) H H] 110))
  clear be
  go_enter Try.func23, Try.ntmps23
  go_wp2
  go_ret2
  exact ⟨W.heap.size + 1, W.heap.size, by simp, HM.out, HB.out⟩
end Go.Proofs.Yteiepbjajennkaa.ListHand
