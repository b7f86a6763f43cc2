/- What linked rows are in memory; what the small calls on them do. Conditions: none. -/
import Derived.Test.YteiepbjajennkaaListPure
import Derived.Test.YteiepbjajennkaaWWords
import Derived.Test.YteiepbjajennkaaProg
import Derived.Laws.MakeOwn
namespace Go.Proofs.Yteiepbjajennkaa.ListHand
set_option linter.unusedVariables false
open Go.RowKit Go.Proofs.YteiepbjajennkaaW.PrintWords

def updI (f : Nat → Int) (i : Nat) (v : Int) : Nat → Int := fun j => if j = i then v else f j
theorem updI_at (f : Nat → Int) (i : Nat) (v : Int) : updI f i v i = v := if_pos rfl
theorem updI_ne (f : Nat → Int) {i j : Nat} (v : Int) (h : j ≠ i) : updI f i v j = f j := if_neg h
/-- All blocks but two are as they were. -/
structure KB (W w' : World) (a b : Nat) : Prop where
  size : W.heap.size ≤ w'.heap.size
  block : ∀ i, i < W.heap.size → i ≠ a → i ≠ b → w'.heap[i]? = W.heap[i]?
theorem KB.refl (W : World) (a b : Nat) : KB W W a b := ⟨Nat.le_refl _, fun _ _ _ _ => rfl⟩
theorem KB.trans {W W1 W2 : World} {a b : Nat} (h : KB W W1 a b) (k : KB W1 W2 a b) : KB W W2 a b :=
  ⟨Nat.le_trans h.size k.size, fun i hi ha hb => (k.block i (Nat.lt_of_lt_of_le hi h.size) ha hb).trans (h.block i hi ha hb)⟩
theorem KB.cell {W w' : World} {a b : Nat} (h : KB W w' a b) {p : Addr} (hl : p.block < W.heap.size) (ha : p.block ≠ a) (hb : p.block ≠ b) : w'.cell? p = W.cell? p := World.cell?_of_block (h.block _ hl ha hb)
theorem KB.of_below {W w' : World} (h : Below W.heap.size W w') (a b : Nat) : KB W w' a b := ⟨h.size, fun i hi _ _ => h.block i hi⟩
theorem KB.seta {W w' : World} {a b : Nat} (h : KB W w' a b) (o : Nat) (v : Value) : KB W (w'.setCell ⟨a, o, none⟩ v) a b :=
  ⟨by rw [World.size_setCell]; exact h.size, fun i hi ha hb => (Below.heap_setCell w' ⟨a, o, none⟩ v i ha).trans (h.block i hi ha hb)⟩
theorem KB.setb {W w' : World} {a b : Nat} (h : KB W w' a b) (o : Nat) (v : Value) : KB W (w'.setCell ⟨b, o, none⟩ v) a b :=
  ⟨by rw [World.size_setCell]; exact h.size, fun i hi ha hb => (Below.heap_setCell w' ⟨b, o, none⟩ v i hb).trans (h.block i hi ha hb)⟩
/-- LINKED ROWS AT BLOCK g: the nodes' numbers in block a, three each, the heads' in block b. -/
structure Ls (w0 W : World) (g a b N H : Nat) (ca cb : Nat → Int) : Prop where
  cg0 : W.cell? ⟨g, 0, none⟩ = some (.slice (some ⟨a, 0, none⟩) N N)
  cg1 : W.cell? ⟨g, 1, none⟩ = some (.slice (some ⟨b, 0, none⟩) H H)
  ca : ∀ j, j < N * 3 → W.cell? ⟨a, j, none⟩ = some (.int .i64 (ca j))
  cb : ∀ j, j < H * 3 → W.cell? ⟨b, j, none⟩ = some (.int .i64 (cb j))
  fa : ∀ j, W.frozen? ⟨a, j, none⟩ = false
  fb : ∀ j, W.frozen? ⟨b, j, none⟩ = false
  ga : g ≠ a
  gb : g ≠ b
  ab : a ≠ b
  gw : w0.heap.size ≤ g
  aw : w0.heap.size ≤ a
  bw : w0.heap.size ≤ b
  N0 : 1 ≤ N
  N1 : N ≤ 1024
  H0 : 1 ≤ H
  H1 : H ≤ 64
  be : Below w0.heap.size w0 W
variable {w0 W : World} {g a b N H : Nat} {ca cb : Nat → Int}
theorem Ls.sa (h : Ls w0 W g a b N H ca cb) (i : Nat) (hi : i < N * 3) (v : Int) : Ls w0 (W.setCell ⟨a, i, none⟩ (.int .i64 v)) g a b N H (updI ca i v) cb := by
  refine ⟨?_, ?_, fun j hj => ?_, fun j hj => ?_, fun j => ?_, fun j => ?_, h.ga, h.gb, h.ab, h.gw, h.aw, h.bw, h.N0, h.N1, h.H0, h.H1, below_set h.be h.aw⟩
  · rw [World.cell?_setCell_other _ _ _ _ (by intro q; injection q with q; exact h.ga q.symm)]; exact h.cg0
  · rw [World.cell?_setCell_other _ _ _ _ (by intro q; injection q with q; exact h.ga q.symm)]; exact h.cg1
  · by_cases e : j = i
    · subst e; rw [World.cell?_setCell_same _ _ _ (h.ca j hj), updI_at]
    · rw [World.cell?_setCell_other _ _ _ _ (by intro q; injection q with _ q; omega), updI_ne _ _ e]; exact h.ca j hj
  · rw [World.cell?_setCell_other _ _ _ _ (by intro q; injection q with q; exact h.ab q)]; exact h.cb j hj
  · rw [World.frozen?_setCell]; exact h.fa j
  · rw [World.frozen?_setCell]; exact h.fb j
theorem Ls.sb (h : Ls w0 W g a b N H ca cb) (i : Nat) (hi : i < H * 3) (v : Int) : Ls w0 (W.setCell ⟨b, i, none⟩ (.int .i64 v)) g a b N H ca (updI cb i v) := by
  refine ⟨?_, ?_, fun j hj => ?_, fun j hj => ?_, fun j => ?_, fun j => ?_, h.ga, h.gb, h.ab, h.gw, h.aw, h.bw, h.N0, h.N1, h.H0, h.H1, below_set h.be h.bw⟩
  · rw [World.cell?_setCell_other _ _ _ _ (by intro q; injection q with q; exact h.gb q.symm)]; exact h.cg0
  · rw [World.cell?_setCell_other _ _ _ _ (by intro q; injection q with q; exact h.gb q.symm)]; exact h.cg1
  · rw [World.cell?_setCell_other _ _ _ _ (by intro q; injection q with q; exact h.ab q.symm)]; exact h.ca j hj
  · by_cases e : j = i
    · subst e; rw [World.cell?_setCell_same _ _ _ (h.cb j hj), updI_at]
    · rw [World.cell?_setCell_other _ _ _ _ (by intro q; injection q with _ q; omega), updI_ne _ _ e]; exact h.cb j hj
  · rw [World.frozen?_setCell]; exact h.fa j
  · rw [World.frozen?_setCell]; exact h.fb j
theorem Ls.lt (h : Ls w0 W g a b N H ca cb) : g < W.heap.size ∧ a < W.heap.size ∧ b < W.heap.size :=
  ⟨World.block_lt_of_cell? W _ h.cg0, World.block_lt_of_cell? W _ (h.ca 0 (by have := h.N0; omega)), World.block_lt_of_cell? W _ (h.cb 0 (by have := h.H0; omega))⟩
/-- Other blocks may turn. -/
theorem Ls.keep {w' : World} {x y : Nat} (h : Ls w0 W g a b N H ca cb) (k : KB W w' x y) (hx : g ≠ x ∧ a ≠ x ∧ b ≠ x) (hy : g ≠ y ∧ a ≠ y ∧ b ≠ y) (be : Below w0.heap.size w0 w') : Ls w0 w' g a b N H ca cb := by
  obtain ⟨gl, al, bl⟩ := h.lt
  have eg := k.block g gl hx.1 hy.1
  have ea := k.block a al hx.2.1 hy.2.1
  have eb := k.block b bl hx.2.2 hy.2.2
  exact ⟨(World.cell?_of_block (a := ⟨g, 0, none⟩) eg).trans h.cg0, (World.cell?_of_block (a := ⟨g, 1, none⟩) eg).trans h.cg1, fun j hj => (World.cell?_of_block (a := ⟨a, j, none⟩) ea).trans (h.ca j hj), fun j hj => (World.cell?_of_block (a := ⟨b, j, none⟩) eb).trans (h.cb j hj),
    fun j => (World.frozen?_of_block (a := ⟨a, j, none⟩) ea).trans (h.fa j), fun j => (World.frozen?_of_block (a := ⟨b, j, none⟩) eb).trans (h.fb j), h.ga, h.gb, h.ab, h.gw, h.aw, h.bw, h.N0, h.N1, h.H0, h.H1, be⟩
theorem Ls.below {w' : World} (h : Ls w0 W g a b N H ca cb) (k : Below W.heap.size W w') : Ls w0 w' g a b N H ca cb := by
  have be := h.be.trans ⟨k.os, k.tape, k.output, k.size, fun i hi => k.block i (Nat.lt_of_lt_of_le hi h.be.size)⟩
  obtain ⟨gl, al, bl⟩ := h.lt
  exact h.keep (KB.of_below k w'.heap.size w'.heap.size) (by have := k.size; omega) (by have := k.size; omega) be
theorem Ls.alloc (h : Ls w0 W g a b N H ca cb) (o : Obj) : Ls w0 (W.alloc o) g a b N H ca cb := h.below (below_alloc (Below.refl _ _) o)
theorem Ls.congr {ca' cb' : Nat → Int} (h : Ls w0 W g a b N H ca cb) (e1 : ∀ j, j < N * 3 → ca j = ca' j) (e2 : ∀ j, j < H * 3 → cb j = cb' j) : Ls w0 W g a b N H ca' cb' :=
  ⟨h.cg0, h.cg1, fun j hj => (h.ca j hj).trans (by rw [e1 j hj]), fun j hj => (h.cb j hj).trans (by rw [e2 j hj]), h.fa, h.fb, h.ga, h.gb, h.ab, h.gw, h.aw, h.bw, h.N0, h.N1, h.H0, h.H1, h.be⟩

/-! ### The small calls -/
theorem head_calls (h : Ls w0 W g a b N H ca cb) (n : Int) (r : Bool) (hr : decide (0 ≤ n ∧ n < H) = r) :
    Calls Try.prog 41 #[.pointer (some ⟨g, 0, none⟩), .int .i64 n] W fun e w' => e = .returned (.bool r) ∧ W = w' := by
  have c := h.cg1
  have h1 := h.H1
  have HL := Aside0.mk h; clear h
  by_cases h0 : 0 ≤ n
  · by_cases h2 : n < H
    · rw [decide_eq_true ⟨h0, h2⟩] at hr; subst hr
      go_enter Try.func41, Try.ntmps41
      go_wp2
      go_ret
      exact ⟨rfl, rfl⟩
    · rw [decide_eq_false (fun e => h2 e.2)] at hr; subst hr
      go_enter Try.func41, Try.ntmps41
      go_wp2
      go_ret
      exact ⟨rfl, rfl⟩
  · rw [decide_eq_false (fun e => h0 e.1)] at hr; subst hr
    go_enter Try.func41, Try.ntmps41
    go_wp2
    go_ret
    exact ⟨rfl, rfl⟩
theorem node_calls (h : Ls w0 W g a b N H ca cb) (n : Int) (r : Bool) (hr : decide (0 ≤ n ∧ n < N) = r) :
    Calls Try.prog 42 #[.pointer (some ⟨g, 0, none⟩), .int .i64 n] W fun e w' => e = .returned (.bool r) ∧ W = w' := by
  have c := h.cg0
  have h1 := h.N1
  have HL := Aside0.mk h; clear h
  by_cases h0 : 0 ≤ n
  · by_cases h2 : n < N
    · rw [decide_eq_true ⟨h0, h2⟩] at hr; subst hr
      go_enter Try.func42, Try.ntmps42
      go_wp2
      go_ret
      exact ⟨rfl, rfl⟩
    · rw [decide_eq_false (fun e => h2 e.2)] at hr; subst hr
      go_enter Try.func42, Try.ntmps42
      go_wp2
      go_ret
      exact ⟨rfl, rfl⟩
  · rw [decide_eq_false (fun e => h0 e.1)] at hr; subst hr
    go_enter Try.func42, Try.ntmps42
    go_wp2
    go_ret
    exact ⟨rfl, rfl⟩
theorem in_calls (h : Ls w0 W g a b N H ca cb) (n : Nat) (hn : n < N) (r : Bool) (hr : (ca (n * 3) != -1) = r) :
    Calls Try.prog 43 #[.pointer (some ⟨g, 0, none⟩), .int .i64 n] W fun e w' => e = .returned (.bool r) ∧ W = w' := by
  have c := h.cg0
  have h1 := h.N1
  have c1 := h.ca (n * 3) (by omega)
  have HL := Aside0.mk h; clear h
  subst hr
  generalize ca (n * 3) = v at *
  go_enter Try.func43, Try.ntmps43
  go_wp2
  go_ret
  exact ⟨rfl, rfl⟩
theorem told_calls (n : Int) : Calls Try.prog 44 #[.int .i64 n] W fun e w' => e = .returned (if n = -1 then .tuple #[.int .i64 0, .bool false] else .tuple #[.int .i64 n, .bool true]) ∧ W = w' := by
  by_cases h : n = -1
  · subst h
    go_enter Try.func44, Try.ntmps44
    go_wp2
    go_ret2
    exact ⟨rfl, rfl⟩
  · rw [if_neg h]
    have hb : (n == -1) = false := beq_eq_false_iff_ne.2 h
    go_enter Try.func44, Try.ntmps44
    go_wp2
    go_ret2
    exact ⟨rfl, rfl⟩
end Go.Proofs.Yteiepbjajennkaa.ListHand
