/- The document's lists, rows of rows: what they are in memory; their small calls. Conditions: none. -/
import Derived.Test.YteiepbjajennkaaListSame
import Derived.Test.YteiepbjajennkaaListKnown
namespace Go.Proofs.Yteiepbjajennkaa.ListHand
set_option linter.unusedVariables false
open Go.RowKit Go.Proofs.YteiepbjajennkaaW.PrintWords Go.Proofs.YteiepbjajennkaaW.PrintMore
/-- THE DOCUMENT'S LISTS AT BLOCK q: the slices of the rows in block s; all blocks of it from lo on. -/
structure Rf (w0 : World) (lo : Nat) (W : World) (q s N H : Nat) (R : Nat → List Nat) : Prop where
  c0 : W.cell? ⟨q, 0, none⟩ = some (.int .i64 N)
  c1 : W.cell? ⟨q, 1, none⟩ = some (.slice (some ⟨s, 0, none⟩) H H)
  row : ∀ h, h < H → ∃ v, W.cell? ⟨s, h, none⟩ = some v ∧ W.ownsRow lo 3 1 v (R h).length (nums .i64 (ints (R h))) ∧ v.ownBlock ≠ some s
  fr : ∀ j, W.frozen? ⟨s, j, none⟩ = false
  qs : q ≠ s
  lq : lo ≤ q
  ls : lo ≤ s
  wl : w0.heap.size ≤ lo
  N0 : 1 ≤ N
  N1 : N ≤ 1024
  H0 : 1 ≤ H
  H1 : H ≤ 64
  len : ∀ h, h < H → (R h).length ≤ N
  nod : ∀ h, h < H → ∀ x ∈ R h, x < N
  dup : ∀ h, h < H → (R h).Nodup
  one : ∀ h h' x, h < H → h' < H → x ∈ R h → x ∈ R h' → h = h'
  be : Below w0.heap.size w0 W
variable {w0 W : World} {lo q s N H : Nat} {R : Nat → List Nat}
theorem Rf.lt (h : Rf w0 lo W q s N H R) : q < W.heap.size ∧ s < W.heap.size := by
  refine ⟨World.block_lt_of_cell? W _ h.c0, ?_⟩
  obtain ⟨v, hc, _⟩ := h.row 0 h.H0
  exact World.block_lt_of_cell? W _ hc
/-- Other blocks are written. -/
theorem Rf.keep {w' : World} {x y : Nat} (h : Rf w0 lo W q s N H R) (k : KB W w' x y) (hx : x < lo) (hy : y < lo) (be : Below w0.heap.size w0 w') : Rf w0 lo w' q s N H R := by
  have blk : ∀ b, lo ≤ b → b < W.heap.size → w'.heap[b]? = W.heap[b]? := fun b hb hl => k.block b hl (by omega) (by omega)
  have hq := blk q h.lq h.lt.1
  have hs := blk s h.ls h.lt.2
  refine ⟨(World.cell?_of_block (a := ⟨q, 0, none⟩) hq).trans h.c0, (World.cell?_of_block (a := ⟨q, 1, none⟩) hq).trans h.c1, fun j hj => ?_, fun j => (World.frozen?_of_block (a := ⟨s, j, none⟩) hs).trans (h.fr j), h.qs, h.lq, h.ls, h.wl, h.N0, h.N1, h.H0, h.H1, h.len, h.nod, h.dup, h.one, be⟩
  obtain ⟨v, e1, e2, e3⟩ := h.row j hj
  exact ⟨v, (World.cell?_of_block (a := ⟨s, j, none⟩) hs).trans e1, own_move e2 (fun k hk => blk k (own_base e2 k hk) (own_lt e2 k hk)), e3⟩
theorem Rf.below {w' : World} (h : Rf w0 lo W q s N H R) (k : Below W.heap.size W w') (hw : w0.heap.size ≤ W.heap.size) : Rf w0 lo w' q s N H R := by
  have be : Below w0.heap.size w0 w' := h.be.trans ⟨k.os, k.tape, k.output, k.size, fun i hi => k.block i (by omega)⟩
  have blk : ∀ b, b < W.heap.size → w'.heap[b]? = W.heap[b]? := fun b hl => k.block b hl
  have hq := blk q h.lt.1
  have hs := blk s h.lt.2
  refine ⟨(World.cell?_of_block (a := ⟨q, 0, none⟩) hq).trans h.c0, (World.cell?_of_block (a := ⟨q, 1, none⟩) hq).trans h.c1, fun j hj => ?_, fun j => (World.frozen?_of_block (a := ⟨s, j, none⟩) hs).trans (h.fr j), h.qs, h.lq, h.ls, h.wl, h.N0, h.N1, h.H0, h.H1, h.len, h.nod, h.dup, h.one, be⟩
  obtain ⟨v, e1, e2, e3⟩ := h.row j hj
  exact ⟨v, (World.cell?_of_block (a := ⟨s, j, none⟩) hs).trans e1, own_move e2 (fun k hk => blk k (own_lt e2 k hk)), e3⟩
theorem ref_head (h : Rf w0 lo W q s N H R) (n : Int) (r : Bool) (hr : decide (0 ≤ n ∧ n < H) = r) :
    Calls Try.prog 45 #[.pointer (some ⟨q, 0, none⟩), .int .i64 n] W fun e w' => e = .returned (.bool r) ∧ W = w' := by
  have c := h.c1
  have h1 := h.H1
  have HL := Aside0.mk h; clear h
  by_cases h0 : 0 ≤ n
  · by_cases h2 : n < H
    · rw [decide_eq_true ⟨h0, h2⟩] at hr; subst hr
      go_enter Try.func45, Try.ntmps45
      go_wp2
      go_ret
      exact ⟨rfl, rfl⟩
    · rw [decide_eq_false (fun e => h2 e.2)] at hr; subst hr
      go_enter Try.func45, Try.ntmps45
      go_wp2
      go_ret
      exact ⟨rfl, rfl⟩
  · rw [decide_eq_false (fun e => h0 e.1)] at hr; subst hr
    go_enter Try.func45, Try.ntmps45
    go_wp2
    go_ret
    exact ⟨rfl, rfl⟩
theorem ref_node (h : Rf w0 lo W q s N H R) (n : Int) (r : Bool) (hr : decide (0 ≤ n ∧ n < N) = r) :
    Calls Try.prog 46 #[.pointer (some ⟨q, 0, none⟩), .int .i64 n] W fun e w' => e = .returned (.bool r) ∧ W = w' := by
  have c := h.c0
  have h1 := h.N1
  have HL := Aside0.mk h; clear h
  by_cases h0 : 0 ≤ n
  · by_cases h2 : n < N
    · rw [decide_eq_true ⟨h0, h2⟩] at hr; subst hr
      go_enter Try.func46, Try.ntmps46
      go_wp2
      go_ret
      exact ⟨rfl, rfl⟩
    · rw [decide_eq_false (fun e => h2 e.2)] at hr; subst hr
      go_enter Try.func46, Try.ntmps46
      go_wp2
      go_ret
      exact ⟨rfl, rfl⟩
  · rw [decide_eq_false (fun e => h0 e.1)] at hr; subst hr
    go_enter Try.func46, Try.ntmps46
    go_wp2
    go_ret
    exact ⟨rfl, rfl⟩
/-- Where a number stands: the first place, row by row. -/
def ofI (R : Nat → List Nat) (n : Int) (r1 r2 : Int) (H : Nat) : Prop :=
  ((r1 = -1 ∧ r2 = -1) ∧ ∀ h, h < H → ∀ x ∈ R h, (x : Int) ≠ n) ∨ ∃ h k : Nat, h < H ∧ (r1 = (h : Int) ∧ r2 = (k : Int)) ∧ ∃ x, (R h)[k]? = some x ∧ (x : Int) = n
set_option maxHeartbeats 4000000 in
set_option maxRecDepth 100000 in
theorem ref_of (h : Rf w0 lo W q s N H R) (n : Int) :
    Calls Try.prog 47 #[.pointer (some ⟨q, 0, none⟩), .int .i64 n] W fun e w' => (∃ r1 r2 : Int, e = .returned (.tuple #[.int .i64 r1, .int .i64 r2]) ∧ ofI R n r1 r2 H) ∧ W = w' := by
  have c0 := h.c0
  have c1 := h.c1
  have h1 := h.H1
  have HL := Aside0.mk h; clear h
  go_enter Try.func47, Try.ntmps47
  go_wp2
  go_loop [6] (fun i => ∃ j : Nat, j ≤ H ∧ i = .int .i64 j ∧ Aside0 (∀ h, h < j → ∀ x ∈ R h, (x : Int) ≠ n)) (fun i => H - (intOf i).toNat)
  case atStart => exact ⟨0, Nat.zero_le _, rfl, ⟨fun h hh => by omega⟩⟩
  case round =>
    obtain ⟨j, hj, rfl, HN⟩ := hrel
    by_cases hlt : j < H
    · obtain ⟨v, e1, e2, e3⟩ := HL.out.row j hlt
      have hle : ∀ (A : Option Addr) c, v = .slice A (R j).length c → (R j).length ≤ c := fun A c e => own_le (e ▸ e2)
      obtain ⟨A, c, rfl, e4⟩ := own_reads e2
      have hle := hle A c rfl
      clear e2 e3
      have hl := HL.out.len j hlt
      have hn1 := HL.out.N1
      go_wp2
      go_loop [7] (fun i => ∃ k : Nat, k ≤ (R j).length ∧ i = .int .i64 k ∧ Aside0 (∀ i, i < k → ∀ x, (R j)[i]? = some x → (x : Int) ≠ n)) (fun i => (R j).length - (intOf i).toNat)
      case atStart => exact ⟨0, Nat.zero_le _, rfl, ⟨fun h hh => by omega⟩⟩
      case round =>
        obtain ⟨k, hk, rfl, HK⟩ := hrel
        by_cases hlk : k < (R j).length
        · obtain ⟨ad, hA, hc⟩ := e4.2.2 (by omega)
          have hx := hc k hlk
          have hg : (ints (R j)).getD k 0 = ((R j)[k] : Int) := by simp [ints, hlk]
          rw [hg] at hx
          have HG := Aside0.mk (show (R j)[k]? = some (R j)[k] from List.getElem?_eq_getElem hlk)
          subst hA
          clear hc hg
          generalize (R j)[k] = x at *
          by_cases hxn : (x : Int) = n
          · subst hxn
            go_wp2
            go_ret2
            exact ⟨⟨j, k, rfl, .inr ⟨j, k, hlt, ⟨rfl, rfl⟩, x, HG.out, rfl⟩⟩, rfl⟩
          · have bx : ((x : Int) == n) = false := beq_eq_false_iff_ne.2 hxn
            go_wp2
            go_round
            case rel =>
              refine ⟨k + 1, by omega, by go_num, ⟨fun i hi y hy => ?_⟩⟩
              by_cases e : i = k
              · subst e; rw [HG.out] at hy; cases hy; exact hxn
              · exact HK.out i (by omega) y hy
            case measure => simp [intOf]; omega
        · obtain rfl : k = (R j).length := by omega
          go_wp2
          go_round
          case rel =>
            refine ⟨j + 1, by omega, by go_num, ⟨fun h hh x hx => ?_⟩⟩
            by_cases e : h = j
            · subst e
              obtain ⟨i, hi⟩ := List.getElem?_of_mem hx
              exact HK.out i (List.getElem?_eq_some_iff.1 hi).1 x hi
            · exact HN.out h (by omega) x hx
          case measure => simp [intOf]; omega
    · obtain rfl : j = H := by omega
      go_wp2
      go_ret2
      exact ⟨⟨-1, -1, rfl, .inl ⟨⟨rfl, rfl⟩, HN.out⟩⟩, rfl⟩
end Go.Proofs.Yteiepbjajennkaa.ListHand
