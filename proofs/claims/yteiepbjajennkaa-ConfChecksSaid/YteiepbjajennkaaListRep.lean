/- Linked rows in memory that stand for rows as lists: a node put in, a node taken out. Conditions: none. -/
import Derived.Test.YteiepbjajennkaaListMay
namespace Go.Proofs.Yteiepbjajennkaa.ListHand
set_option linter.unusedVariables false
open Go.RowKit Go.Proofs.YteiepbjajennkaaW.PrintWords
def ndOf (ca : Nat → Int) : Nat → Tri := fun i => (ca (i * 3), ca (i * 3 + 1), ca (i * 3 + 2))
theorem oi_nat (y : Nat) : oi (some y) = (y : Int) := rfl
theorem upd3 (ca : Nat → Int) (n : Nat) (v : Int) (i : Nat) : updI ca (n * 3) v (i * 3) = (if i = n then v else ca (i * 3)) ∧ updI ca (n * 3) v (i * 3 + 1) = ca (i * 3 + 1) ∧ updI ca (n * 3) v (i * 3 + 2) = ca (i * 3 + 2) ∧
    updI ca (n * 3 + 1) v (i * 3) = ca (i * 3) ∧ updI ca (n * 3 + 1) v (i * 3 + 1) = (if i = n then v else ca (i * 3 + 1)) ∧ updI ca (n * 3 + 1) v (i * 3 + 2) = ca (i * 3 + 2) ∧
    updI ca (n * 3 + 2) v (i * 3) = ca (i * 3) ∧ updI ca (n * 3 + 2) v (i * 3 + 1) = ca (i * 3 + 1) ∧ updI ca (n * 3 + 2) v (i * 3 + 2) = (if i = n then v else ca (i * 3 + 2)) := by
  unfold updI
  refine ⟨?_, if_neg (by omega), if_neg (by omega), if_neg (by omega), ?_, if_neg (by omega), if_neg (by omega), if_neg (by omega), ?_⟩
  · by_cases e : i = n
    · rw [if_pos e, if_pos (by omega)]
    · rw [if_neg e, if_neg (by omega)]
  · by_cases e : i = n
    · rw [if_pos e, if_pos (by omega)]
    · rw [if_neg e, if_neg (by omega)]
  · by_cases e : i = n
    · rw [if_pos e, if_pos (by omega)]
    · rw [if_neg e, if_neg (by omega)]
theorem nd0 (ca : Nat → Int) (n : Nat) (v : Int) : ndOf (updI ca (n * 3) v) = fun i => if i = n then (v, (ndOf ca i).2.1, (ndOf ca i).2.2) else ndOf ca i := by
  funext i
  obtain ⟨h1, h2, h3, _⟩ := upd3 ca n v i
  unfold ndOf
  rw [h1, h2, h3]
  split <;> rfl
theorem nd1 (ca : Nat → Int) (n : Nat) (v : Int) : ndOf (updI ca (n * 3 + 1) v) = fun i => if i = n then ((ndOf ca i).1, v, (ndOf ca i).2.2) else ndOf ca i := by
  funext i
  obtain ⟨_, _, _, h1, h2, h3, _⟩ := upd3 ca n v i
  unfold ndOf
  rw [h1, h2, h3]
  split <;> rfl
theorem nd2 (ca : Nat → Int) (n : Nat) (v : Int) : ndOf (updI ca (n * 3 + 2) v) = fun i => if i = n then ((ndOf ca i).1, (ndOf ca i).2.1, v) else ndOf ca i := by
  funext i
  obtain ⟨_, _, _, _, _, _, h1, h2, h3⟩ := upd3 ca n v i
  unfold ndOf
  rw [h1, h2, h3]
  split <;> rfl
theorem nd3 (ca : Nat → Int) (n : Nat) (u v t : Int) : ndOf (updI (updI (updI ca (n * 3) u) (n * 3 + 1) v) (n * 3 + 2) t) = fun i => if i = n then (u, v, t) else ndOf ca i := by
  funext i
  rw [nd2, nd1, nd0]
  by_cases e : i = n
  · simp only [if_pos e]
  · simp only [if_neg e]
theorem oi_ne (i : Nat) : ¬ (oi none = (i : Int)) := by show ¬ ((-1 : Int) = (i : Int)); omega
theorem ndNext (ca : Nat → Int) (v : Int) (p : Option Nat) : ndOf (nextTo ca v p) = fun i : Nat => if oi p = (i : Int) then ((ndOf ca i).1, v, (ndOf ca i).2.2) else ndOf ca i := by
  funext i
  cases p with
  | none => rw [if_neg (oi_ne i)]; rfl
  | some y =>
    simp only [nextTo, nd1]
    by_cases e : i = y
    · subst e; simp only [if_true, oi_nat]
    · rw [if_neg e, if_neg (by rw [oi_nat]; omega)]
theorem ndPrev (ca : Nat → Int) (v : Int) (p : Option Nat) : ndOf (prevTo ca v p) = fun i : Nat => if oi p = (i : Int) then ((ndOf ca i).1, (ndOf ca i).2.1, v) else ndOf ca i := by
  funext i
  cases p with
  | none => rw [if_neg (oi_ne i)]; rfl
  | some y =>
    simp only [prevTo, nd2]
    by_cases e : i = y
    · subst e; simp only [if_true, oi_nat]
    · rw [if_neg e, if_neg (by rw [oi_nat]; omega)]
theorem setNext_eq (ca : Nat → Int) (n : Nat) (p : Option Nat) : setNext ca n p = nextTo ca n p := by cases p <;> rfl
theorem setPrev_eq (ca : Nat → Int) (n : Nat) (p : Option Nat) : setPrev ca n p = prevTo ca n p := by cases p <;> rfl
theorem ndOf_put (ca : Nat → Int) (x n : Nat) (p q : Option Nat) : ndOf (putCa ca x n p q) = putN (ndOf ca) x n (oi p) (oi q) := by
  unfold putCa
  rw [setPrev_eq, setNext_eq, ndPrev, ndNext, nd3]
  rfl
theorem oi_no (p : Option Nat) : oi p = -1 ↔ p = none := by
  cases p with
  | none => exact ⟨fun _ => rfl, fun _ => rfl⟩
  | some y => exact ⟨fun h => by have h : (y : Int) = -1 := h; omega, fun h => by cases h⟩
theorem ndFirst (cb : Nat → Int) (x : Nat) (v : Int) (p : Option Nat) : ndOf (firstTo cb x v p) = fun i => if i = x then (if oi p = -1 then v else (ndOf cb i).1, (ndOf cb i).2.1, (ndOf cb i).2.2) else ndOf cb i := by
  funext i
  cases p with
  | none => simp only [firstTo, nd0, show oi none = -1 from rfl, if_true]
  | some y =>
    simp only [firstTo]
    rw [if_neg (show ¬ (oi (some y) = -1) by rw [oi_nat]; omega)]
    split <;> rfl
theorem ndLast (cb : Nat → Int) (x : Nat) (v : Int) (p : Option Nat) : ndOf (lastTo cb x v p) = fun i => if i = x then ((ndOf cb i).1, if oi p = -1 then v else (ndOf cb i).2.1, (ndOf cb i).2.2) else ndOf cb i := by
  funext i
  cases p with
  | none => simp only [lastTo, nd1, show oi none = -1 from rfl, if_true]
  | some y =>
    simp only [lastTo]
    rw [if_neg (show ¬ (oi (some y) = -1) by rw [oi_nat]; omega)]
    split <;> rfl
theorem setFirst_eq (cb : Nat → Int) (x n : Nat) (p : Option Nat) : setFirst cb x n p = firstTo cb x n p := by cases p <;> rfl
theorem setLast_eq (cb : Nat → Int) (x n : Nat) (p : Option Nat) : setLast cb x n p = lastTo cb x n p := by cases p <;> rfl
theorem hdOf_put (cb : Nat → Int) (x n : Nat) (p q : Option Nat) : ndOf (putCb cb x n p q) = putH (ndOf cb) x n (oi p) (oi q) := by
  unfold putCb
  rw [setLast_eq, setFirst_eq, ndLast, ndFirst, nd2]
  funext i
  unfold putH
  by_cases e : i = x
  · subst e; simp only [if_true]; rfl
  · simp only [if_neg e]
theorem ndOf_out (ca : Nat → Int) (n : Nat) (p q : Option Nat) (e1 : ca (n * 3 + 1) = oi q) (e2 : ca (n * 3 + 2) = oi p) : ndOf (outCa ca n p q) = outN (ndOf ca) n := by
  have d1 : (ndOf ca n).2.1 = oi q := e1
  have d2 : (ndOf ca n).2.2 = oi p := e2
  unfold outCa
  rw [nd3, ndPrev, ndNext]
  funext i
  unfold outN
  simp only [d1, d2]
theorem hdOf_out (cb : Nat → Int) (x : Nat) (p q : Option Nat) : ndOf (outCb cb x p q) = outH (ndOf cb) x (oi p) (oi q) := by
  unfold outCb
  rw [ndLast, ndFirst, nd2]
  funext i
  unfold outH
  by_cases e : i = x
  · subst e; simp only [if_true]; rfl
  · simp only [if_neg e]
/-- As many different numbers below N are at most N. -/
theorem nodup_le : ∀ (N : Nat) (l : List Nat), l.Nodup → (∀ x ∈ l, x < N) → l.length ≤ N
  | 0, [], _, _ => Nat.le_refl _
  | 0, x :: l, _, h => absurd (h x (List.mem_cons_self ..)) (by omega)
  | N + 1, l, hn, h => by
    have h1 := nodup_le N (l.erase N) (hn.erase _) (fun x hx => by
      have a := h x (List.mem_of_mem_erase hx)
      have b : x ≠ N := fun e => by subst e; exact (hn.not_mem_erase) hx
      omega)
    by_cases hm : N ∈ l
    · rw [List.length_erase_of_mem hm] at h1; omega
    · rw [List.erase_of_not_mem hm] at h1; omega
theorem Rep.len {N H : Nat} {R : Nat → List Nat} {nd hd : Nat → Tri} (r : Rep N H R nd hd) {h : Nat} (hh : h < H) : (R h).length ≤ N :=
  nodup_le N _ (r.dup h hh) fun x hx => (r.head hh hx).1
def pOf (l : List Nat) (k : Nat) : Option Nat := if k = 0 then none else l[k - 1]?
theorem oi_pOf {l : List Nat} {k : Nat} (hk : k ≤ l.length) : oi (pOf l k) = preI l k := by
  unfold pOf preI
  split
  · rfl
  · unfold atI
    rw [List.getElem?_eq_getElem (show k - 1 < l.length by omega)]; rfl
theorem oi_qOf (l : List Nat) (k : Nat) : oi l[k]? = atI l k := by
  unfold atI
  cases l[k]? <;> rfl
theorem pOf_mem {l : List Nat} {k y : Nat} (h : pOf l k = some y) : y ∈ l := by
  unfold pOf at h
  split at h
  · cases h
  · exact List.mem_of_getElem? h
/-- LINKED ROWS THAT STAND FOR ROWS AS LISTS. -/
def LR (w0 W : World) (g a b N H : Nat) (R : Nat → List Nat) : Prop := ∃ ca cb, Ls w0 W g a b N H ca cb ∧ Rep N H R (ndOf ca) (ndOf cb)
variable {w0 W : World} {g a b N H : Nat} {R : Nat → List Nat}
theorem LR.below {w' : World} (h : LR w0 W g a b N H R) (k : Below W.heap.size W w') : LR w0 w' g a b N H R := by
  obtain ⟨ca, cb, h1, h2⟩ := h; exact ⟨ca, cb, h1.below k, h2⟩
theorem LR.alloc (h : LR w0 W g a b N H R) (o : Obj) : LR w0 (W.alloc o) g a b N H R := h.below (below_alloc (Below.refl _ _) o)
theorem LR.keep {w' : World} {x y : Nat} (h : LR w0 W g a b N H R) (k : KB W w' x y) (hx : g ≠ x ∧ a ≠ x ∧ b ≠ x) (hy : g ≠ y ∧ a ≠ y ∧ b ≠ y) (be : Below w0.heap.size w0 w') : LR w0 w' g a b N H R := by
  obtain ⟨ca, cb, h1, h2⟩ := h; exact ⟨ca, cb, h1.keep k hx hy be, h2⟩
theorem LR.be (h : LR w0 W g a b N H R) : Below w0.heap.size w0 W := by obtain ⟨_, _, h1, _⟩ := h; exact h1.be
theorem LR.lt (h : LR w0 W g a b N H R) : g < W.heap.size ∧ a < W.heap.size ∧ b < W.heap.size := by obtain ⟨_, _, h1, _⟩ := h; exact h1.lt
theorem LR.put (h : LR w0 W g a b N H R) (x k n : Nat) (hx : x < H) (hk : k ≤ (R x).length) (hn : n < N) (hnot : ∀ j, j < H → n ∉ R j) (p q : Int) (hp : preI (R x) k = p) (hq : atI (R x) k = q) :
    Calls Try.prog 40 #[.pointer (some ⟨g, 0, none⟩), .int .i64 x, .int .i64 n, .int .i64 p, .int .i64 q] W fun e w' => e = .returned (.tuple #[]) ∧ LR w0 w' g a b N H (setR R x ((R x).insertIdx k n)) ∧ KB W w' a b := by
  subst hp hq
  obtain ⟨ca, cb, h1, h2⟩ := h
  have e1 := oi_pOf hk
  have e2 := oi_qOf (R x) k
  have hcb : cb (x * 3 + 2) = ((R x).length : Int) := congrArg (·.2.2) (h2.heads x hx)
  have hlen := h2.len hx
  have hN := h1.N1
  have key := put_calls h1 x n hx hn (pOf (R x) k) (R x)[k]? (fun y hy => ⟨(h2.head hx (pOf_mem hy)).1, fun e => hnot x hx (e ▸ pOf_mem hy)⟩) (fun y hy => ⟨(h2.head hx (List.mem_of_getElem? hy)).1, fun e => hnot x hx (e ▸ List.mem_of_getElem? hy)⟩) (by omega)
  rw [e1, e2] at key
  refine key.mono fun e w' ⟨h3, h4, h5⟩ => ⟨h3, ⟨_, _, h4, ?_⟩, h5⟩
  rw [ndOf_put, hdOf_put, e1, e2]
  exact h2.put hx hk hn hnot
theorem LR.out (h : LR w0 W g a b N H R) (x k n : Nat) (hx : x < H) (hk : (R x)[k]? = some n) :
    Calls Try.prog 19 #[.pointer (some ⟨g, 0, none⟩), .int .i64 n] W fun e w' => e = .returned (.int .i64 0) ∧ LR w0 w' g a b N H (setR R x ((R x).eraseIdx k)) ∧ KB W w' a b := by
  obtain ⟨ca, cb, h1, h2⟩ := h
  have hkl : k < (R x).length := (List.getElem?_eq_some_iff.1 hk).1
  have e1 := oi_pOf (Nat.le_of_lt hkl)
  have e2 := oi_qOf (R x) (k + 1)
  have hcb : cb (x * 3 + 2) = ((R x).length : Int) := congrArg (·.2.2) (h2.heads x hx)
  have hlen := h2.len hx
  have hN := h1.N1
  obtain ⟨hn, hnd⟩ := h2.nodes x hx k n hk
  have d0 : ca (n * 3) = (x : Int) := congrArg (·.1) hnd
  have d1 : ca (n * 3 + 1) = oi (R x)[k + 1]? := (congrArg (·.2.1) hnd).trans e2.symm
  have d2 : ca (n * 3 + 2) = oi (pOf (R x) k) := (congrArg (·.2.2) hnd).trans e1.symm
  have hne : ∀ y j, (R x)[j]? = some y → j ≠ k → y ≠ n := fun y j hy hj e => hj (h2.pos hx (e ▸ hy) hk)
  have key := remove_calls h1 x n hx hn (pOf (R x) k) (R x)[k + 1]? (fun y hy => ⟨(h2.head hx (pOf_mem hy)).1, by
      unfold pOf at hy
      split at hy
      · cases hy
      · exact hne y (k - 1) hy (by omega)⟩) (fun y hy => ⟨(h2.head hx (List.mem_of_getElem? hy)).1, hne y (k + 1) hy (by omega)⟩) (by omega) d0 d1 d2
  refine key.mono fun e w' ⟨h3, h4, h5⟩ => ⟨h3, ⟨_, _, h4, ?_⟩, h5⟩
  rw [ndOf_out _ _ _ _ d1 d2, hdOf_out]
  have := h2.out hx hk
  rw [hnd] at this
  simp only at this
  rw [e1, e2]
  exact this
end Go.Proofs.Yteiepbjajennkaa.ListHand
