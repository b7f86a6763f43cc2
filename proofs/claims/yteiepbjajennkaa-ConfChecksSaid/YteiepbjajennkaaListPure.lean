/- Rows of numbers that are linked, as functions from a node to its three numbers, and rows as lists: putting in, taking out. Conditions: none. -/
import Derived.Below
namespace Go.Proofs.Yteiepbjajennkaa.ListHand
set_option linter.unusedVariables false

/-- The node at a place of a row, or none. -/
def atI (l : List Nat) (k : Nat) : Int := match l[k]? with | some y => (y : Int) | none => -1
/-- The node ahead of a place. -/
def preI (l : List Nat) (k : Nat) : Int := if k = 0 then -1 else atI l (k - 1)
abbrev Tri := Int × Int × Int
def setR (R : Nat → List Nat) (h : Nat) (l : List Nat) : Nat → List Nat := fun j => if j = h then l else R j
theorem setR_at (R : Nat → List Nat) (h : Nat) (l : List Nat) : setR R h l h = l := if_pos rfl
theorem setR_ne (R : Nat → List Nat) {h j : Nat} (l : List Nat) (e : j ≠ h) : setR R h l j = R j := if_neg e
/-- What the nodes hold behind a put, what the heads do. -/
def putN (nd : Nat → Tri) (h n : Nat) (p q : Int) : Nat → Tri := fun i =>
  let b : Tri := if i = n then ((h : Int), q, p) else nd i
  let c : Tri := if p = (i : Int) then (b.1, (n : Int), b.2.2) else b
  if q = (i : Int) then (c.1, c.2.1, (n : Int)) else c
def putH (hd : Nat → Tri) (h n : Nat) (p q : Int) : Nat → Tri := fun j =>
  if j = h then (if p = -1 then (n : Int) else (hd h).1, if q = -1 then (n : Int) else (hd h).2.1, (hd h).2.2 + 1) else hd j
/-- .. behind a taking out. -/
def outN (nd : Nat → Tri) (n : Nat) : Nat → Tri := fun i =>
  let p := (nd n).2.2
  let q := (nd n).2.1
  if i = n then (-1, -1, -1) else
  let c : Tri := if p = (i : Int) then ((nd i).1, q, (nd i).2.2) else nd i
  if q = (i : Int) then (c.1, c.2.1, p) else c
def outH (hd : Nat → Tri) (h : Nat) (p q : Int) : Nat → Tri := fun j =>
  if j = h then (if p = -1 then q else (hd h).1, if q = -1 then p else (hd h).2.1, (hd h).2.2 - 1) else hd j
/-- THE NODES AND THE HEADS STAND FOR THE ROWS. -/
structure Rep (N H : Nat) (R : Nat → List Nat) (nd hd : Nat → Tri) : Prop where
  heads : ∀ h, h < H → hd h = (atI (R h) 0, preI (R h) (R h).length, ((R h).length : Int))
  nodes : ∀ h, h < H → ∀ k x, (R h)[k]? = some x → x < N ∧ nd x = ((h : Int), atI (R h) (k + 1), preI (R h) k)
  free : ∀ x, x < N → (∀ h, h < H → x ∉ R h) → nd x = (-1, -1, -1)
  dup : ∀ h, h < H → (R h).Nodup
theorem atI_some {l : List Nat} {k x : Nat} (h : l[k]? = some x) : atI l k = (x : Int) := by unfold atI; rw [h]
theorem atI_none {l : List Nat} {k : Nat} (h : l.length ≤ k) : atI l k = -1 := by unfold atI; rw [List.getElem?_eq_none h]
theorem atI_eq {l : List Nat} {k x : Nat} (h : atI l k = (x : Int)) : l[k]? = some x := by
  unfold atI at h
  split at h
  · rename_i y hy; rw [hy]; congr 1; omega
  · omega
theorem atI_ge (l : List Nat) (k : Nat) : -1 ≤ atI l k := by unfold atI; split <;> omega
theorem atI_neg {l : List Nat} {k : Nat} (h : atI l k = -1) : l.length ≤ k := by
  unfold atI at h
  split at h
  · omega
  · rename_i e; exact List.getElem?_eq_none_iff.1 e
theorem preI_eq {l : List Nat} {k x : Nat} (h : preI l k = (x : Int)) : 0 < k ∧ l[k - 1]? = some x := by
  unfold preI at h
  split at h
  · omega
  · exact ⟨by omega, atI_eq h⟩
theorem preI_neg {l : List Nat} {k : Nat} (hk : k ≤ l.length) (h : preI l k = -1) : k = 0 := by
  unfold preI at h
  split at h
  · assumption
  · have := atI_neg h; omega
variable {N H : Nat} {R : Nat → List Nat} {nd hd : Nat → Tri}
theorem Rep.head (r : Rep N H R nd hd) {h x : Nat} (hh : h < H) (hx : x ∈ R h) : x < N ∧ (nd x).1 = (h : Int) := by
  obtain ⟨k, hk⟩ := List.getElem?_of_mem hx
  obtain ⟨h1, h2⟩ := r.nodes h hh k x hk
  exact ⟨h1, by rw [h2]⟩
theorem Rep.one (r : Rep N H R nd hd) {h h' x : Nat} (hh : h < H) (hh' : h' < H) (hx : x ∈ R h) (hx' : x ∈ R h') : h = h' := by
  have a := (r.head hh hx).2
  have b := (r.head hh' hx').2
  omega
theorem Rep.inn (r : Rep N H R nd hd) {x : Nat} (hx : x < N) : ((nd x).1 = -1 ↔ ∀ h, h < H → x ∉ R h) := by
  constructor
  · intro e h hh hm
    have := (r.head hh hm).2
    omega
  · intro hn
    rw [r.free x hx hn]
theorem Rep.pos (r : Rep N H R nd hd) {h x k j : Nat} (hh : h < H) (h1 : (R h)[k]? = some x) (h2 : (R h)[j]? = some x) : k = j := by
  have hn := r.dup h hh
  have hk : k < (R h).length := (List.getElem?_eq_some_iff.1 h1).1
  exact (List.getElem?_inj hk hn).1 (h1.trans h2.symm)
/-- A NODE IS PUT INTO A ROW. -/
theorem Rep.put (r : Rep N H R nd hd) {h k x : Nat} (hh : h < H) (hk : k ≤ (R h).length) (hx : x < N) (hnot : ∀ h, h < H → x ∉ R h) :
    Rep N H (setR R h ((R h).insertIdx k x)) (putN nd h x (preI (R h) k) (atI (R h) k)) (putH hd h x (preI (R h) k) (atI (R h) k)) := by
  have hlen : ((R h).insertIdx k x).length = (R h).length + 1 := by rw [List.length_insertIdx, if_pos hk]
  have hget : ∀ j, ((R h).insertIdx k x)[j]? = if j < k then (R h)[j]? else if j = k then some x else (R h)[j - 1]? := by
    intro j
    rw [List.getElem?_insertIdx]
    by_cases h1 : j < k
    · rw [if_pos h1, if_pos h1]
    · rw [if_neg h1, if_neg h1]
      by_cases h2 : j = k
      · rw [if_pos h2, if_pos h2, if_pos (by omega)]
      · rw [if_neg h2, if_neg h2]
  have hat : ∀ j, atI ((R h).insertIdx k x) j = if j < k then atI (R h) j else if j = k then (x : Int) else atI (R h) (j - 1) := by
    intro j
    have : atI ((R h).insertIdx k x) j = match (if j < k then (R h)[j]? else if j = k then some x else (R h)[j - 1]?) with | some y => (y : Int) | none => -1 := by unfold atI; rw [hget]
    rw [this]
    by_cases h1 : j < k
    · rw [if_pos h1, if_pos h1]; rfl
    · rw [if_neg h1, if_neg h1]
      by_cases h2 : j = k
      · rw [if_pos h2, if_pos h2]
      · rw [if_neg h2, if_neg h2]; rfl
  have hxp : preI (R h) k ≠ (x : Int) := fun e => hnot h hh (List.mem_of_getElem? (preI_eq e).2)
  have hxq : atI (R h) k ≠ (x : Int) := fun e => hnot h hh (List.mem_of_getElem? (atI_eq e))
  have own : ∀ y : Nat, preI (R h) k = (y : Int) → y ∈ R h := fun y e => List.mem_of_getElem? (preI_eq e).2
  have own2 : ∀ y : Nat, atI (R h) k = (y : Int) → y ∈ R h := fun y e => List.mem_of_getElem? (atI_eq e)
  have same : ∀ y, y ∉ R h → y ≠ x → putN nd h x (preI (R h) k) (atI (R h) k) y = nd y := by
    intro y hy hne
    unfold putN
    simp only
    rw [if_neg (fun e => hy (own2 y e)), if_neg (fun e => hy (own y e)), if_neg hne]
  refine ⟨fun j hj => ?_, fun j hj m y hm => ?_, fun y hy hn => ?_, fun j hj => ?_⟩
  · by_cases e : j = h
    · subst e
      rw [setR_at]
      unfold putH
      rw [if_pos rfl, r.heads j hj]
      simp only
      refine Prod.ext ?_ (Prod.ext ?_ ?_)
      · simp only
        rw [hat]
        by_cases h0 : k = 0
        · rw [if_pos (by rw [h0]; rfl), if_neg (by omega), if_pos h0.symm]
        · rw [if_neg (fun e => h0 (preI_neg hk e)), if_pos (by omega)]
      · simp only
        rw [hlen]
        have e1 : preI ((R j).insertIdx k x) ((R j).length + 1) = atI ((R j).insertIdx k x) (R j).length := by unfold preI; rw [if_neg (by omega), Nat.add_sub_cancel]
        rw [e1, hat]
        by_cases h0 : k = (R j).length
        · rw [if_pos (by rw [h0]; exact atI_none (Nat.le_refl _)), if_neg (by omega), if_pos h0.symm]
        · rw [if_neg (fun e => by have := atI_neg e; omega), if_neg (by omega), if_neg (by omega)]
          unfold preI
          rw [if_neg (by omega)]
      · simp only [hlen]; omega
    · rw [setR_ne _ _ e]
      unfold putH
      rw [if_neg e]
      exact r.heads j hj
  · by_cases e : j = h
    · subst e
      rw [setR_at] at hm ⊢
      rw [hget] at hm
      by_cases h1 : m < k
      · rw [if_pos h1] at hm
        obtain ⟨g1, g2⟩ := r.nodes j hj m y hm
        refine ⟨g1, ?_⟩
        have hyx : y ≠ x := fun e => hnot j hj (e ▸ List.mem_of_getElem? hm)
        unfold putN
        simp only [if_neg hyx]
        have hq : atI (R j) k ≠ (y : Int) := fun e => by have := r.pos hj (atI_eq e) hm; omega
        rw [if_neg hq]
        by_cases h2 : m + 1 = k
        · subst h2
          have : preI (R j) (m + 1) = (y : Int) := by unfold preI; rw [if_neg (by omega), Nat.add_sub_cancel]; exact atI_some hm
          rw [if_pos this, g2]
          simp only
          refine Prod.ext rfl (Prod.ext ?_ ?_)
          · simp only; rw [hat, if_neg (by omega), if_pos rfl]
          · simp only; unfold preI; split
            · rfl
            · rw [hat, if_pos (by omega)]
        · have : preI (R j) k ≠ (y : Int) := fun e => by have := r.pos hj (preI_eq e).2 hm; omega
          rw [if_neg this, g2]
          refine Prod.ext rfl (Prod.ext ?_ ?_)
          · simp only; rw [hat, if_pos (by omega)]
          · simp only; unfold preI; split
            · rfl
            · rw [hat, if_pos (by omega)]
      · rw [if_neg h1] at hm
        by_cases h2 : m = k
        · rw [if_pos h2] at hm
          cases hm
          subst h2
          refine ⟨hx, ?_⟩
          unfold putN
          simp only
          rw [if_neg hxq, if_neg hxp]
          simp only [if_true]
          refine Prod.ext rfl (Prod.ext ?_ ?_)
          · simp only; rw [hat, if_neg (by omega), if_neg (by omega), Nat.add_sub_cancel]
          · simp only; unfold preI; split
            · rfl
            · rw [hat, if_pos (by omega)]
        · rw [if_neg h2] at hm
          obtain ⟨g1, g2⟩ := r.nodes j hj (m - 1) y hm
          refine ⟨g1, ?_⟩
          have hyx : y ≠ x := fun e => hnot j hj (e ▸ List.mem_of_getElem? hm)
          have hp : preI (R j) k ≠ (y : Int) := fun e => by have := r.pos hj (preI_eq e).2 hm; have := (preI_eq e).1; omega
          unfold putN
          simp only [if_neg hyx]
          rw [if_neg hp]
          by_cases h3 : m = k + 1
          · subst h3
            have : atI (R j) k = (y : Int) := atI_some (by simpa using hm)
            rw [if_pos this, g2]
            simp only
            refine Prod.ext rfl (Prod.ext ?_ ?_)
            · simp only; rw [hat, if_neg (by omega), if_neg (by omega)]; rfl
            · simp only; unfold preI; rw [if_neg (by omega), Nat.add_sub_cancel]; rw [hat, if_neg (by omega), if_pos rfl]
          · have : atI (R j) k ≠ (y : Int) := fun e => by have := r.pos hj (atI_eq e) hm; omega
            rw [if_neg this, g2]
            refine Prod.ext rfl (Prod.ext ?_ ?_)
            · simp only; rw [hat, if_neg (by omega), if_neg (by omega)]; congr 1; omega
            · simp only; unfold preI; rw [if_neg (by omega), if_neg (by omega)]; rw [hat, if_neg (by omega), if_neg (by omega)]
    · rw [setR_ne _ _ e] at hm ⊢
      obtain ⟨g1, g2⟩ := r.nodes j hj m y hm
      have hmem := List.mem_of_getElem? hm
      refine ⟨g1, ?_⟩
      rw [same y (fun e2 => e (r.one hj hh hmem e2)) (fun e2 => hnot j hj (e2 ▸ hmem))]
      exact g2
  · have hyx : y ≠ x := by
      intro e2
      have := hn h hh
      rw [setR_at] at this
      subst e2; exact this (List.mem_of_getElem? ((hget k).trans (by rw [if_neg (by omega), if_pos rfl])))
    have hyR : ∀ j, j < H → y ∉ R j := by
      intro j hj hm
      have := hn j hj
      by_cases e : j = h
      · subst e
        rw [setR_at] at this
        exact this ((List.mem_insertIdx hk).2 (.inr hm))
      · rw [setR_ne _ _ e] at this
        exact this hm
    rw [same y (hyR h hh) hyx]
    exact r.free y hy hyR
  · by_cases e : j = h
    · subst e
      rw [setR_at]
      exact (List.perm_insertIdx _ _ hk).nodup_iff.2 (List.nodup_cons.2 ⟨hnot j hj, r.dup j hj⟩)
    · rw [setR_ne _ _ e]; exact r.dup j hj
/-- A NODE IS TAKEN OUT. -/
theorem Rep.out (r : Rep N H R nd hd) {h k x : Nat} (hh : h < H) (hk : (R h)[k]? = some x) :
    Rep N H (setR R h ((R h).eraseIdx k)) (outN nd x) (outH hd h (nd x).2.2 (nd x).2.1) := by
  have hkl : k < (R h).length := (List.getElem?_eq_some_iff.1 hk).1
  obtain ⟨hxN, hxn⟩ := r.nodes h hh k x hk
  have hlen : ((R h).eraseIdx k).length = (R h).length - 1 := by rw [List.length_eraseIdx, if_pos hkl]
  have hget : ∀ j, ((R h).eraseIdx k)[j]? = if j < k then (R h)[j]? else (R h)[j + 1]? := fun j => List.getElem?_eraseIdx
  have hat : ∀ j, atI ((R h).eraseIdx k) j = if j < k then atI (R h) j else atI (R h) (j + 1) := by
    intro j
    have : atI ((R h).eraseIdx k) j = match (if j < k then (R h)[j]? else (R h)[j + 1]?) with | some y => (y : Int) | none => -1 := by unfold atI; rw [hget]
    rw [this]
    by_cases h1 : j < k
    · rw [if_pos h1, if_pos h1]; rfl
    · rw [if_neg h1, if_neg h1]; rfl
  have eq1 : (nd x).2.1 = atI (R h) (k + 1) := by rw [hxn]
  have eq2 : (nd x).2.2 = preI (R h) k := by rw [hxn]
  have own : ∀ y : Nat, preI (R h) k = (y : Int) → y ∈ R h := fun y e => List.mem_of_getElem? (preI_eq e).2
  have own2 : ∀ y : Nat, atI (R h) (k + 1) = (y : Int) → y ∈ R h := fun y e => List.mem_of_getElem? (atI_eq e)
  have hxm : x ∈ R h := List.mem_of_getElem? hk
  have same : ∀ y, y ∉ R h → outN nd x y = nd y := by
    intro y hy
    unfold outN
    simp only [eq1, eq2]
    rw [if_neg (show ¬ y = x from fun e => hy (e ▸ hxm)), if_neg (fun e => hy (own2 y e)), if_neg (fun e => hy (own y e))]
  have hxe : x ∉ (R h).eraseIdx k := by
    intro hm
    obtain ⟨j, hj⟩ := List.getElem?_of_mem hm
    rw [hget] at hj
    split at hj
    · have := r.pos hh hj hk; omega
    · have := r.pos hh hj hk; omega
  refine ⟨fun j hj => ?_, fun j hj m y hm => ?_, fun y hy hn => ?_, fun j hj => ?_⟩
  · by_cases e : j = h
    · subst e
      rw [setR_at]
      unfold outH
      rw [if_pos rfl, r.heads j hj, eq1, eq2]
      simp only
      refine Prod.ext ?_ (Prod.ext ?_ ?_)
      · simp only
        by_cases h0 : k = 0
        · subst h0
          rw [if_pos (show preI (R j) 0 = -1 from rfl)]
          rw [hat, if_neg (by omega)]
        · rw [if_neg (fun e => h0 (preI_neg (by omega) e))]
          rw [hat, if_pos (by omega)]
      · simp only
        rw [hlen]
        by_cases h0 : k + 1 = (R j).length
        · rw [if_pos (atI_none (by omega))]
          unfold preI
          by_cases hz : k = 0
          · rw [if_pos hz, if_pos (by omega)]
          · rw [if_neg hz, if_neg (by omega)]
            rw [hat, if_pos (by omega)]
            rw [show (R j).length - 1 - 1 = k - 1 by omega]
        · rw [if_neg (fun e => by have := atI_neg e; omega)]
          unfold preI
          rw [if_neg (by omega), if_neg (by omega)]
          rw [hat, if_neg (by omega)]
          rw [show (R j).length - 1 - 1 + 1 = (R j).length - 1 by omega]
      · simp only [hlen]; omega
    · rw [setR_ne _ _ e]
      unfold outH
      rw [if_neg e]
      exact r.heads j hj
  · by_cases e : j = h
    · subst e
      rw [setR_at] at hm ⊢
      have hyx : y ≠ x := fun e => hxe (e ▸ List.mem_of_getElem? hm)
      rw [hget] at hm
      unfold outN
      simp only [eq1, eq2, if_neg hyx]
      by_cases h1 : m < k
      · rw [if_pos h1] at hm
        obtain ⟨g1, g2⟩ := r.nodes j hj m y hm
        refine ⟨g1, ?_⟩
        have hq : atI (R j) (k + 1) ≠ (y : Int) := fun e => by have := r.pos hj (atI_eq e) hm; omega
        rw [if_neg hq]
        by_cases h2 : m + 1 = k
        · subst h2
          have : preI (R j) (m + 1) = (y : Int) := by unfold preI; rw [if_neg (by omega), Nat.add_sub_cancel]; exact atI_some hm
          rw [if_pos this, g2]
          refine Prod.ext rfl (Prod.ext ?_ ?_)
          · simp only; rw [hat, if_neg (by omega)]
          · simp only; unfold preI; split
            · rfl
            · rw [hat, if_pos (by omega)]
        · have : preI (R j) k ≠ (y : Int) := fun e => by have := r.pos hj (preI_eq e).2 hm; omega
          rw [if_neg this, g2]
          refine Prod.ext rfl (Prod.ext ?_ ?_)
          · simp only; rw [hat, if_pos (by omega)]
          · simp only; unfold preI; split
            · rfl
            · rw [hat, if_pos (by omega)]
      · rw [if_neg h1] at hm
        obtain ⟨g1, g2⟩ := r.nodes j hj (m + 1) y hm
        refine ⟨g1, ?_⟩
        have hp : preI (R j) k ≠ (y : Int) := fun e => by have := r.pos hj (preI_eq e).2 hm; have := (preI_eq e).1; omega
        rw [if_neg hp]
        by_cases h3 : m = k
        · subst h3
          have : atI (R j) (m + 1) = (y : Int) := atI_some hm
          rw [if_pos this, g2]
          refine Prod.ext rfl (Prod.ext ?_ ?_)
          · simp only; rw [hat, if_neg (by omega)]
          · simp only; unfold preI; split
            · rfl
            · rw [hat, if_pos (by omega)]
        · have : atI (R j) (k + 1) ≠ (y : Int) := fun e => by have := r.pos hj (atI_eq e) hm; omega
          rw [if_neg this, g2]
          refine Prod.ext rfl (Prod.ext ?_ ?_)
          · simp only; rw [hat, if_neg (by omega)]
          · simp only; unfold preI; rw [if_neg (by omega), if_neg (by omega)]; rw [hat, if_neg (by omega)]; rw [show m - 1 + 1 = m + 1 - 1 by omega]
    · rw [setR_ne _ _ e] at hm ⊢
      obtain ⟨g1, g2⟩ := r.nodes j hj m y hm
      have hmem := List.mem_of_getElem? hm
      refine ⟨g1, ?_⟩
      rw [same y (fun e2 => e (r.one hj hh hmem e2))]
      exact g2
  · by_cases hyx : y = x
    · subst hyx
      unfold outN
      simp
    · have hyR : ∀ j, j < H → y ∉ R j := by
        intro j hj hm
        have := hn j hj
        by_cases e : j = h
        · subst e
          rw [setR_at] at this
          obtain ⟨i, hi⟩ := List.getElem?_of_mem hm
          have hne : i ≠ k := fun e => by subst e; rw [hk] at hi; cases hi; exact hyx rfl
          by_cases h1 : i < k
          · exact this (List.mem_of_getElem? ((hget i).trans (by rw [if_pos h1]; exact hi)))
          · exact this (List.mem_of_getElem? ((hget (i - 1)).trans (by rw [if_neg (by omega), show i - 1 + 1 = i by omega]; exact hi)))
        · rw [setR_ne _ _ e] at this
          exact this hm
      rw [same y (hyR h hh)]
      exact r.free y hy hyR
  · by_cases e : j = h
    · subst e
      rw [setR_at]
      exact (List.eraseIdx_sublist _ _).nodup (r.dup j hj)
    · rw [setR_ne _ _ e]; exact r.dup j hj
/-- Rows that are empty. -/
theorem Rep.none (N H : Nat) : Rep N H (fun _ => []) (fun _ => (-1, -1, -1)) (fun _ => (-1, -1, 0)) :=
  ⟨fun h _ => rfl, fun h _ k x hx => by simp at hx, fun _ _ _ => rfl, fun _ _ => List.nodup_nil⟩
end Go.Proofs.Yteiepbjajennkaa.ListHand
