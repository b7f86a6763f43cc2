/- What each call on linked rows says and does, the same of the program's and the document's. Conditions: none. -/
import Derived.Test.YteiepbjajennkaaListRefLR
namespace Go.Proofs.Yteiepbjajennkaa.ListHand
set_option linter.unusedVariables false
open Go.RowKit Go.Proofs.YteiepbjajennkaaW.PrintWords Go.Proofs.YteiepbjajennkaaW.PrintMore
variable {w0 W : World} {lo g a b q s N H : Nat} {R : Nat → List Nat}
def BackSays (N H : Nat) (R : Nat → List Nat) (hd : Int) (zs : List Int) (r : Int) (R' : Nat → List Nat) : Prop :=
  (¬ (0 ≤ hd ∧ hd < H) ∧ r = -17 ∧ R' = R) ∨ ∃ x : Nat, x < H ∧ hd = x ∧
    ((∃ k, ∃ hk : k < zs.length, ¬ (0 ≤ zs[k] ∧ zs[k] < N) ∧ (∀ j, (hj : j < k) → 0 ≤ zs[j] ∧ zs[j] < N) ∧ r = -17 ∧ R' = R) ∨
      ∃ xs : List Nat, zs = ints xs ∧ (∀ n ∈ xs, n < N) ∧ ((∃ k, HeldAt H R xs k ∧ r = -41 ∧ R' = R) ∨ ((∀ n ∈ xs, ∀ j, j < H → n ∉ R j) ∧ xs.Nodup ∧ r = 0 ∧ R' = setR R x (R x ++ xs))))
theorem first_not (P : Nat → Prop) : ∀ n, (∀ j, j < n → P j) ∨ ∃ k, k < n ∧ ¬ P k ∧ ∀ j, j < k → P j
  | 0 => .inl fun j hj => by omega
  | n + 1 => by
    rcases first_not P n with h | ⟨k, h1, h2, h3⟩
    · by_cases hp : P n
      · refine .inl fun j hj => ?_
        by_cases e : j = n
        · exact e ▸ hp
        · exact h j (by omega)
      · exact .inr ⟨n, by omega, hp, h⟩
    · exact .inr ⟨k, by omega, h2, h3⟩
theorem back_says (N H : Nat) (R : Nat → List Nat) (hd : Int) (zs : List Int) : ∃ r R', BackSays N H R hd zs r R' := by
  by_cases hh : 0 ≤ hd ∧ hd < H
  · obtain ⟨x, rfl⟩ : ∃ x : Nat, hd = x := ⟨hd.toNat, by omega⟩
    rcases first_not (fun j => ∀ hj : j < zs.length, 0 ≤ zs[j] ∧ zs[j] < N) zs.length with h | ⟨k, h1, h2, h3⟩
    · have hz : zs = ints (zs.map Int.toNat) := by
        apply List.ext_getElem?
        intro j
        unfold ints
        by_cases hj : j < zs.length
        · have := h j hj hj
          simp [hj]; omega
        · simp [List.getElem?_eq_none (show zs.length ≤ j by omega)]
      have hm : ∀ n ∈ zs.map Int.toNat, n < N := by
        intro n hn
        obtain ⟨y, hy, rfl⟩ := List.mem_map.1 hn
        obtain ⟨j, hj, rfl⟩ := List.getElem_of_mem hy
        have := h j hj hj
        omega
      generalize zs.map Int.toNat = xs at *
      rcases first_not (fun j => ∀ hj : j < xs.length, (∀ i, i < H → xs[j] ∉ R i) ∧ xs[j] ∉ xs.take j) xs.length with g | ⟨k, h1, h2, h3⟩
      · refine ⟨0, _, .inr ⟨x, by omega, rfl, .inr ⟨xs, hz, hm, .inr ⟨fun n hn j hj => ?_, ?_, rfl, rfl⟩⟩⟩⟩
        · obtain ⟨i, hi, rfl⟩ := List.getElem_of_mem hn
          exact (g i hi hi).1 j hj
        · rw [List.nodup_iff_pairwise_ne, List.pairwise_iff_getElem]
          intro i j hi hj hij e
          exact (g j hj hj).2 (List.mem_take_iff_getElem.2 ⟨i, by omega, e⟩)
      · refine ⟨-41, R, .inr ⟨x, by omega, rfl, .inr ⟨xs, hz, hm, .inl ⟨k, ⟨h1, fun j hj => h3 j hj (by omega), ?_⟩, rfl, rfl⟩⟩⟩⟩
        refine Classical.byContradiction fun e => h2 fun _ => ⟨fun i hi hm => e (.inl ⟨i, hi, hm⟩), fun hm => e (.inr hm)⟩
    · refine ⟨-17, R, .inr ⟨x, by omega, rfl, .inl ⟨k, h1, fun e => h2 fun _ => e, fun j hj => h3 j hj (by omega), rfl, rfl⟩⟩⟩
  · exact ⟨-17, R, .inl ⟨hh, rfl, rfl⟩⟩
theorem BackSays.lr {hd : Int} {zs : List Int} {r : Int} {R' : Nat → List Nat} (hs : BackSays N H R hd zs r R') (h : LR w0 W g a b N H R) (hn : zs.length ≤ 1000) (A : Option Addr) (c m : Nat) (hm : m = zs.length) (hr : ReadsInt W .i64 A zs.length zs) (hA : ∀ ad, A = some ad → 0 < zs.length → ad.block ≠ a ∧ ad.block ≠ b) :
    Calls Try.prog 15 #[.pointer (some ⟨g, 0, none⟩), .int .i64 hd, .slice A m c] W fun e w' => e = .returned (.int .i64 r) ∧ LR w0 w' g a b N H R' ∧ KB W w' a b := by
  rcases hs with ⟨h1, rfl, rfl⟩ | ⟨x, hx, rfl, ⟨k, hk, h1, h2, rfl, rfl⟩ | ⟨xs, rfl, hN, ⟨k, hk, rfl, rfl⟩ | ⟨h1, h2, rfl, rfl⟩⟩⟩
  · exact h.back_head hd h1 zs A c m hm
  · exact h.back_node x hx zs hn A c m hm hr k hk h1 h2
  · rw [ints_len] at hn hm hr
    exact h.back_held x hx xs hN hn A c m hm hr k hk
  · rw [ints_len] at hn hm hr hA
    exact back_calls0 h x hx xs hN h1 h2 hn A c m hm hr hA
theorem BackSays.rf {hd : Int} {zs : List Int} {r : Int} {R' : Nat → List Nat} (hs : BackSays N H R hd zs r R') (h : Rf w0 lo W q s N H R) (hn : zs.length ≤ 1000) (A : Option Addr) (c m : Nat) (hm : m = zs.length) (hr : ReadsInt W .i64 A zs.length zs) (hA : ∀ ad, A = some ad → 0 < zs.length → ad.block ≠ s) :
    Calls Try.prog 24 #[.pointer (some ⟨q, 0, none⟩), .int .i64 hd, .slice A m c] W fun e w' => e = .returned (.int .i64 r) ∧ Rf w0 lo w' q s N H R' ∧ KB W w' s s := by
  rcases hs with ⟨h1, rfl, rfl⟩ | ⟨x, hx, rfl, ⟨k, hk, h1, h2, rfl, rfl⟩ | ⟨xs, rfl, hN, ⟨k, ⟨hk, h1, h2⟩, rfl, rfl⟩ | ⟨h1, h2, rfl, rfl⟩⟩⟩
  · refine (back_rbad h hd h1 A m c).mono ?_
    rintro e w' ⟨e1, rfl⟩
    exact ⟨e1, h, KB.refl _ _ _⟩
  · refine (back_rnode h x hx zs hn A c m hm hr k hk h1 h2).mono ?_
    rintro e w' ⟨e1, rfl⟩
    exact ⟨e1, h, KB.refl _ _ _⟩
  · rw [ints_len] at hn hm hr
    refine (back_rheld h x hx xs hN hn A c m hm hr k hk h1 h2).mono ?_
    rintro e w' ⟨e1, e2⟩
    exact ⟨e1, h.below e2 h.be.size, KB.of_below e2 s s⟩
  · rw [ints_len] at hn hm hr hA
    exact back_ref h x hx xs hN h1 h2 hn A c m hm hr hA
def FrontSays (N H : Nat) (R : Nat → List Nat) (hd n : Int) (r : Int) (R' : Nat → List Nat) : Prop :=
  ((¬ (0 ≤ hd ∧ hd < H) ∨ ¬ (0 ≤ n ∧ n < N)) ∧ r = -17 ∧ R' = R) ∨ ∃ x m : Nat, x < H ∧ hd = x ∧ m < N ∧ n = m ∧
    ((∃ y, y < H ∧ m ∈ R y ∧ r = -41 ∧ R' = R) ∨ ((∀ j, j < H → m ∉ R j) ∧ r = 0 ∧ R' = setR R x (m :: R x)))
theorem front_says (N H : Nat) (R : Nat → List Nat) (hd n : Int) : ∃ r R', FrontSays N H R hd n r R' := by
  by_cases hh : ¬ (0 ≤ hd ∧ hd < H) ∨ ¬ (0 ≤ n ∧ n < N)
  · exact ⟨-17, R, .inl ⟨hh, rfl, rfl⟩⟩
  · by_cases hf : ∀ j, j < H → n.toNat ∉ R j
    · exact ⟨0, _, .inr ⟨hd.toNat, n.toNat, by omega, by omega, by omega, by omega, .inr ⟨hf, rfl, rfl⟩⟩⟩
    · obtain ⟨y, hy, hm⟩ : ∃ y, y < H ∧ n.toNat ∈ R y := Classical.byContradiction fun e => hf fun j hj hm => e ⟨j, hj, hm⟩
      exact ⟨-41, R, .inr ⟨hd.toNat, n.toNat, by omega, by omega, by omega, by omega, .inl ⟨y, hy, hm, rfl, rfl⟩⟩⟩
theorem FrontSays.lr {hd n : Int} {r : Int} {R' : Nat → List Nat} (hs : FrontSays N H R hd n r R') (h : LR w0 W g a b N H R) :
    Calls Try.prog 22 #[.pointer (some ⟨g, 0, none⟩), .int .i64 hd, .int .i64 n] W fun e w' => e = .returned (.int .i64 r) ∧ LR w0 w' g a b N H R' ∧ KB W w' a b := by
  rcases hs with ⟨h1, rfl, rfl⟩ | ⟨x, m, hx, rfl, hm, rfl, ⟨y, hy, h1, rfl, rfl⟩ | ⟨h1, rfl, rfl⟩⟩
  · exact h.front_bad hd n h1
  · exact h.front_held x m y hx hm hy h1
  · exact front_calls h x hx m hm h1
theorem FrontSays.rf {hd n : Int} {r : Int} {R' : Nat → List Nat} (hs : FrontSays N H R hd n r R') (h : Rf w0 lo W q s N H R) :
    Calls Try.prog 25 #[.pointer (some ⟨q, 0, none⟩), .int .i64 hd, .int .i64 n] W fun e w' => e = .returned (.int .i64 r) ∧ Rf w0 lo w' q s N H R' ∧ KB W w' s s := by
  rcases hs with ⟨h1, rfl, rfl⟩ | ⟨x, m, hx, rfl, hm, rfl, ⟨y, hy, h1, rfl, rfl⟩ | ⟨h1, rfl, rfl⟩⟩
  · refine (ListHand.front_bad h hd n h1).mono ?_
    rintro e w' ⟨e1, rfl⟩
    exact ⟨e1, h, KB.refl _ _ _⟩
  · obtain ⟨k, hk⟩ := List.getElem?_of_mem h1
    refine (ListHand.front_held h x m y k hx hm hy hk).mono ?_
    rintro e w' ⟨e1, rfl⟩
    exact ⟨e1, h, KB.refl _ _ _⟩
  · exact front_ref h x m hx hm h1
def BeforeSays (N H : Nat) (R : Nat → List Nat) (n c : Int) (r : Int) (R' : Nat → List Nat) : Prop :=
  ((¬ (0 ≤ n ∧ n < N) ∨ ¬ (0 ≤ c ∧ c < N)) ∧ r = -17 ∧ R' = R) ∨ ∃ m d : Nat, m < N ∧ n = m ∧ d < N ∧ c = d ∧
    ((((∀ j, j < H → d ∉ R j) ∨ ∃ y, y < H ∧ m ∈ R y) ∧ r = -41 ∧ R' = R) ∨ ((∀ j, j < H → m ∉ R j) ∧ ∃ x k, x < H ∧ (R x)[k]? = some d ∧ r = 0 ∧ R' = setR R x ((R x).insertIdx k m)))
theorem before_says (N H : Nat) (R : Nat → List Nat) (n c : Int) : ∃ r R', BeforeSays N H R n c r R' := by
  by_cases hh : ¬ (0 ≤ n ∧ n < N) ∨ ¬ (0 ≤ c ∧ c < N)
  · exact ⟨-17, R, .inl ⟨hh, rfl, rfl⟩⟩
  · by_cases hf : (∀ j, j < H → c.toNat ∉ R j) ∨ ∃ y, y < H ∧ n.toNat ∈ R y
    · exact ⟨-41, R, .inr ⟨n.toNat, c.toNat, by omega, by omega, by omega, by omega, .inl ⟨hf, rfl, rfl⟩⟩⟩
    · obtain ⟨x, hx, hm⟩ : ∃ y, y < H ∧ c.toNat ∈ R y := Classical.byContradiction fun e => hf (.inl fun j hj hm => e ⟨j, hj, hm⟩)
      obtain ⟨k, hk⟩ := List.getElem?_of_mem hm
      exact ⟨0, _, .inr ⟨n.toNat, c.toNat, by omega, by omega, by omega, by omega, .inr ⟨fun j hj hm => hf (.inr ⟨j, hj, hm⟩), x, k, hx, hk, rfl, rfl⟩⟩⟩
theorem BeforeSays.lr {n c : Int} {r : Int} {R' : Nat → List Nat} (hs : BeforeSays N H R n c r R') (h : LR w0 W g a b N H R) :
    Calls Try.prog 20 #[.pointer (some ⟨g, 0, none⟩), .int .i64 n, .int .i64 c] W fun e w' => e = .returned (.int .i64 r) ∧ LR w0 w' g a b N H R' ∧ KB W w' a b := by
  rcases hs with ⟨h1, rfl, rfl⟩ | ⟨m, d, hm, rfl, hd, rfl, ⟨h1, rfl, rfl⟩ | ⟨h1, x, k, hx, hk, rfl, rfl⟩⟩
  · refine (h.before_bad n c h1).mono ?_
    rintro e w' ⟨e1, rfl⟩
    exact ⟨e1, h, KB.refl _ _ _⟩
  · refine (h.before_held m d hm hd h1).mono ?_
    rintro e w' ⟨e1, rfl⟩
    exact ⟨e1, h, KB.refl _ _ _⟩
  · exact before_calls h m hm h1 x k d hx hk
theorem BeforeSays.rf {n c : Int} {r : Int} {R' : Nat → List Nat} (hs : BeforeSays N H R n c r R') (h : Rf w0 lo W q s N H R) :
    Calls Try.prog 26 #[.pointer (some ⟨q, 0, none⟩), .int .i64 n, .int .i64 c] W fun e w' => e = .returned (.int .i64 r) ∧ Rf w0 lo w' q s N H R' ∧ KB W w' s s := by
  rcases hs with ⟨h1, rfl, rfl⟩ | ⟨m, d, hm, rfl, hd, rfl, ⟨h1, rfl, rfl⟩ | ⟨h1, x, k, hx, hk, rfl, rfl⟩⟩
  · refine (ListHand.before_bad h n c h1).mono ?_
    rintro e w' ⟨e1, rfl⟩
    exact ⟨e1, h, KB.refl _ _ _⟩
  · refine (ListHand.before_held h m d hm hd (h1.imp_right fun ⟨y, hy, hk⟩ => let ⟨k, hk⟩ := List.getElem?_of_mem hk; ⟨y, k, hy, hk⟩)).mono ?_
    rintro e w' ⟨e1, rfl⟩
    exact ⟨e1, h, KB.refl _ _ _⟩
  · exact before_ref h d m x k hm h1 hx hk
def RemSays (N H : Nat) (R : Nat → List Nat) (n : Int) (r : Int) (R' : Nat → List Nat) : Prop :=
  (¬ (0 ≤ n ∧ n < N) ∧ r = -17 ∧ R' = R) ∨ ∃ m : Nat, m < N ∧ n = m ∧
    (((∀ j, j < H → m ∉ R j) ∧ r = -41 ∧ R' = R) ∨ (∃ x k, x < H ∧ (R x)[k]? = some m ∧ r = 0 ∧ R' = setR R x ((R x).eraseIdx k)))
theorem rem_says (N H : Nat) (R : Nat → List Nat) (n : Int) : ∃ r R', RemSays N H R n r R' := by
  by_cases hh : ¬ (0 ≤ n ∧ n < N)
  · exact ⟨-17, R, .inl ⟨hh, rfl, rfl⟩⟩
  · by_cases hf : ∀ j, j < H → n.toNat ∉ R j
    · exact ⟨-41, R, .inr ⟨n.toNat, by omega, by omega, .inl ⟨hf, rfl, rfl⟩⟩⟩
    · obtain ⟨x, hx, hm⟩ : ∃ y, y < H ∧ n.toNat ∈ R y := Classical.byContradiction fun e => hf fun j hj hm => e ⟨j, hj, hm⟩
      obtain ⟨k, hk⟩ := List.getElem?_of_mem hm
      exact ⟨0, _, .inr ⟨n.toNat, by omega, by omega, .inr ⟨x, k, hx, hk, rfl, rfl⟩⟩⟩
theorem RemSays.lr {n : Int} {r : Int} {R' : Nat → List Nat} (hs : RemSays N H R n r R') (h : LR w0 W g a b N H R) :
    Calls Try.prog 19 #[.pointer (some ⟨g, 0, none⟩), .int .i64 n] W fun e w' => e = .returned (.int .i64 r) ∧ LR w0 w' g a b N H R' ∧ KB W w' a b := by
  rcases hs with ⟨h1, rfl, rfl⟩ | ⟨m, hm, rfl, ⟨h1, rfl, rfl⟩ | ⟨x, k, hx, hk, rfl, rfl⟩⟩
  · refine (h.removed_out n (by omega)).mono ?_
    rintro e w' ⟨e1, rfl⟩
    exact ⟨e1, h, KB.refl _ _ _⟩
  · refine (h.removed_free m hm h1).mono ?_
    rintro e w' ⟨e1, rfl⟩
    exact ⟨e1, h, KB.refl _ _ _⟩
  · exact h.out x k m hx hk
theorem RemSays.rf {n : Int} {r : Int} {R' : Nat → List Nat} (hs : RemSays N H R n r R') (h : Rf w0 lo W q s N H R) :
    Calls Try.prog 27 #[.pointer (some ⟨q, 0, none⟩), .int .i64 n] W fun e w' => e = .returned (.int .i64 r) ∧ Rf w0 lo w' q s N H R' ∧ KB W w' s s := by
  rcases hs with ⟨h1, rfl, rfl⟩ | ⟨m, hm, rfl, ⟨h1, rfl, rfl⟩ | ⟨x, k, hx, hk, rfl, rfl⟩⟩
  · refine (rem_bad h n h1).mono ?_
    rintro e w' ⟨e1, rfl⟩
    exact ⟨e1, h, KB.refl _ _ _⟩
  · refine (rem_free h m hm h1).mono ?_
    rintro e w' ⟨e1, rfl⟩
    exact ⟨e1, h, KB.refl _ _ _⟩
  · exact rem_in h x k m hx hk
end Go.Proofs.Yteiepbjajennkaa.ListHand
