/- The program's task and the document's task do the same through any call: the plain law behind TaskPlays. Conditions: none. -/
import Derived.Test.YtgkemmhpfekoaaaPTaskPlaysx6
namespace Go.Proofs.Ytgkemmhpfekoaaa.TaskHand
set_option linter.unusedVariables false
open Go Go.RowKit Go.Proofs.Ytgkemmhpfekoaaa.PTaskPlays Go.Proofs.YtgkemmhpfekoaaaW.PrintWords Go.Proofs.YtgkemmhpfekoaaaW.PrintLast
theorem known_is : detentlaw10_known.f 40 = some true := by decide +kernel
theorem is_one (k : Nat) (hk : 2 ≤ k) (a b c st : Int) (e : Bool) (x : Int) : tcb_Task_Is.f k a b c st e [x] = some (decide (st = x), a, b, c, st, e) := by
  obtain ⟨k, rfl⟩ : ∃ m, k = m + 2 := ⟨k - 2, by omega⟩
  by_cases h : st = x
  · simp [tcb_Task_Is.f, slices_Contains_int_int.f, slices_Index_int_int.f, slices_Index_int_int.l0, rd, h]
  · simp [tcb_Task_Is.f, slices_Contains_int_int.f, slices_Index_int_int.f, slices_Index_int_int.l0, rd, h, wrap64]
theorem is_two (k : Nat) (hk : 3 ≤ k) (a b c st : Int) (e : Bool) (x y : Int) : tcb_Task_Is.f k a b c st e [x, y] = some (decide (st = x ∨ st = y), a, b, c, st, e) := by
  obtain ⟨k, rfl⟩ : ∃ m, k = m + 3 := ⟨k - 3, by omega⟩
  by_cases h : st = x
  · simp [tcb_Task_Is.f, slices_Contains_int_int.f, slices_Index_int_int.f, slices_Index_int_int.l0, rd, h]
  · by_cases h2 : st = y
    · simp [tcb_Task_Is.f, slices_Contains_int_int.f, slices_Index_int_int.f, slices_Index_int_int.l0, rd, h2, wrap64]
      split <;> simp
    · simp [tcb_Task_Is.f, slices_Contains_int_int.f, slices_Index_int_int.f, slices_Index_int_int.l0, rd, h, h2, wrap64]
theorem is_none (k : Nat) (hk : 1 ≤ k) (a b c st : Int) (e : Bool) : tcb_Task_Is.f k a b c st e [] = some (false, a, b, c, st, e) := by
  obtain ⟨k, rfl⟩ : ∃ m, k = m + 1 := ⟨k - 1, by omega⟩
  simp [tcb_Task_Is.f, slices_Contains_int_int.f, slices_Index_int_int.f, slices_Index_int_int.l0]
/-- What a task can come to. -/
structure Inv (a b c st : Int) (e : Bool) : Prop where
  a0 : 0 ≤ a
  a1 : a ≤ 7
  b0 : 0 ≤ b
  b1 : b ≤ 7
  c0 : 0 ≤ c
  c1 : c ≤ 7
  hs : st = 2 ∨ st = 4 ∨ st = 8 ∨ st = 12 ∨ st = 16
  hc : st = 8 ∨ st = 12 → 1 ≤ c
  hd : st = 16 → a = 0 ∧ b = 0 ∧ c = 0
  he : e = false ∨ st = 4 ∨ st = 12
theorem w_up {a : Int} (h0 : 0 ≤ a) (h1 : a ≤ 7) : wrap64 (a + 1) = a + 1 := by unfold wrap64; omega
theorem w_down {a : Int} (h0 : 0 ≤ a) (h1 : a ≤ 7) : wrap64 (a - 1) = a - 1 := by unfold wrap64; omega
theorem flag_some (v : Bool) : ∃ r, detentlaw10_flag.f v = some r := by unfold detentlaw10_flag.f; split <;> exact ⟨_, rfl⟩
variable {a b c st : Int} {e : Bool}
theorem act_sim (k : Nat) (hk : 5 ≤ k) (h : Inv a b c st e) : ∃ r, tcb_Task_Act.f k a b c st e = some r ∧ detentref10_Task_Act.f a b c st e = some r ∧ Inv r.2.2.1 r.2.2.2.1 r.2.2.2.2.1 r.2.2.2.2.2.1 r.2.2.2.2.2.2 := by
  obtain ⟨a0, a1, b0, b1, c0, c1, hs, hc, hd, he⟩ := h
  unfold tcb_Task_Act.f detentref10_Task_Act.f
  rw [is_one k (by omega)]; simp only [Option.bind_some, decide_eq_true_eq]
  by_cases q : st = 16
  · simp only [if_pos q]
    exact ⟨_, rfl, rfl, a0, a1, b0, b1, c0, c1, .inl rfl, fun h => by (try dsimp only at h ⊢); omega, fun h => by (try dsimp only at h ⊢); omega, by rcases he with h | h | h; exact .inl h; (try dsimp only at h ⊢); omega; (try dsimp only at h ⊢); omega⟩
  · simp only [if_neg q]
    by_cases q2 : a ≥ 7
    · simp only [if_pos q2]
      exact ⟨_, rfl, rfl, a0, a1, b0, b1, c0, c1, hs, hc, hd, he⟩
    · simp only [if_neg q2, w_up a0 a1]
      exact ⟨_, rfl, rfl, by (try dsimp only); omega, by (try dsimp only); omega, b0, b1, c0, c1, hs, hc, fun h => absurd h q, he⟩
theorem end_sim (h : Inv a b c st e) : ∃ r, tcb_Task_end.f a b c st e = some r ∧ detentref10_Task_over.f a b c st e = some r ∧ Inv r.2.1 r.2.2.1 r.2.2.2.1 r.2.2.2.2.1 r.2.2.2.2.2 := by
  obtain ⟨a0, a1, b0, b1, c0, c1, hs, hc, hd, he⟩ := h
  unfold tcb_Task_end.f detentref10_Task_over.f
  by_cases q : a = 0
  · simp only [if_pos q]
    exact ⟨_, rfl, rfl, a0, a1, by (try dsimp only); omega, by (try dsimp only); omega, by (try dsimp only); omega, by (try dsimp only); omega, .inr (.inr (.inr (.inr rfl))), fun h => by (try dsimp only at h ⊢); omega, fun _ => ⟨q, rfl, rfl⟩, .inl rfl⟩
  · simp only [if_neg q, w_down a0 a1]
    exact ⟨_, rfl, rfl, by (try dsimp only); omega, by (try dsimp only); omega, by (try dsimp only); omega, by (try dsimp only); omega, by (try dsimp only); omega, by (try dsimp only); omega, .inl rfl, fun h => by (try dsimp only at h ⊢); omega, fun h => by (try dsimp only at h ⊢); omega, .inl rfl⟩
theorem End_sim (k : Nat) (hk : 5 ≤ k) (h : Inv a b c st e) : ∃ r, tcb_Task_End.f k a b c st e = some r ∧ detentref10_Task_End.f a b c st e = some r ∧ Inv r.2.1 r.2.2.1 r.2.2.2.1 r.2.2.2.2.1 r.2.2.2.2.2 := by
  unfold tcb_Task_End.f detentref10_Task_End.f
  rw [is_one k (by omega)]; simp only [Option.bind_some, decide_eq_true_eq]
  by_cases q : st = 2
  · simp only [if_pos q]
    obtain ⟨r, h1, h2, h3⟩ := end_sim h
    rw [h1, h2]; exact ⟨_, rfl, rfl, h3⟩
  · simp only [if_neg q]; exact ⟨_, rfl, rfl, h⟩
theorem kill_sim (k : Nat) (hk : 5 ≤ k) (h : Inv a b c st e) : ∃ r, tcb_Task_Kill.f k a b c st e = some r ∧ detentref10_Task_Kill.f a b c st e = some r ∧ Inv r.2.2.1 r.2.2.2.1 r.2.2.2.2.1 r.2.2.2.2.2.1 r.2.2.2.2.2.2 := by
  unfold tcb_Task_Kill.f detentref10_Task_Kill.f
  rw [is_one k (by omega)]; simp only [Option.bind_some, decide_eq_true_eq]
  by_cases q : st = 16
  · simp only [if_pos q]; exact ⟨_, rfl, rfl, h⟩
  · simp only [if_neg q]
    obtain ⟨r, h1, h2, h3⟩ := end_sim h
    rw [h1, h2]; exact ⟨_, rfl, rfl, h3⟩
theorem sleep_sim (k : Nat) (hk : 5 ≤ k) (h : Inv a b c st e) : ∃ r, tcb_Task_Sleep.f k a b c st e = some r ∧ detentref10_Task_Sleep.f a b c st e = some r ∧ Inv r.2.2.1 r.2.2.2.1 r.2.2.2.2.1 r.2.2.2.2.2.1 r.2.2.2.2.2.2 := by
  have H := h
  obtain ⟨a0, a1, b0, b1, c0, c1, hs, hc, hd, he⟩ := h
  unfold tcb_Task_Sleep.f detentref10_Task_Sleep.f
  rw [is_one k (by omega)]; simp only [Option.bind_some, decide_eq_true_eq]
  by_cases q : st = 2
  · simp only [if_pos q]
    by_cases q2 : b > 0
    · simp only [if_pos q2, w_down b0 b1]
      exact ⟨_, rfl, rfl, a0, a1, by (try dsimp only); omega, by (try dsimp only); omega, c0, c1, hs, hc, fun h => by (try dsimp only at h ⊢); omega, he⟩
    · simp only [if_neg q2]
      exact ⟨_, rfl, rfl, a0, a1, b0, b1, c0, c1, .inr (.inl rfl), fun h => by (try dsimp only at h ⊢); omega, fun h => by (try dsimp only at h ⊢); omega, .inr (.inl rfl)⟩
  · simp only [if_neg q]; exact ⟨_, rfl, rfl, H⟩
theorem stay_sim (k : Nat) (hk : 5 ≤ k) (h : Inv a b c st e) : ∃ r, tcb_Task_Stay.f k a b c st e = some r ∧ detentref10_Task_Stay.f a b c st e = some r ∧ Inv r.2.1 r.2.2.1 r.2.2.2.1 r.2.2.2.2.1 r.2.2.2.2.2 := by
  have H := h
  obtain ⟨a0, a1, b0, b1, c0, c1, hs, hc, hd, he⟩ := h
  unfold tcb_Task_Stay.f detentref10_Task_Stay.f
  rw [is_one k (by omega)]; simp only [Option.bind_some, decide_eq_true_eq]
  by_cases q : st = 2
  · have : e = false := by rcases he with h | h | h; exact h; omega; omega
    subst this
    simp only [if_pos q]
    exact ⟨_, rfl, rfl, a0, a1, b0, b1, c0, c1, .inr (.inl rfl), fun h => by (try dsimp only at h ⊢); omega, fun h => by (try dsimp only at h ⊢); omega, .inl rfl⟩
  · simp only [if_neg q]; exact ⟨_, rfl, rfl, H⟩
theorem rel_sim (h : Inv a b c st e) : ∃ r, tcb_Task_Release.f a b c st e = some r ∧ detentref10_Task_Release.f a b c st e = some r ∧ Inv r.2.1 r.2.2.1 r.2.2.2.1 r.2.2.2.2.1 r.2.2.2.2.2 := by
  have H := h
  obtain ⟨a0, a1, b0, b1, c0, c1, hs, hc, hd, he⟩ := h
  unfold tcb_Task_Release.f detentref10_Task_Release.f
  by_cases q : st = 4
  · subst q
    exact ⟨_, rfl, rfl, a0, a1, b0, b1, c0, c1, .inl rfl, fun h => by (try dsimp only at h ⊢); omega, fun h => by (try dsimp only at h ⊢); omega, .inl rfl⟩
  · by_cases q2 : st = 12
    · subst q2
      exact ⟨_, rfl, rfl, a0, a1, b0, b1, c0, c1, .inr (.inr (.inl rfl)), fun _ => hc (.inr rfl), fun h => by (try dsimp only at h ⊢); omega, .inl rfl⟩
    · simp only [if_neg q, if_neg q2]
      exact ⟨_, rfl, rfl, H⟩
theorem wake_sim (k : Nat) (hk : 5 ≤ k) (h : Inv a b c st e) : ∃ r, tcb_Task_Wake.f k a b c st e = some r ∧ detentref10_Task_Wake.f a b c st e = some r ∧ Inv r.2.2.1 r.2.2.2.1 r.2.2.2.2.1 r.2.2.2.2.2.1 r.2.2.2.2.2.2 := by
  have H := h
  obtain ⟨a0, a1, b0, b1, c0, c1, hs, hc, hd, he⟩ := h
  unfold tcb_Task_Wake.f detentref10_Task_Wake.f
  rw [is_one k (by omega)]; simp only [Option.bind_some, decide_eq_true_eq]
  by_cases q : st = 16
  · simp only [if_pos q]; exact ⟨_, rfl, rfl, H⟩
  · simp only [if_neg q]
    by_cases q2 : e = true
    · simp only [if_pos q2]
      obtain ⟨r, h1, h2, h3⟩ := rel_sim H
      rw [h1, h2]; exact ⟨_, rfl, rfl, h3⟩
    · simp only [if_neg q2]
      by_cases q3 : b ≥ 7
      · simp only [if_pos q3]; exact ⟨_, rfl, rfl, H⟩
      · simp only [if_neg q3, w_up b0 b1]
        exact ⟨_, rfl, rfl, a0, a1, by (try dsimp only); omega, by (try dsimp only); omega, c0, c1, hs, hc, fun h => absurd h q, he⟩
theorem canw_sim (k : Nat) (hk : 5 ≤ k) (h : Inv a b c st e) : ∃ r, tcb_Task_CanWake.f k a b c st e = some r ∧ detentref10_Task_CanWake.f a b c st e = some r ∧ Inv r.2.2.1 r.2.2.2.1 r.2.2.2.2.1 r.2.2.2.2.2.1 r.2.2.2.2.2.2 := by
  have H := h
  obtain ⟨a0, a1, b0, b1, c0, c1, hs, hc, hd, he⟩ := h
  unfold tcb_Task_CanWake.f detentref10_Task_CanWake.f
  rw [is_one k (by omega)]; simp only [Option.bind_some, decide_eq_true_eq]
  by_cases q : st = 16
  · simp only [if_pos q]; exact ⟨_, rfl, rfl, H⟩
  · simp only [if_neg q]
    exact ⟨_, rfl, rfl, a0, a1, by (try dsimp only); omega, by (try dsimp only); omega, c0, c1, hs, hc, fun h => absurd h q, he⟩
theorem susp_sim (k : Nat) (hk : 5 ≤ k) (h : Inv a b c st e) : ∃ r, tcb_Task_Suspend.f k a b c st e = some r ∧ detentref10_Task_Suspend.f a b c st e = some r ∧ Inv r.2.1 r.2.2.1 r.2.2.2.1 r.2.2.2.2.1 r.2.2.2.2.2 := by
  have H := h
  obtain ⟨a0, a1, b0, b1, c0, c1, hs, hc, hd, he⟩ := h
  unfold tcb_Task_Suspend.f detentref10_Task_Suspend.f
  rw [is_one k (by omega)]; simp only [Option.bind_some, decide_eq_true_eq]
  by_cases q : st = 16
  · simp only [if_pos q]; exact ⟨_, rfl, rfl, H⟩
  · simp only [if_neg q]
    by_cases q2 : c ≥ 7
    · simp only [if_pos q2]; exact ⟨_, rfl, rfl, H⟩
    · simp only [if_neg q2, w_up c0 c1]
      by_cases q3 : st = 2
      · simp only [if_pos q3]
        exact ⟨_, rfl, rfl, a0, a1, b0, b1, by (try dsimp only); omega, by (try dsimp only); omega, .inr (.inr (.inl rfl)), fun _ => by (try dsimp only at ⊢); omega, fun h => by (try dsimp only at h ⊢); omega, by rcases he with h | h | h; exact .inl h; (try dsimp only at h ⊢); omega; (try dsimp only at h ⊢); omega⟩
      · simp only [if_neg q3]
        by_cases q4 : st = 4
        · simp only [if_pos q4]
          exact ⟨_, rfl, rfl, a0, a1, b0, b1, by (try dsimp only); omega, by (try dsimp only); omega, .inr (.inr (.inr (.inl rfl))), fun _ => by (try dsimp only at ⊢); omega, fun h => by (try dsimp only at h ⊢); omega, .inr (.inr rfl)⟩
        · simp only [if_neg q4]
          exact ⟨_, rfl, rfl, a0, a1, b0, b1, by (try dsimp only); omega, by (try dsimp only); omega, hs, fun _ => by (try dsimp only at ⊢); omega, fun h => absurd h q, he⟩
theorem resume_sim (k : Nat) (hk : 7 ≤ k) (x : Bool) (h : Inv a b c st e) : ∃ r, tcb_Task_Resume.f k a b c st e x = some r ∧ detentref10_Task_Resume.f k a b c st e x = some r ∧ Inv r.2.2.1 r.2.2.2.1 r.2.2.2.2.1 r.2.2.2.2.2.1 r.2.2.2.2.2.2 := by
  have H := h
  obtain ⟨a0, a1, b0, b1, c0, c1, hs, hc, hd, he⟩ := h
  obtain ⟨k, rfl⟩ : ∃ m, k = m + 1 + 1 + 1 := ⟨k - 3, by omega⟩
  have j : ∀ (c' : Int) (n : Nat), 3 ≤ n → 0 ≤ c' → c' ≤ 7 → (st = 8 ∨ st = 12) → ∃ r, tcb_Task_Resume.j0 (n + 1) a b c' st e = some r ∧ (∀ m, detentref10_Task_Resume.j1 (m + 1) a b c' st e = some r) ∧ Inv r.2.2.1 r.2.2.2.1 r.2.2.2.2.1 r.2.2.2.2.2.1 r.2.2.2.2.2.2 := by
    intro c' n hn h0 h1 h2
    unfold tcb_Task_Resume.j0 detentref10_Task_Resume.j1
    dsimp only
    by_cases q : c' > 0
    · rw [if_pos q]
      exact ⟨_, rfl, fun _ => by rw [if_pos q], a0, a1, b0, b1, h0, h1, hs, fun _ => by (try dsimp only at ⊢); omega, fun h => by (try dsimp only at h ⊢); omega, he⟩
    · rw [if_neg q, is_one n (by omega)]; simp only [Option.bind_some, decide_eq_true_eq]
      by_cases q2 : st = 8
      · rw [if_pos q2]
        exact ⟨_, rfl, fun _ => by first | rfl | simp only [if_neg q, if_pos q2], a0, a1, b0, b1, h0, h1, .inl rfl, fun h => by (try dsimp only at h ⊢); omega, fun h => by (try dsimp only at h ⊢); omega, by rcases he with h | h | h; exact .inl h; (try dsimp only at h ⊢); omega; (try dsimp only at h ⊢); omega⟩
      · rw [if_neg q2]
        exact ⟨_, rfl, fun _ => by first | rfl | simp only [if_neg q, if_neg q2], a0, a1, b0, b1, h0, h1, .inr (.inl rfl), fun h => by (try dsimp only at h ⊢); omega, fun h => by (try dsimp only at h ⊢); omega, .inr (.inl rfl)⟩
  unfold tcb_Task_Resume.f detentref10_Task_Resume.f
  rw [is_two _ (by omega)]; simp only [Option.bind_some, decide_eq_true_eq]
  by_cases q : st = 8 ∨ st = 12
  · rw [if_pos q]
    have hj0 : ∀ v, v = false → detentref10_Task_Resume.j0 (k + 1 + 1 + 1) x v a b c st e = if x = true then detentref10_Task_Resume.j1 (k + 1 + 1) a b 0 st e else detentref10_Task_Resume.j1 (k + 1 + 1) a b (wrap64 (c - 1)) st e := by
      intro v hv; subst hv; unfold detentref10_Task_Resume.j0; dsimp only; rw [if_neg (by simp)]
    have hv : (if st = 8 then detentref10_Task_Resume.j0 (k + 1 + 1 + 1) x false a b c st e else detentref10_Task_Resume.j0 (k + 1 + 1 + 1) x (st != 12) a b c st e) = if x = true then detentref10_Task_Resume.j1 (k + 1 + 1) a b 0 st e else detentref10_Task_Resume.j1 (k + 1 + 1) a b (wrap64 (c - 1)) st e := by
      by_cases q8 : st = 8
      · rw [if_pos q8, hj0 _ rfl]
      · rw [if_neg q8, hj0 _ (by simp; omega)]
    rw [hv]
    cases x with
    | true =>
      obtain ⟨r, h1, h2, h3⟩ := j 0 (k + 1 + 1) (by omega) (by omega) (by omega) q
      exact ⟨r, by rw [if_pos rfl]; exact h1, by rw [if_pos rfl]; exact h2 _, h3⟩
    | false =>
      obtain ⟨r, h1, h2, h3⟩ := j (wrap64 (c - 1)) (k + 1 + 1) (by omega) (by have := hc q; rw [w_down c0 c1]; omega) (by rw [w_down c0 c1]; omega) q
      exact ⟨r, by rw [if_neg (by simp)]; exact h1, by rw [if_neg (by simp)]; exact h2 _, h3⟩
  · rw [if_neg q]
    have q8 : ¬ st = 8 := fun h => q (.inl h)
    rw [if_neg q8]
    have : (st != 12) = true := by simp; exact fun h => q (.inr h)
    rw [this]
    refine ⟨_, rfl, ?_, H⟩
    unfold detentref10_Task_Resume.j0; dsimp only; rw [if_pos rfl]
theorem doj_sim (k : Nat) (hk : 8 ≤ k) (x : Int) (v : Bool) (h : Inv a b c st e) : ∃ r, detentlaw10_do.j0 k x v a b c st e = some r ∧ detentlaw10_want.j0 k x v a b c st e = some r ∧ Inv r.2.2.1 r.2.2.2.1 r.2.2.2.2.1 r.2.2.2.2.2.1 r.2.2.2.2.2.2 := by
  obtain ⟨k, rfl⟩ : ∃ m, k = m + 1 := ⟨k - 1, by omega⟩
  unfold detentlaw10_do.j0 detentlaw10_want.j0
  dsimp only
  by_cases q : v = true
  · simp only [if_pos q]
    obtain ⟨r, h1, h2, h3⟩ := resume_sim k (by omega) (x == 11) h
    obtain ⟨f, hf⟩ := flag_some r.1
    rw [h1, h2]; simp only [Option.bind_some]; rw [hf]; exact ⟨_, rfl, rfl, h3⟩
  · simp only [if_neg q]; exact ⟨_, rfl, rfl, h⟩
theorem do_sim (k : Nat) (hk : 8 ≤ k) (x : Int) (h : Inv a b c st e) : ∃ r, detentlaw10_do.f k a b c st e x = some r ∧ detentlaw10_want.f k a b c st e x = some r ∧ Inv r.2.2.1 r.2.2.2.1 r.2.2.2.2.1 r.2.2.2.2.2.1 r.2.2.2.2.2.2 := by
  unfold detentlaw10_do.f detentlaw10_want.f
  by_cases c0 : x = 0
  · simp only [if_pos c0]
    obtain ⟨r, h1, h2, h3⟩ := act_sim k (by omega) h
    obtain ⟨f, hf⟩ := flag_some r.1
    rw [h1, h2]; simp only [Option.bind_some]; rw [hf]; exact ⟨_, rfl, rfl, h3⟩
  simp only [if_neg c0]
  by_cases c1 : x = 1
  · simp only [if_pos c1]
    exact ⟨_, rfl, rfl, by (try dsimp only); omega, by (try dsimp only); omega, h.b0, h.b1, h.c0, h.c1, h.hs, h.hc, fun q => ⟨rfl, (h.hd q).2⟩, h.he⟩
  simp only [if_neg c1]
  by_cases c2 : x = 2
  · simp only [if_pos c2]
    obtain ⟨r, h1, h2, h3⟩ := End_sim k (by omega) h
    obtain ⟨f, hf⟩ := flag_some r.1
    rw [h1, h2]; simp only [Option.bind_some]; rw [hf]; exact ⟨_, rfl, rfl, h3⟩
  simp only [if_neg c2]
  by_cases c3 : x = 3
  · simp only [if_pos c3]
    obtain ⟨r, h1, h2, h3⟩ := kill_sim k (by omega) h
    obtain ⟨f, hf⟩ := flag_some r.1
    rw [h1, h2]; simp only [Option.bind_some]; rw [hf]; exact ⟨_, rfl, rfl, h3⟩
  simp only [if_neg c3]
  by_cases c4 : x = 4
  · simp only [if_pos c4]
    obtain ⟨r, h1, h2, h3⟩ := sleep_sim k (by omega) h
    obtain ⟨f, hf⟩ := flag_some r.1
    rw [h1, h2]; simp only [Option.bind_some]; rw [hf]; exact ⟨_, rfl, rfl, h3⟩
  simp only [if_neg c4]
  by_cases c5 : x = 5
  · simp only [if_pos c5]
    obtain ⟨r, h1, h2, h3⟩ := stay_sim k (by omega) h
    rw [h1, h2]; exact ⟨_, rfl, rfl, h3⟩
  simp only [if_neg c5]
  by_cases c6 : x = 6
  · simp only [if_pos c6]
    obtain ⟨r, h1, h2, h3⟩ := wake_sim k (by omega) h
    obtain ⟨f, hf⟩ := flag_some r.1
    rw [h1, h2]; simp only [Option.bind_some]; rw [hf]; exact ⟨_, rfl, rfl, h3⟩
  simp only [if_neg c6]
  by_cases c7 : x = 7
  · simp only [if_pos c7]
    obtain ⟨r, h1, h2, h3⟩ := canw_sim k (by omega) h
    rw [h1, h2]; exact ⟨_, rfl, rfl, h3⟩
  simp only [if_neg c7]
  by_cases c8 : x = 8
  · simp only [if_pos c8]
    obtain ⟨r, h1, h2, h3⟩ := rel_sim h
    obtain ⟨f, hf⟩ := flag_some r.1
    rw [h1, h2]; simp only [Option.bind_some]; rw [hf]; exact ⟨_, rfl, rfl, h3⟩
  simp only [if_neg c8]
  by_cases c9 : x = 9
  · simp only [if_pos c9]
    obtain ⟨r, h1, h2, h3⟩ := susp_sim k (by omega) h
    rw [h1, h2]; exact ⟨_, rfl, rfl, h3⟩
  simp only [if_neg c9]
  by_cases c10 : x = 10
  · simp only [if_pos c10]; exact doj_sim k hk _ _ h
  · simp only [if_neg c10]; exact doj_sim k hk _ _ h
end Go.Proofs.Ytgkemmhpfekoaaa.TaskHand
