/- A task is in one state, and is one of any states that are named if that is among them. Conditions: none beside the statement's own. -/
import Derived.Test.YtgkemmhpfekoaaaPTaskIsx5
namespace Go.Proofs.Ytgkemmhpfekoaaa.Pure
open Go Go.RowKit Go.Proofs.Ytgkemmhpfekoaaa.PTaskIs Go.Proofs.YtgkemmhpfekoaaaW.PrintWords Go.Proofs.YtgkemmhpfekoaaaW.PrintLast

theorem known_is : detentlaw10_known.f 200 = some true := by decide +kernel
/-- A task's states. -/
def S (st : Int) : Prop := st = 2 ∨ st = 4 ∨ st = 8 ∨ st = 12 ∨ st = 16
theorem is_one (k : Nat) (hk : 2 ≤ k) (a b c st : Int) (e : Bool) (x : Int) : tcb_Task_Is.f k a b c st e [x] = some (decide (st = x), a, b, c, st, e) := by
  obtain ⟨k, rfl⟩ : ∃ m, k = m + 2 := ⟨k - 2, by omega⟩
  by_cases h : st = x
  · simp [tcb_Task_Is.f, slices_Contains_int_int.f, slices_Index_int_int.f, slices_Index_int_int.l0, rd, h]
  · simp [tcb_Task_Is.f, slices_Contains_int_int.f, slices_Index_int_int.f, slices_Index_int_int.l0, rd, h, wrap64]
theorem is_two (k : Nat) (hk : 3 ≤ k) (a b c st : Int) (e : Bool) (x y : Int) : tcb_Task_Is.f k a b c st e [x, y] = some (decide (st = x ∨ st = y), a, b, c, st, e) := by
  obtain ⟨k, rfl⟩ : ∃ m, k = m + 3 := ⟨k - 3, by omega⟩
  by_cases h : st = x
  · simp [tcb_Task_Is.f, slices_Contains_int_int.f, slices_Index_int_int.f, slices_Index_int_int.l0, rd, h]
  · by_cases h2 : st = y
    · simp [tcb_Task_Is.f, slices_Contains_int_int.f, slices_Index_int_int.f, slices_Index_int_int.l0, rd, h2, wrap64]
      split <;> simp
    · simp [tcb_Task_Is.f, slices_Contains_int_int.f, slices_Index_int_int.f, slices_Index_int_int.l0, rd, h, h2, wrap64]
theorem act_k (k : Nat) (hk : 5 ≤ k) (a b c st : Int) (e : Bool) (h : S st) : ∃ r, tcb_Task_Act.f k a b c st e = some r ∧ S r.2.2.2.2.2.1 := by
  unfold tcb_Task_Act.f
  rw [is_one k (by omega)]; simp only [Option.bind_some]
  repeat' split
  all_goals exact ⟨_, rfl, by first | exact h | exact .inl rfl⟩
theorem can_k (a b c st : Int) (e : Bool) (h : S st) : ∃ r, tcb_Task_CanAct.f a b c st e = some r ∧ S r.2.2.2.2.1 := ⟨_, rfl, h⟩
theorem end_k (a b c st : Int) (e : Bool) : ∃ r, tcb_Task_end.f a b c st e = some r ∧ S r.2.2.2.2.1 := by
  unfold tcb_Task_end.f
  split
  · exact ⟨_, rfl, .inr (.inr (.inr (.inr rfl)))⟩
  · exact ⟨_, rfl, .inl rfl⟩
theorem End_k (k : Nat) (hk : 5 ≤ k) (a b c st : Int) (e : Bool) (h : S st) : ∃ r, tcb_Task_End.f k a b c st e = some r ∧ S r.2.2.2.2.1 := by
  unfold tcb_Task_End.f
  rw [is_one k (by omega)]; simp only [Option.bind_some]
  split
  · obtain ⟨r, hr, hs⟩ := end_k a b c st e
    rw [hr]; exact ⟨_, rfl, hs⟩
  · exact ⟨_, rfl, h⟩
theorem kill_k (k : Nat) (hk : 5 ≤ k) (a b c st : Int) (e : Bool) (h : S st) : ∃ r, tcb_Task_Kill.f k a b c st e = some r ∧ S r.2.2.2.2.2.1 := by
  unfold tcb_Task_Kill.f
  rw [is_one k (by omega)]; simp only [Option.bind_some]
  split
  · exact ⟨_, rfl, h⟩
  · obtain ⟨r, hr, hs⟩ := end_k a b c st e
    rw [hr]; exact ⟨_, rfl, hs⟩
theorem sleep_k (k : Nat) (hk : 5 ≤ k) (a b c st : Int) (e : Bool) (h : S st) : ∃ r, tcb_Task_Sleep.f k a b c st e = some r ∧ S r.2.2.2.2.2.1 := by
  unfold tcb_Task_Sleep.f
  rw [is_one k (by omega)]; simp only [Option.bind_some]
  repeat' split
  all_goals exact ⟨_, rfl, by first | exact h | exact .inr (.inl rfl)⟩
theorem stay_k (k : Nat) (hk : 5 ≤ k) (a b c st : Int) (e : Bool) (h : S st) : ∃ r, tcb_Task_Stay.f k a b c st e = some r ∧ S r.2.2.2.2.1 := by
  unfold tcb_Task_Stay.f
  rw [is_one k (by omega)]; simp only [Option.bind_some]
  repeat' split
  all_goals exact ⟨_, rfl, by first | exact h | exact .inr (.inl rfl)⟩
theorem rel_k (a b c st : Int) (e : Bool) (h : S st) : ∃ r, tcb_Task_Release.f a b c st e = some r ∧ S r.2.2.2.2.1 := by
  unfold tcb_Task_Release.f
  repeat' split
  all_goals exact ⟨_, rfl, by first | exact h | exact .inl rfl | exact .inr (.inr (.inl rfl))⟩
theorem wake_k (k : Nat) (hk : 5 ≤ k) (a b c st : Int) (e : Bool) (h : S st) : ∃ r, tcb_Task_Wake.f k a b c st e = some r ∧ S r.2.2.2.2.2.1 := by
  unfold tcb_Task_Wake.f
  rw [is_one k (by omega)]; simp only [Option.bind_some]
  split
  · exact ⟨_, rfl, h⟩
  · split
    · obtain ⟨r, hr, hs⟩ := rel_k a b c st e h
      rw [hr]; exact ⟨_, rfl, hs⟩
    · split
      · exact ⟨_, rfl, h⟩
      · exact ⟨_, rfl, h⟩
theorem canw_k (k : Nat) (hk : 5 ≤ k) (a b c st : Int) (e : Bool) (h : S st) : ∃ r, tcb_Task_CanWake.f k a b c st e = some r ∧ S r.2.2.2.2.2.1 := by
  unfold tcb_Task_CanWake.f
  rw [is_one k (by omega)]; simp only [Option.bind_some]
  split
  · exact ⟨_, rfl, h⟩
  · exact ⟨_, rfl, h⟩
theorem susp_k (k : Nat) (hk : 5 ≤ k) (a b c st : Int) (e : Bool) (h : S st) : ∃ r, tcb_Task_Suspend.f k a b c st e = some r ∧ S r.2.2.2.2.1 := by
  unfold tcb_Task_Suspend.f
  rw [is_one k (by omega)]; simp only [Option.bind_some]
  repeat' split
  all_goals exact ⟨_, rfl, by first | exact h | exact .inr (.inr (.inl rfl)) | exact .inr (.inr (.inr (.inl rfl)))⟩
theorem resj_k (k : Nat) (hk : 5 ≤ k) (a b c st : Int) (e : Bool) (h : S st) : ∃ r, tcb_Task_Resume.j0 k a b c st e = some r ∧ S r.2.2.2.2.2.1 := by
  obtain ⟨k, rfl⟩ : ∃ m, k = m + 1 := ⟨k - 1, by omega⟩
  unfold tcb_Task_Resume.j0
  dsimp only
  split
  · exact ⟨_, rfl, h⟩
  · rw [is_one k (by omega)]; simp only [Option.bind_some]
    split
    · exact ⟨_, rfl, .inl rfl⟩
    · exact ⟨_, rfl, .inr (.inl rfl)⟩
theorem resume_k (k : Nat) (hk : 5 ≤ k) (a b c st : Int) (e x : Bool) (h : S st) : ∃ r, tcb_Task_Resume.f k a b c st e x = some r ∧ S r.2.2.2.2.2.1 := by
  unfold tcb_Task_Resume.f
  rw [is_two k (by omega)]; simp only [Option.bind_some]
  split
  · split
    · exact resj_k k (by omega) _ _ _ _ _ h
    · exact resj_k k (by omega) _ _ _ _ _ h
  · exact ⟨_, rfl, h⟩
theorem flag_some (v : Bool) : ∃ r, detentlaw10_flag.f v = some r := by unfold detentlaw10_flag.f; split <;> exact ⟨_, rfl⟩
theorem doj_k (k : Nat) (hk : 6 ≤ k) (x : Int) (v : Bool) (a b c st : Int) (e : Bool) (h : S st) : ∃ r, detentlaw10_do.j0 k x v a b c st e = some r ∧ S r.2.2.2.2.2.1 := by
  obtain ⟨k, rfl⟩ : ∃ m, k = m + 1 := ⟨k - 1, by omega⟩
  unfold detentlaw10_do.j0
  dsimp only
  split
  · obtain ⟨r, hr, hs⟩ := resume_k k (by omega) a b c st e (x == 11) h
    obtain ⟨q, hq⟩ := flag_some r.1
    rw [hr]; simp only [Option.bind_some]; rw [hq]; exact ⟨_, rfl, hs⟩
  · exact ⟨_, rfl, h⟩
theorem do_k (k : Nat) (hk : 6 ≤ k) (a b c st : Int) (e : Bool) (x : Int) (h : S st) : ∃ r, detentlaw10_do.f k a b c st e x = some r ∧ S r.2.2.2.2.2.1 := by
  unfold detentlaw10_do.f
  by_cases c0 : x = 0
  · rw [if_pos c0]; obtain ⟨r, hr, hs⟩ := act_k k (by omega) a b c st e h
    obtain ⟨q, hq⟩ := flag_some r.1
    rw [hr]; simp only [Option.bind_some]; rw [hq]; exact ⟨_, rfl, hs⟩
  rw [if_neg c0]
  by_cases c1 : x = 1
  · rw [if_pos c1]; exact ⟨_, rfl, h⟩
  rw [if_neg c1]
  by_cases c2 : x = 2
  · rw [if_pos c2]; obtain ⟨r, hr, hs⟩ := End_k k (by omega) a b c st e h
    obtain ⟨q, hq⟩ := flag_some r.1
    rw [hr]; simp only [Option.bind_some]; rw [hq]; exact ⟨_, rfl, hs⟩
  rw [if_neg c2]
  by_cases c3 : x = 3
  · rw [if_pos c3]; obtain ⟨r, hr, hs⟩ := kill_k k (by omega) a b c st e h
    obtain ⟨q, hq⟩ := flag_some r.1
    rw [hr]; simp only [Option.bind_some]; rw [hq]; exact ⟨_, rfl, hs⟩
  rw [if_neg c3]
  by_cases c4 : x = 4
  · rw [if_pos c4]; obtain ⟨r, hr, hs⟩ := sleep_k k (by omega) a b c st e h
    obtain ⟨q, hq⟩ := flag_some r.1
    rw [hr]; simp only [Option.bind_some]; rw [hq]; exact ⟨_, rfl, hs⟩
  rw [if_neg c4]
  by_cases c5 : x = 5
  · rw [if_pos c5]; obtain ⟨r, hr, hs⟩ := stay_k k (by omega) a b c st e h
    rw [hr]; exact ⟨_, rfl, hs⟩
  rw [if_neg c5]
  by_cases c6 : x = 6
  · rw [if_pos c6]; obtain ⟨r, hr, hs⟩ := wake_k k (by omega) a b c st e h
    obtain ⟨q, hq⟩ := flag_some r.1
    rw [hr]; simp only [Option.bind_some]; rw [hq]; exact ⟨_, rfl, hs⟩
  rw [if_neg c6]
  by_cases c7 : x = 7
  · rw [if_pos c7]; obtain ⟨r, hr, hs⟩ := canw_k k (by omega) a b c st e h
    rw [hr]; exact ⟨_, rfl, hs⟩
  rw [if_neg c7]
  by_cases c8 : x = 8
  · rw [if_pos c8]; obtain ⟨r, hr, hs⟩ := rel_k a b c st e h
    obtain ⟨q, hq⟩ := flag_some r.1
    rw [hr]; simp only [Option.bind_some]; rw [hq]; exact ⟨_, rfl, hs⟩
  rw [if_neg c8]
  by_cases c9 : x = 9
  · rw [if_pos c9]; obtain ⟨r, hr, hs⟩ := susp_k k (by omega) a b c st e h
    rw [hr]; exact ⟨_, rfl, hs⟩
  rw [if_neg c9]
  by_cases c10 : x = 10
  · rw [if_pos c10]; exact doj_k k (by omega) _ _ _ _ _ _ _ h
  · rw [if_neg c10]; exact doj_k k (by omega) _ _ _ _ _ _ _ h
theorem idx (l : List Int) (x : Int) (hn : l.length ≤ 20) (d : Nat) : ∀ (k : Nat) (i : Int), 0 ≤ i → i ≤ l.length → (l.length : Int) - i = d → d < k →
    ∃ r, slices_Index_int_int.l0 k l x l.length i = some r ∧ (r ≥ 0 ↔ ∃ j, i ≤ j ∧ j < l.length ∧ rd l j = x) := by
  induction d with
  | zero =>
    intro k i i0 i1 hd hk
    obtain ⟨k, rfl⟩ : ∃ m, k = m + 1 := ⟨k - 1, by omega⟩
    refine ⟨-1, by simp only [slices_Index_int_int.l0]; rw [if_neg (by omega)], ⟨fun h => by omega, fun ⟨j, a, b, _⟩ => by omega⟩⟩
  | succ d ih =>
    intro k i i0 i1 hd hk
    obtain ⟨k, rfl⟩ : ∃ m, k = m + 1 := ⟨k - 1, by omega⟩
    have e1 : wrap64 (i + 1) = i + 1 := by unfold wrap64; omega
    simp only [slices_Index_int_int.l0]
    rw [if_pos (by omega), if_pos i0, if_pos (by omega), e1]
    by_cases c : x = rd l i
    · rw [if_pos c]; exact ⟨i, rfl, ⟨fun _ => ⟨i, by omega, by omega, c.symm⟩, fun _ => i0⟩⟩
    · rw [if_neg c]
      obtain ⟨r, hr, hi⟩ := ih k (i + 1) (by omega) (by omega) (by omega) (by omega)
      refine ⟨r, hr, hi.trans ⟨fun ⟨j, p, q, z⟩ => ⟨j, by omega, q, z⟩, fun ⟨j, p, q, z⟩ => ⟨j, ?_, q, z⟩⟩⟩
      by_cases e : j = i
      · subst e; exact absurd z.symm c
      · omega
theorem five (k : Nat) (l : List Int) (v : Bool) (a b c st : Int) (e : Bool) (h : S st) : detentlaw10_TaskIs.l2 (k + 10) l v 0 [2, 4, 8, 12, 16] 5 0 a b c st e =
    (tcb_Task_Is.f (k + 4) a b c st e l).bind fun r => if (r.1 == v) = true then some true else some false := by
  rcases h with rfl | rfl | rfl | rfl | rfl <;> (refine (?_ : _ = _); kernel_rfl)
theorem l1_loop (l : List Int) (a b c st : Int) (e : Bool) (h : S st) (hn : l.length ≤ 20) (d : Nat) : ∀ (k : Nat) (v : Bool) (i : Int), 0 ≤ i → i ≤ l.length → (l.length : Int) - i = d → d + 40 < k →
    (v = true ↔ ∃ j, 0 ≤ j ∧ j < i ∧ rd l j = st) → detentlaw10_TaskIs.l1 k l v i a b c st e = some true := by
  induction d with
  | zero =>
    intro k v i i0 i1 hd hk hv
    obtain ⟨k, rfl⟩ : ∃ m, k = m + 11 := ⟨k - 11, by omega⟩
    obtain rfl : i = l.length := by omega
    simp only [detentlaw10_TaskIs.l1]
    rw [if_neg (by omega)]
    simp only [Option.bind_some]
    refine (five k l v a b c st e h).trans ?_
    unfold tcb_Task_Is.f slices_Contains_int_int.f slices_Index_int_int.f
    obtain ⟨r, hr, hi⟩ := idx l st hn l.length (k + 4) 0 (by omega) (by omega) (by omega) (by omega)
    rw [hr]
    simp only [Option.bind_some]
    rw [if_pos]
    have : v = decide (r ≥ 0) := by
      rw [Bool.eq_iff_iff, hv]; simp only [decide_eq_true_eq]; exact hi.symm
    rw [this]; simp
  | succ d ih =>
    intro k v i i0 i1 hd hk hv
    obtain ⟨k, rfl⟩ : ∃ m, k = m + 1 := ⟨k - 1, by omega⟩
    have e1 : wrap64 (i + 1) = i + 1 := by unfold wrap64; omega
    simp only [detentlaw10_TaskIs.l1]
    rw [if_pos (by omega), e1]
    by_cases c1 : v = true
    · rw [if_pos c1]
      obtain ⟨j, p, q, z⟩ := hv.1 c1
      exact ih k true (i + 1) (by omega) (by omega) (by omega) (by omega) ⟨fun _ => ⟨j, p, by omega, z⟩, fun _ => rfl⟩
    · rw [if_neg c1, if_pos i0]
      refine ih k _ (i + 1) (by omega) (by omega) (by omega) (by omega) ?_
      rw [beq_iff_eq]
      refine ⟨fun z => ⟨i, i0, by omega, z⟩, fun ⟨j, p, q, z⟩ => ?_⟩
      by_cases e : j = i
      · subst e; exact z
      · exact absurd (hv.2 ⟨j, p, by omega, z⟩) c1
theorem l0_loop (l s : List Int) (hn : l.length ≤ 60) (hs : s.length ≤ 20) (d : Nat) : ∀ (k : Nat) (i a b c st : Int) (e : Bool), S st → 0 ≤ i → i ≤ l.length → (l.length : Int) - i = d → d + 80 < k →
    detentlaw10_TaskIs.l0 k l s i a b c st e = some true := by
  induction d with
  | zero =>
    intro k i a b c st e h i0 i1 hd hk
    obtain ⟨k, rfl⟩ : ∃ m, k = m + 1 := ⟨k - 1, by omega⟩
    simp only [detentlaw10_TaskIs.l0]
    rw [if_neg (by omega)]
    exact l1_loop s a b c st e h hs s.length k false 0 (by omega) (by omega) (by omega) (by omega) ⟨fun h => (Bool.noConfusion h), fun ⟨j, p, q, _⟩ => by omega⟩
  | succ d ih =>
    intro k i a b c st e h i0 i1 hd hk
    obtain ⟨k, rfl⟩ : ∃ m, k = m + 1 := ⟨k - 1, by omega⟩
    have e1 : wrap64 (i + 1) = i + 1 := by unfold wrap64; omega
    simp only [detentlaw10_TaskIs.l0]
    rw [if_pos (by omega), if_pos i0, e1]
    obtain ⟨r, hr, hs'⟩ := do_k k (by omega) a b c st e (rd l i) h
    rw [hr]
    simp only [Option.bind_some]
    exact ih k (i + 1) _ _ _ _ _ hs' (by omega) (by omega) (by omega) (by omega)
theorem TaskIs : detentlaw10_TaskIs.Pure := by
  intro l s _ _ _ _ _ _
  refine ⟨200, ?_⟩
  unfold detentlaw10_TaskIs.f
  rw [known_is]
  simp only [Option.bind_some, if_true]
  by_cases c1 : (l.length : Int) > 60
  · rw [if_pos c1]; rfl
  rw [if_neg c1]
  by_cases c2 : (s.length : Int) > 20
  · simp [c2, detentlaw10_TaskIs.j0]
  have : decide ((s.length : Int) > 20) = false := by simpa using c2
  rw [this]
  exact l0_loop l s (by omega) (by omega) l.length 199 0 0 0 0 16 false (.inr (.inr (.inr (.inr rfl)))) (by omega) (by omega) (by omega) (by omega)

end Go.Proofs.Ytgkemmhpfekoaaa.Pure
