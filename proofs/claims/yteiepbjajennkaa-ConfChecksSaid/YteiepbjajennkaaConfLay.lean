/- Where a configuration's pools lie, the program's way. Conditions: none. -/
import Derived.Test.YteiepbjajennkaaConfCheck
namespace Go.Proofs.Yteiepbjajennkaa.ConfHand
set_option linter.unusedVariables false
set_option linter.unusedSimpArgs false
open Go.RowKit Go.Proofs.YteiepbjajennkaaW.PrintWords Go.Proofs.YteiepbjajennkaaW.PrintMore
/-- The pools lie within what there is. -/
structure PG (c : CF) : Prop where
  n8 : c.p.n ≤ 8
  at_ : ∀ i, i ≤ c.p.n → 0 ≤ atP c.blk c.siz i ∧ atP c.blk c.siz i ≤ 65536 ∧ atP c.blk c.siz i % 4 = 0
def starts (c : CF) (k : Nat) : List Int := (List.range k).map fun i => atP c.blk c.siz i
theorem starts_succ (c : CF) (k : Nat) : starts c (k + 1) = starts c k ++ [atP c.blk c.siz k] := by simp [starts, List.range_succ]
theorem starts_len (c : CF) (k : Nat) : (starts c k).length = k := by simp [starts]
theorem bytes_calls {c : CF} {W : World} (h : CFin W c) (hg : PG c) : Calls Try.prog 38 #[.agg #[.int .i64 c.tic, .slice c.t.A c.t.n c.t.c, .slice c.s.A c.s.n c.s.c, .slice c.f.A c.f.n c.f.c, .slice c.d.A c.d.n c.d.c, .slice c.m.A c.m.n c.m.c, .slice c.p.A c.p.n c.p.c, .slice c.y.A c.y.n c.y.c, .int .i64 c.al]] W fun e w' => e = .returned (.int .i64 (atP c.blk c.siz c.p.n)) ∧ Below W.heap.size W w' := by
  have HF := Aside0.mk h; clear h
  have HG := Aside0.mk hg; clear hg
  have HB0 := Aside0.mk (below_alloc (Below.refl W.heap.size W) (.cells c.vals 58))
  go_enter Try.func38, Try.ntmps38
  go_wp2
  go_loopw [9, 3, 5] (fun i z _ w' => ∃ k : Nat, k ≤ c.p.n ∧ i = .int .i64 k ∧ z = .int .i64 (atP c.blk c.siz k) ∧ Aside0 (Below W.heap.size W w')) (fun i _ _ _ => c.p.n - (intOf i).toNat)
  case atStart => exact ⟨0, Nat.zero_le _, rfl, rfl, HB0⟩
  case round =>
    obtain ⟨k, hk, rfl, rfl, HB⟩ := hrel
    by_cases hlt : k < c.p.n
    · obtain ⟨B, O, hA, hc⟩ := (HF.out.p.below HB.out) (by omega)
      have x0 : wr.cell? ⟨B, O + k * 3, none⟩ = some _ := hc k hlt 0 _ rfl
      have x1 := hc k hlt 1 _ rfl
      have x2 := hc k hlt 2 _ rfl
      have h8 := HG.out.n8
      obtain ⟨a0, a1, a2⟩ := HG.out.at_ k hk
      have HN := Aside0.mk (fun w => next_calls (c.pb k) (atP c.blk c.siz k) (c.blk k) (c.siz k) a0 a1 a2 w)
      clear hc
      rw [hA]
      go_wp2_with fail
      refine (HN.out _).mono ?_
      rintro e w2 ⟨rfl, hbe⟩
      have b1 := below_alloc HB.out (.cells #[.bool (c.pb k), .int .i64 (c.blk k), .int .i64 (c.siz k)] 81)
      have HB2 := Aside0.mk (below_up b1 hbe b1.size)
      clear b1 hbe
      go_wp2
      go_roundw
      case rel => exact ⟨k + 1, by omega, by go_num, rfl, HB2⟩
      case measure => simp [intOf]; omega
    · obtain rfl : k = c.p.n := by omega
      go_wp2
      go_ret
      exact ⟨rfl, HB.out⟩
theorem info3 : (Try.prog.info? 3).map (fun i => (i.zero, i.size, i.bytes)) = some (some (.int .i64 0), 1, 8) := by kernel_rfl
theorem layout_calls {c : CF} {W : World} (h : CFin W c) (hg : PG c) : Calls Try.prog 37 #[.agg #[.int .i64 c.tic, .slice c.t.A c.t.n c.t.c, .slice c.s.A c.s.n c.s.c, .slice c.f.A c.f.n c.f.c, .slice c.d.A c.d.n c.d.c, .slice c.m.A c.m.n c.m.c, .slice c.p.A c.p.n c.p.c, .slice c.y.A c.y.n c.y.c, .int .i64 c.al]] W fun e w' => (∃ A cc, e = .returned (.slice A c.p.n cc) ∧ ReadsInt w' .i64 A c.p.n (starts c c.p.n)) ∧ Below W.heap.size W w' := by
  have HF := Aside0.mk h; clear h
  have HG := Aside0.mk hg; clear hg
  have HB0 := Aside0.mk (below_alloc (Below.refl W.heap.size W) (.cells c.vals 58))
  go_enter Try.func37, Try.ntmps37
  go_wp2
  go_loopw [12, 4, 3, 6, 7, 8] (fun i z r _ _ _ w' => ∃ k : Nat, k ≤ c.p.n ∧ i = .int .i64 k ∧ z = .int .i64 (atP c.blk c.siz k) ∧ Aside0 (Below W.heap.size W w' ∧ w'.ownsRow W.heap.size 3 1 r k (nums .i64 (starts c k)))) (fun i _ _ _ _ _ _ => c.p.n - (intOf i).toNat)
  case atStart => exact ⟨0, Nat.zero_le _, rfl, rfl, HB0.out, own_nil _ _ _ _⟩
  case round =>
    obtain ⟨k, hk, rfl, rfl, HBO⟩ := hrel
    have HB := Aside0.mk HBO.out.1
    have HO := Aside0.mk HBO.out.2
    clear HBO
    by_cases hlt : k < c.p.n
    · obtain ⟨B, O, hA, hc⟩ := (HF.out.p.below HB.out) (by omega)
      have x0 : wr.cell? ⟨B, O + k * 3, none⟩ = some _ := hc k hlt 0 _ rfl
      have x1 := hc k hlt 1 _ rfl
      have x2 := hc k hlt 2 _ rfl
      have h8 := HG.out.n8
      obtain ⟨a0, a1, a2⟩ := HG.out.at_ k hk
      have HN := Aside0.mk (fun w => next_calls (c.pb k) (atP c.blk c.siz k) (c.blk k) (c.siz k) a0 a1 a2 w)
      clear hc
      rw [hA]
      go_wp2_with fail
      refine (HN.out _).mono ?_
      rintro e w2 ⟨rfl, hbe⟩
      have b1 := below_alloc HB.out (.cells #[.bool (c.pb k), .int .i64 (c.blk k), .int .i64 (c.siz k)] 81)
      have HB2 := Aside0.mk (below_up b1 hbe b1.size)
      have HO2 := Aside0.mk (own_move (HO.out.alloc (.cells #[.bool (c.pb k), .int .i64 (c.blk k), .int .i64 (c.siz k)] 81)) (fun j hj => hbe.block j (own_lt (HO.out.alloc (.cells #[.bool (c.pb k), .int .i64 (c.blk k), .int .i64 (c.siz k)] 81)) j hj)))
      have HSL := Aside0.mk (starts_len c k)
      clear b1 hbe
      go_wp2_with (at_builtin; refine print_append_num W.heap.size rfl _ _ 28 3 .i64 8 rfl Try.underlying28 info3 (by decide) _ (starts c k) _ rfl rfl (by rw [HSL.out]; exact HO2.out) HB2.out HB2.out.size (by rw [HSL.out]; omega) ?_; intro v3 w3 hown3 hb3 _ _; have HB3 := Aside0.mk hb3; have HO3 := Aside0.mk hown3; clear hb3 hown3)
      go_roundw
      case rel => exact ⟨k + 1, by omega, by go_num, rfl, HB3.out, by have := HO3.out; rw [← starts_succ, starts_len] at this; exact this⟩
      case measure => simp [intOf]; omega
    · obtain rfl : k = c.p.n := by omega
      go_wp2
      go_ret
      obtain ⟨A, cc, e, hrd⟩ := own_reads HO.out
      exact ⟨⟨A, cc, congrArg Ending.returned e, hrd⟩, HB.out⟩
end Go.Proofs.Yteiepbjajennkaa.ConfHand
