/- Links of any messages: New that refuses, Waiting, Ahead, Next. -/
import Derived.Test.YtbkpgkkfkjlnnaaLgS
set_option linter.unusedVariables false
set_option linter.unusedSimpArgs false
namespace Go.Proofs.Ytbkpgkkfkjlnnaa.G
open Go.RowKit Go.Proofs.YtbkpgkkfkjlnnaaW.PrintWords Go.Proofs.YtbkpgkkfkjlnnaaW.PrintLast Go.Proofs.Ytbkpgkkfkjlnnaa.K Go.Proofs.Ytbkpgkkfkjlnnaa.Row Go.Proofs.Ytbkpgkkfkjlnnaa

theorem new_bad (own peer view : Int) (w : World) (h : ¬ ((0 ≤ own ∧ own < 16) ∧ (0 ≤ peer ∧ peer < 16) ∧ own ≠ peer)) : Calls Try.prog 9 #[.int .i64 own, .int .i64 peer, .int .u32 view] w fun e w' => e = .returned (.tuple #[.pointer none, .int .i64 1]) ∧ w = w' := by
  have HA := Lib.hid (lworker_walk own w); have HB := Lib.hid (lworker_walk peer w)
  by_cases h1 : 0 ≤ own ∧ own < 16
  · rw [decide_eq_true h1] at HA
    by_cases h2 : 0 ≤ peer ∧ peer < 16
    · rw [decide_eq_true h2] at HB
      have h3 : own = peer := Classical.byContradiction fun h3 => h ⟨h1, h2, h3⟩
      subst h3
      clear h h1 h2
      go_enter Try.func9, Try.ntmps9
      go_wp2_with fail
      refine HA.out.mono ?_
      rintro e w' ⟨rfl, rfl⟩
      go_wp2_with fail
      refine HB.out.mono ?_
      rintro e w' ⟨rfl, rfl⟩
      go_wp2_with fail
      go_ret2
      exact ⟨rfl, rfl⟩
    · rw [decide_eq_false h2] at HB
      clear h h1 h2
      go_enter Try.func9, Try.ntmps9
      go_wp2_with fail
      refine HA.out.mono ?_
      rintro e w' ⟨rfl, rfl⟩
      go_wp2_with fail
      refine HB.out.mono ?_
      rintro e w' ⟨rfl, rfl⟩
      go_wp2_with fail
      go_ret2
      exact ⟨rfl, rfl⟩
  · rw [decide_eq_false h1] at HA
    clear h h1
    go_enter Try.func9, Try.ntmps9
    go_wp2_with fail
    refine HA.out.mono ?_
    rintro e w' ⟨rfl, rfl⟩
    go_wp2_with fail
    go_ret2
    exact ⟨rfl, rfl⟩
section
variable {w : World} {S : Nat → Prop} {r : Nat} {x : LSt} (h : LkG w S r x)
include h
theorem waiting_any : Calls Try.prog 12 #[.pointer (some ⟨r, 0, none⟩)] w fun e w' => e = .returned (.int .i64 (x.out.length : Int)) ∧ w = w' := by
  obtain ⟨A, c, B, d, h1, _, _⟩ := h.cl
  exact waiting_walk w r _ _ _ _ A x.out.length c _ _ _ _ h1
theorem next_any : Calls Try.prog 15 #[.pointer (some ⟨r, 0, none⟩)] w fun e w' => e = .returned (.int .u32 x.next) ∧ w = w' := by
  obtain ⟨A, c, B, d, h1, _, _⟩ := h.cl
  exact next_walk w r _ _ _ _ _ _ _ _ _ h1
theorem ahead_any : Calls Try.prog 14 #[.pointer (some ⟨r, 0, none⟩)] w fun e w' => e = .returned (.int .i64 (x.held.length : Int)) ∧ w = w' := by
  obtain ⟨A, c, B, d, h1, _, _⟩ := h.cl
  obtain ⟨hn, hhn⟩ : ∃ hn, hn = x.held.length := ⟨_, rfl⟩
  rw [← hhn] at h1 ⊢
  obtain ⟨c0, c1, c2, c3, c4, c5, c6, c7, c8⟩ := lkC_cells h1
  clear h1 hhn h
  go_enter Try.func14, Try.ntmps14
  go_wp2
  go_ret
  exact ⟨rfl, rfl⟩
end
end Go.Proofs.Ytbkpgkkfkjlnnaa.G
