/- Walks of the laws of bucket: same, awake. -/
import Derived.Test.YthnmeolbpgmebaaBucketA
import Derived.Deep.QuietTactic
import Derived.BigQuiet
set_option linter.unusedVariables false
set_option linter.unusedSimpArgs false
namespace Go.Proofs.Ythnmeolbpgmebaa
open Go.RowKit Go.Proofs.YthnmeolbpgmebaaW.PrintWords Go.Proofs.Ythnmeolbpgmebaa.K

set_option maxHeartbeats 1000000 in
theorem same_walk (A B : Option Addr) (n c c' : Nat) (l : List (Int × Int)) (w : World) (hA : PairsAt w A n l) (hB : PairsAt w B n l)
    (hE : ∀ i, i < n → ∀ w : World, (binOp .neq 32 (.agg #[.int .i64 (l.getD i (0, 0)).1, .int .i64 (l.getD i (0, 0)).2]) (.agg #[.int .i64 (l.getD i (0, 0)).1, .int .i64 (l.getD i (0, 0)).2])).run Try.prog w = .ok (.bool false) w) :
    Calls Try.prog 10 #[.slice A n c, .slice B n c'] w fun e w' => e = .returned (.bool true) ∧ ∃ m, w' = w.drewN m := by
  have HA := Lib.hid hA; have HB := Lib.hid hB; have HE := Lib.hid hE
  have hm := hA.2.1
  clear hA hB hE
  go_enter Try.func10, Try.ntmps10
  go_wp2
  go_loopw [5] (fun i wr => ∃ k : Nat, k ≤ n ∧ i = .int .i64 k ∧ Aside0 (∃ m, wr = w.drewN m)) (fun i _ => n - (intOf i).toNat)
  case atStart => exact ⟨0, Nat.zero_le _, rfl, ⟨⟨0, rfl⟩⟩⟩
  case round =>
    obtain ⟨k, hk, rfl, HK⟩ := hrel
    by_cases hlt : k < n
    · have he := HE.out k hlt
      obtain ⟨ad, rfl, c0, c1⟩ := HA.out.2.2 k hlt
      obtain ⟨bd, rfl, d0, d1⟩ := HB.out.2.2 k hlt
      have c0' : wr.cell? ⟨ad, k * 2, none⟩ = some (.int .i64 (l.getD k (0, 0)).1) := by obtain ⟨m, rfl⟩ := HK.out; exact c0
      have c1' : wr.cell? ⟨ad, k * 2 + 1, none⟩ = some (.int .i64 (l.getD k (0, 0)).2) := by obtain ⟨m, rfl⟩ := HK.out; exact c1
      have d0' : wr.cell? ⟨bd, k * 2, none⟩ = some (.int .i64 (l.getD k (0, 0)).1) := by obtain ⟨m, rfl⟩ := HK.out; exact d0
      have d1' : wr.cell? ⟨bd, k * 2 + 1, none⟩ = some (.int .i64 (l.getD k (0, 0)).2) := by obtain ⟨m, rfl⟩ := HK.out; exact d1
      clear c0 c1 d0 d1
      generalize (l.getD k (0, 0)).1 = p at he c0' c1' d0' d1'
      generalize (l.getD k (0, 0)).2 = q at he c0' c1' d0' d1'
      go_wp2
      go_quiet (fail)
      go_wp2
      go_roundw
      case rel => exact ⟨k + 1, by omega, by go_num, ⟨by obtain ⟨m, rfl⟩ := HK.out; exact ⟨_, World.drewN_drewN ..⟩⟩⟩
      case measure => simp [intOf]; omega
    · go_wp2
      go_ret
      exact ⟨rfl, HK.out⟩
theorem below_drewN {w w' : World} (h : ∃ m, w' = w.drewN m) : Below w.heap.size w w' := by
  obtain ⟨m, rfl⟩ := h
  exact pw_below_drewN (Below.refl _ _) m
theorem eq_03 (w : World) : (binOp .neq 32 (.agg #[.int .i64 0, .int .i64 3]) (.agg #[.int .i64 0, .int .i64 3])).run Try.prog w = .ok (.bool false) w := by kernel_rfl
theorem eq_35 (w : World) : (binOp .neq 32 (.agg #[.int .i64 3, .int .i64 5]) (.agg #[.int .i64 3, .int .i64 5])).run Try.prog w = .ok (.bool false) w := by kernel_rfl
set_option maxHeartbeats 1000000 in
theorem awake_walk (w : World) : Calls Try.prog 6 #[] w fun e w' => e = .returned (.bool true) ∧ Below w.heap.size w w' := by
  have C := chunks_ok 5 2 w (by decide) (by decide) (by decide)
  rw [show chunkL 5 2 2 = [(0, 3), (3, 5)] by decide] at C
  have HC := Lib.hid C; clear C
  go_enter Try.func6, Try.ntmps6
  go_wp2_with fail
  refine HC.out.mono ?_
  rintro e w1 ⟨A, c, rfl, hown, hb⟩
  have HO := Lib.hid (pairs_own hown (by decide)).2; clear hown
  go_wp2_with fail
  refine (sends_hi 0 3 2 w1 ⟨by decide, by decide, by decide, by decide, by decide, by decide⟩ (by decide)).mono ?_
  rintro e w2 ⟨rfl, rfl⟩
  go_wp2_with fail
  refine (same_walk A _ 2 c _ [(0, 3), (3, 5)] _ (HO.out.below ((Below.refl _ _).alloc (Nat.le_refl _) _)) (pairs_lit w1 [(0, 3), (3, 5)] 32 (0, 0) 2 rfl (by decide)) ?_).mono ?_
  · intro i hi
    match i, hi with
    | 0, _ => exact eq_03
    | 1, _ => exact eq_35
  rintro e w3 ⟨rfl, hd⟩
  have hb3 := below_then (hb.alloc hb.size _) (by simp; have := hb.size; omega) (below_drewN hd)
  clear hd
  go_wp2_with fail
  go_ret
  exact ⟨rfl, hb3⟩
end Go.Proofs.Ythnmeolbpgmebaa
