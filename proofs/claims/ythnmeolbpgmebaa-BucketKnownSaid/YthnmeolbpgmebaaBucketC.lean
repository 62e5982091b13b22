/- The walk of BucketKnown. -/
import Derived.Test.YthnmeolbpgmebaaBucketB
set_option linter.unusedVariables false
set_option linter.unusedSimpArgs false
namespace Go.Proofs.Ythnmeolbpgmebaa
open Go.RowKit Go.Proofs.YthnmeolbpgmebaaW.PrintWords Go.Proofs.Ythnmeolbpgmebaa.K

theorem many_52 {k : Nat} (h : Many 5 2 k) : k = 3 := by
  have h1 := h.1
  by_cases h3 : 3 < k
  · have := h.2 3 h3; omega
  · omega
theorem many_02 {k : Nat} (h : Many 0 2 k) : k = 0 := by
  by_cases h3 : 0 < k
  · have := h.2 0 h3; omega
  · omega
theorem eq_02 (w : World) : (binOp .neq 32 (.agg #[.int .i64 0, .int .i64 2]) (.agg #[.int .i64 0, .int .i64 2])).run Try.prog w = .ok (.bool false) w := by kernel_rfl
theorem eq_24 (w : World) : (binOp .neq 32 (.agg #[.int .i64 2, .int .i64 4]) (.agg #[.int .i64 2, .int .i64 4])).run Try.prog w = .ok (.bool false) w := by kernel_rfl
theorem eq_45 (w : World) : (binOp .neq 32 (.agg #[.int .i64 4, .int .i64 5]) (.agg #[.int .i64 4, .int .i64 5])).run Try.prog w = .ok (.bool false) w := by kernel_rfl
set_option maxHeartbeats 2000000 in
theorem known_walk (w : World) : Calls Try.prog 4 #[] w fun e w' => e = .returned (.bool true) ∧ Below w.heap.size w w' := by
  go_enter Try.func4, Try.ntmps4
  go_wp2_with fail
  refine (awake_walk w).mono ?_
  rintro e w1 ⟨rfl, hb⟩
  go_wp2_with fail
  refine (buckets_bad (-1) 1 w1 (.inl (by decide))).mono ?_
  rintro e w' ⟨rfl, rfl⟩
  go_wp2_with fail
  refine (buckets_bad 4098 1 w1 (.inr (.inl (by decide)))).mono ?_
  rintro e w' ⟨rfl, rfl⟩
  go_wp2_with fail
  refine (buckets_bad 5 401 w1 (.inr (.inr (.inr (by decide))))).mono ?_
  rintro e w' ⟨rfl, rfl⟩
  have C := buckets_ok 5 2 w1 (by decide) (by decide) (by decide)
  have HC := Lib.hid (C.mono (R' := Pairs w1 [(0, 2), (2, 4), (4, 5)]) (fun e w' h => by
    obtain ⟨k, hk, h⟩ := h
    obtain rfl := many_52 hk
    exact h))
  clear C
  go_wp2_with fail
  refine HC.out.mono ?_
  rintro e w2 ⟨A, c, rfl, hown, hb2⟩
  have HO := Lib.hid (pairs_own hown (by decide)).2; clear hown HC
  have hb2 := below_then hb hb.size hb2
  have C := buckets_ok 0 2 w2 (by decide) (by decide) (by decide)
  have HC := Lib.hid (C.mono (R' := Pairs w2 []) (fun e w' h => by
    obtain ⟨k, hk, h⟩ := h
    obtain rfl := many_02 hk
    exact h))
  clear C
  go_wp2_with fail
  refine HC.out.mono ?_
  rintro e w3 ⟨A3, c3, rfl, hown, hb3⟩
  have HO3 := Lib.hid (HO.out.below hb3)
  have hb3 := below_then hb2 hb2.size hb3
  clear hown HC
  go_wp2_with fail
  refine (chunks_bad 401 2 w3 (.inr (.inl (by decide)))).mono ?_
  rintro e w' ⟨rfl, rfl⟩
  go_wp2_with fail
  refine (chunks_bad 4 17 w3 (.inr (.inr (.inr (by decide))))).mono ?_
  rintro e w' ⟨rfl, rfl⟩
  go_wp2_with fail
  refine (sends_bad 0 1 0 w3 (by decide) (by decide) (by unfold SendsOk; decide)).mono ?_
  rintro e w' ⟨rfl, rfl⟩
  go_wp2_with fail
  refine (sends_bad 0 3 4 w3 (by decide) (by decide) (by unfold SendsOk; decide)).mono ?_
  rintro e w' ⟨rfl, rfl⟩
  go_wp2_with fail
  refine (sends_bad 3 3 0 w3 (by decide) (by decide) (by unfold SendsOk; decide)).mono ?_
  rintro e w' ⟨rfl, rfl⟩
  go_wp2_with fail
  refine (same_walk A _ 3 c _ [(0, 2), (2, 4), (4, 5)] _ (HO3.out.below ((Below.refl _ _).alloc (Nat.le_refl _) _)) (pairs_lit w3 [(0, 2), (2, 4), (4, 5)] 32 (0, 0) 3 rfl (by decide)) ?_).mono ?_
  · intro i hi
    match i, hi with
    | 0, _ => exact eq_02
    | 1, _ => exact eq_24
    | 2, _ => exact eq_45
  rintro e w4 ⟨rfl, hd⟩
  have hb4 := below_then (hb3.alloc hb3.size _) (by simp; have := hb3.size; omega) (below_drewN hd)
  clear hd
  go_wp2_with fail
  go_ret
  exact ⟨rfl, hb4⟩
end Go.Proofs.Ythnmeolbpgmebaa
