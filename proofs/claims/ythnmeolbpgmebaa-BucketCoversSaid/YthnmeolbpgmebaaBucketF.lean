/- The walk of BucketCovers' law. -/
import Derived.Test.YthnmeolbpgmebaaBucketE
set_option linter.unusedVariables false
set_option linter.unusedSimpArgs false
namespace Go.Proofs.Ythnmeolbpgmebaa
open Go.RowKit Go.Proofs.YthnmeolbpgmebaaW.PrintWords Go.Proofs.Ythnmeolbpgmebaa.K

/-- A row of buckets, as the law asks for it. -/
def RowA (w : World) (A : Option Addr) (na : Nat) (size : Int) (f : Nat → Nat) : Prop := ∀ i, i < na → ∃ ad, A = some ⟨ad, 0, none⟩ ∧ w.cell? ⟨ad, i * 2, none⟩ = some (.int .i64 (f i)) ∧ w.cell? ⟨ad, i * 2 + 1, none⟩ = some (.int .i64 (f (i + 1))) ∧ f (i + 1) ≤ 4097 ∧ f i < f (i + 1) ∧ (f (i + 1) : Int) ≤ f i + size
/-- A row of chunks, as the law asks for it. -/
def RowC (w : World) (A : Option Addr) (na : Nat) (long n : Int) (f : Nat → Nat) : Prop := ∀ i, i < na → ∃ ad, A = some ⟨ad, 0, none⟩ ∧ w.cell? ⟨ad, i * 2, none⟩ = some (.int .i64 (f i)) ∧ w.cell? ⟨ad, i * 2 + 1, none⟩ = some (.int .i64 (f (i + 1))) ∧ f (i + 1) ≤ 400 ∧ f i ≤ f (i + 1) ∧ (f i : Int) + long / n ≤ f (i + 1) ∧ (f (i + 1) : Int) ≤ f i + long / n + 1 ∧ 0 ≤ long / n ∧ long / n ≤ 400 ∧ 0 ≤ long ∧ long ≤ 400 ∧ 1 ≤ n ∧ n ≤ 16 ∧ (0 < i → w.cell? ⟨ad, (i - 1) * 2, none⟩ = some (.int .i64 (f (i - 1))) ∧ w.cell? ⟨ad, (i - 1) * 2 + 1, none⟩ = some (.int .i64 (f i)) ∧ f (i - 1) ≤ f i ∧ f (i + 1) + f (i - 1) ≤ f i + f i)
theorem RowA.below {w w1 : World} {A : Option Addr} {n : Nat} {s : Int} {f : Nat → Nat} (h : RowA w A n s f) (hb : Below w.heap.size w w1) : RowA w1 A n s f := fun i hi => by
  obtain ⟨ad, e, h1, h2, h3⟩ := h i hi
  exact ⟨ad, e, pw_cell_below hb h1, pw_cell_below hb h2, h3⟩
theorem buckets_any (total size : Int) (w : World) : Calls Try.prog 8 #[.int .i64 total, .int .i64 size] w fun e w' => Below w.heap.size w w' ∧ ∃ A c na f, na ≤ 5000 ∧ f 0 = 0 ∧ RowA w' A na size f ∧ (e = .returned (.tuple #[.slice A na c, .int .i64 0]) ∧ (f na : Int) ≤ total ∧ total ≤ f na ∨ e = .returned (.tuple #[.slice A na c, .int .i64 1])) := by
  by_cases h : 0 ≤ total ∧ total ≤ 4097 ∧ 1 ≤ size ∧ size ≤ 400
  · obtain ⟨h1, h2, h3, h4⟩ := h
    obtain ⟨t, rfl⟩ := Int.eq_ofNat_of_zero_le h1
    obtain ⟨s, rfl⟩ := Int.eq_ofNat_of_zero_le (show 0 ≤ size by omega)
    refine (buckets_ok t s w (by omega) (by omega) (by omega)).mono ?_
    rintro e w1 ⟨k, hm, A, c, rfl, hown, hb⟩
    obtain ⟨f, f0, fk, hk, hf⟩ := bucket_row t s k hm (by omega)
    rw [bucketL_len] at hown
    have hp := (pairs_own hown (by omega)).2
    refine ⟨hb, A, c, k, f, by omega, f0, fun i hi => ?_, .inl ⟨by rw [bucketL_len], by omega, by omega⟩⟩
    obtain ⟨ad, e, c0, c1⟩ := hp.2.2 i hi
    obtain ⟨g1, g2, g3, g4⟩ := hf i hi
    rw [g1] at c0 c1
    exact ⟨ad, e, c0, c1, by omega, g3, by omega⟩
  · refine (buckets_bad total size w (by omega)).mono ?_
    rintro e w1 ⟨rfl, rfl⟩
    exact ⟨Below.refl _ _, none, 0, 0, fun _ => 0, by omega, rfl, fun i hi => absurd hi (Nat.not_lt_zero _), .inr rfl⟩
theorem chunks_any (long n : Int) (w : World) : Calls Try.prog 9 #[.int .i64 long, .int .i64 n] w fun e w' => Below w.heap.size w w' ∧ ∃ A c na f, na ≤ 5000 ∧ f 0 = 0 ∧ RowC w' A na long n f ∧ (e = .returned (.tuple #[.slice A na c, .int .i64 0]) ∧ ((f na : Int) ≤ long ∧ long ≤ f na) ∧ ((na : Int) ≤ n ∧ n ≤ na) ∨ e = .returned (.tuple #[.slice A na c, .int .i64 1])) := by
  by_cases h : 0 ≤ long ∧ long ≤ 400 ∧ 1 ≤ n ∧ n ≤ 16
  · obtain ⟨h1, h2, h3, h4⟩ := h
    obtain ⟨t, rfl⟩ := Int.eq_ofNat_of_zero_le h1
    obtain ⟨s, rfl⟩ := Int.eq_ofNat_of_zero_le (show 0 ≤ n by omega)
    refine (chunks_ok t s w (by omega) (by omega) (by omega)).mono ?_
    rintro e w1 ⟨A, c, rfl, hown, hb⟩
    have hrow := chunk_row t s (by omega)
    have hqc : (t : Int) / (s : Int) = ((t / s : Nat) : Int) := (Int.natCast_ediv _ _).symm
    have hq := Nat.div_le_self t s
    generalize t / s = z at hrow hqc hq
    obtain ⟨f, f0, fk, hf⟩ := hrow
    rw [chunkL_len] at hown
    have hp := (pairs_own hown (by omega)).2
    refine ⟨hb, A, c, s, f, by omega, f0, fun i hi => ?_, .inl ⟨by rw [chunkL_len], ⟨by omega, by omega⟩, by omega, by omega⟩⟩
    obtain ⟨ad, e, c0, c1⟩ := hp.2.2 i hi
    obtain ⟨g1, g2, g3, g4, g5⟩ := hf i hi
    rw [g1] at c0 c1
    refine ⟨ad, e, c0, c1, by omega, by omega, by rw [hqc]; omega, by rw [hqc]; omega, by rw [hqc]; omega, by rw [hqc]; omega, by omega, by omega, by omega, by omega, fun h0 => ?_⟩
    obtain ⟨ad2, e2, d0, d1⟩ := hp.2.2 (i - 1) (by omega)
    obtain ⟨k1, k2, k3, k4, k5⟩ := hf (i - 1) (by omega)
    have hi1 : i - 1 + 1 = i := by omega
    rw [hi1] at k1 k3
    rw [k1] at d0 d1
    rw [e] at e2
    injection e2 with e2
    injection e2 with e2
    subst e2
    exact ⟨d0, d1, by omega, g5 h0⟩
  · refine (chunks_bad long n w (by omega)).mono ?_
    rintro e w1 ⟨rfl, rfl⟩
    exact ⟨Below.refl _ _, none, 0, 0, fun _ => 0, by omega, rfl, fun i hi => absurd hi (Nat.not_lt_zero _), .inr rfl⟩
set_option maxRecDepth 100000 in
set_option maxHeartbeats 40000000 in
theorem covers_walk (W : World) (total : Int) (wt : (Lit.int .i64 total).wf = true) (size : Int) (ws : (Lit.int .i64 size).wf = true) (long : Int) (wl : (Lit.int .i64 long).wf = true) (n : Int) (wn : (Lit.int .i64 n).wf = true) :
    Calls Try.prog 5 #[.int .i64 total, .int .i64 size, .int .i64 long, .int .i64 n] W fun e w' => e = .returned (.bool true) ∧ Below W.heap.size W w' := by
  clear wt ws wl wn
  go_enter Try.func5, Try.ntmps5
  go_wp2_with fail
  refine (awake_walk W).mono ?_
  rintro e w1 ⟨rfl, hb⟩
  go_wp2_with fail
  refine (buckets_any total size w1).mono ?_
  rintro e w2 ⟨hb2, A, c, na, f, hna, f0, hR, h⟩
  have hb2 := below_then hb hb.size hb2
  rcases h with ⟨rfl, ht1, ht2⟩ | rfl
  · skip
    go_wp2_with fail
    refine (chunks_any long n w2).mono ?_
    rintro e w3 ⟨hb3, C, d, nc, g, hnc, g0, hC, h⟩
    have HR := Lib.hid (hR.below hb3)
    have HC := Lib.hid hC
    have HB := Lib.hid (below_then hb2 hb2.size hb3)
    clear hR hC hb hb2 hb3
    rcases h with ⟨rfl, ⟨hg1, hg2⟩, hn1, hn2⟩ | rfl
    · skip
      have hG : Aside0 (f 0 = 0 ∧ g 0 = 0) := ⟨f0, g0⟩
      clear f0 g0
      go_wp2_with fail
      go_loopw [13, 14] (fun a i wr => ∃ k : Nat, k ≤ na ∧ i = .int .i64 k ∧ a = .int .i64 (f k : Nat) ∧ Aside0 (∃ m, wr = w3.drewN m)) (fun _ i _ => na - (intOf i).toNat)
      case atStart => exact ⟨0, Nat.zero_le _, rfl, by rw [hG.out.1]; rfl, ⟨0, rfl⟩⟩
      case round =>
        obtain ⟨k, hk, rfl, rfl, HK⟩ := hrel
        by_cases hlt : k < na
        · obtain ⟨ad, rfl, c0, c1, h1, h2, h3⟩ := HR.out k hlt
          have c0' : wr.cell? ⟨ad, k * 2, none⟩ = some (.int .i64 (f k)) := by obtain ⟨m, rfl⟩ := HK.out; exact c0
          have c1' : wr.cell? ⟨ad, k * 2 + 1, none⟩ = some (.int .i64 (f (k + 1))) := by obtain ⟨m, rfl⟩ := HK.out; exact c1
          clear c0 c1
          obtain ⟨q, hq⟩ : ∃ q, q = f (k + 1) := ⟨_, rfl⟩
          rw [← hq] at c1' h1 h2 h3
          have HQ := Lib.hid hq
          clear hq
          go_wp2
          go_roundw
          case rel => exact ⟨k + 1, by omega, by go_num, by rw [← HQ.out], HK⟩
          case measure => simp [intOf]; omega
        · obtain rfl : k = na := by omega
          obtain ⟨m1, hm1⟩ := HK.out
          have HM1 := Lib.hid hm1
          clear hm1
          go_wp2_with fail
          go_loopw [13, 15, 16] (fun a i x wr => ∃ j : Nat, j ≤ nc ∧ i = .int .i64 j ∧ a = .int .i64 (g j : Nat) ∧ Aside0 (∃ m, wr = w3.drewN m)) (fun _ i _ _ => nc - (intOf i).toNat)
          case atStart => exact ⟨0, Nat.zero_le _, rfl, by rw [hG.out.2]; rfl, HK⟩
          case round =>
            obtain ⟨j, hj, rfl, rfl, HJ⟩ := hrel
            by_cases hlt : j < nc
            · obtain ⟨ad, rfl, c0, c1, h1, h2, h3, h4, h5, h6, h7, h8, h9, h10, h11⟩ := HC.out j hlt
              obtain ⟨z, hz⟩ := Int.eq_ofNat_of_zero_le h5
              rw [hz] at h3 h4 h5 h6
              have c0' : wr.cell? ⟨ad, j * 2, none⟩ = some (.int .i64 (g j)) := by obtain ⟨m, rfl⟩ := HJ.out; exact c0
              have c1' : wr.cell? ⟨ad, j * 2 + 1, none⟩ = some (.int .i64 (g (j + 1))) := by obtain ⟨m, rfl⟩ := HJ.out; exact c1
              clear c0 c1
              obtain ⟨q, hq⟩ : ∃ q, q = g (j + 1) := ⟨_, rfl⟩
              have HQ := Lib.hid hq
              by_cases hj0 : 0 < j
              · obtain ⟨d0, d1, d2, d3⟩ := h11 hj0
                have d0' : wr.cell? ⟨ad, (j - 1) * 2, none⟩ = some (.int .i64 (g (j - 1))) := by obtain ⟨m, rfl⟩ := HJ.out; exact d0
                have d1' : wr.cell? ⟨ad, (j - 1) * 2 + 1, none⟩ = some (.int .i64 (g j)) := by obtain ⟨m, rfl⟩ := HJ.out; exact d1
                rw [← hq] at c1' h1 h2 h3 h4 d3
                obtain ⟨p, hp⟩ : ∃ p, p = g (j - 1) := ⟨_, rfl⟩
                rw [← hp] at d0' d2 d3
                clear d0 d1 hp h11 hq
                have e1 : IntKind.i64.wrap ((j : Int) - 1) = (j : Int) - 1 := by rw [IntKind.wrap_i64]; omega
                have e2 : ((j : Int) - 1).toNat = j - 1 := by omega
                go_wp2_with fail
                go_quiet (fail)
                go_wp2_with fail
                have e4 : ¬ ((q : Int) - (g j : Int) < (z : Int)) := by omega
                have e5 : ¬ ((z : Int) + 1 < (q : Int) - (g j : Int)) := by omega
                have e6 : ¬ ((g j : Int) - (p : Int) < (q : Int) - (g j : Int)) := by omega
                have e7 : (0 : Int) < (j : Int) := by omega
                go_quiet (fail)
                clear e4 e5 e6 e7
                go_wp2
                go_roundw
                case rel => exact ⟨j + 1, by omega, by go_num, by rw [← HQ.out], by obtain ⟨m, rfl⟩ := HJ.out; first | exact ⟨_, by rw [World.drewN_drewN]⟩ | exact ⟨_, by rw [World.drewN_drewN, World.drewN_drewN]⟩ | exact ⟨_, World.drewN_drewN ..⟩⟩
                case measure => simp [intOf]; omega
              · rw [← hq] at c1' h1 h2 h3 h4
                clear h11 hq
                go_wp2_with fail
                go_quiet (fail)
                go_wp2_with fail
                have e4 : ¬ ((q : Int) - (g j : Int) < (z : Int)) := by omega
                have e5 : ¬ ((z : Int) + 1 < (q : Int) - (g j : Int)) := by omega
                have e7 : ¬ ((0 : Int) < (j : Int)) := by omega
                go_quiet (fail)
                clear e4 e5 e7
                go_wp2
                go_roundw
                case rel => exact ⟨j + 1, by omega, by go_num, by rw [← HQ.out], by obtain ⟨m, rfl⟩ := HJ.out; first | exact ⟨_, by rw [World.drewN_drewN]⟩ | exact ⟨_, by rw [World.drewN_drewN, World.drewN_drewN]⟩ | exact ⟨_, World.drewN_drewN ..⟩⟩
                case measure => simp [intOf]; omega
            · obtain rfl : j = nc := by omega
              obtain rfl : n = (j : Int) := by omega
              go_wp2
              go_ret
              refine ⟨rfl, ?_⟩
              obtain ⟨m, rfl⟩ := HJ.out
              exact pw_below_drewN HB.out m
    · skip
      have hG : Aside0 (f 0 = 0 ∧ g 0 = 0) := ⟨f0, g0⟩
      clear f0 g0
      go_wp2_with fail
      go_loopw [13, 14] (fun a i wr => ∃ k : Nat, k ≤ na ∧ i = .int .i64 k ∧ a = .int .i64 (f k : Nat) ∧ Aside0 (∃ m, wr = w3.drewN m)) (fun _ i _ => na - (intOf i).toNat)
      case atStart => exact ⟨0, Nat.zero_le _, rfl, by rw [hG.out.1]; rfl, ⟨0, rfl⟩⟩
      case round =>
        obtain ⟨k, hk, rfl, rfl, HK⟩ := hrel
        by_cases hlt : k < na
        · obtain ⟨ad, rfl, c0, c1, h1, h2, h3⟩ := HR.out k hlt
          have c0' : wr.cell? ⟨ad, k * 2, none⟩ = some (.int .i64 (f k)) := by obtain ⟨m, rfl⟩ := HK.out; exact c0
          have c1' : wr.cell? ⟨ad, k * 2 + 1, none⟩ = some (.int .i64 (f (k + 1))) := by obtain ⟨m, rfl⟩ := HK.out; exact c1
          clear c0 c1
          obtain ⟨q, hq⟩ : ∃ q, q = f (k + 1) := ⟨_, rfl⟩
          rw [← hq] at c1' h1 h2 h3
          have HQ := Lib.hid hq
          clear hq
          go_wp2
          go_roundw
          case rel => exact ⟨k + 1, by omega, by go_num, by rw [← HQ.out], HK⟩
          case measure => simp [intOf]; omega
        · obtain rfl : k = na := by omega
          obtain ⟨m1, hm1⟩ := HK.out
          have HM1 := Lib.hid hm1
          clear hm1
          go_wp2_with fail
          go_loopw [13, 15, 16] (fun a i x wr => ∃ j : Nat, j ≤ nc ∧ i = .int .i64 j ∧ a = .int .i64 (g j : Nat) ∧ Aside0 (∃ m, wr = w3.drewN m)) (fun _ i _ _ => nc - (intOf i).toNat)
          case atStart => exact ⟨0, Nat.zero_le _, rfl, by rw [hG.out.2]; rfl, HK⟩
          case round =>
            obtain ⟨j, hj, rfl, rfl, HJ⟩ := hrel
            by_cases hlt : j < nc
            · obtain ⟨ad, rfl, c0, c1, h1, h2, h3, h4, h5, h6, h7, h8, h9, h10, h11⟩ := HC.out j hlt
              obtain ⟨z, hz⟩ := Int.eq_ofNat_of_zero_le h5
              rw [hz] at h3 h4 h5 h6
              have c0' : wr.cell? ⟨ad, j * 2, none⟩ = some (.int .i64 (g j)) := by obtain ⟨m, rfl⟩ := HJ.out; exact c0
              have c1' : wr.cell? ⟨ad, j * 2 + 1, none⟩ = some (.int .i64 (g (j + 1))) := by obtain ⟨m, rfl⟩ := HJ.out; exact c1
              clear c0 c1
              obtain ⟨q, hq⟩ : ∃ q, q = g (j + 1) := ⟨_, rfl⟩
              have HQ := Lib.hid hq
              by_cases hj0 : 0 < j
              · obtain ⟨d0, d1, d2, d3⟩ := h11 hj0
                have d0' : wr.cell? ⟨ad, (j - 1) * 2, none⟩ = some (.int .i64 (g (j - 1))) := by obtain ⟨m, rfl⟩ := HJ.out; exact d0
                have d1' : wr.cell? ⟨ad, (j - 1) * 2 + 1, none⟩ = some (.int .i64 (g j)) := by obtain ⟨m, rfl⟩ := HJ.out; exact d1
                rw [← hq] at c1' h1 h2 h3 h4 d3
                obtain ⟨p, hp⟩ : ∃ p, p = g (j - 1) := ⟨_, rfl⟩
                rw [← hp] at d0' d2 d3
                clear d0 d1 hp h11 hq
                have e1 : IntKind.i64.wrap ((j : Int) - 1) = (j : Int) - 1 := by rw [IntKind.wrap_i64]; omega
                have e2 : ((j : Int) - 1).toNat = j - 1 := by omega
                go_wp2_with fail
                go_quiet (fail)
                go_wp2_with fail
                have e4 : ¬ ((q : Int) - (g j : Int) < (z : Int)) := by omega
                have e5 : ¬ ((z : Int) + 1 < (q : Int) - (g j : Int)) := by omega
                have e6 : ¬ ((g j : Int) - (p : Int) < (q : Int) - (g j : Int)) := by omega
                have e7 : (0 : Int) < (j : Int) := by omega
                go_quiet (fail)
                clear e4 e5 e6 e7
                go_wp2
                go_roundw
                case rel => exact ⟨j + 1, by omega, by go_num, by rw [← HQ.out], by obtain ⟨m, rfl⟩ := HJ.out; first | exact ⟨_, by rw [World.drewN_drewN]⟩ | exact ⟨_, by rw [World.drewN_drewN, World.drewN_drewN]⟩ | exact ⟨_, World.drewN_drewN ..⟩⟩
                case measure => simp [intOf]; omega
              · rw [← hq] at c1' h1 h2 h3 h4
                clear h11 hq
                go_wp2_with fail
                go_quiet (fail)
                go_wp2_with fail
                have e4 : ¬ ((q : Int) - (g j : Int) < (z : Int)) := by omega
                have e5 : ¬ ((z : Int) + 1 < (q : Int) - (g j : Int)) := by omega
                have e7 : ¬ ((0 : Int) < (j : Int)) := by omega
                go_quiet (fail)
                clear e4 e5 e7
                go_wp2
                go_roundw
                case rel => exact ⟨j + 1, by omega, by go_num, by rw [← HQ.out], by obtain ⟨m, rfl⟩ := HJ.out; first | exact ⟨_, by rw [World.drewN_drewN]⟩ | exact ⟨_, by rw [World.drewN_drewN, World.drewN_drewN]⟩ | exact ⟨_, World.drewN_drewN ..⟩⟩
                case measure => simp [intOf]; omega
            · obtain rfl : j = nc := by omega
              go_wp2
              go_ret
              refine ⟨rfl, ?_⟩
              obtain ⟨m, rfl⟩ := HJ.out
              exact pw_below_drewN HB.out m
  · skip
    go_wp2_with fail
    refine (chunks_any long n w2).mono ?_
    rintro e w3 ⟨hb3, C, d, nc, g, hnc, g0, hC, h⟩
    have HR := Lib.hid (hR.below hb3)
    have HC := Lib.hid hC
    have HB := Lib.hid (below_then hb2 hb2.size hb3)
    clear hR hC hb hb2 hb3
    rcases h with ⟨rfl, ⟨hg1, hg2⟩, hn1, hn2⟩ | rfl
    · skip
      have hG : Aside0 (f 0 = 0 ∧ g 0 = 0) := ⟨f0, g0⟩
      clear f0 g0
      go_wp2_with fail
      go_loopw [13, 14] (fun a i wr => ∃ k : Nat, k ≤ na ∧ i = .int .i64 k ∧ a = .int .i64 (f k : Nat) ∧ Aside0 (∃ m, wr = w3.drewN m)) (fun _ i _ => na - (intOf i).toNat)
      case atStart => exact ⟨0, Nat.zero_le _, rfl, by rw [hG.out.1]; rfl, ⟨0, rfl⟩⟩
      case round =>
        obtain ⟨k, hk, rfl, rfl, HK⟩ := hrel
        by_cases hlt : k < na
        · obtain ⟨ad, rfl, c0, c1, h1, h2, h3⟩ := HR.out k hlt
          have c0' : wr.cell? ⟨ad, k * 2, none⟩ = some (.int .i64 (f k)) := by obtain ⟨m, rfl⟩ := HK.out; exact c0
          have c1' : wr.cell? ⟨ad, k * 2 + 1, none⟩ = some (.int .i64 (f (k + 1))) := by obtain ⟨m, rfl⟩ := HK.out; exact c1
          clear c0 c1
          obtain ⟨q, hq⟩ : ∃ q, q = f (k + 1) := ⟨_, rfl⟩
          rw [← hq] at c1' h1 h2 h3
          have HQ := Lib.hid hq
          clear hq
          go_wp2
          go_roundw
          case rel => exact ⟨k + 1, by omega, by go_num, by rw [← HQ.out], HK⟩
          case measure => simp [intOf]; omega
        · obtain rfl : k = na := by omega
          obtain ⟨m1, hm1⟩ := HK.out
          have HM1 := Lib.hid hm1
          clear hm1
          go_wp2_with fail
          go_loopw [13, 15, 16] (fun a i x wr => ∃ j : Nat, j ≤ nc ∧ i = .int .i64 j ∧ a = .int .i64 (g j : Nat) ∧ Aside0 (∃ m, wr = w3.drewN m)) (fun _ i _ _ => nc - (intOf i).toNat)
          case atStart => exact ⟨0, Nat.zero_le _, rfl, by rw [hG.out.2]; rfl, HK⟩
          case round =>
            obtain ⟨j, hj, rfl, rfl, HJ⟩ := hrel
            by_cases hlt : j < nc
            · obtain ⟨ad, rfl, c0, c1, h1, h2, h3, h4, h5, h6, h7, h8, h9, h10, h11⟩ := HC.out j hlt
              obtain ⟨z, hz⟩ := Int.eq_ofNat_of_zero_le h5
              rw [hz] at h3 h4 h5 h6
              have c0' : wr.cell? ⟨ad, j * 2, none⟩ = some (.int .i64 (g j)) := by obtain ⟨m, rfl⟩ := HJ.out; exact c0
              have c1' : wr.cell? ⟨ad, j * 2 + 1, none⟩ = some (.int .i64 (g (j + 1))) := by obtain ⟨m, rfl⟩ := HJ.out; exact c1
              clear c0 c1
              obtain ⟨q, hq⟩ : ∃ q, q = g (j + 1) := ⟨_, rfl⟩
              have HQ := Lib.hid hq
              by_cases hj0 : 0 < j
              · obtain ⟨d0, d1, d2, d3⟩ := h11 hj0
                have d0' : wr.cell? ⟨ad, (j - 1) * 2, none⟩ = some (.int .i64 (g (j - 1))) := by obtain ⟨m, rfl⟩ := HJ.out; exact d0
                have d1' : wr.cell? ⟨ad, (j - 1) * 2 + 1, none⟩ = some (.int .i64 (g j)) := by obtain ⟨m, rfl⟩ := HJ.out; exact d1
                rw [← hq] at c1' h1 h2 h3 h4 d3
                obtain ⟨p, hp⟩ : ∃ p, p = g (j - 1) := ⟨_, rfl⟩
                rw [← hp] at d0' d2 d3
                clear d0 d1 hp h11 hq
                have e1 : IntKind.i64.wrap ((j : Int) - 1) = (j : Int) - 1 := by rw [IntKind.wrap_i64]; omega
                have e2 : ((j : Int) - 1).toNat = j - 1 := by omega
                go_wp2_with fail
                go_quiet (fail)
                go_wp2_with fail
                have e4 : ¬ ((q : Int) - (g j : Int) < (z : Int)) := by omega
                have e5 : ¬ ((z : Int) + 1 < (q : Int) - (g j : Int)) := by omega
                have e6 : ¬ ((g j : Int) - (p : Int) < (q : Int) - (g j : Int)) := by omega
                have e7 : (0 : Int) < (j : Int) := by omega
                go_quiet (fail)
                clear e4 e5 e6 e7
                go_wp2
                go_roundw
                case rel => exact ⟨j + 1, by omega, by go_num, by rw [← HQ.out], by obtain ⟨m, rfl⟩ := HJ.out; first | exact ⟨_, by rw [World.drewN_drewN]⟩ | exact ⟨_, by rw [World.drewN_drewN, World.drewN_drewN]⟩ | exact ⟨_, World.drewN_drewN ..⟩⟩
                case measure => simp [intOf]; omega
              · rw [← hq] at c1' h1 h2 h3 h4
                clear h11 hq
                go_wp2_with fail
                go_quiet (fail)
                go_wp2_with fail
                have e4 : ¬ ((q : Int) - (g j : Int) < (z : Int)) := by omega
                have e5 : ¬ ((z : Int) + 1 < (q : Int) - (g j : Int)) := by omega
                have e7 : ¬ ((0 : Int) < (j : Int)) := by omega
                go_quiet (fail)
                clear e4 e5 e7
                go_wp2
                go_roundw
                case rel => exact ⟨j + 1, by omega, by go_num, by rw [← HQ.out], by obtain ⟨m, rfl⟩ := HJ.out; first | exact ⟨_, by rw [World.drewN_drewN]⟩ | exact ⟨_, by rw [World.drewN_drewN, World.drewN_drewN]⟩ | exact ⟨_, World.drewN_drewN ..⟩⟩
                case measure => simp [intOf]; omega
            · obtain rfl : j = nc := by omega
              obtain rfl : n = (j : Int) := by omega
              go_wp2
              go_ret
              refine ⟨rfl, ?_⟩
              obtain ⟨m, rfl⟩ := HJ.out
              exact pw_below_drewN HB.out m
    · skip
      have hG : Aside0 (f 0 = 0 ∧ g 0 = 0) := ⟨f0, g0⟩
      clear f0 g0
      go_wp2_with fail
      go_loopw [13, 14] (fun a i wr => ∃ k : Nat, k ≤ na ∧ i = .int .i64 k ∧ a = .int .i64 (f k : Nat) ∧ Aside0 (∃ m, wr = w3.drewN m)) (fun _ i _ => na - (intOf i).toNat)
      case atStart => exact ⟨0, Nat.zero_le _, rfl, by rw [hG.out.1]; rfl, ⟨0, rfl⟩⟩
      case round =>
        obtain ⟨k, hk, rfl, rfl, HK⟩ := hrel
        by_cases hlt : k < na
        · obtain ⟨ad, rfl, c0, c1, h1, h2, h3⟩ := HR.out k hlt
          have c0' : wr.cell? ⟨ad, k * 2, none⟩ = some (.int .i64 (f k)) := by obtain ⟨m, rfl⟩ := HK.out; exact c0
          have c1' : wr.cell? ⟨ad, k * 2 + 1, none⟩ = some (.int .i64 (f (k + 1))) := by obtain ⟨m, rfl⟩ := HK.out; exact c1
          clear c0 c1
          obtain ⟨q, hq⟩ : ∃ q, q = f (k + 1) := ⟨_, rfl⟩
          rw [← hq] at c1' h1 h2 h3
          have HQ := Lib.hid hq
          clear hq
          go_wp2
          go_roundw
          case rel => exact ⟨k + 1, by omega, by go_num, by rw [← HQ.out], HK⟩
          case measure => simp [intOf]; omega
        · obtain rfl : k = na := by omega
          obtain ⟨m1, hm1⟩ := HK.out
          have HM1 := Lib.hid hm1
          clear hm1
          go_wp2_with fail
          go_loopw [13, 15, 16] (fun a i x wr => ∃ j : Nat, j ≤ nc ∧ i = .int .i64 j ∧ a = .int .i64 (g j : Nat) ∧ Aside0 (∃ m, wr = w3.drewN m)) (fun _ i _ _ => nc - (intOf i).toNat)
          case atStart => exact ⟨0, Nat.zero_le _, rfl, by rw [hG.out.2]; rfl, HK⟩
          case round =>
            obtain ⟨j, hj, rfl, rfl, HJ⟩ := hrel
            by_cases hlt : j < nc
            · obtain ⟨ad, rfl, c0, c1, h1, h2, h3, h4, h5, h6, h7, h8, h9, h10, h11⟩ := HC.out j hlt
              obtain ⟨z, hz⟩ := Int.eq_ofNat_of_zero_le h5
              rw [hz] at h3 h4 h5 h6
              have c0' : wr.cell? ⟨ad, j * 2, none⟩ = some (.int .i64 (g j)) := by obtain ⟨m, rfl⟩ := HJ.out; exact c0
              have c1' : wr.cell? ⟨ad, j * 2 + 1, none⟩ = some (.int .i64 (g (j + 1))) := by obtain ⟨m, rfl⟩ := HJ.out; exact c1
              clear c0 c1
              obtain ⟨q, hq⟩ : ∃ q, q = g (j + 1) := ⟨_, rfl⟩
              have HQ := Lib.hid hq
              by_cases hj0 : 0 < j
              · obtain ⟨d0, d1, d2, d3⟩ := h11 hj0
                have d0' : wr.cell? ⟨ad, (j - 1) * 2, none⟩ = some (.int .i64 (g (j - 1))) := by obtain ⟨m, rfl⟩ := HJ.out; exact d0
                have d1' : wr.cell? ⟨ad, (j - 1) * 2 + 1, none⟩ = some (.int .i64 (g j)) := by obtain ⟨m, rfl⟩ := HJ.out; exact d1
                rw [← hq] at c1' h1 h2 h3 h4 d3
                obtain ⟨p, hp⟩ : ∃ p, p = g (j - 1) := ⟨_, rfl⟩
                rw [← hp] at d0' d2 d3
                clear d0 d1 hp h11 hq
                have e1 : IntKind.i64.wrap ((j : Int) - 1) = (j : Int) - 1 := by rw [IntKind.wrap_i64]; omega
                have e2 : ((j : Int) - 1).toNat = j - 1 := by omega
                go_wp2_with fail
                go_quiet (fail)
                go_wp2_with fail
                have e4 : ¬ ((q : Int) - (g j : Int) < (z : Int)) := by omega
                have e5 : ¬ ((z : Int) + 1 < (q : Int) - (g j : Int)) := by omega
                have e6 : ¬ ((g j : Int) - (p : Int) < (q : Int) - (g j : Int)) := by omega
                have e7 : (0 : Int) < (j : Int) := by omega
                go_quiet (fail)
                clear e4 e5 e6 e7
                go_wp2
                go_roundw
                case rel => exact ⟨j + 1, by omega, by go_num, by rw [← HQ.out], by obtain ⟨m, rfl⟩ := HJ.out; first | exact ⟨_, by rw [World.drewN_drewN]⟩ | exact ⟨_, by rw [World.drewN_drewN, World.drewN_drewN]⟩ | exact ⟨_, World.drewN_drewN ..⟩⟩
                case measure => simp [intOf]; omega
              · rw [← hq] at c1' h1 h2 h3 h4
                clear h11 hq
                go_wp2_with fail
                go_quiet (fail)
                go_wp2_with fail
                have e4 : ¬ ((q : Int) - (g j : Int) < (z : Int)) := by omega
                have e5 : ¬ ((z : Int) + 1 < (q : Int) - (g j : Int)) := by omega
                have e7 : ¬ ((0 : Int) < (j : Int)) := by omega
                go_quiet (fail)
                clear e4 e5 e7
                go_wp2
                go_roundw
                case rel => exact ⟨j + 1, by omega, by go_num, by rw [← HQ.out], by obtain ⟨m, rfl⟩ := HJ.out; first | exact ⟨_, by rw [World.drewN_drewN]⟩ | exact ⟨_, by rw [World.drewN_drewN, World.drewN_drewN]⟩ | exact ⟨_, World.drewN_drewN ..⟩⟩
                case measure => simp [intOf]; omega
            · obtain rfl : j = nc := by omega
              go_wp2
              go_ret
              refine ⟨rfl, ?_⟩
              obtain ⟨m, rfl⟩ := HJ.out
              exact pw_below_drewN HB.out m
end Go.Proofs.Ythnmeolbpgmebaa
