/- The walk of BucketTurns. -/
import Derived.Test.YthnmeolbpgmebaaBucketB
set_option linter.unusedVariables false
set_option linter.unusedSimpArgs false
namespace Go.Proofs.Ythnmeolbpgmebaa
open Go.RowKit Go.Proofs.YthnmeolbpgmebaaW.PrintWords Go.Proofs.Ythnmeolbpgmebaa.K

/-- Which chunk. -/
def cs (p n r : Int) : Int := if r < n - 1 then (p - r + n) % n else (p + 1 - (r - (n - 1)) + n) % n
theorem cases_n {n : Int} (h1 : 2 ≤ n) (h2 : n ≤ 16) : n = 2 ∨ n = 3 ∨ n = 4 ∨ n = 5 ∨ n = 6 ∨ n = 7 ∨ n = 8 ∨ n = 9 ∨ n = 10 ∨ n = 11 ∨ n = 12 ∨ n = 13 ∨ n = 14 ∨ n = 15 ∨ n = 16 := by omega
theorem cs_rng {p n r : Int} (h1 : 2 ≤ n) : 0 ≤ cs p n r ∧ cs p n r < n := by
  unfold cs
  split
  · exact ⟨Int.emod_nonneg _ (by omega), Int.emod_lt_of_pos _ (by omega)⟩
  · exact ⟨Int.emod_nonneg _ (by omega), Int.emod_lt_of_pos _ (by omega)⟩
theorem cs_unlike {p q n r : Int} (h1 : 2 ≤ n) (h2 : n ≤ 16) (hp : 0 ≤ p) (hpq : p < q) (hq : q < n) (hr : 0 ≤ r) (hr2 : r ≤ 2 * n - 3) : cs p n r ≠ cs q n r := by
  unfold cs
  rcases cases_n h1 h2 with rfl | rfl | rfl | rfl | rfl | rfl | rfl | rfl | rfl | rfl | rfl | rfl | rfl | rfl | rfl <;> split <;> omega
theorem cs_next {p n r : Int} (h1 : 2 ≤ n) (h2 : n ≤ 16) (hp : 0 ≤ p) (hq : p < n) (hr : 0 ≤ r) (hr2 : r < 2 * n - 3) : cs ((p + 1) % n) n (r + 1) = cs p n r := by
  unfold cs
  rcases cases_n h1 h2 with rfl | rfl | rfl | rfl | rfl | rfl | rfl | rfl | rfl | rfl | rfl | rfl | rfl | rfl | rfl <;> split <;> split <;> omega
theorem sends_any (p n r : Int) (w : World) (h : SendsOk p n r) :
    Calls Try.prog 7 #[.int .i64 p, .int .i64 n, .int .i64 r] w fun e w' => e = .returned (.tuple #[.int .i64 (cs p n r), .bool (decide (r < n - 1)), .int .i64 0]) ∧ w = w' := by
  by_cases hr : r < n - 1
  · have := sends_lo p n r w h hr
    unfold cs
    rw [if_pos hr, decide_eq_true hr]
    exact this
  · have := sends_hi p n r w h hr
    unfold cs
    rw [if_neg hr, decide_eq_false hr]
    exact this
/-- The marks of the first k places. -/
def marks (n r : Int) : Nat → List Bool
  | 0 => List.replicate n.toNat false
  | k + 1 => (marks n r k).set (cs k n r).toNat true
theorem marks_len (n r : Int) : ∀ k, (marks n r k).length = n.toNat
  | 0 => by simp [marks]
  | k + 1 => by rw [marks, List.length_set, marks_len n r k]
theorem marks_not (n r : Int) (h1 : 2 ≤ n) (h2 : n ≤ 16) (hr : 0 ≤ r) (hr2 : r ≤ 2 * n - 3) : ∀ (k q : Nat), k ≤ q → (q : Int) < n → (marks n r k).getD (cs q n r).toNat false = false
  | 0, q, _, _ => by
    rw [marks, List.getD_eq_getElem?_getD, List.getElem?_replicate]
    split <;> rfl
  | k + 1, q, hk, hq => by
    have hne := cs_unlike (p := (k : Int)) (q := (q : Int)) h1 h2 (by omega) (by omega) hq hr hr2
    have a := @cs_rng (k : Int) n r h1
    have b := @cs_rng (q : Int) n r h1
    have ih := marks_not n r h1 h2 hr hr2 k q (by omega) hq
    rw [marks, List.getD_eq_getElem?_getD, List.getElem?_set_ne (by omega), ← List.getD_eq_getElem?_getD]
    exact ih
set_option maxRecDepth 100000 in
set_option maxHeartbeats 4000000 in
theorem turns_walk (W : World) (n : Int) (wn : (Lit.int .i64 n).wf = true) :
    Calls Try.prog 3 #[.int .i64 n] W fun e w' => e = .returned (.bool true) ∧ Below W.heap.size W w' := by
  by_cases h1 : n < 2
  · go_enter Try.func3, Try.ntmps3
    go_wp2_with (go_at_call 6; refine (awake_walk _).mono ?_; rintro e w1 ⟨rfl, hb⟩)
    go_ret
    exact ⟨rfl, hb⟩
  by_cases h2 : 16 < n
  · go_enter Try.func3, Try.ntmps3
    go_wp2_with (go_at_call 6; refine (awake_walk _).mono ?_; rintro e w1 ⟨rfl, hb⟩)
    go_ret
    exact ⟨rfl, hb⟩
  obtain ⟨m, rfl⟩ := Int.eq_ofNat_of_zero_le (show 0 ≤ n by omega)
  clear wn
  go_enter Try.func3, Try.ntmps3
  go_wp2_with (go_at_call 6; refine (awake_walk _).mono ?_; rintro e w1 ⟨rfl, hb⟩)
  go_loopw [3] (fun i wr => ∃ r : Nat, (r : Int) ≤ 2 * m - 2 ∧ i = .int .i64 r ∧ Aside0 (Below W.heap.size W wr)) (fun i _ => 2 * m - (intOf i).toNat)
  case atStart => exact ⟨0, by omega, rfl, ⟨hb⟩⟩
  case round =>
    obtain ⟨r, hr, rfl, HR⟩ := hrel
    by_cases hlt : (r : Int) ≤ 2 * m - 3
    · obtain ⟨wo, rfl⟩ : ∃ wo : World, wo = wr := ⟨_, rfl⟩
      have hmk := print_make_of (P := Try.prog) 23 4 (.bool false) 1 Try.underlying23 (by kernel_rfl) rfl (by decide) m (by omega)
      go_wp2
      have hO := own_made_of' (enc := Value.bool) (d := false) wo W.heap.size 4 m HR.out.size (by omega)
      have hb1 := HR.out.alloc HR.out.size (.cells (madeCells #[.bool false] m) 4)
      obtain ⟨g, hg⟩ : ∃ g, g = wo.heap.size := ⟨_, rfl⟩
      obtain ⟨w2, hw2⟩ : ∃ w2, w2 = wo.alloc (.cells (madeCells #[.bool false] m) 4) := ⟨_, rfl⟩
      have hgb := HR.out.size
      rw [← hg] at hO hgb ⊢
      rw [← hw2] at hO hb1 ⊢
      have HO := Lib.hid hO
      clear hw2 hmk hg hO
      go_loopw [5] (fun i wr => ∃ p : Nat, p ≤ m ∧ i = .int .i64 p ∧ Aside0 (wr.ownsRow W.heap.size 4 1 (.slice (some ⟨g, 0, none⟩) m m) m (encs Value.bool (marks m r p)) ∧ Below W.heap.size W wr)) (fun i _ => m - (intOf i).toNat)
      case atStart => exact ⟨0, Nat.zero_le _, rfl, ⟨by have := HO.out; simpa [marks] using this, hb1⟩⟩
      case round =>
        obtain ⟨p, hp, rfl, HK⟩ := hrel
        by_cases hpm : p < m
        · have ok1 : SendsOk p m r := ⟨by omega, by omega, by omega, by omega, by omega, by omega⟩
          obtain ⟨c0, c1⟩ := @cs_rng p m r (by omega)
          obtain ⟨q, hq⟩ := Int.eq_ofNat_of_zero_le c0
          have C1 := sends_any p m r
          rw [hq] at C1 c1
          have HC := Lib.hid (fun w => C1 w ok1)
          have hmark := marks_not m r (by omega) (by omega) (by omega) (by omega) p p (Nat.le_refl _) (by omega)
          rw [hq, Int.toNat_natCast] at hmark
          obtain ⟨f1, f2⟩ := own_at_of (d := false) HK.out.1 (q : Int) (by omega) (by omega)
          unfold rdOf at f1
          rw [Int.toNat_natCast, hmark] at f1
          rw [Int.toNat_natCast] at f2
          have HQ := Lib.hid hq
          have HC2 := Lib.hid (show ∀ w, (r : Int) < 2 * m - 3 → Calls Try.prog 7 #[.int .i64 (((p : Int) + 1) % m), .int .i64 m, .int .i64 ((r : Int) + 1)] w fun e w' => e = .returned (.tuple #[.int .i64 (q : Int), .bool (decide ((r : Int) + 1 < m - 1)), .int .i64 0]) ∧ w = w' from fun w h => by
            have := sends_any (((p : Int) + 1) % m) m ((r : Int) + 1) w ⟨by omega, by omega, Int.emod_nonneg _ (by omega), Int.emod_lt_of_pos _ (by omega), by omega, by omega⟩
            rw [cs_next (by omega) (by omega) (by omega) (by omega) (by omega) h, hq] at this
            exact this)
          have hp0 : 0 ≤ ((p : Int) + 1) % m := Int.emod_nonneg _ (by omega)
          have hp1 : ((p : Int) + 1) % m < m := Int.emod_lt_of_pos _ (by omega)
          clear hq C1 ok1 c0 hmark
          have HF := Lib.hid (show Aside0 ((wr.setCell ⟨g, q, none⟩ (.bool true)).ownsRow W.heap.size 4 1 (.slice (some ⟨g, 0, none⟩) m m) m (encs Value.bool (marks m r (p + 1))) ∧ Below W.heap.size W (wr.setCell ⟨g, q, none⟩ (.bool true))) from ⟨by
            obtain ⟨s1, s2⟩ := own_store_of HK.out.1 (q : Int) true
            rw [Int.toNat_natCast] at s1 s2
            refine ⟨?_, pw_below_grown HK.out.2 (some g) HK.out.2.size s2 (fun k e => by cases e; exact hgb)⟩
            rw [marks, HQ.out, Int.toNat_natCast]
            exact s1⟩)
          by_cases hrm : (r : Int) < m - 1
          · by_cases hr3 : (r : Int) < 2 * m - 3
            · go_wp2_with (first | (go_at_call 7; (with_reducible refine (HC.out _).mono ?_); rintro e w' ⟨rfl, rfl⟩) | (go_at_call 7; refine (HC2.out _ hr3).mono ?_; rintro e w' ⟨rfl, rfl⟩))
              go_roundw
              case rel => exact ⟨p + 1, by omega, by go_num, HF.out⟩
              case measure => simp [intOf]; omega
            · omega
          · by_cases hr3 : (r : Int) < 2 * m - 3
            · go_wp2_with (first | (go_at_call 7; (with_reducible refine (HC.out _).mono ?_); rintro e w' ⟨rfl, rfl⟩) | (go_at_call 7; refine (HC2.out _ hr3).mono ?_; rintro e w' ⟨rfl, rfl⟩))
              go_roundw
              case rel => exact ⟨p + 1, by omega, by go_num, HF.out⟩
              case measure => simp [intOf]; omega
            · go_wp2_with (go_at_call 7; refine (HC.out _).mono ?_; rintro e w' ⟨rfl, rfl⟩)
              go_roundw
              case rel => exact ⟨p + 1, by omega, by go_num, HF.out⟩
              case measure => simp [intOf]; omega
        · go_wp2
          go_roundw
          case rel => exact ⟨r + 1, by omega, by go_num, ⟨HK.out.2⟩⟩
          case measure => simp [intOf]; omega
    · go_wp2
      go_ret
      exact ⟨rfl, HR.out⟩
end Go.Proofs.Ythnmeolbpgmebaa
