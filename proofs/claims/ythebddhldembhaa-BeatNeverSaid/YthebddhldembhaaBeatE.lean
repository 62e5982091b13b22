/- The walk of BeatNever. -/
import Derived.Test.YthebddhldembhaaBeatD
set_option linter.unusedVariables false
set_option linter.unusedSimpArgs false
namespace Go.Proofs.Ythebddhldembhaa
open Go.RowKit Go.Proofs.YthebddhldembhaaW.PrintWords Go.Proofs.Ythebddhldembhaa.K

theorem late_never {b : BeatA} {M g : Int} (hm : b.mem = [0, 1, 2]) (ho : b.own = 0) (h1 : M - b.f 1 = g) (h2 : b.f 2 = 0) (hg : g < b.span) : lateL b M b.mem = if b.span ≤ M then [2] else [] := by
  unfold lateL
  rw [hm]
  have e1 : ¬ (b.span ≤ M - b.f 1) := by omega
  by_cases h : b.span ≤ M
  · have e2 : b.span ≤ M - b.f 2 := by omega
    simp [ho, e1, e2, h]
  · have e2 : ¬ (b.span ≤ M - b.f 2) := by omega
    simp [ho, e1, e2, h]
set_option maxRecDepth 100000 in
set_option maxHeartbeats 4000000 in
theorem never_walk (W : World) (sp : Int) (hsp : (Lit.int .i64 sp).wf = true) (A : Option Addr) (n c : Nat) (zs : List Int) (hr : ReadsInt W .i64 A n zs) (hz : ∀ x ∈ zs, (Lit.int .i64 x).wf = true) (hc : n ≤ c) (hy : n * 8 ≤ 140737488351232) :
    Calls Try.prog 3 #[.int .i64 sp, .slice A n c] W fun e w' => e = .returned (.bool true) ∧ Below W.heap.size W w' := by
  have HR := Lib.hid hr
  clear hsp hz hr hc hy
  by_cases g0 : sp < 1
  · go_enter Try.func3, Try.ntmps3
    go_wp2_with fail
    refine (awake_walk W).mono ?_
    rintro e w0 ⟨rfl, hb0⟩
    go_wp2_with fail
    go_ret
    exact ⟨rfl, hb0⟩
  by_cases g1 : 1000 < sp
  · go_enter Try.func3, Try.ntmps3
    go_wp2_with fail
    refine (awake_walk W).mono ?_
    rintro e w0 ⟨rfl, hb0⟩
    go_wp2_with fail
    go_ret
    exact ⟨rfl, hb0⟩
  by_cases g2 : 60 < n
  · go_enter Try.func3, Try.ntmps3
    go_wp2_with fail
    refine (awake_walk W).mono ?_
    rintro e w0 ⟨rfl, hb0⟩
    go_wp2_with fail
    go_ret
    exact ⟨rfl, hb0⟩
  go_enter Try.func3, Try.ntmps3
  go_wp2_with fail
  refine (awake_walk W).mono ?_
  rintro e w0 ⟨rfl, hb0⟩
  have B0 := Lib.hid hb0; clear hb0
  have HN := Lib.hid (new_ok 0 (some ⟨w0.heap.size, 0, none⟩) 3 3 [0, 1, 2] 1 sp (w0.alloc (.cells #[.int .i64 0, .int .i64 1, .int .i64 2] 3)) W.heap.size (by have := B0.out.size; simp; omega) (reads_lit' w0 .i64 [0, 1, 2] 3 3 rfl (by decide)) (fun h => by cases h) (by decide) (by decide) (by decide) (by decide) (by decide) (by omega) (by omega))
  have HB0 := Lib.hid (alloc_back (W := w0) (.cells #[.int .i64 0, .int .i64 1, .int .i64 2] 3))
  go_wp2_with fail
  refine HN.out.mono ?_
  rintro e w1 ⟨r, mb, rfl, hS, hB⟩
  have S1 := Lib.hid hS; have B1 := Lib.hid (below_then B0.out B0.out.size (below_then HB0.out HB0.out.size hB))
  clear hS hB
  go_wp2_with fail
  go_loopw [7, 8] (fun nw i wr => ∃ (k : Nat) (z : Int), k ≤ n ∧ i = .int .i64 k ∧ nw = .int .i64 z ∧ (0 ≤ z ∧ z ≤ 1000 * k) ∧ Aside0 (∃ (s : Int) (f : Int → Int), BeatS wr W.heap.size r mb k ⟨0, [0, 1, 2], 1, sp, z, f, s⟩ ∧ (-1 ≤ s ∧ s ≤ z) ∧ f 1 = z ∧ f 2 = 0 ∧ (∀ a, 0 ≤ f a ∧ f a ≤ z) ∧ Below W.heap.size W wr)) (fun _ i _ => n - (intOf i).toNat)
  case atStart => exact ⟨0, 0, Nat.zero_le _, rfl, rfl, ⟨Int.le_refl _, by simp⟩, ⟨-1, fun _ => 0, S1.out, by decide, rfl, rfl, fun a => ⟨Int.le_refl _, Int.le_refl _⟩, B1.out⟩⟩
  case round =>
    obtain ⟨k, z, hk, rfl, rfl, ⟨hz0, hz1⟩, HK⟩ := hrel
    by_cases hlt : k < n
    · obtain ⟨s, f, hS, hs, hf1, hf2, hfa, hB⟩ := HK.out
      obtain ⟨ad, rfl, hck⟩ := reads_at (HR.out.below hB) k hlt
      obtain ⟨g, hg⟩ : ∃ g, g = zs.getD k 0 := ⟨_, rfl⟩
      rw [← hg] at hck
      clear hg
      have HS := Lib.hid hS; have HF := Lib.hid (And.intro hs (And.intro hf1 (And.intro hf2 hfa))); have HB := Lib.hid hB
      clear hS hs hf1 hf2 hfa hB
      by_cases q0 : g < 0
      · go_wp2_with fail
        go_ret
        exact ⟨rfl, HB.out⟩
      by_cases q1 : sp ≤ g
      · go_wp2_with fail
        go_ret
        exact ⟨rfl, HB.out⟩
      have hmx : max z (z + g) = z + g := Int.max_eq_right (by omega)
      have HT := Lib.hid (tick_any wr W.heap.size r mb k ⟨0, [0, 1, 2], 1, sp, z, f, s⟩ (z + g) HS.out ⟨hz0, by simp; omega, HF.out.1.1, HF.out.1.2, HF.out.2.2.2, by simp⟩ (by omega))
      simp only [hmx] at HT
      have HL : Hid (lateL ⟨0, [0, 1, 2], 1, sp, z, f, s⟩ (z + g) [0, 1, 2] = if sp ≤ z + g then [2] else []) := Lib.hid (late_never (b := ⟨0, [0, 1, 2], 1, sp, z, f, s⟩) (M := z + g) (g := g) rfl rfl (by show z + g - f 1 = g; rw [HF.out.2.1]; omega) HF.out.2.2.1 (by show g < sp; omega))
      clear hmx
      go_wp2_with fail
      refine HT.out.mono ?_
      rintro e w2 ⟨A1, p, c1, A2, q, c2, s2, rfl, hr2, hs2, hS2, hB2⟩
      rw [HL.out] at hr2
      have S2 := Lib.hid hS2; have B2 := Lib.hid (hB2 W HB.out); have HS2 := Lib.hid hs2
      clear hS2 hB2 hs2
      have HH := Lib.hid (heard_walk w2 W.heap.size r mb k _ 1 (z + g) S2.out (by omega) (by decide) (by show (Lit.int .i64 (max (z + g) (z + g))).wf = true; rw [Int.max_self]; exact wf64 (by omega) (by omega)))
      by_cases hl : sp ≤ z + g
      · rw [if_pos hl] at hr2
        have hq : q = 1 := hr2.1.symm
        have HQ := Lib.hid hq
        have hq0 : q ≤ 100 := by omega
        have HR2 := Lib.hid hr2
        clear hr2 hq
        go_wp2_with fail
        go_loop [11, 12, 13] (fun o t i => ∃ j : Nat, j ≤ q ∧ o = .bool false ∧ i = .int .i64 j ∧ t = .bool (decide (0 < j))) (fun _ _ i => q - (intOf i).toNat)
        case atStart => exact ⟨0, Nat.zero_le _, rfl, rfl, rfl⟩
        case round =>
          obtain ⟨j, hj, rfl, rfl, rfl⟩ := hrel
          by_cases hlj : j < q
          · obtain ⟨ae, rfl, hce0⟩ := reads_at HR2.out j hlj
            have hj0 : j = 0 := by have := HQ.out; omega
            have hce : w2.cell? (ae.add j) = some (.int .i64 2) := by rw [hce0, hj0]; rfl
            have hjd : decide (0 < j) = false := by rw [hj0]; rfl
            rw [hjd]
            clear hj0 hjd hce0
            go_wp2_with fail
            go_round
            case rel => exact ⟨j + 1, by omega, rfl, by go_num, by rw [decide_eq_true (Nat.succ_pos j)]⟩
            case measure => simp [intOf]; omega
          · have hjd : decide (0 < j) = true := decide_eq_true (by have := HQ.out; omega)
            rw [hjd]
            clear hjd
            go_wp2_with fail
            refine HH.out.mono ?_
            rintro e w3 ⟨rfl, hS3, hB3⟩
            go_wp2_with fail
            go_roundw
            case rel =>
              refine ⟨k + 1, z + g, by omega, by go_num, rfl, ⟨by omega, by omega⟩, ⟨s2, updI f 1 (z + g), ?_, HS2.out, by simp [updI], by simp [updI, HF.out.2.2.1], fun a => ?_, hB3 W B2.out⟩⟩
              · have : heardA ⟨0, [0, 1, 2], 1, sp, z + g, f, s2⟩ 1 (z + g) = ⟨0, [0, 1, 2], 1, sp, z + g, updI f 1 (z + g), s2⟩ := by
                  unfold heardA
                  rw [show otherB ⟨0, [0, 1, 2], 1, sp, z + g, f, s2⟩ 1 = true from rfl]
                  simp [Int.max_self]
                rw [this] at hS3
                exact hS3
              · have := HF.out.2.2.2 a
                unfold updI; split <;> omega
            case measure => simp [intOf]; omega
      · rw [if_neg hl] at hr2
        obtain rfl : q = 0 := hr2.1.symm
        clear hr2
        have hl' : z + g < sp := by omega
        go_wp2_with fail
        go_loop [11, 12, 13] (fun o t i => o = .bool false ∧ t = .bool false ∧ i = .int .i64 0) (fun _ _ i => 0)
        case atStart => exact ⟨rfl, rfl, rfl⟩
        case round =>
          obtain ⟨rfl, rfl, rfl⟩ := hrel
          go_wp2_with fail
          refine HH.out.mono ?_
          rintro e w3 ⟨rfl, hS3, hB3⟩
          go_wp2_with fail
          go_roundw
          case rel =>
            refine ⟨k + 1, z + g, by omega, by go_num, rfl, ⟨by omega, by omega⟩, ⟨s2, updI f 1 (z + g), ?_, HS2.out, by simp [updI], by simp [updI, HF.out.2.2.1], fun a => ?_, hB3 W B2.out⟩⟩
            · have : heardA ⟨0, [0, 1, 2], 1, sp, z + g, f, s2⟩ 1 (z + g) = ⟨0, [0, 1, 2], 1, sp, z + g, updI f 1 (z + g), s2⟩ := by
                unfold heardA
                rw [show otherB ⟨0, [0, 1, 2], 1, sp, z + g, f, s2⟩ 1 = true from rfl]
                simp [Int.max_self]
              rw [this] at hS3
              exact hS3
            · have := HF.out.2.2.2 a
              unfold updI; split <;> omega
          case measure => simp [intOf]; omega
    · obtain rfl : k = n := by omega
      go_wp2_with fail
      go_ret
      obtain ⟨s, f, _, _, _, _, _, hB⟩ := HK.out
      exact ⟨rfl, hB⟩
end Go.Proofs.Ythebddhldembhaa
