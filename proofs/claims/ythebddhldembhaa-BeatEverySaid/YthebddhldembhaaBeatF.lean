/- The walk of BeatEvery. -/
import Derived.Test.YthebddhldembhaaBeatD
set_option linter.unusedVariables false
set_option linter.unusedSimpArgs false
namespace Go.Proofs.Ythebddhldembhaa
open Go.RowKit Go.Proofs.YthebddhldembhaaW.PrintWords Go.Proofs.Ythebddhldembhaa.K

def upTo (k : Nat) : List Int := (List.range k).map (fun i : Nat => (i : Int))
theorem upTo_len (k : Nat) : (upTo k).length = k := by simp [upTo]
theorem upTo_succ (k : Nat) : upTo (k + 1) = upTo k ++ [(k : Int)] := by simp [upTo, List.range_succ]
theorem upTo_mem (k : Nat) (x : Int) (h : x ∈ upTo k) : 0 ≤ x ∧ x < k := by
  simp only [upTo, List.mem_map, List.mem_range] at h
  obtain ⟨i, hi, rfl⟩ := h
  omega
theorem upTo_last (k : Nat) (h : 0 < k) : ((k : Int) - 1) ∈ upTo k := by
  simp only [upTo, List.mem_map, List.mem_range]
  exact ⟨k - 1, by omega, by omega⟩
theorem upTo_good : ∀ k, k < 17 → 0 < k → goodM (upTo k) = true := by decide
theorem upTo_oth : ∀ k : Nat, k < 17 → 0 < k → (othL ((k : Int) - 1) (upTo k)).length = k - 1 := by decide
theorem even_send {E k : Nat} (hE : 1 ≤ E) (hk : k ≠ 0) (h : k % E = 0) : (E : Int) ≤ (k : Int) - ((E * ((k - 1) / E) : Nat) : Int) := by
  have h1 := Nat.div_add_mod (k - 1) E
  have h2 := Nat.mod_lt (k - 1) (show E > 0 by omega)
  have h3 := Nat.div_add_mod k E
  have h4 : (k - 1) / E + 1 ≤ k / E := by
    rcases Nat.lt_or_ge ((k - 1) / E) (k / E) with h | h'
    · omega
    · exfalso
      have := Nat.mul_le_mul_left E h'
      omega
  have h5 := Nat.mul_le_mul_left E h4
  rw [Nat.mul_add] at h5
  omega
theorem odd_none {E k : Nat} (hE : 1 ≤ E) (h : k % E ≠ 0) : (k : Int) - ((E * ((k - 1) / E) : Nat) : Int) < (E : Int) ∧ E * ((k - 1) / E) = E * (k / E) := by
  have hk : k ≠ 0 := by rintro rfl; simp at h
  have h1 := Nat.div_add_mod (k - 1) E
  have h2 := Nat.mod_lt (k - 1) (show E > 0 by omega)
  have h3 := Nat.div_add_mod k E
  have h6 : (k - 1) / E ≤ k / E := Nat.div_le_div_right (by omega)
  have h4 : (k - 1) / E = k / E := by
    rcases Nat.lt_or_ge ((k - 1) / E) (k / E) with h' | h'
    · exfalso
      have := Nat.mul_le_mul_left E (show (k - 1) / E + 1 ≤ k / E from h')
      rw [Nat.mul_add] at this
      omega
    · omega
  rw [h4]
  rw [h4] at h1
  have h7 := Nat.mod_lt k (show E > 0 by omega)
  exact ⟨by omega, rfl⟩
def nowOf (k : Nat) : Int := if k = 0 then 0 else ((k - 1 : Nat) : Int)
def sentOf (E k : Nat) : Int := if k = 0 then -1 else ((E * ((k - 1) / E) : Nat) : Int)
theorem nowOf_le (k : Nat) : 0 ≤ nowOf k ∧ nowOf k ≤ k := by unfold nowOf; split <;> omega
theorem sentOf_le (E k : Nat) : -1 ≤ sentOf E k ∧ sentOf E k ≤ nowOf k := by
  unfold sentOf nowOf
  have := Nat.mul_div_le (k - 1) E
  split <;> omega
set_option maxRecDepth 100000 in
set_option maxHeartbeats 4000000 in
theorem every_walk (W : World) (ev : Int) (hev : (Lit.int .i64 ev).wf = true) (tk : Int) (htk : (Lit.int .i64 tk).wf = true) (nn : Int) (hnn : (Lit.int .i64 nn).wf = true) :
    Calls Try.prog 4 #[.int .i64 ev, .int .i64 tk, .int .i64 nn] W fun e w' => e = .returned (.bool true) ∧ Below W.heap.size W w' := by
  clear hev htk hnn
  by_cases hall : (1 ≤ ev ∧ ev ≤ 100) ∧ (0 ≤ tk ∧ tk ≤ 300) ∧ 1 ≤ nn ∧ nn ≤ 16
  · obtain ⟨⟨x0, x1⟩, ⟨y0, y1⟩, z0, z1⟩ := hall
    obtain ⟨E, rfl⟩ : ∃ E : Nat, ev = E := ⟨ev.toNat, by omega⟩
    obtain ⟨T, rfl⟩ : ∃ T : Nat, tk = T := ⟨tk.toNat, by omega⟩
    obtain ⟨N, hN⟩ : ∃ N : Nat, nn = N := ⟨nn.toNat, by omega⟩
    have HN := Lib.hid hN
    have hN1 : N ≤ 16 := by omega
    have hN0 : 1 ≤ N := by omega
    clear hN
    go_enter Try.func4, Try.ntmps4
    go_wp2_with fail
    refine (awake_walk W).mono ?_
    rintro e w0 ⟨rfl, hb0⟩
    have B0 := Lib.hid hb0; clear hb0
    go_wp2_with fail
    go_loopw [7, 8] (fun m i wr => ∃ (k : Nat) (A1 : Option Addr) (c1 : Nat), k ≤ N ∧ i = .int .i64 k ∧ m = .slice A1 k c1 ∧ Aside0 (wr.ownsRow W.heap.size 3 1 (.slice A1 k c1) k (nums .i64 (upTo k)) ∧ Below W.heap.size W wr)) (fun _ i _ => N - (intOf i).toNat)
    case atStart => exact ⟨0, none, 0, Nat.zero_le _, rfl, rfl, ⟨⟨rfl, .inl ⟨rfl, rfl⟩⟩, B0.out⟩⟩
    case round =>
      obtain ⟨k, A1, c1, hk, rfl, rfl, HK⟩ := hrel
      by_cases hlt : (k : Int) < nn
      · have hkn : k < N := by have := HN.out; omega
        have HO := Lib.hid HK.out
        go_wp2_with (at_builtin; refine app_num2 (w0 := W) W.heap.size rfl (.tmp 44) (.tmp 46) 28 3 .i64 8 rfl Try.underlying28 (by kernel_rfl) (by decide) (.slice A1 k c1) k (upTo k) (k : Int) rfl rfl (upTo_len k) HO.out.1 HO.out.2 HO.out.2.size (by omega) ?_; intro A3 c3 w5 ho3 hb3 hg3 hq3; have R5 := Lib.hid (And.intro ho3 hb3); clear ho3 hb3 hg3 hq3)
        go_roundw
        case rel => exact ⟨k + 1, A3, c3, by omega, by go_num, rfl, ⟨by rw [upTo_succ]; exact R5.out.1, R5.out.2⟩⟩
        case measure => simp [intOf]; omega
      · have hkn : k = N := by have := HN.out; omega
        have HO := Lib.hid HK.out
        have hi := own_info HO.out.1
        have HNEW := Lib.hid (new_ok (nn - 1) A1 k c1 (upTo k) (E : Int) 1000 wr W.heap.size HO.out.2.size hi.2.2.2.1 (fun h => by
          subst h
          obtain ⟨ad, h, _⟩ := hi.2.2.2.1.2.2 (by omega)
          cases h) (by omega) (upTo_good k (by omega) (by omega)) (by rw [HN.out, ← hkn]; exact upTo_last k (by omega)) x0 (by omega) (by omega) (by decide))
        have HKN := Lib.hid hkn
        have HIN := Lib.hid (upTo_oth k (by omega) (by omega))
        have hk1 : 1 ≤ k := by omega
        have hk2 : k ≤ 16 := by omega
        clear hi hkn
        go_wp2_with fail
        refine HNEW.out.mono ?_
        rintro e w1 ⟨r, mb, rfl, hS, hB⟩
        have S1 := Lib.hid hS; have B1 := Lib.hid (below_then HO.out.2 HO.out.2.size hB)
        clear hS hB
        go_wp2_with fail
        go_loopw [11] (fun t wr => ∃ j : Nat, j ≤ T ∧ t = .int .i64 j ∧ Aside0 (∃ f : Int → Int, BeatS wr W.heap.size r mb j ⟨nn - 1, upTo k, E, 1000, nowOf j, f, sentOf E j⟩ ∧ (∀ a, 0 ≤ f a ∧ f a ≤ nowOf j) ∧ Below W.heap.size W wr)) (fun t _ => T - (intOf t).toNat)
        case atStart => exact ⟨0, Nat.zero_le _, rfl, ⟨fun _ => 0, S1.out, fun a => ⟨Int.le_refl _, Int.le_refl _⟩, B1.out⟩⟩
        case round =>
          obtain ⟨j, hj, rfl, HJ⟩ := hrel
          by_cases hlj : j < T
          · obtain ⟨f, hS, hf, hB⟩ := HJ.out
            have hno := nowOf_le j
            have hse := sentOf_le E j
            have hmx : max (nowOf j) (j : Int) = j := Int.max_eq_right hno.2
            have HH := Lib.hid (heard_walk _ W.heap.size r mb j _ 0 (j : Int) hS (by omega) (by decide) (by show (Lit.int .i64 (max (nowOf j) (j : Int))).wf = true; rw [hmx]; exact wf64 (by omega) (by omega)))
            have hst : ∃ f', heardA ⟨nn - 1, upTo k, E, 1000, nowOf j, f, sentOf E j⟩ 0 (j : Int) = ⟨nn - 1, upTo k, E, 1000, j, f', sentOf E j⟩ ∧ ∀ a, 0 ≤ f' a ∧ f' a ≤ (j : Int) := by
              unfold heardA
              simp only [hmx]
              cases otherB ⟨nn - 1, upTo k, E, 1000, nowOf j, f, sentOf E j⟩ 0 with
              | false => exact ⟨f, rfl, fun a => ⟨(hf a).1, Int.le_trans (hf a).2 hno.2⟩⟩
              | true =>
                refine ⟨updI f 0 j, rfl, fun a => ?_⟩
                have h1 := (hf a).1; have h2 := Int.le_trans (hf a).2 hno.2
                unfold updI; split <;> omega
            obtain ⟨f', hst, hf'⟩ := hst
            have HB := Lib.hid hB; have HST := Lib.hid hst; have HF := Lib.hid hf'; have HSE := Lib.hid hse; have HNO := Lib.hid hno
            clear hS hf hB hmx hst hf' hse hno
            go_wp2_with fail
            refine HH.out.mono ?_
            rintro e w2 ⟨rfl, hS2, hB2⟩
            rw [HST.out] at hS2
            have S2 := Lib.hid hS2; have B2 := Lib.hid (hB2 W HB.out)
            clear hS2 hB2
            have OK : Hid (BeatOk ⟨nn - 1, upTo k, E, 1000, (j : Int), f', sentOf E j⟩) := Lib.hid ⟨Int.natCast_nonneg _, by simp; omega, HSE.out.1, Int.le_trans HSE.out.2 HNO.out.2, HF.out, fun m hm => by have := upTo_mem k m hm; omega⟩
            by_cases hm : j % E = 0
            · have HT := Lib.hid (tick_send w2 W.heap.size r mb (j + 1) _ (j : Int) S2.out OK.out (by omega) (by
                show sentOf E j < 0 ∨ (E : Int) ≤ max (j : Int) (j : Int) - sentOf E j
                rw [Int.max_self]
                unfold sentOf
                by_cases h0 : j = 0
                · left; rw [if_pos h0]; decide
                · right; rw [if_neg h0]; exact even_send (by omega) h0 hm))
              have hmod : (j : Int) % (E : Int) = 0 := by omega
              go_wp2_with fail
              refine HT.out.mono ?_
              rintro e w3 ⟨A1, p, c1, A2, q, c2, rfl, hr1, hp1, hr2, hp2, hS3, hB3⟩
              have S3 := Lib.hid hS3; have B3 := Lib.hid (hB3 W B2.out)
              have hp : (p : Int) = nn - 1 := by
                have h1 := hr1.1
                have h2 : (othL (nn - 1) (upTo k)).length = k - 1 := by rw [HN.out, ← HKN.out]; exact HIN.out
                have h3 := HN.out; have h4 := HKN.out
                have h5 : (othL (nn - 1) (upTo k)).length = p := h1
                omega
              clear hS3 hB3 hr1 hr2 hp1 hp2
              go_wp2_with fail
              clear hp hmod
              go_roundw
              case rel =>
                refine ⟨j + 1, by omega, by go_num, ⟨f', ?_, ?_, B3.out⟩⟩
                · have := S3.out
                  have e1 : nowOf (j + 1) = (j : Int) := by simp [nowOf]
                  have e2 : sentOf E (j + 1) = (j : Int) := by
                    have := Nat.div_add_mod j E
                    simp only [sentOf, Nat.add_sub_cancel]
                    rw [if_neg (by omega)]; omega
                  rw [e1, e2]
                  simpa [Int.max_self] using this
                · have e1 : nowOf (j + 1) = (j : Int) := by simp [nowOf]
                  rw [e1]; exact HF.out
              case measure => simp [intOf]; omega
            · have hod := odd_none (E := E) (k := j) (by omega) hm
              have hj0 : j ≠ 0 := by rintro rfl; simp at hm
              have HT := Lib.hid (tick_none w2 W.heap.size r mb (j + 1) _ (j : Int) S2.out OK.out (by omega) (by
                show 0 ≤ sentOf E j
                unfold sentOf; rw [if_neg hj0]; omega) (by
                show max (j : Int) (j : Int) - sentOf E j < E
                rw [Int.max_self]
                unfold sentOf; rw [if_neg hj0]; exact hod.1))
              have hmod : ¬ (j : Int) % (E : Int) = 0 := by omega
              have HOD := Lib.hid hod.2
              clear hod
              go_wp2_with fail
              refine HT.out.mono ?_
              rintro e w3 ⟨A1, p, c1, A2, q, c2, rfl, hr1, hp1, hr2, hp2, hS3, hB3⟩
              have S3 := Lib.hid hS3; have B3 := Lib.hid (hB3 W B2.out)
              obtain rfl : p = 0 := hr1.1.symm
              clear hS3 hB3 hr1 hr2 hp1 hp2
              go_wp2_with fail
              clear hmod
              go_roundw
              case rel =>
                refine ⟨j + 1, by omega, by go_num, ⟨f', ?_, ?_, B3.out⟩⟩
                · have := S3.out
                  have e1 : nowOf (j + 1) = (j : Int) := by simp [nowOf]
                  have e2 : sentOf E (j + 1) = sentOf E j := by
                    simp only [sentOf, Nat.add_sub_cancel]
                    rw [if_neg (by omega), if_neg hj0, HOD.out]
                  rw [e1, e2]
                  simpa [Int.max_self] using this
                · have e1 : nowOf (j + 1) = (j : Int) := by simp [nowOf]
                  rw [e1]; exact HF.out
              case measure => simp [intOf]; omega
          · go_wp2_with fail
            go_ret
            obtain ⟨f, _, _, hB⟩ := HJ.out
            exact ⟨rfl, hB⟩
  · go_enter Try.func4, Try.ntmps4
    go_wp2_with fail
    refine (awake_walk W).mono ?_
    rintro e w0 ⟨rfl, hb0⟩
    have B0 := Lib.hid hb0; clear hb0
    have HALL := Lib.hid hall; clear hall
    by_cases g0 : ev < 1
    · go_wp2_with fail
      go_ret
      exact ⟨rfl, B0.out⟩
    by_cases g1 : 100 < ev
    · go_wp2_with fail
      go_ret
      exact ⟨rfl, B0.out⟩
    by_cases g2 : tk < 0
    · go_wp2_with fail
      go_ret
      exact ⟨rfl, B0.out⟩
    by_cases g3 : 300 < tk
    · go_wp2_with fail
      go_ret
      exact ⟨rfl, B0.out⟩
    by_cases g4 : nn < 1
    · go_wp2_with fail
      go_ret
      exact ⟨rfl, B0.out⟩
    by_cases g5 : 16 < nn
    · go_wp2_with fail
      go_ret
      exact ⟨rfl, B0.out⟩
    exact absurd ⟨⟨by omega, by omega⟩, ⟨by omega, by omega⟩, by omega, by omega⟩ HALL.out
end Go.Proofs.Ythebddhldembhaa
