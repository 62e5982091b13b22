/- The walk of CrcParts. -/
import Derived.Test.YtmmgmhjoibipcaaB
import Derived.Test.YtmmgmhjoibipcaaK
set_option linter.unusedVariables false
set_option linter.unusedSimpArgs false
namespace Go.Proofs.Ytmmgmhjoibipcaa
open Go.RowKit Go.Proofs.YtmmgmhjoibipcaaW.PrintWords

/-- The first k, one behind the other. -/
def catTo (R : Nat → List Int) : Nat → List Int
  | 0 => []
  | k + 1 => catTo R k ++ R k
theorem catTo_len (R : Nat → List Int) (h : ∀ i, i < 30 → (R i).length ≤ 200) : ∀ k, k ≤ 30 → (catTo R k).length ≤ 200 * k
  | 0, _ => by simp [catTo]
  | k + 1, hk => by
    have h1 := catTo_len R h k (by omega)
    have h2 := h k (by omega)
    rw [catTo, List.length_append]; omega
/-- Sums, from one part to the next. -/
def sumTo (R : Nat → List Int) : Nat → Int
  | 0 => 0
  | k + 1 => moreI (sumTo R k) (R k)
theorem sum_cat (R : Nat → List Int) (n : Nat) (h : ∀ i, i < n → ∀ y ∈ R i, (Lit.int .u8 y).wf = true) : ∀ k, k ≤ n → ∃ X : List Nat, catTo R k = X.map (fun (x : Nat) => (x : Int)) ∧ (∀ x ∈ X, x < 256) ∧ sumTo R k = (M.more 0 X : Nat)
  | 0, _ => ⟨[], rfl, by simp, rfl⟩
  | k + 1, hk => by
    obtain ⟨X, h1, h2, h3⟩ := sum_cat R n h k (by omega)
    obtain ⟨Y, h4, h5⟩ := to_nats (R k) (h k (by omega))
    refine ⟨X ++ Y, by rw [catTo, h1, h4, List.map_append], ?_, ?_⟩
    · intro x hx
      rcases List.mem_append.1 hx with hx | hx
      · exact h2 x hx
      · exact h5 x hx
    · rw [sumTo, h3, h4, moreI_nat _ _ (M.more_lt 0 X (by decide) h2) h5, M.more_append]
theorem sum_all (R : Nat → List Int) (n : Nat) (h : ∀ i, i < n → ∀ y ∈ R i, (Lit.int .u8 y).wf = true) : moreI 0 (catTo R n) = sumTo R n := by
  obtain ⟨X, h1, h2, h3⟩ := sum_cat R n h n (Nat.le_refl _)
  have := moreI_nat 0 X (by decide) h2
  rw [h3, h1]
  exact this

set_option maxHeartbeats 1000000 in
theorem parts_walk (W : World) (v : Value) (o : ∃ A n c R, v = .slice A n c ∧ K.Rows W .u8 A n R ∧ n ≤ c) :
    Calls Try.prog 5 #[v] W fun e w' => e = .returned (.bool true) ∧ Below W.heap.size W w' := by
  obtain ⟨A, n, c, R, rfl, hR, hc⟩ := o
  have hwf : Aside0 (∀ i, i < n → ∀ y ∈ R i, (Lit.int .u8 y).wf = true) := ⟨fun i hi => by
    obtain ⟨ad, B, m, c, h1, h2, h3, h4, h5⟩ := hR.2 i hi
    exact h4⟩
  have HR := Lib.hid hR; clear hR
  by_cases h6 : 30 < n
  · go_enter Try.func5, Try.ntmps5
    go_wp2_with (go_at_call 8; refine (awake_walk _).mono ?_; rintro e w1 ⟨rfl, hb⟩)
    go_ret
    exact ⟨rfl, hb⟩
  go_enter Try.func5, Try.ntmps5
  go_wp2_with (go_at_call 8; refine (awake_walk _).mono ?_; rintro e w1 ⟨rfl, hb⟩)
  go_loopw [3, 4, 5] (fun a s i wr => ∃ k : Nat, k ≤ n ∧ i = .int .i64 k ∧ s = .int .u32 (sumTo R k) ∧ Aside0 (wr.ownsRow W.heap.size 5 1 a (catTo R k).length (nums .u8 (catTo R k)) ∧ Below W.heap.size W wr ∧ (∀ i, i < k → (R i).length ≤ 200))) (fun _ _ i _ => n - (intOf i).toNat)
  case atStart => exact ⟨0, Nat.zero_le _, rfl, rfl, ⟨own_nil _ _ _ _, hb, fun i hi => by omega⟩⟩
  case round =>
    obtain ⟨k, hk, rfl, rfl, HK⟩ := hrel
    by_cases hlt : k < n
    · obtain ⟨ad, B, m, c1, rfl, hcell, hrd, _, hmc⟩ := HR.out.2 k hlt
      have HM := Lib.hid hrd; clear hrd
      have HC := Lib.hid hcell; clear hcell
      have hcw := pw_cell_below HK.out.2.1 HC.out
      by_cases h2 : 200 < m
      · go_wp2
        go_ret
        exact ⟨rfl, HK.out.2.1⟩
      · have hle : Aside0 (∀ i, i < k + 1 → (R i).length ≤ 200) := ⟨fun i hi => by
          rcases Nat.lt_or_ge i k with h | h
          · exact HK.out.2.2 i h
          · obtain rfl : i = k := by omega
            have := HM.out.1; omega⟩
        have hl : Aside0 (((catTo R k).length + m) * 1 ≤ 140737488355328) := ⟨by
          have h3 := catTo_len (fun i => if i < k then R i else []) (fun i _ => by split; exact HK.out.2.2 i ‹_›; simp) k (by omega)
          have h4 : ∀ j, j ≤ k → catTo (fun i => if i < k then R i else []) j = catTo R j := by
            intro j
            induction j with
            | zero => intro _; rfl
            | succ j ih => intro hj; rw [catTo, catTo, ih (by omega), if_pos (by omega)]
          rw [h4 k (Nat.le_refl _)] at h3
          omega⟩
        go_wp2_with (first | (at_builtin; refine print_append_row W.heap.size rfl (.tmp 23) (.tmp 27) 25 5 .u8 1 rfl Try.underlying25 (by kernel_rfl) (by decide) _ (catTo R k) (R k) _ _ _ rfl rfl HK.out.1 (HM.out.below HK.out.2.1) HK.out.2.1 HK.out.2.1.size hl.out ?_; intro v1 w2 hown hB1 _ _; have HO := Lib.hid hown; clear hown; have hcell2 := pw_cell_below hB1 HC.out) | (go_at_call 10; refine (more_walk _ _ _ _ _ _ (HM.out.below ‹_›)).mono ?_; rintro e w' ⟨rfl, rfl⟩))
        go_roundw
        case rel => exact ⟨k + 1, by omega, by go_num, rfl, ⟨HO.out, hB1, hle.out⟩⟩
        case measure => simp [intOf]; omega
    · obtain rfl : k = n := by omega
      obtain ⟨A4, c4, e4, R4⟩ := own_reads HK.out.1
      cases e4
      have HT : Aside0 (moreI 0 (catTo R k) = sumTo R k) := ⟨sum_all R k hwf.out⟩
      have H4 := Lib.hid R4; clear R4
      go_wp2_with (go_at_call 9; refine (of_walk _ _ _ _ _ H4.out).mono ?_; rintro e w' ⟨rfl, rfl⟩)
      go_ret
      exact ⟨by rw [HT.out]; simp, HK.out.2.1⟩
end Go.Proofs.Ytmmgmhjoibipcaa
