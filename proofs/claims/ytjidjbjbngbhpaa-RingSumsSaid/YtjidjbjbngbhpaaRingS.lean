/- The plain law of the ring, its end: all places hold the sum. No program. -/
import Derived.Test.YtjidjbjbngbhpaaRingR
set_option linter.unusedVariables false
set_option linter.unusedSimpArgs false
namespace Go.Proofs.Ytjidjbjbngbhpaa
open Go.RowKit Go.Proofs.YtjidjbjbngbhpaaW.PrintWords Go.Proofs.Ytjidjbjbngbhpaa.K

variable {R : Nat → List (Int × Int)} {k n : Nat}
theorem fall (h : Rok R k n) {c x : Nat} (hc : c < n) (h1 : cstart k n c ≤ x) (h2 : x < cstart k n (c + 1)) : ∀ s, s ≤ n - 1 → ∀ i, i < n → ((i + n - c) % n < s ∨ (i + n - c) % n = n - 1) →
    wm ((Gs R k n (n - 1 + s) i).getD x (0, 0)) = Cy R n c x (n - 1)
  | 0, _, i, hi, hd => by
    have hd' : (i + n - c) % n = n - 1 := by omega
    have := rise h hc h1 h2 (n - 1) (Nat.le_refl _) i hi
    rw [if_pos (by omega), hd'] at this
    exact this
  | s + 1, hs, i, hi, hd => by
    have ih := fall h hc h1 h2 s (by omega)
    have hn := h.1
    have hu := csn_down h.1 h.2.1 hi hc (s := s) (by omega)
    have hpd := pre_dist h.1 h.2.1 hi hc
    have hmod := Nat.mod_lt (i + n - c) (show 0 < n by omega)
    rw [show n - 1 + (s + 1) = n - 1 + s + 1 by omega, Gs_at h hi hc h1 h2]
    by_cases e : csn n (pre n i) (n - 1 + s) = c
    · rw [if_pos e]
      have hd1 := hu.1 e
      have ha : addB n (n - 1 + s) = false := by unfold addB; exact decide_eq_false (by omega)
      rw [ha]
      unfold gotV
      rw [if_neg (by decide)]
      refine ih _ (pre_lt (by omega)) ?_
      rw [hpd]
      by_cases h0 : (i + n - c) % n = 0
      · rw [if_pos h0]; exact .inr rfl
      · rw [if_neg h0]; exact .inl (by omega)
    · rw [if_neg e]
      have hd1 : ¬ (i + n - c) % n = s := fun h3 => e (hu.2 h3)
      exact ih i hi (by omega)
/-- At the end each place has the sum of all. -/
theorem all_sum (h : Rok R k n) {i x : Nat} (hi : i < n) (hx : x < k) : wm ((Gs R k n (2 * n - 2) i).getD x (0, 0)) = Sm (fun j => wm ((R j).getD x (0, 0))) n % 340282366920938463463374607431768211456 := by
  have hn := h.1
  obtain ⟨c, hc, h1, h2⟩ := chunk_of k n (by omega) hx
  have hmod := Nat.mod_lt (i + n - c) (show 0 < n by omega)
  have := fall h hc h1 h2 (n - 1) (Nat.le_refl _) i hi (by omega)
  rw [show 2 * n - 2 = n - 1 + (n - 1) by omega, this]
  unfold Cy
  rw [show n - 1 + 1 = n by omega, Sm_rot (fun j => wm ((R j).getD x (0, 0))) n (by omega) c]
/-- Of one place, or more. -/
def Rok1 (R : Nat → List (Int × Int)) (k n : Nat) : Prop := 1 ≤ n ∧ n ≤ 16 ∧ ∀ i, i < n → (R i).length = k ∧ ∀ p ∈ R i, WwfP p
theorem Rok1.up (h : Rok1 R k n) (hn : 2 ≤ n) : Rok R k n := ⟨hn, h.2.1, h.2.2⟩
theorem all_sum1 (h : Rok1 R k n) {i x : Nat} (hi : i < n) (hx : x < k) : wm ((Gs R k n (2 * n - 2) i).getD x (0, 0)) = Sm (fun j => wm ((R j).getD x (0, 0))) n % 340282366920938463463374607431768211456 := by
  rcases Nat.lt_or_ge n 2 with h1 | h1
  · obtain rfl : n = 1 := by have := h.1; omega
    obtain rfl : i = 0 := by omega
    have := wm_rng ((R 0).getD x (0, 0))
    show wm ((R 0).getD x (0, 0)) = _
    rw [Sm, Sm]
    omega
  · exact all_sum (h.up h1) hi hx
theorem Gs_len1 (h : Rok1 R k n) {i : Nat} (hi : i < n) : (Gs R k n (2 * n - 2) i).length = k := by
  rcases Nat.lt_or_ge n 2 with h1 | h1
  · obtain rfl : n = 1 := by have := h.1; omega
    exact (h.2.2 i hi).1
  · exact Gs_len (h.up h1) _ i hi
theorem Gs_wf1 (h : Rok1 R k n) {i : Nat} (hi : i < n) : ∀ p ∈ Gs R k n (2 * n - 2) i, WwfP p := by
  rcases Nat.lt_or_ge n 2 with h1 | h1
  · obtain rfl : n = 1 := by have := h.1; omega
    exact (h.2.2 i hi).2
  · exact Gs_wf (h.up h1) _ i hi
/-- Whatever row has the sums is the one that each place has. -/
theorem all_row (h : Rok1 R k n) {i : Nat} (hi : i < n) {l : List (Int × Int)} (hl : l.length = k) (hw : ∀ p ∈ l, WwfP p) (hs : ∀ x, x < k → wm (l.getD x (0, 0)) = Sm (fun j => wm ((R j).getD x (0, 0))) n % 340282366920938463463374607431768211456) : Gs R k n (2 * n - 2) i = l := by
  refine list_ext (by rw [Gs_len1 h hi, hl]) fun x hx => ?_
  rw [Gs_len1 h hi] at hx
  exact wm_inj (getD_wf (Gs_wf1 h hi) x) (getD_wf hw x) (by rw [all_sum1 h hi hx, hs x hx])
theorem Sm_one (a : Int) (who : Nat) : ∀ n, Sm (fun j => if j = who then a else 0) n = if who < n then a else 0
  | 0 => rfl
  | n + 1 => by
    rw [Sm, Sm_one a who n]
    by_cases h : who < n
    · rw [if_pos h, if_neg (by omega), if_pos (by omega)]; omega
    · rw [if_neg h]
      by_cases h2 : n = who
      · rw [if_pos h2, if_pos (by omega)]; omega
      · rw [if_neg h2, if_neg (by omega)]; rfl
/-- Rows of noughts but one's. -/
def oneRow (k who : Nat) (row : List (Int × Int)) (i : Nat) : List (Int × Int) := if i = who then row else List.replicate k (0, 0)
theorem oneRow_ok {k who n : Nat} {row : List (Int × Int)} (h1 : 1 ≤ n) (h2 : n ≤ 16) (hl : row.length = k) (hw : ∀ p ∈ row, WwfP p) : Rok1 (oneRow k who row) k n := by
  refine ⟨h1, h2, fun i hi => ?_⟩
  unfold oneRow
  split
  · exact ⟨hl, hw⟩
  · exact ⟨by simp, fun p hp => by rw [List.eq_of_mem_replicate hp]; exact ⟨by decide, by decide⟩⟩
theorem oneRow_all {k who n i : Nat} {row : List (Int × Int)} (h1 : 1 ≤ n) (h2 : n ≤ 16) (hl : row.length = k) (hw : ∀ p ∈ row, WwfP p) (hi : i < n) (hwho : who < n) : Gs (oneRow k who row) k n (2 * n - 2) i = row := by
  refine all_row (oneRow_ok h1 h2 hl hw) hi hl hw fun x hx => ?_
  have e : Sm (fun j => wm ((oneRow k who row j).getD x (0, 0))) n = Sm (fun j => if j = who then wm (row.getD x (0, 0)) else 0) n := Sm_congr n fun j hj => by
    unfold oneRow
    split
    · rfl
    · rw [show (List.replicate k ((0 : Int), (0 : Int))).getD x (0, 0) = (0, 0) by simp [List.getD_eq_getElem?_getD, hx]]
      exact wm_zero
  rw [e, Sm_one, if_pos hwho]
  have := wm_rng (row.getD x (0, 0))
  omega
end Go.Proofs.Ytjidjbjbngbhpaa
