/- What buckets and chunks are, as BucketCovers asks for it: plain facts. -/
import Derived.Test.YthnmeolbpgmebaaBucketB
set_option linter.unusedVariables false
set_option linter.unusedSimpArgs false
namespace Go.Proofs.Ythnmeolbpgmebaa
open Go.RowKit Go.Proofs.YthnmeolbpgmebaaW.PrintWords Go.Proofs.Ythnmeolbpgmebaa.K

theorem getD_build {α : Type} (d : α) (L : Nat → List α) (x : Nat → α) (h0 : L 0 = []) (hs : ∀ k, L (k + 1) = L k ++ [x k]) : ∀ k, (L k).length = k ∧ ∀ i, i < k → (L k).getD i d = x i
  | 0 => ⟨by rw [h0]; rfl, fun i hi => absurd hi (Nat.not_lt_zero _)⟩
  | k + 1 => by
    obtain ⟨h1, h2⟩ := getD_build d L x h0 hs k
    refine ⟨by rw [hs]; simp [h1], fun i hi => ?_⟩
    rw [hs, List.getD_eq_getElem?_getD]
    rcases Nat.lt_or_ge i k with h | h
    · rw [List.getElem?_append_left (by omega), ← List.getD_eq_getElem?_getD]
      exact h2 i h
    · obtain rfl : i = k := by omega
      rw [List.getElem?_append_right (by omega), h1]
      simp
theorem chunk_row (long n : Nat) (hn : 1 ≤ n) : ∃ g : Nat → Nat, g 0 = 0 ∧ g n = long ∧ ∀ i, i < n → (chunkL long n n).getD i (0, 0) = ((g i : Int), (g (i + 1) : Int)) ∧ g (i + 1) ≤ long ∧ g i + long / n ≤ g (i + 1) ∧ g (i + 1) ≤ g i + long / n + 1 ∧ (0 < i → g (i + 1) + g (i - 1) ≤ g i + g i) := by
  refine ⟨cstart long n, by simp [cstart], ?_, fun i hi => ⟨?_, cstart_le long n (i + 1) (by omega), ?_, ?_, fun h0 => ?_⟩⟩
  · unfold cstart
    have h1 := Nat.div_add_mod long n
    have h2 := Nat.mod_lt long hn
    rw [Nat.min_eq_right (by omega)]
    exact h1
  · exact (getD_build (0, 0) (chunkL long n) _ rfl (fun k => rfl) n).2 i hi
  · rw [cstart_succ]; split <;> omega
  · rw [cstart_succ]; split <;> omega
  · obtain ⟨j, rfl⟩ : ∃ j, i = j + 1 := ⟨i - 1, by omega⟩
    rw [cstart_succ long n (j + 1), Nat.add_sub_cancel]
    have := cstart_succ long n j
    split at this <;> split <;> omega
theorem bucket_row (total size k : Nat) (h : Many total size k) (hs : 1 ≤ size) : ∃ f : Nat → Nat, f 0 = 0 ∧ f k = total ∧ k ≤ total + 1 ∧ ∀ i, i < k → (bucketL total size k).getD i (0, 0) = ((f i : Int), (f (i + 1) : Int)) ∧ f (i + 1) ≤ total ∧ f i < f (i + 1) ∧ f (i + 1) ≤ f i + size := by
  refine ⟨fun i => min (i * size) total, by simp, by have := h.1; simp; omega, ?_, fun i hi => ⟨?_, ?_, ?_, ?_⟩⟩
  · rcases Nat.eq_zero_or_pos k with rfl | hk
    · omega
    · have h2 := h.2 (k - 1) (by omega)
      have : k - 1 ≤ (k - 1) * size := Nat.le_mul_of_pos_right _ hs
      omega
  · have h2 := h.2 i hi
    rw [(getD_build (0, 0) (bucketL total size) _ rfl (fun k => rfl) k).2 i hi]
    simp only [Nat.min_eq_left (Nat.le_of_lt h2)]
  · exact Nat.min_le_right _ _
  · have h2 := h.2 i hi
    simp only []
    rw [Nat.add_mul]
    omega
  · simp only []
    rw [Nat.add_mul]
    omega
end Go.Proofs.Ythnmeolbpgmebaa
