/- DataTurns: the plain law over numbers and lists: the printed law answers true at every input of the bounds. -/
import Derived.Test.YtnldflbnngealaaPDataTurnsx2
namespace Go.Proofs.Ytnldflbnngealaa.Pure
open Go.RowKit Go.Proofs.Ytnldflbnngealaa.PDataTurns Go.Proofs.YtnldflbnngealaaW.PrintWords Go.Proofs.YtnldflbnngealaaW.PrintLast

theorem w64 {i : Int} (h0 : -9223372036854775808 ≤ i) (h1 : i ≤ 9223372036854775807) : wrap64 i = i := by
  unfold wrap64; omega
theorem rd_at (l : List Int) (i : Nat) (h : i < l.length) : rd l (i : Int) = l[i] := by
  unfold rd; simp [List.getD_eq_getElem?_getD, List.getElem?_eq_getElem h]
theorem drop_at (l : List Int) (i : Nat) (h : i < l.length) : l.drop i = l[i] :: l.drop (i + 1) := List.drop_eq_getElem_cons h

/-! batches -/
def batchL (t at_ : Int) (n : Nat) : List Int := (List.range n).map fun (i : Nat) => (at_ + (i : Int)) % t
theorem batchL_succ (t at_ : Int) (n : Nat) : batchL t at_ (n + 1) = batchL t at_ n ++ [(at_ + (n : Int)) % t] := by
  simp [batchL, List.range_succ]
theorem batchL_length (t at_ : Int) (n : Nat) : (batchL t at_ n).length = n := by simp [batchL]
theorem batch_l0 (t at_ : Int) (n : Nat) (h1 : 1 ≤ t) (h2 : t ≤ 256) (h3 : 0 ≤ at_) (h4 : at_ < t) (hn : n ≤ 256) : ∀ (d k i : Nat), i + d = n → d < k →
    data_Batch.l0 k t at_ (batchL t at_ i) n i = some (batchL t at_ n, 0) := by
  intro d
  induction d with
  | zero =>
    intro k i hd hk
    obtain ⟨k, rfl⟩ : ∃ m, k = m + 1 := ⟨k - 1, by omega⟩
    obtain rfl : i = n := by omega
    simp only [data_Batch.l0]
    rw [if_neg (by omega)]
  | succ d ih =>
    intro k i hd hk
    obtain ⟨k, rfl⟩ : ∃ m, k = m + 1 := ⟨k - 1, by omega⟩
    simp only [data_Batch.l0]
    rw [if_pos (by omega), if_neg (by omega), if_pos (by rw [batchL_length]; omega), w64 (by omega) (by omega), w64 (by omega) (by omega), Int.tmod_eq_emod_of_nonneg (by omega), ← batchL_succ]
    have := ih k (i + 1) (by omega) (by omega)
    simpa using this
def atOf (t n s : Int) : Int := ((s % t) * n) % t
theorem batch_bad (k : Nat) (t n s : Int) (hk : 0 < k) (h : t < 1 ∨ t > 256 ∨ n < 1 ∨ n > t ∨ s < 0) : data_Batch.f k t n s = some ([], 1) := by
  obtain ⟨k, rfl⟩ : ∃ m, k = m + 1 := ⟨k - 1, by omega⟩
  have hj : data_Batch.j0 (k + 1) t n s true = some ([], 1) := by simp only [data_Batch.j0, if_true]
  unfold data_Batch.f
  split
  · exact hj
  split
  · exact hj
  split
  · exact hj
  split
  · exact hj
  have : decide (s < 0) = true := by simp; omega
  rw [this]; exact hj
theorem mul_bd (a n t : Int) (h0 : 0 ≤ a) (h1 : a < t) (h2 : t ≤ 256) (h3 : 1 ≤ n) (h4 : n ≤ t) : 0 ≤ a * n ∧ a * n ≤ 65536 := by
  refine ⟨Int.mul_nonneg h0 (by omega), ?_⟩
  have h5 : a * n ≤ 256 * n := Int.mul_le_mul_of_nonneg_right (by omega) (by omega)
  omega
theorem batch_good (k : Nat) (t n s : Int) (hk : 300 < k) (h1 : 1 ≤ t) (h2 : t ≤ 256) (h3 : 1 ≤ n) (h4 : n ≤ t) (h5 : 0 ≤ s) : data_Batch.f k t n s = some (batchL t (atOf t n s) n.toNat, 0) := by
  obtain ⟨k, rfl⟩ : ∃ m, k = m + 1 := ⟨k - 1, by omega⟩
  unfold data_Batch.f
  rw [if_neg (by omega), if_neg (by omega), if_neg (by omega), if_neg (by omega)]
  have : decide (s < 0) = false := by simp; omega
  rw [this]
  simp only [data_Batch.j0]
  have hm0 := Int.emod_nonneg s (show t ≠ 0 by omega)
  have hm1 := Int.emod_lt_of_pos s (show 0 < t by omega)
  have hb := mul_bd (s % t) n t hm0 hm1 h2 h3 h4
  rw [if_neg (by simp), if_neg (by omega), Int.tmod_eq_emod_of_nonneg h5, w64 (by omega) (by omega), Int.tmod_eq_emod_of_nonneg hb.1]
  have a0 : 0 ≤ atOf t n s := Int.emod_nonneg _ (by omega)
  have a1 : atOf t n s < t := Int.emod_lt_of_pos _ (by omega)
  have := batch_l0 t (atOf t n s) n.toNat h1 h2 a0 a1 (by omega) n.toNat k 0 (by omega) (by omega)
  have hn : ((n.toNat : Nat) : Int) = n := by omega
  rw [hn] at this
  simpa [batchL, atOf] using this

/-! members -/
def rise : Int → List Int → Bool
  | _, [] => true
  | last, x :: r => !decide (x ≤ last) && (!decide (x ≥ 16) && rise x r)
def good (l : List Int) : Bool := !decide ((l.length : Int) < 1) && (!decide ((l.length : Int) > 16) && rise (-1) l)
theorem good_l0 (l : List Int) (hl : l.length ≤ 100) : ∀ (d k i : Nat) (last : Int), i + d = l.length → d < k → data_Good.l0 k last l l.length i = some (rise last (l.drop i)) := by
  intro d
  induction d with
  | zero =>
    intro k i last hd hk
    obtain ⟨k, rfl⟩ : ∃ m, k = m + 1 := ⟨k - 1, by omega⟩
    simp only [data_Good.l0]
    rw [if_neg (by omega), List.drop_of_length_le (by omega)]; rfl
  | succ d ih =>
    intro k i last hd hk
    obtain ⟨k, rfl⟩ : ∃ m, k = m + 1 := ⟨k - 1, by omega⟩
    simp only [data_Good.l0]
    rw [if_pos (by omega), if_pos (by omega), if_pos (by omega), rd_at l i (by omega), w64 (by omega) (by omega), drop_at l i (by omega), rise]
    by_cases h1 : l[i] ≤ last
    · rw [if_pos h1]; simp [h1]
    · rw [if_neg h1]
      by_cases h2 : l[i] ≥ 16
      · rw [if_pos h2]; simp [h2]
      · rw [if_neg h2]
        have e : ((i : Int) + 1) = ((i + 1 : Nat) : Int) := by omega
        rw [e, ih k (i + 1) l[i] (by omega) (by omega)]
        simp [h1, h2]
theorem good_f (k : Nat) (l : List Int) (hk : 60 < k) (hl : l.length ≤ 50) : data_Good.f k l = some (good l) := by
  obtain ⟨k, rfl⟩ : ∃ m, k = m + 1 := ⟨k - 1, by omega⟩
  unfold data_Good.f good
  by_cases h1 : (l.length : Int) < 1
  · rw [if_pos h1]; simp only [data_Good.j0]; simp [h1]
  · rw [if_neg h1]
    simp only [data_Good.j0]
    by_cases h2 : (l.length : Int) > 16
    · simp [h2]
    · simp only [h2, decide_false]
      rw [if_neg (by simp)]
      have := good_l0 l (by omega) l.length k 0 (-1) (by omega) (by omega)
      simp only [List.drop_zero] at this
      rw [show ((0 : Nat) : Int) = 0 from rfl] at this
      rw [this]; simp [h1]

/-! places -/
theorem index_l0 (l : List Int) (a : Int) (hl : l.length ≤ 100) : ∀ (d k i : Nat), i + d = l.length → d < k → ∃ r, slices_Index_int_int.l0 k l a l.length i = some r ∧
    ((r = -1 ∧ ∀ j, i ≤ j → (h : j < l.length) → l[j] ≠ a) ∨ (∃ p, r = (p : Nat) ∧ i ≤ p ∧ ∃ h : p < l.length, l[p] = a)) := by
  intro d
  induction d with
  | zero =>
    intro k i hd hk
    obtain ⟨k, rfl⟩ : ∃ m, k = m + 1 := ⟨k - 1, by omega⟩
    refine ⟨-1, ?_, .inl ⟨rfl, fun j h1 h2 => by omega⟩⟩
    simp only [slices_Index_int_int.l0]
    rw [if_neg (by omega)]
  | succ d ih =>
    intro k i hd hk
    obtain ⟨k, rfl⟩ : ∃ m, k = m + 1 := ⟨k - 1, by omega⟩
    have hi : i < l.length := by omega
    simp only [slices_Index_int_int.l0]
    rw [if_pos (by omega), if_pos (by omega), if_pos (by omega), rd_at l i hi, w64 (by omega) (by omega)]
    by_cases h : a = l[i]
    · rw [if_pos h]
      exact ⟨_, rfl, .inr ⟨i, rfl, Nat.le_refl _, hi, h.symm⟩⟩
    · rw [if_neg h]
      have e : ((i : Int) + 1) = ((i + 1 : Nat) : Int) := by omega
      obtain ⟨r, hr, hp⟩ := ih k (i + 1) (by omega) (by omega)
      refine ⟨r, by rw [e]; exact hr, ?_⟩
      rcases hp with ⟨h1, h2⟩ | ⟨p, h1, h2, h3⟩
      · refine .inl ⟨h1, fun j hj hj2 => ?_⟩
        rcases Nat.eq_or_lt_of_le hj with rfl | hlt
        · exact fun e => h e.symm
        · exact h2 j hlt hj2
      · exact .inr ⟨p, h1, by omega, h3⟩

/-- From the i-th on, those whose place modulo n is p. -/
def shardF (n p : Nat) : Nat → List Int → List Int
  | _, [] => []
  | i, x :: r => if i % n = p then x :: shardF n p (i + 1) r else shardF n p (i + 1) r
theorem shardF_len (n p : Nat) : ∀ (l : List Int) (i : Nat), (shardF n p i l).length ≤ l.length
  | [], i => by simp [shardF]
  | x :: r, i => by
    have := shardF_len n p r (i + 1)
    unfold shardF; split <;> simp <;> omega
theorem shard_l0 (b m : List Int) (p : Nat) (hm : 0 < m.length) (hm2 : m.length ≤ 100) (hb : b.length ≤ 1000) : ∀ (d k i : Nat) (acc : List Int), acc.length ≤ i → i + d = b.length → d < k →
    data_Shard.l0 k m p acc b b.length i = some (acc ++ shardF m.length p i (b.drop i), 0) := by
  intro d
  induction d with
  | zero =>
    intro k i acc ha hd hk
    obtain ⟨k, rfl⟩ : ∃ m, k = m + 1 := ⟨k - 1, by omega⟩
    simp only [data_Shard.l0]
    rw [if_neg (by omega), List.drop_of_length_le (by omega)]; simp [shardF]
  | succ d ih =>
    intro k i acc ha hd hk
    obtain ⟨k, rfl⟩ : ∃ m, k = m + 1 := ⟨k - 1, by omega⟩
    have hi : i < b.length := by omega
    have e : ((i : Int) + 1) = ((i + 1 : Nat) : Int) := by omega
    simp only [data_Shard.l0]
    rw [if_pos (by omega), if_pos (by omega), if_pos (by omega), if_neg (by omega), rd_at b i hi, w64 (by omega) (by omega), drop_at b i hi, shardF, e, Int.tmod_eq_emod_of_nonneg (by omega)]
    by_cases h : i % m.length = p
    · rw [if_pos (by omega), if_pos (by omega), if_pos h, ih k (i + 1) _ (by simp; omega) (by omega) (by omega)]
      simp
    · rw [if_neg (by omega), if_neg h, ih k (i + 1) _ (by omega) (by omega) (by omega)]
/-- Whose place: the first one, or none. -/
def place (l : List Int) (a r : Int) : Prop := (r = -1 ∧ ∀ j, (h : j < l.length) → l[j] ≠ a) ∨ (∃ p : Nat, r = p ∧ ∃ h : p < l.length, l[p] = a)
theorem index_f (k : Nat) (l : List Int) (a : Int) (hk : 110 < k) (hl : l.length ≤ 100) : ∃ r, slices_Index_int_int.f k l a = some r ∧ place l a r := by
  obtain ⟨r, hr, h⟩ := index_l0 l a hl l.length k 0 (by omega) (by omega)
  refine ⟨r, hr, ?_⟩
  rcases h with ⟨h1, h2⟩ | ⟨p, h1, _, h3⟩
  · exact .inl ⟨h1, fun j hj => h2 j (Nat.zero_le _) hj⟩
  · exact .inr ⟨p, h1, h3⟩
theorem shard_f (k : Nat) (b m : List Int) (a : Int) (hk : 1200 < k) (hm : m.length ≤ 50) (hb : b.length ≤ 1000) : 
    ∃ r, place m a r ∧ data_Shard.f k b m a = some (if good m = true ∧ 0 ≤ r then (shardF m.length r.toNat 0 b, 0) else ([], 1)) := by
  obtain ⟨r, hr, hp⟩ := index_f k m a (by omega) (by omega)
  refine ⟨r, hp, ?_⟩
  obtain ⟨k, rfl⟩ : ∃ m, k = m + 1 := ⟨k - 1, by omega⟩
  unfold data_Shard.f
  rw [hr, good_f _ m (by omega) hm]
  simp only [Option.bind_some]
  by_cases hg : good m = true
  · rw [if_pos hg]
    simp only [data_Shard.j0]
    by_cases h0 : 0 ≤ r
    · have : ¬ r < 0 := by omega
      simp only [this, decide_false, hg, h0, and_self, if_true]
      rw [if_neg (by simp)]
      have hm0 : 0 < m.length := by
        rcases Nat.eq_zero_or_pos m.length with h | h
        · simp [good, h] at hg
        · exact h
      have := shard_l0 b m r.toNat hm0 (by omega) hb b.length k 0 [] (by simp) (by omega) (by omega)
      have e : ((r.toNat : Nat) : Int) = r := by omega
      rw [e] at this
      simpa using this
    · have : r < 0 := by omega
      simp [this, h0]
  · rw [if_neg hg]
    simp only [data_Shard.j0, if_true]
    simp [hg]
theorem same_l0 (l : List Int) (hl : l.length ≤ 1000000) : ∀ (d k i : Nat), i + d = l.length → d < k → carouselref5_Same.l0 k l l i = some true := by
  intro d
  induction d with
  | zero =>
    intro k i hd hk
    obtain ⟨k, rfl⟩ : ∃ m, k = m + 1 := ⟨k - 1, by omega⟩
    simp only [carouselref5_Same.l0]
    rw [if_neg (by omega)]
  | succ d ih =>
    intro k i hd hk
    obtain ⟨k, rfl⟩ : ∃ m, k = m + 1 := ⟨k - 1, by omega⟩
    have e : ((i : Int) + 1) = ((i + 1 : Nat) : Int) := by omega
    simp only [carouselref5_Same.l0]
    rw [if_pos (by omega), if_pos (by omega), if_pos (by omega), w64 (by omega) (by omega), e]
    simp only [if_true]
    exact ih k (i + 1) (by omega) (by omega)
theorem same_f (k : Nat) (l : List Int) (hl : l.length ≤ 1000000) (hk : l.length < k) : carouselref5_Same.f k l l = some true := by
  unfold carouselref5_Same.f
  simp only [if_true]
  exact same_l0 l hl l.length k 0 (by omega) hk
theorem awake_f (k : Nat) (hk : 2000 < k) : carousellaw16_awake.f k = some true := by
  have h0 : carousellaw16_awake.f 100 = some true := by decide +kernel
  exact at_rounds (g := carousellaw16_awake.f) (fun k => carousellaw16_awake.mono k) (by omega) h0

/-! the law -/
theorem at_next (t n s : Int) : atOf t n (s + 1) = (atOf t n s + n) % t := by
  unfold atOf
  have e : ∀ a : Int, a % t * n % t = a * n % t := fun a => by rw [Int.mul_emod, Int.emod_emod, ← Int.mul_emod]
  rw [e, e, Int.add_mul, Int.one_mul, Int.emod_add_emod]
theorem at_same (t n s : Int) : atOf t n (s + t) = atOf t n s := by
  unfold atOf
  rw [Int.add_emod_right]
theorem batchL_two (t at_ n : Int) (h0 : 0 ≤ n) : batchL t at_ n.toNat ++ batchL t ((at_ + n) % t) n.toNat = batchL t at_ (n.toNat + n.toNat) := by
  unfold batchL
  rw [List.range_add, List.map_append, List.map_map]
  congr 1
  apply List.map_congr_left
  intro i _
  simp only [Function.comp]
  rw [Int.emod_add_emod]
  congr 1
  omega
theorem batchL_at (t at_ : Int) (n i : Nat) (h : i < n) : rd (batchL t at_ n) i = (at_ + i) % t := by
  rw [rd_at _ _ (by rw [batchL_length]; exact h)]
  simp [batchL]
theorem turns_l0 (t at_ : Int) (n : Nat) (ht : 1 ≤ t) (ht2 : t ≤ 256) (_h0 : 0 ≤ at_) (hn : n ≤ 600) : ∀ (d k i : Nat), 0 < i → i + d = n → d < k → carousellaw16_DataTurns.l0 k t (batchL t at_ n) i = some true := by
  intro d
  induction d with
  | zero =>
    intro k i h1 hd hk
    obtain ⟨k, rfl⟩ : ∃ m, k = m + 1 := ⟨k - 1, by omega⟩
    simp only [carousellaw16_DataTurns.l0]
    rw [batchL_length, if_neg (by omega)]
  | succ d ih =>
    intro k i h1 hd hk
    obtain ⟨k, rfl⟩ : ∃ m, k = m + 1 := ⟨k - 1, by omega⟩
    obtain ⟨j, rfl⟩ : ∃ j, i = j + 1 := ⟨i - 1, by omega⟩
    have e1 : (((j + 1 : Nat) : Int) - 1) = (j : Int) := by omega
    have e2 : (((j + 1 : Nat) : Int) + 1) = ((j + 1 + 1 : Nat) : Int) := by omega
    have hz0 := Int.emod_nonneg (at_ + j) (show t ≠ 0 by omega)
    have hz1 := Int.emod_lt_of_pos (at_ + j) (show 0 < t by omega)
    have hz : (((at_ + (j : Int)) % t) + 1) % t = (at_ + ((j + 1 : Nat) : Int)) % t := by
      rw [Int.emod_add_emod]; congr 1; omega
    simp only [carousellaw16_DataTurns.l0]
    rw [batchL_length, if_pos (by omega), if_pos (by omega), e1, e2, w64 (by omega) (by omega), if_pos (by omega), if_pos (by omega), if_neg (by omega), batchL_at t at_ n (j + 1) (by omega), batchL_at t at_ n j (by omega), w64 (by omega) (by omega), Int.tmod_eq_emod_of_nonneg (by omega), hz, if_pos rfl, w64 (by omega) (by omega)]
    exact ih k (j + 1 + 1) (by omega) (by omega) (by omega)
theorem DataTurns : carousellaw16_DataTurns.Pure := by
  intro t n s _ _ hs
  obtain ⟨K, hK⟩ : ∃ K : Nat, K = 5000 := ⟨_, rfl⟩
  refine ⟨K + 2, ?_⟩
  unfold carousellaw16_DataTurns.f
  rw [awake_f (K + 2) (by omega)]
  simp only [Option.bind_some, if_true]
  by_cases h1 : t < 1
  · rw [if_pos h1]; simp only [carousellaw16_DataTurns.j0, if_true]
  rw [if_neg h1]
  by_cases h2 : t > 256
  · rw [if_pos h2]; simp only [carousellaw16_DataTurns.j0, if_true]
  rw [if_neg h2]
  by_cases h3 : n < 1
  · rw [if_pos h3]; simp only [carousellaw16_DataTurns.j0, if_true]
  rw [if_neg h3]
  by_cases h4 : n > t
  · rw [if_pos h4]; simp only [carousellaw16_DataTurns.j0, if_true]
  rw [if_neg h4]
  by_cases h5 : s < 0
  · rw [if_pos h5]; simp only [carousellaw16_DataTurns.j0, if_true]
  rw [if_neg h5]
  simp only [carousellaw16_DataTurns.j0]
  by_cases h6 : s > 1125899906842624
  · simp [h6]
  rw [if_neg (by simp [h6])]
  have hn : ((n.toNat : Nat) : Int) = n := by omega
  rw [w64 (by omega) (by omega), w64 (by omega) (by omega), batch_good (K + 1) t n s (by omega) (by omega) (by omega) (by omega) (by omega) (by omega), batch_good (K + 1) t n (s + 1) (by omega) (by omega) (by omega) (by omega) (by omega) (by omega), batch_good (K + 1) t n (s + t) (by omega) (by omega) (by omega) (by omega) (by omega) (by omega), at_same, at_next]
  simp only [Option.bind_some, if_true, batchL_length]
  rw [if_pos hn, same_f _ _ (by rw [batchL_length]; omega) (by rw [batchL_length]; omega)]
  simp only [Option.bind_some, Bool.not_true, carousellaw16_DataTurns.j1]
  rw [if_neg (by simp), if_pos (by simp only [List.length_nil, batchL_length]; omega), if_pos (by simp only [List.nil_append, batchL_length]; omega), List.nil_append, batchL_two t _ n (by omega)]
  have h := turns_l0 t (atOf t n s) (n.toNat + n.toNat) (by omega) (by omega) (Int.emod_nonneg _ (by omega)) (by omega) (n.toNat + n.toNat - 1) K 1 (by omega) (by omega) (by omega)
  exact h

end Go.Proofs.Ytnldflbnngealaa.Pure
