/- DataSays: the plain law over numbers and lists: the printed law answers true at every input of the bounds. -/
import Derived.Test.YtnldflbnngealaaPDataSaysx3
namespace Go.Proofs.Ytnldflbnngealaa.Pure
open Go.RowKit Go.Proofs.Ytnldflbnngealaa.PDataSays Go.Proofs.YtnldflbnngealaaW.PrintWords Go.Proofs.YtnldflbnngealaaW.PrintLast

theorem w64 {i : Int} (h0 : -9223372036854775808 ≤ i) (h1 : i ≤ 9223372036854775807) : wrap64 i = i := by
  unfold wrap64; omega
theorem rd_at (l : List Int) (i : Nat) (h : i < l.length) : rd l (i : Int) = l[i] := by
  unfold rd; simp [List.getD_eq_getElem?_getD, List.getElem?_eq_getElem h]
theorem drop_at (l : List Int) (i : Nat) (h : i < l.length) : l.drop i = l[i] :: l.drop (i + 1) := List.drop_eq_getElem_cons h

/-! batches -/
def batchL (t at_ : Int) (n : Nat) : List Int := (List.range n).map fun (i : Nat) => (at_ + (i : Int)) % t
theorem batchL_succ (t at_ : Int) (n : Nat) : batchL t at_ (n + 1) = batchL t at_ n ++ [(at_ + (n : Int)) % t] := by
  simp [batchL, List.range_succ]
theorem batchL_length (t at_ : Int) (n : Nat) : (batchL t at_ n).length = n := by simp [batchL]
theorem batch_l0 (t at_ : Int) (n : Nat) (h1 : 1 ≤ t) (h2 : t ≤ 256) (h3 : 0 ≤ at_) (h4 : at_ < t) (hn : n ≤ 256) : ∀ (d k i : Nat), i + d = n → d < k →
    data_Batch.l0 k t at_ (batchL t at_ i) n i = some (batchL t at_ n, 0) := by
  intro d
  induction d with
  | zero =>
    intro k i hd hk
    obtain ⟨k, rfl⟩ : ∃ m, k = m + 1 := ⟨k - 1, by omega⟩
    obtain rfl : i = n := by omega
    simp only [data_Batch.l0]
    rw [if_neg (by omega)]
  | succ d ih =>
    intro k i hd hk
    obtain ⟨k, rfl⟩ : ∃ m, k = m + 1 := ⟨k - 1, by omega⟩
    simp only [data_Batch.l0]
    rw [if_pos (by omega), if_neg (by omega), if_pos (by rw [batchL_length]; omega), w64 (by omega) (by omega), w64 (by omega) (by omega), Int.tmod_eq_emod_of_nonneg (by omega), ← batchL_succ]
    have := ih k (i + 1) (by omega) (by omega)
    simpa using this
def atOf (t n s : Int) : Int := ((s % t) * n) % t
theorem batch_bad (k : Nat) (t n s : Int) (hk : 0 < k) (h : t < 1 ∨ t > 256 ∨ n < 1 ∨ n > t ∨ s < 0) : data_Batch.f k t n s = some ([], 1) := by
  obtain ⟨k, rfl⟩ : ∃ m, k = m + 1 := ⟨k - 1, by omega⟩
  have hj : data_Batch.j0 (k + 1) t n s true = some ([], 1) := by simp only [data_Batch.j0, if_true]
  unfold data_Batch.f
  split
  · exact hj
  split
  · exact hj
  split
  · exact hj
  split
  · exact hj
  have : decide (s < 0) = true := by simp; omega
  rw [this]; exact hj
theorem mul_bd (a n t : Int) (h0 : 0 ≤ a) (h1 : a < t) (h2 : t ≤ 256) (h3 : 1 ≤ n) (h4 : n ≤ t) : 0 ≤ a * n ∧ a * n ≤ 65536 := by
  refine ⟨Int.mul_nonneg h0 (by omega), ?_⟩
  have h5 : a * n ≤ 256 * n := Int.mul_le_mul_of_nonneg_right (by omega) (by omega)
  omega
theorem batch_good (k : Nat) (t n s : Int) (hk : 300 < k) (h1 : 1 ≤ t) (h2 : t ≤ 256) (h3 : 1 ≤ n) (h4 : n ≤ t) (h5 : 0 ≤ s) : data_Batch.f k t n s = some (batchL t (atOf t n s) n.toNat, 0) := by
  obtain ⟨k, rfl⟩ : ∃ m, k = m + 1 := ⟨k - 1, by omega⟩
  unfold data_Batch.f
  rw [if_neg (by omega), if_neg (by omega), if_neg (by omega), if_neg (by omega)]
  have : decide (s < 0) = false := by simp; omega
  rw [this]
  simp only [data_Batch.j0]
  have hm0 := Int.emod_nonneg s (show t ≠ 0 by omega)
  have hm1 := Int.emod_lt_of_pos s (show 0 < t by omega)
  have hb := mul_bd (s % t) n t hm0 hm1 h2 h3 h4
  rw [if_neg (by simp), if_neg (by omega), Int.tmod_eq_emod_of_nonneg h5, w64 (by omega) (by omega), Int.tmod_eq_emod_of_nonneg hb.1]
  have a0 : 0 ≤ atOf t n s := Int.emod_nonneg _ (by omega)
  have a1 : atOf t n s < t := Int.emod_lt_of_pos _ (by omega)
  have := batch_l0 t (atOf t n s) n.toNat h1 h2 a0 a1 (by omega) n.toNat k 0 (by omega) (by omega)
  have hn : ((n.toNat : Nat) : Int) = n := by omega
  rw [hn] at this
  simpa [batchL, atOf] using this

/-! members -/
def rise : Int → List Int → Bool
  | _, [] => true
  | last, x :: r => !decide (x ≤ last) && (!decide (x ≥ 16) && rise x r)
def good (l : List Int) : Bool := !decide ((l.length : Int) < 1) && (!decide ((l.length : Int) > 16) && rise (-1) l)
theorem good_l0 (l : List Int) (hl : l.length ≤ 100) : ∀ (d k i : Nat) (last : Int), i + d = l.length → d < k → data_Good.l0 k last l l.length i = some (rise last (l.drop i)) := by
  intro d
  induction d with
  | zero =>
    intro k i last hd hk
    obtain ⟨k, rfl⟩ : ∃ m, k = m + 1 := ⟨k - 1, by omega⟩
    simp only [data_Good.l0]
    rw [if_neg (by omega), List.drop_of_length_le (by omega)]; rfl
  | succ d ih =>
    intro k i last hd hk
    obtain ⟨k, rfl⟩ : ∃ m, k = m + 1 := ⟨k - 1, by omega⟩
    simp only [data_Good.l0]
    rw [if_pos (by omega), if_pos (by omega), if_pos (by omega), rd_at l i (by omega), w64 (by omega) (by omega), drop_at l i (by omega), rise]
    by_cases h1 : l[i] ≤ last
    · rw [if_pos h1]; simp [h1]
    · rw [if_neg h1]
      by_cases h2 : l[i] ≥ 16
      · rw [if_pos h2]; simp [h2]
      · rw [if_neg h2]
        have e : ((i : Int) + 1) = ((i + 1 : Nat) : Int) := by omega
        rw [e, ih k (i + 1) l[i] (by omega) (by omega)]
        simp [h1, h2]
theorem good_f (k : Nat) (l : List Int) (hk : 60 < k) (hl : l.length ≤ 50) : data_Good.f k l = some (good l) := by
  obtain ⟨k, rfl⟩ : ∃ m, k = m + 1 := ⟨k - 1, by omega⟩
  unfold data_Good.f good
  by_cases h1 : (l.length : Int) < 1
  · rw [if_pos h1]; simp only [data_Good.j0]; simp [h1]
  · rw [if_neg h1]
    simp only [data_Good.j0]
    by_cases h2 : (l.length : Int) > 16
    · simp [h2]
    · simp only [h2, decide_false]
      rw [if_neg (by simp)]
      have := good_l0 l (by omega) l.length k 0 (-1) (by omega) (by omega)
      simp only [List.drop_zero] at this
      rw [show ((0 : Nat) : Int) = 0 from rfl] at this
      rw [this]; simp [h1]

/-! places -/
theorem index_l0 (l : List Int) (a : Int) (hl : l.length ≤ 100) : ∀ (d k i : Nat), i + d = l.length → d < k → ∃ r, slices_Index_int_int.l0 k l a l.length i = some r ∧
    ((r = -1 ∧ ∀ j, i ≤ j → (h : j < l.length) → l[j] ≠ a) ∨ (∃ p, r = (p : Nat) ∧ i ≤ p ∧ ∃ h : p < l.length, l[p] = a)) := by
  intro d
  induction d with
  | zero =>
    intro k i hd hk
    obtain ⟨k, rfl⟩ : ∃ m, k = m + 1 := ⟨k - 1, by omega⟩
    refine ⟨-1, ?_, .inl ⟨rfl, fun j h1 h2 => by omega⟩⟩
    simp only [slices_Index_int_int.l0]
    rw [if_neg (by omega)]
  | succ d ih =>
    intro k i hd hk
    obtain ⟨k, rfl⟩ : ∃ m, k = m + 1 := ⟨k - 1, by omega⟩
    have hi : i < l.length := by omega
    simp only [slices_Index_int_int.l0]
    rw [if_pos (by omega), if_pos (by omega), if_pos (by omega), rd_at l i hi, w64 (by omega) (by omega)]
    by_cases h : a = l[i]
    · rw [if_pos h]
      exact ⟨_, rfl, .inr ⟨i, rfl, Nat.le_refl _, hi, h.symm⟩⟩
    · rw [if_neg h]
      have e : ((i : Int) + 1) = ((i + 1 : Nat) : Int) := by omega
      obtain ⟨r, hr, hp⟩ := ih k (i + 1) (by omega) (by omega)
      refine ⟨r, by rw [e]; exact hr, ?_⟩
      rcases hp with ⟨h1, h2⟩ | ⟨p, h1, h2, h3⟩
      · refine .inl ⟨h1, fun j hj hj2 => ?_⟩
        rcases Nat.eq_or_lt_of_le hj with rfl | hlt
        · exact fun e => h e.symm
        · exact h2 j hlt hj2
      · exact .inr ⟨p, h1, by omega, h3⟩

/-- From the i-th on, those whose place modulo n is p. -/
def shardF (n p : Nat) : Nat → List Int → List Int
  | _, [] => []
  | i, x :: r => if i % n = p then x :: shardF n p (i + 1) r else shardF n p (i + 1) r
theorem shardF_len (n p : Nat) : ∀ (l : List Int) (i : Nat), (shardF n p i l).length ≤ l.length
  | [], i => by simp [shardF]
  | x :: r, i => by
    have := shardF_len n p r (i + 1)
    unfold shardF; split <;> simp <;> omega
theorem shard_l0 (b m : List Int) (p : Nat) (hm : 0 < m.length) (hm2 : m.length ≤ 100) (hb : b.length ≤ 1000) : ∀ (d k i : Nat) (acc : List Int), acc.length ≤ i → i + d = b.length → d < k →
    data_Shard.l0 k m p acc b b.length i = some (acc ++ shardF m.length p i (b.drop i), 0) := by
  intro d
  induction d with
  | zero =>
    intro k i acc ha hd hk
    obtain ⟨k, rfl⟩ : ∃ m, k = m + 1 := ⟨k - 1, by omega⟩
    simp only [data_Shard.l0]
    rw [if_neg (by omega), List.drop_of_length_le (by omega)]; simp [shardF]
  | succ d ih =>
    intro k i acc ha hd hk
    obtain ⟨k, rfl⟩ : ∃ m, k = m + 1 := ⟨k - 1, by omega⟩
    have hi : i < b.length := by omega
    have e : ((i : Int) + 1) = ((i + 1 : Nat) : Int) := by omega
    simp only [data_Shard.l0]
    rw [if_pos (by omega), if_pos (by omega), if_pos (by omega), if_neg (by omega), rd_at b i hi, w64 (by omega) (by omega), drop_at b i hi, shardF, e, Int.tmod_eq_emod_of_nonneg (by omega)]
    by_cases h : i % m.length = p
    · rw [if_pos (by omega), if_pos (by omega), if_pos h, ih k (i + 1) _ (by simp; omega) (by omega) (by omega)]
      simp
    · rw [if_neg (by omega), if_neg h, ih k (i + 1) _ (by omega) (by omega) (by omega)]
/-- Whose place: the first one, or none. -/
def place (l : List Int) (a r : Int) : Prop := (r = -1 ∧ ∀ j, (h : j < l.length) → l[j] ≠ a) ∨ (∃ p : Nat, r = p ∧ ∃ h : p < l.length, l[p] = a)
theorem index_f (k : Nat) (l : List Int) (a : Int) (hk : 110 < k) (hl : l.length ≤ 100) : ∃ r, slices_Index_int_int.f k l a = some r ∧ place l a r := by
  obtain ⟨r, hr, h⟩ := index_l0 l a hl l.length k 0 (by omega) (by omega)
  refine ⟨r, hr, ?_⟩
  rcases h with ⟨h1, h2⟩ | ⟨p, h1, _, h3⟩
  · exact .inl ⟨h1, fun j hj => h2 j (Nat.zero_le _) hj⟩
  · exact .inr ⟨p, h1, h3⟩
theorem shard_f (k : Nat) (b m : List Int) (a : Int) (hk : 1200 < k) (hm : m.length ≤ 50) (hb : b.length ≤ 1000) : 
    ∃ r, place m a r ∧ data_Shard.f k b m a = some (if good m = true ∧ 0 ≤ r then (shardF m.length r.toNat 0 b, 0) else ([], 1)) := by
  obtain ⟨r, hr, hp⟩ := index_f k m a (by omega) (by omega)
  refine ⟨r, hp, ?_⟩
  obtain ⟨k, rfl⟩ : ∃ m, k = m + 1 := ⟨k - 1, by omega⟩
  unfold data_Shard.f
  rw [hr, good_f _ m (by omega) hm]
  simp only [Option.bind_some]
  by_cases hg : good m = true
  · rw [if_pos hg]
    simp only [data_Shard.j0]
    by_cases h0 : 0 ≤ r
    · have : ¬ r < 0 := by omega
      simp only [this, decide_false, hg, h0, and_self, if_true]
      rw [if_neg (by simp)]
      have hm0 : 0 < m.length := by
        rcases Nat.eq_zero_or_pos m.length with h | h
        · simp [good, h] at hg
        · exact h
      have := shard_l0 b m r.toNat hm0 (by omega) hb b.length k 0 [] (by simp) (by omega) (by omega)
      have e : ((r.toNat : Nat) : Int) = r := by omega
      rw [e] at this
      simpa using this
    · have : r < 0 := by omega
      simp [this, h0]
  · rw [if_neg hg]
    simp only [data_Shard.j0, if_true]
    simp [hg]
theorem same_l0 (l : List Int) (hl : l.length ≤ 1000000) : ∀ (d k i : Nat), i + d = l.length → d < k → carouselref5_Same.l0 k l l i = some true := by
  intro d
  induction d with
  | zero =>
    intro k i hd hk
    obtain ⟨k, rfl⟩ : ∃ m, k = m + 1 := ⟨k - 1, by omega⟩
    simp only [carouselref5_Same.l0]
    rw [if_neg (by omega)]
  | succ d ih =>
    intro k i hd hk
    obtain ⟨k, rfl⟩ : ∃ m, k = m + 1 := ⟨k - 1, by omega⟩
    have e : ((i : Int) + 1) = ((i + 1 : Nat) : Int) := by omega
    simp only [carouselref5_Same.l0]
    rw [if_pos (by omega), if_pos (by omega), if_pos (by omega), w64 (by omega) (by omega), e]
    simp only [if_true]
    exact ih k (i + 1) (by omega) (by omega)
theorem same_f (k : Nat) (l : List Int) (hl : l.length ≤ 1000000) (hk : l.length < k) : carouselref5_Same.f k l l = some true := by
  unfold carouselref5_Same.f
  simp only [if_true]
  exact same_l0 l hl l.length k 0 (by omega) hk
theorem awake_f (k : Nat) (hk : 2000 < k) : carousellaw16_awake.f k = some true := by
  have h0 : carousellaw16_awake.f 100 = some true := by decide +kernel
  exact at_rounds (g := carousellaw16_awake.f) (fun k => carousellaw16_awake.mono k) (by omega) h0

/-! the law -/
theorem rbatch_l0 (t at_ : Int) (n : Nat) (h1 : 1 ≤ t) (h2 : t ≤ 256) (h3 : 0 ≤ at_) (h4 : at_ < t) (hn : n ≤ 256) : ∀ (d k i : Nat), i + d = n → d < k →
    carouselref10_Batch.l0 k t n at_ (batchL t at_ i) i = some (batchL t at_ n, 0) := by
  intro d
  induction d with
  | zero =>
    intro k i hd hk
    obtain ⟨k, rfl⟩ : ∃ m, k = m + 1 := ⟨k - 1, by omega⟩
    obtain rfl : i = n := by omega
    simp only [carouselref10_Batch.l0]
    rw [if_neg (by omega)]
  | succ d ih =>
    intro k i hd hk
    obtain ⟨k, rfl⟩ : ∃ m, k = m + 1 := ⟨k - 1, by omega⟩
    simp only [carouselref10_Batch.l0]
    rw [if_pos (by omega), if_neg (by omega), if_pos (by rw [batchL_length]; omega), w64 (by omega) (by omega), w64 (by omega) (by omega), Int.tmod_eq_emod_of_nonneg (by omega), ← batchL_succ]
    have := ih k (i + 1) (by omega) (by omega)
    simpa using this
theorem rbatch_bad (k : Nat) (t n s : Int) (hk : 0 < k) (h : t < 1 ∨ t > 256 ∨ n < 1 ∨ n > t ∨ s < 0) : carouselref10_Batch.f k t n s = some ([], 1) := by
  obtain ⟨k, rfl⟩ : ∃ m, k = m + 1 := ⟨k - 1, by omega⟩
  have hj : carouselref10_Batch.j0 (k + 1) t n s true = some ([], 1) := by simp only [carouselref10_Batch.j0, if_true]
  unfold carouselref10_Batch.f
  split
  · exact hj
  split
  · exact hj
  split
  · exact hj
  split
  · exact hj
  have : decide (s < 0) = true := by simp; omega
  rw [this]; exact hj
theorem rbatch_good (k : Nat) (t n s : Int) (hk : 300 < k) (h1 : 1 ≤ t) (h2 : t ≤ 256) (h3 : 1 ≤ n) (h4 : n ≤ t) (h5 : 0 ≤ s) : carouselref10_Batch.f k t n s = some (batchL t (atOf t n s) n.toNat, 0) := by
  obtain ⟨k, rfl⟩ : ∃ m, k = m + 1 := ⟨k - 1, by omega⟩
  unfold carouselref10_Batch.f
  rw [if_neg (by omega), if_neg (by omega), if_neg (by omega), if_neg (by omega)]
  have : decide (s < 0) = false := by simp; omega
  rw [this]
  simp only [carouselref10_Batch.j0]
  have hm0 := Int.emod_nonneg s (show t ≠ 0 by omega)
  have hm1 := Int.emod_lt_of_pos s (show 0 < t by omega)
  have hb := mul_bd (s % t) n t hm0 hm1 h2 h3 h4
  rw [if_neg (by simp), if_neg (by omega), Int.tmod_eq_emod_of_nonneg h5, w64 (by omega) (by omega), Int.tmod_eq_emod_of_nonneg hb.1]
  have a0 : 0 ≤ atOf t n s := Int.emod_nonneg _ (by omega)
  have a1 : atOf t n s < t := Int.emod_lt_of_pos _ (by omega)
  have := rbatch_l0 t (atOf t n s) n.toNat h1 h2 a0 a1 (by omega) n.toNat k 0 (by omega) (by omega)
  have hn : ((n.toNat : Nat) : Int) = n := by omega
  rw [hn] at this
  simpa [batchL, atOf] using this
theorem mem_l0 (l : List Int) (hl : l.length ≤ 100) : ∀ (d k i : Nat) (L : Int), i + d = l.length → d < k → -1 ≤ L → (i = 0 → L = -1) → (0 < i → L = l.getD (i - 1) 0) → carouselref10_Members.l0 k l i = some (rise L (l.drop i)) := by
  intro d
  induction d with
  | zero =>
    intro k i L hd hk _ _ _
    obtain ⟨k, rfl⟩ : ∃ m, k = m + 1 := ⟨k - 1, by omega⟩
    simp only [carouselref10_Members.l0]
    rw [if_neg (by omega), List.drop_of_length_le (by omega)]; rfl
  | succ d ih =>
    intro k i L hd hk hL0 hL1 hL2
    obtain ⟨k, rfl⟩ : ∃ m, k = m + 1 := ⟨k - 1, by omega⟩
    have hi : i < l.length := by omega
    have w1 : wrap64 ((i : Int) + 1) = ((i + 1 : Nat) : Int) := by rw [w64 (by omega) (by omega)]; omega
    have hat : l.getD i 0 = l[i] := by simp [List.getD_eq_getElem?_getD, List.getElem?_eq_getElem hi]
    simp only [carouselref10_Members.l0]
    rw [if_pos (by omega), if_pos (by omega), rd_at l i hi, drop_at l i hi, rise, w1]
    by_cases h0 : l[i] < 0
    · rw [if_pos h0]
      have : l[i] ≤ L := by omega
      simp only [this, decide_true, Bool.not_true, Bool.false_and]
    · rw [if_neg h0]
      by_cases h16 : l[i] ≥ 16
      · rw [if_pos h16]; simp [h16]
      · rw [if_neg h16]
        have hih := ih k (i + 1) l[i] (by omega) (by omega) (by omega) (by omega) (fun _ => by rw [Nat.add_sub_cancel, hat])
        by_cases hp : (i : Int) > 0
        · have w2 : wrap64 ((i : Int) - 1) = ((i - 1 : Nat) : Int) := by rw [w64 (by omega) (by omega)]; omega
          have hlast : l.getD (i - 1) 0 = l[i - 1] := by simp [List.getD_eq_getElem?_getD, List.getElem?_eq_getElem (show i - 1 < l.length by omega)]
          rw [if_pos hp, w2, if_pos (by omega), if_pos (by omega), rd_at l (i - 1) (by omega), ← hlast, ← hL2 (by omega)]
          by_cases hle : l[i] ≤ L
          · rw [if_pos hle]; simp [hle]
          · rw [if_neg hle, hih]; simp [hle, h16]
        · rw [if_neg hp, hih]
          have : ¬ l[i] ≤ L := by have := hL1 (by omega); omega
          simp [this, h16]
theorem mem_f (k : Nat) (l : List Int) (hk : 60 < k) (hl : l.length ≤ 50) : carouselref10_Members.f k l = some (good l) := by
  obtain ⟨k, rfl⟩ : ∃ m, k = m + 1 := ⟨k - 1, by omega⟩
  unfold carouselref10_Members.f good
  by_cases h1 : (l.length : Int) < 1
  · rw [if_pos h1]; simp only [carouselref10_Members.j0]; simp [h1]
  · rw [if_neg h1]
    simp only [carouselref10_Members.j0]
    by_cases h2 : (l.length : Int) > 16
    · simp [h2]
    · simp only [h2, decide_false]
      rw [if_neg (by simp)]
      have h := mem_l0 l (by omega) l.length k 0 (-1) (by omega) (by omega) (by omega) (fun _ => rfl) (by omega)
      simp only [List.drop_zero] at h
      rw [show ((0 : Nat) : Int) = 0 from rfl] at h
      rw [h]; simp [h1]
theorem shardF_skip (n p : Nat) : ∀ (m i : Nat) (l : List Int), (∀ t, t < m → (i + t) % n ≠ p) → shardF n p i l = shardF n p (i + m) (l.drop m)
  | 0, i, l, _ => by simp
  | m + 1, i, [], _ => by simp [shardF]
  | m + 1, i, x :: r, h => by
    have h0 := h 0 (by omega)
    rw [Nat.add_zero] at h0
    rw [shardF, if_neg h0, shardF_skip n p m (i + 1) r (fun t ht => by have := h (t + 1) (by omega); rwa [show i + (t + 1) = i + 1 + t by omega] at this)]
    rw [List.drop_succ_cons, show i + 1 + m = i + (m + 1) by omega]
theorem mod_next {i n p t : Nat} (hn : t + 1 < n) (h : i % n = p) : (i + 1 + t) % n ≠ p := by
  intro h2
  have h3 : (i + 1 + t) % n = (i % n + (1 + t)) % n := by rw [Nat.mod_add_mod, Nat.add_assoc]
  rw [h3, h] at h2
  rcases Nat.lt_or_ge (p + (1 + t)) n with h4 | h4
  · rw [Nat.mod_eq_of_lt h4] at h2; omega
  · have hp : p < n := by rw [← h]; exact Nat.mod_lt _ (by omega)
    rw [Nat.mod_eq_sub_mod h4, Nat.mod_eq_of_lt (by omega)] at h2; omega
theorem rshard_l1 (b m : List Int) (p : Nat) (hm : 0 < m.length) (hm2 : m.length ≤ 100) (hb : b.length ≤ 1000) : ∀ (d k i : Nat) (acc : List Int), acc.length ≤ i → b.length ≤ i + d → d < k → i ≤ 10000 → i % m.length = p →
    carouselref10_Shard.l1 k b m acc i = some (acc ++ shardF m.length p i (b.drop i), 0) := by
  intro d
  induction d with
  | zero =>
    intro k i acc ha hd hk hi hp
    obtain ⟨k, rfl⟩ : ∃ m, k = m + 1 := ⟨k - 1, by omega⟩
    simp only [carouselref10_Shard.l1]
    rw [if_neg (by omega), List.drop_of_length_le (by omega)]; simp [shardF]
  | succ d ih =>
    intro k i acc ha hd hk hi1 hp
    obtain ⟨k, rfl⟩ : ∃ m, k = m + 1 := ⟨k - 1, by omega⟩
    simp only [carouselref10_Shard.l1]
    by_cases hi : i < b.length
    · have e : ((i : Int) + (m.length : Int)) = ((i + m.length : Nat) : Int) := by omega
      rw [if_pos (by omega), if_pos (by omega), if_pos (by omega), rd_at b i hi, w64 (by omega) (by omega), e, ih k (i + m.length) _ (by simp; omega) (by omega) (by omega) (by omega) (by rw [Nat.add_mod_right]; exact hp), drop_at b i hi, shardF, if_pos hp]
      rw [shardF_skip m.length p (m.length - 1) (i + 1) (b.drop (i + 1)) (fun t ht => mod_next (by omega) hp), List.drop_drop, show i + 1 + (m.length - 1) = i + m.length by omega]
      simp
    · rw [if_neg (by omega), List.drop_of_length_le (by omega)]; simp [shardF]
def answer (b l : List Int) (r : Int) : List Int × Int := if good l = true ∧ 0 ≤ r then (shardF l.length r.toNat 0 b, 0) else ([], 1)
theorem good_pos {l : List Int} (h : good l = true) : 0 < l.length := by
  rcases Nat.eq_zero_or_pos l.length with h1 | h1
  · simp [good, h1] at h
  · exact h1
theorem rplace_l0 (b l : List Int) (a : Int) (hl : l.length ≤ 50) (hb : b.length ≤ 1000) :
    ∀ (d k i : Nat) (r : Int), i + d = l.length → d + 1200 < k → 
    (r = -1 ∧ (∀ j, j < i → (h : j < l.length) → l[j] ≠ a) ∨ (∃ p : Nat, r = p ∧ ∃ h : p < l.length, l[p] = a)) →
    ∃ r', place l a r' ∧ carouselref10_Shard.l0 k b l a r i = some (answer b l r') := by
  intro d
  induction d with
  | zero =>
    intro k i r hd hk hinv
    obtain ⟨k, rfl⟩ : ∃ m, k = m + 1 := ⟨k - 1, by omega⟩
    refine ⟨r, ?_, ?_⟩
    · rcases hinv with ⟨h1, h2⟩ | h
      · exact .inl ⟨h1, fun j hj => h2 j (by omega) hj⟩
      · exact .inr h
    simp only [carouselref10_Shard.l0]
    rw [if_neg (by omega), mem_f k l (by omega) hl]
    simp only [Option.bind_some]
    obtain ⟨k, rfl⟩ : ∃ m, k = m + 1 := ⟨k - 1, by omega⟩
    unfold answer
    by_cases hg : good l = true
    · rw [if_pos hg]
      simp only [carouselref10_Shard.j1]
      by_cases h0 : 0 ≤ r
      · have : ¬ r < 0 := by omega
        simp only [this, decide_false, hg, h0, and_self, if_true]
        rw [if_neg (by simp)]
        have hp := good_pos hg
        have hr : r.toNat < l.length := by
          rcases hinv with ⟨h1, h2⟩ | ⟨p, h1, h2, _⟩
          · omega
          · omega
        have e : ((r.toNat : Nat) : Int) = r := by omega
        have := rshard_l1 b l r.toNat hp (by omega) hb b.length k r.toNat [] (by simp) (by omega) (by omega) (by omega) (Nat.mod_eq_of_lt hr)
        rw [e] at this
        rw [this, shardF_skip l.length r.toNat r.toNat 0 b (fun t ht => by rw [Nat.zero_add, Nat.mod_eq_of_lt (by omega)]; omega)]
        simp
      · have : r < 0 := by omega
        simp [this, h0]
    · rw [if_neg hg]
      simp only [carouselref10_Shard.j1, if_true]
      simp [hg]
  | succ d ih =>
    intro k i r hd hk hinv
    obtain ⟨k, rfl⟩ : ∃ m, k = m + 1 := ⟨k - 1, by omega⟩
    have hi : i < l.length := by omega
    have e : ((i : Int) + 1) = ((i + 1 : Nat) : Int) := by omega
    simp only [carouselref10_Shard.l0]
    rw [if_pos (by omega), if_pos (by omega), rd_at l i hi, w64 (by omega) (by omega), e]
    by_cases h : l[i] = a
    · rw [if_pos h]
      exact ih k (i + 1) i (by omega) (by omega) (.inr ⟨i, rfl, hi, h⟩)
    · rw [if_neg h]
      refine ih k (i + 1) r (by omega) (by omega) ?_
      rcases hinv with ⟨h1, h2⟩ | h3
      · refine .inl ⟨h1, fun j hj hj2 => ?_⟩
        rcases Nat.lt_or_ge j i with h4 | h4
        · exact h2 j h4 hj2
        · obtain rfl : j = i := by omega
          exact h
      · exact .inr h3
theorem rise_pair : ∀ (l : List Int) (last : Int), rise last l = true → (∀ x ∈ l, last < x) ∧ l.Pairwise (· < ·)
  | [], _, _ => by simp
  | x :: r, last, h => by
    simp only [rise, Bool.and_eq_true, Bool.not_eq_true', decide_eq_false_iff_not] at h
    obtain ⟨h1, h2⟩ := rise_pair r x h.2.2
    refine ⟨fun y hy => ?_, List.pairwise_cons.2 ⟨h1, h2⟩⟩
    rcases List.mem_cons.1 hy with rfl | hy
    · omega
    · have := h1 y hy; omega
theorem place_one {l : List Int} {a r r' : Int} (hg : good l = true) (h : place l a r) (h' : place l a r') : r = r' := by
  have hpw := (rise_pair l (-1) (by simp only [good, Bool.and_eq_true] at hg; exact hg.2.2)).2
  rcases h with ⟨h1, h2⟩ | ⟨p, h1, hp, h2⟩ <;> rcases h' with ⟨h3, h4⟩ | ⟨q, h3, hq, h4⟩
  · omega
  · exact absurd h4 (h2 q hq)
  · exact absurd h2 (h4 p hp)
  · rw [List.pairwise_iff_getElem] at hpw
    rcases Nat.lt_trichotomy p q with h | h | h
    · have := hpw p q hp hq h; omega
    · omega
    · have := hpw q p hq hp h; omega
theorem answer_one {b l : List Int} {a r r' : Int} (h : place l a r) (h' : place l a r') : answer b l r = answer b l r' := by
  by_cases hg : good l = true
  · rw [place_one hg h h']
  · simp [answer, hg]
theorem answer_len (b l : List Int) (r : Int) : (answer b l r).1.length ≤ b.length := by
  unfold answer; split
  · exact shardF_len _ _ _ _
  · simp
theorem both_batch (t n s : Int) : ∃ r : List Int × Int, r.1.length ≤ 256 ∧ ∀ k, 300 < k → data_Batch.f k t n s = some r ∧ carouselref10_Batch.f k t n s = some r := by
  by_cases h : t < 1 ∨ t > 256 ∨ n < 1 ∨ n > t ∨ s < 0
  · exact ⟨([], 1), by simp, fun k hk => ⟨batch_bad k t n s (by omega) h, rbatch_bad k t n s (by omega) h⟩⟩
  · exact ⟨_, by simp only [batchL_length]; omega, fun k hk => ⟨batch_good k t n s hk (by omega) (by omega) (by omega) (by omega) (by omega), rbatch_good k t n s hk (by omega) (by omega) (by omega) (by omega) (by omega)⟩⟩
theorem DataSays : carousellaw16_DataSays.Pure := by
  intro t n s b l a _ _ _ _ _ _ _ _ _ _
  refine ⟨3000, ?_⟩
  unfold carousellaw16_DataSays.f
  rw [awake_f 3000 (by omega)]
  simp only [Option.bind_some, if_true]
  by_cases h1 : (b.length : Int) > 300
  · rw [if_pos h1]; simp only [carousellaw16_DataSays.j0, if_true]
  rw [if_neg h1]
  simp only [carousellaw16_DataSays.j0]
  by_cases h2 : (l.length : Int) > 40
  · simp [h2]
  simp only [h2, decide_false]
  rw [if_neg (by simp)]
  obtain ⟨r1, hl1, hr1⟩ := both_batch t n s
  obtain ⟨e1, e2⟩ := hr1 2999 (by omega)
  obtain ⟨q, hq, e3⟩ := shard_f 2999 b l a (by omega) (by omega) (by omega)
  obtain ⟨q', hq', e4⟩ := rplace_l0 b l a (by omega) (by omega) l.length 2999 0 (-1) (by omega) (by omega) (.inl ⟨rfl, fun j hj => by omega⟩)
  have e3' : data_Shard.f 2999 b l a = some (answer b l q) := e3
  have e4' : carouselref10_Shard.f 2999 b l a = some (answer b l q) := by rw [answer_one hq hq']; exact e4
  rw [e1, e2, e3', e4']
  simp only [Option.bind_some, if_true]
  have hb := answer_len b l q
  rw [same_f _ r1.1 (by omega) (by omega)]
  simp only [Option.bind_some, if_true]
  rw [same_f _ _ (by omega) (by omega)]
  simp only [Option.bind_some, if_true]
  rw [good_f _ l (by omega) (by omega), mem_f _ l (by omega) (by omega)]
  simp

end Go.Proofs.Ytnldflbnngealaa.Pure
