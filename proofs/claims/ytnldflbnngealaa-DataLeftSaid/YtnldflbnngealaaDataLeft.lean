/- DataLeft: the plain law over numbers and lists: the printed law answers true at every input. -/
import Derived.Test.YtnldflbnngealaaQDataLeft
set_option linter.unusedVariables false
set_option linter.unusedSimpArgs false
namespace Go.Proofs.Ytnldflbnngealaa.Left
open Go.RowKit Go.Proofs.Ytnldflbnngealaa.PDataLeft Go.Proofs.YtnldflbnngealaaW.PrintWords Go.Proofs.YtnldflbnngealaaW.PrintLast

theorem w64 {i : Int} (h0 : -9223372036854775808 ≤ i) (h1 : i ≤ 9223372036854775807) : wrap64 i = i := by
  unfold wrap64; omega
theorem rd_at (l : List Int) (i : Nat) (h : i < l.length) : rd l (i : Int) = l[i] := by
  unfold rd; simp [List.getD_eq_getElem?_getD, List.getElem?_eq_getElem h]
theorem drop_at (l : List Int) (i : Nat) (h : i < l.length) : l.drop i = l[i] :: l.drop (i + 1) := List.drop_eq_getElem_cons h

/-! batches -/
def batchL (t at_ : Int) (n : Nat) : List Int := (List.range n).map fun (i : Nat) => (at_ + (i : Int)) % t
theorem batchL_succ (t at_ : Int) (n : Nat) : batchL t at_ (n + 1) = batchL t at_ n ++ [(at_ + (n : Int)) % t] := by
  simp [batchL, List.range_succ]
theorem batchL_length (t at_ : Int) (n : Nat) : (batchL t at_ n).length = n := by simp [batchL]
theorem batch_l0 (t at_ : Int) (n : Nat) (h1 : 1 ≤ t) (h2 : t ≤ 256) (h3 : 0 ≤ at_) (h4 : at_ < t) (hn : n ≤ 256) : ∀ (d k i : Nat), i + d = n → d < k →
    data_Batch.l0 k t at_ (batchL t at_ i) n i = some (batchL t at_ n, 0) := by
  intro d
  induction d with
  | zero =>
    intro k i hd hk
    obtain ⟨k, rfl⟩ : ∃ m, k = m + 1 := ⟨k - 1, by omega⟩
    obtain rfl : i = n := by omega
    simp only [data_Batch.l0]
    rw [if_neg (by omega)]
  | succ d ih =>
    intro k i hd hk
    obtain ⟨k, rfl⟩ : ∃ m, k = m + 1 := ⟨k - 1, by omega⟩
    simp only [data_Batch.l0]
    rw [if_pos (by omega), if_neg (by omega), if_pos (by rw [batchL_length]; omega), w64 (by omega) (by omega), w64 (by omega) (by omega), Int.tmod_eq_emod_of_nonneg (by omega), ← batchL_succ]
    have := ih k (i + 1) (by omega) (by omega)
    simpa using this
def atOf (t n s : Int) : Int := ((s % t) * n) % t
theorem batch_bad (k : Nat) (t n s : Int) (hk : 0 < k) (h : t < 1 ∨ t > 256 ∨ n < 1 ∨ n > t ∨ s < 0) : data_Batch.f k t n s = some ([], 1) := by
  obtain ⟨k, rfl⟩ : ∃ m, k = m + 1 := ⟨k - 1, by omega⟩
  have hj : data_Batch.j0 (k + 1) t n s true = some ([], 1) := by simp only [data_Batch.j0, if_true]
  unfold data_Batch.f
  split
  · exact hj
  split
  · exact hj
  split
  · exact hj
  split
  · exact hj
  have : decide (s < 0) = true := by simp; omega
  rw [this]; exact hj
theorem mul_bd (a n t : Int) (h0 : 0 ≤ a) (h1 : a < t) (h2 : t ≤ 256) (h3 : 1 ≤ n) (h4 : n ≤ t) : 0 ≤ a * n ∧ a * n ≤ 65536 := by
  refine ⟨Int.mul_nonneg h0 (by omega), ?_⟩
  have h5 : a * n ≤ 256 * n := Int.mul_le_mul_of_nonneg_right (by omega) (by omega)
  omega
theorem batch_good (k : Nat) (t n s : Int) (hk : 300 < k) (h1 : 1 ≤ t) (h2 : t ≤ 256) (h3 : 1 ≤ n) (h4 : n ≤ t) (h5 : 0 ≤ s) : data_Batch.f k t n s = some (batchL t (atOf t n s) n.toNat, 0) := by
  obtain ⟨k, rfl⟩ : ∃ m, k = m + 1 := ⟨k - 1, by omega⟩
  unfold data_Batch.f
  rw [if_neg (by omega), if_neg (by omega), if_neg (by omega), if_neg (by omega)]
  have : decide (s < 0) = false := by simp; omega
  rw [this]
  simp only [data_Batch.j0]
  have hm0 := Int.emod_nonneg s (show t ≠ 0 by omega)
  have hm1 := Int.emod_lt_of_pos s (show 0 < t by omega)
  have hb := mul_bd (s % t) n t hm0 hm1 h2 h3 h4
  rw [if_neg (by simp), if_neg (by omega), Int.tmod_eq_emod_of_nonneg h5, w64 (by omega) (by omega), Int.tmod_eq_emod_of_nonneg hb.1]
  have a0 : 0 ≤ atOf t n s := Int.emod_nonneg _ (by omega)
  have a1 : atOf t n s < t := Int.emod_lt_of_pos _ (by omega)
  have := batch_l0 t (atOf t n s) n.toNat h1 h2 a0 a1 (by omega) n.toNat k 0 (by omega) (by omega)
  have hn : ((n.toNat : Nat) : Int) = n := by omega
  rw [hn] at this
  simpa [batchL, atOf] using this

/-! members -/
def rise : Int → List Int → Bool
  | _, [] => true
  | last, x :: r => !decide (x ≤ last) && (!decide (x ≥ 16) && rise x r)
def good (l : List Int) : Bool := !decide ((l.length : Int) < 1) && (!decide ((l.length : Int) > 16) && rise (-1) l)
theorem good_l0 (l : List Int) (hl : l.length ≤ 100) : ∀ (d k i : Nat) (last : Int), i + d = l.length → d < k → data_Good.l0 k last l l.length i = some (rise last (l.drop i)) := by
  intro d
  induction d with
  | zero =>
    intro k i last hd hk
    obtain ⟨k, rfl⟩ : ∃ m, k = m + 1 := ⟨k - 1, by omega⟩
    simp only [data_Good.l0]
    rw [if_neg (by omega), List.drop_of_length_le (by omega)]; rfl
  | succ d ih =>
    intro k i last hd hk
    obtain ⟨k, rfl⟩ : ∃ m, k = m + 1 := ⟨k - 1, by omega⟩
    simp only [data_Good.l0]
    rw [if_pos (by omega), if_pos (by omega), if_pos (by omega), rd_at l i (by omega), w64 (by omega) (by omega), drop_at l i (by omega), rise]
    by_cases h1 : l[i] ≤ last
    · rw [if_pos h1]; simp [h1]
    · rw [if_neg h1]
      by_cases h2 : l[i] ≥ 16
      · rw [if_pos h2]; simp [h2]
      · rw [if_neg h2]
        have e : ((i : Int) + 1) = ((i + 1 : Nat) : Int) := by omega
        rw [e, ih k (i + 1) l[i] (by omega) (by omega)]
        simp [h1, h2]
theorem good_f (k : Nat) (l : List Int) (hk : 60 < k) (hl : l.length ≤ 50) : data_Good.f k l = some (good l) := by
  obtain ⟨k, rfl⟩ : ∃ m, k = m + 1 := ⟨k - 1, by omega⟩
  unfold data_Good.f good
  by_cases h1 : (l.length : Int) < 1
  · rw [if_pos h1]; simp only [data_Good.j0]; simp [h1]
  · rw [if_neg h1]
    simp only [data_Good.j0]
    by_cases h2 : (l.length : Int) > 16
    · simp [h2]
    · simp only [h2, decide_false]
      rw [if_neg (by simp)]
      have := good_l0 l (by omega) l.length k 0 (-1) (by omega) (by omega)
      simp only [List.drop_zero] at this
      rw [show ((0 : Nat) : Int) = 0 from rfl] at this
      rw [this]; simp [h1]

/-! places -/
theorem index_l0 (l : List Int) (a : Int) (hl : l.length ≤ 100) : ∀ (d k i : Nat), i + d = l.length → d < k → ∃ r, slices_Index_int_int.l0 k l a l.length i = some r ∧
    ((r = -1 ∧ ∀ j, i ≤ j → (h : j < l.length) → l[j] ≠ a) ∨ (∃ p, r = (p : Nat) ∧ i ≤ p ∧ ∃ h : p < l.length, l[p] = a)) := by
  intro d
  induction d with
  | zero =>
    intro k i hd hk
    obtain ⟨k, rfl⟩ : ∃ m, k = m + 1 := ⟨k - 1, by omega⟩
    refine ⟨-1, ?_, .inl ⟨rfl, fun j h1 h2 => by omega⟩⟩
    simp only [slices_Index_int_int.l0]
    rw [if_neg (by omega)]
  | succ d ih =>
    intro k i hd hk
    obtain ⟨k, rfl⟩ : ∃ m, k = m + 1 := ⟨k - 1, by omega⟩
    have hi : i < l.length := by omega
    simp only [slices_Index_int_int.l0]
    rw [if_pos (by omega), if_pos (by omega), if_pos (by omega), rd_at l i hi, w64 (by omega) (by omega)]
    by_cases h : a = l[i]
    · rw [if_pos h]
      exact ⟨_, rfl, .inr ⟨i, rfl, Nat.le_refl _, hi, h.symm⟩⟩
    · rw [if_neg h]
      have e : ((i : Int) + 1) = ((i + 1 : Nat) : Int) := by omega
      obtain ⟨r, hr, hp⟩ := ih k (i + 1) (by omega) (by omega)
      refine ⟨r, by rw [e]; exact hr, ?_⟩
      rcases hp with ⟨h1, h2⟩ | ⟨p, h1, h2, h3⟩
      · refine .inl ⟨h1, fun j hj hj2 => ?_⟩
        rcases Nat.eq_or_lt_of_le hj with rfl | hlt
        · exact fun e => h e.symm
        · exact h2 j hlt hj2
      · exact .inr ⟨p, h1, by omega, h3⟩

/-- From the i-th on, those whose place modulo n is p. -/
def shardF (n p : Nat) : Nat → List Int → List Int
  | _, [] => []
  | i, x :: r => if i % n = p then x :: shardF n p (i + 1) r else shardF n p (i + 1) r
theorem shardF_len (n p : Nat) : ∀ (l : List Int) (i : Nat), (shardF n p i l).length ≤ l.length
  | [], i => by simp [shardF]
  | x :: r, i => by
    have := shardF_len n p r (i + 1)
    unfold shardF; split <;> simp <;> omega
theorem shard_l0 (b m : List Int) (p : Nat) (hm : 0 < m.length) (hm2 : m.length ≤ 100) (hb : b.length ≤ 1000) : ∀ (d k i : Nat) (acc : List Int), acc.length ≤ i → i + d = b.length → d < k →
    data_Shard.l0 k m p acc b b.length i = some (acc ++ shardF m.length p i (b.drop i), 0) := by
  intro d
  induction d with
  | zero =>
    intro k i acc ha hd hk
    obtain ⟨k, rfl⟩ : ∃ m, k = m + 1 := ⟨k - 1, by omega⟩
    simp only [data_Shard.l0]
    rw [if_neg (by omega), List.drop_of_length_le (by omega)]; simp [shardF]
  | succ d ih =>
    intro k i acc ha hd hk
    obtain ⟨k, rfl⟩ : ∃ m, k = m + 1 := ⟨k - 1, by omega⟩
    have hi : i < b.length := by omega
    have e : ((i : Int) + 1) = ((i + 1 : Nat) : Int) := by omega
    simp only [data_Shard.l0]
    rw [if_pos (by omega), if_pos (by omega), if_pos (by omega), if_neg (by omega), rd_at b i hi, w64 (by omega) (by omega), drop_at b i hi, shardF, e, Int.tmod_eq_emod_of_nonneg (by omega)]
    by_cases h : i % m.length = p
    · rw [if_pos (by omega), if_pos (by omega), if_pos h, ih k (i + 1) _ (by simp; omega) (by omega) (by omega)]
      simp
    · rw [if_neg (by omega), if_neg h, ih k (i + 1) _ (by omega) (by omega) (by omega)]
/-- Whose place: the first one, or none. -/
def place (l : List Int) (a r : Int) : Prop := (r = -1 ∧ ∀ j, (h : j < l.length) → l[j] ≠ a) ∨ (∃ p : Nat, r = p ∧ ∃ h : p < l.length, l[p] = a)
theorem index_f (k : Nat) (l : List Int) (a : Int) (hk : 110 < k) (hl : l.length ≤ 100) : ∃ r, slices_Index_int_int.f k l a = some r ∧ place l a r := by
  obtain ⟨r, hr, h⟩ := index_l0 l a hl l.length k 0 (by omega) (by omega)
  refine ⟨r, hr, ?_⟩
  rcases h with ⟨h1, h2⟩ | ⟨p, h1, _, h3⟩
  · exact .inl ⟨h1, fun j hj => h2 j (Nat.zero_le _) hj⟩
  · exact .inr ⟨p, h1, h3⟩
theorem shard_f (k : Nat) (b m : List Int) (a : Int) (hk : 1200 < k) (hm : m.length ≤ 50) (hb : b.length ≤ 1000) : 
    ∃ r, place m a r ∧ data_Shard.f k b m a = some (if good m = true ∧ 0 ≤ r then (shardF m.length r.toNat 0 b, 0) else ([], 1)) := by
  obtain ⟨r, hr, hp⟩ := index_f k m a (by omega) (by omega)
  refine ⟨r, hp, ?_⟩
  obtain ⟨k, rfl⟩ : ∃ m, k = m + 1 := ⟨k - 1, by omega⟩
  unfold data_Shard.f
  rw [hr, good_f _ m (by omega) hm]
  simp only [Option.bind_some]
  by_cases hg : good m = true
  · rw [if_pos hg]
    simp only [data_Shard.j0]
    by_cases h0 : 0 ≤ r
    · have : ¬ r < 0 := by omega
      simp only [this, decide_false, hg, h0, and_self, if_true]
      rw [if_neg (by simp)]
      have hm0 : 0 < m.length := by
        rcases Nat.eq_zero_or_pos m.length with h | h
        · simp [good, h] at hg
        · exact h
      have := shard_l0 b m r.toNat hm0 (by omega) hb b.length k 0 [] (by simp) (by omega) (by omega)
      have e : ((r.toNat : Nat) : Int) = r := by omega
      rw [e] at this
      simpa using this
    · have : r < 0 := by omega
      simp [this, h0]
  · rw [if_neg hg]
    simp only [data_Shard.j0, if_true]
    simp [hg]
theorem same_l0 (l : List Int) (hl : l.length ≤ 1000000) : ∀ (d k i : Nat), i + d = l.length → d < k → carouselref5_Same.l0 k l l i = some true := by
  intro d
  induction d with
  | zero =>
    intro k i hd hk
    obtain ⟨k, rfl⟩ : ∃ m, k = m + 1 := ⟨k - 1, by omega⟩
    simp only [carouselref5_Same.l0]
    rw [if_neg (by omega)]
  | succ d ih =>
    intro k i hd hk
    obtain ⟨k, rfl⟩ : ∃ m, k = m + 1 := ⟨k - 1, by omega⟩
    have e : ((i : Int) + 1) = ((i + 1 : Nat) : Int) := by omega
    simp only [carouselref5_Same.l0]
    rw [if_pos (by omega), if_pos (by omega), if_pos (by omega), w64 (by omega) (by omega), e]
    simp only [if_true]
    exact ih k (i + 1) (by omega) (by omega)
theorem same_f (k : Nat) (l : List Int) (hl : l.length ≤ 1000000) (hk : l.length < k) : carouselref5_Same.f k l l = some true := by
  unfold carouselref5_Same.f
  simp only [if_true]
  exact same_l0 l hl l.length k 0 (by omega) hk
theorem awake_f (k : Nat) (hk : 2000 < k) : carousellaw16_awake.f k = some true := by
  have h0 : carousellaw16_awake.f 100 = some true := by decide +kernel
  exact at_rounds (g := carousellaw16_awake.f) (fun k => carousellaw16_awake.mono k) (by omega) h0
theorem shardF_skip (n p : Nat) : ∀ (m i : Nat) (l : List Int), (∀ t, t < m → (i + t) % n ≠ p) → shardF n p i l = shardF n p (i + m) (l.drop m)
  | 0, i, l, _ => by simp
  | m + 1, i, [], _ => by simp [shardF]
  | m + 1, i, x :: r, h => by
    have h0 := h 0 (by omega)
    rw [Nat.add_zero] at h0
    rw [shardF, if_neg h0, shardF_skip n p m (i + 1) r (fun t ht => by have := h (t + 1) (by omega); rwa [show i + (t + 1) = i + 1 + t by omega] at this)]
    rw [List.drop_succ_cons, show i + 1 + m = i + (m + 1) by omega]
theorem mod_next {i n p t : Nat} (hn : t + 1 < n) (h : i % n = p) : (i + 1 + t) % n ≠ p := by
  intro h2
  have h3 : (i + 1 + t) % n = (i % n + (1 + t)) % n := by rw [Nat.mod_add_mod, Nat.add_assoc]
  rw [h3, h] at h2
  rcases Nat.lt_or_ge (p + (1 + t)) n with h4 | h4
  · rw [Nat.mod_eq_of_lt h4] at h2; omega
  · have hp : p < n := by rw [← h]; exact Nat.mod_lt _ (by omega)
    rw [Nat.mod_eq_sub_mod h4, Nat.mod_eq_of_lt (by omega)] at h2; omega
theorem shardF_at (n p : Nat) (b : List Int) (hn : 0 < n) : ∀ (d i : Nat), b.length ≤ i + d → i % n = p → (shardF n p i (b.drop i)).length = (b.length - i + n - 1) / n ∧
    ∀ k, k < (shardF n p i (b.drop i)).length → i + k * n < b.length ∧ (shardF n p i (b.drop i)).getD k 0 = b.getD (i + k * n) 0 := by
  intro d
  induction d with
  | zero =>
    intro i hd hi
    rw [List.drop_of_length_le (by omega)]
    simp only [shardF, List.length_nil]
    refine ⟨?_, fun k hk => by omega⟩
    rw [show b.length - i = 0 by omega, Nat.zero_add, Nat.div_eq_of_lt (by omega)]
  | succ d ih =>
    intro i hd hi
    by_cases hlt : i < b.length
    · obtain ⟨h1, h2⟩ := ih (i + n) (by omega) (by rw [Nat.add_mod_right]; exact hi)
      have e : shardF n p i (b.drop i) = b[i] :: shardF n p (i + n) (b.drop (i + n)) := by
        rw [drop_at b i hlt, shardF, if_pos hi, shardF_skip n p (n - 1) (i + 1) (b.drop (i + 1)) (fun t ht => mod_next (by omega) hi), List.drop_drop, show i + 1 + (n - 1) = i + n by omega]
      rw [e]
      refine ⟨?_, fun k hk => ?_⟩
      · rw [List.length_cons, h1]
        rcases Nat.lt_or_ge (b.length - i) n with h3 | h3
        · rw [show b.length - (i + n) = 0 by omega, Nat.zero_add, Nat.div_eq_of_lt (by omega), show b.length - i + n - 1 = (b.length - i - 1) + n by omega, Nat.add_div_right _ hn, Nat.div_eq_of_lt (by omega)]
        · rw [show b.length - i + n - 1 = (b.length - (i + n) + n - 1) + n by omega, Nat.add_div_right _ hn]
      · cases k with
        | zero => simp [hlt]
        | succ k =>
          rw [List.length_cons] at hk
          obtain ⟨h3, h4⟩ := h2 k (by omega)
          have e2 : i + (k + 1) * n = i + n + k * n := by rw [Nat.add_mul]; omega
          rw [e2]
          exact ⟨h3, by simpa using h4⟩
    · rw [List.drop_of_length_le (by omega)]
      simp only [shardF, List.length_nil]
      refine ⟨?_, fun k hk => by omega⟩
      rw [show b.length - i = 0 by omega, Nat.zero_add, Nat.div_eq_of_lt (by omega)]
theorem shard_of (n p : Nat) (b : List Int) (hp : p < n) : b.length / n ≤ (shardF n p 0 b).length ∧ (shardF n p 0 b).length ≤ b.length / n + 1 ∧
    ∀ k, k < (shardF n p 0 b).length → p + k * n < b.length ∧ (shardF n p 0 b).getD k 0 = b.getD (p + k * n) 0 := by
  have e : shardF n p 0 b = shardF n p p (b.drop p) := by
    have := shardF_skip n p p 0 b (fun t ht => by rw [Nat.zero_add, Nat.mod_eq_of_lt (by omega)]; omega)
    rwa [Nat.zero_add] at this
  rw [e]
  obtain ⟨h1, h2⟩ := shardF_at n p b (by omega) b.length p (by omega) (Nat.mod_eq_of_lt hp)
  refine ⟨?_, ?_, h2⟩
  · rw [h1]
    rcases Nat.lt_or_ge b.length p with h | h
    · rw [Nat.div_eq_of_lt (by omega)]; omega
    · exact Nat.div_le_div_right (by omega)
  · rw [h1, ← Nat.add_div_right _ (by omega : 0 < n)]
    exact Nat.div_le_div_right (by omega)
def sumTo (f : Nat → Nat) : Nat → Nat
  | 0 => 0
  | n + 1 => sumTo f n + f n
theorem sumTo_same (f g : Nat → Nat) : ∀ n, (∀ p, p < n → f p = g p) → sumTo f n = sumTo g n
  | 0, _ => rfl
  | n + 1, h => by rw [sumTo, sumTo, sumTo_same f g n (fun p hp => h p (by omega)), h n (by omega)]
theorem sumTo_one (f g : Nat → Nat) (q : Nat) (h : ∀ p, f p = g p + if q = p then 1 else 0) : ∀ n, sumTo f n = sumTo g n + if q < n then 1 else 0
  | 0 => rfl
  | n + 1 => by
    rw [sumTo, sumTo, sumTo_one f g q h n, h n]
    split <;> split <;> split <;> omega
theorem sum_shards (n : Nat) (hn : 0 < n) : ∀ (l : List Int) (i : Nat), sumTo (fun p => (shardF n p i l).length) n = l.length
  | [], i => by
    have : ∀ m, sumTo (fun p => (shardF n p i []).length) m = 0 := by
      intro m; induction m with
      | zero => rfl
      | succ m ih => rw [sumTo, ih]; simp [shardF]
    simpa using this n
  | x :: r, i => by
    have h := sumTo_one (fun p => (shardF n p i (x :: r)).length) (fun p => (shardF n p (i + 1) r).length) (i % n) (fun p => by
      simp only [shardF]
      by_cases h : i % n = p <;> simp [h]) n
    rw [h, sum_shards n hn r (i + 1), if_pos (Nat.mod_lt _ hn)]; simp
theorem sum_le (n : Nat) (hn : 0 < n) (l : List Int) (i : Nat) : ∀ m, m ≤ n → sumTo (fun p => (shardF n p i l).length) m ≤ l.length := by
  have key : ∀ (f : Nat → Nat) (d m : Nat), sumTo f m ≤ sumTo f (m + d) := by
    intro f d; induction d with
    | zero => intro m; exact Nat.le_refl _
    | succ d ih => intro m; have := ih m; rw [← Nat.add_assoc, sumTo]; omega
  intro m hm
  have := key (fun p => (shardF n p i l).length) (n - m) m
  rw [show m + (n - m) = n by omega, sum_shards n hn] at this
  exact this
theorem rise_pair : ∀ (l : List Int) (last : Int), rise last l = true → (∀ x ∈ l, last < x) ∧ l.Pairwise (· < ·)
  | [], _, _ => by simp
  | x :: r, last, h => by
    simp only [rise, Bool.and_eq_true, Bool.not_eq_true', decide_eq_false_iff_not] at h
    obtain ⟨h1, h2⟩ := rise_pair r x h.2.2
    refine ⟨fun y hy => ?_, List.pairwise_cons.2 ⟨h1, h2⟩⟩
    rcases List.mem_cons.1 hy with rfl | hy
    · omega
    · have := h1 y hy; omega
theorem place_at {l : List Int} {r : Int} (i : Nat) (hi : i < l.length) (hg : good l = true) (h : place l l[i] r) : r = i := by
  have hpw := (rise_pair l (-1) (by simp only [good, Bool.and_eq_true] at hg; exact hg.2.2)).2
  rcases h with ⟨_, h2⟩ | ⟨p, h1, hp, h2⟩
  · exact absurd rfl (h2 i hi)
  · rw [List.pairwise_iff_getElem] at hpw
    rcases Nat.lt_trichotomy p i with h | h | h
    · have := hpw p i hp hi h; omega
    · omega
    · have := hpw i p hi hp h; omega
theorem good_len {l : List Int} (h : good l = true) : 0 < l.length ∧ l.length ≤ 16 := by
  simp only [good, Bool.and_eq_true, Bool.not_eq_true', decide_eq_false_iff_not] at h
  omega
/-- A member's shard. -/
theorem shard_mine (k : Nat) (b m : List Int) (i : Nat) (hi : i < m.length) (hg : good m = true) (hk : 1200 < k) (hb : b.length ≤ 1000) : data_Shard.f k b m m[i] = some (shardF m.length i 0 b, 0) := by
  have hl := good_len hg
  obtain ⟨r, hr, h⟩ := shard_f k b m m[i] hk (by omega) hb
  obtain rfl := place_at i hi hg hr
  rw [h, if_pos ⟨hg, by omega⟩]; rfl
theorem rise_iff : ∀ (l : List Int) (last : Int), rise last l = true ↔ (∀ x ∈ l, last < x ∧ x < 16) ∧ l.Pairwise (· < ·)
  | [], last => by simp [rise]
  | x :: r, last => by
    have ih := rise_iff r x
    simp only [rise, Bool.and_eq_true, Bool.not_eq_true', decide_eq_false_iff_not, ih, List.mem_cons, List.pairwise_cons]
    constructor
    · rintro ⟨h1, h2, h3, h4⟩
      refine ⟨fun y hy => ?_, fun y hy => (h3 y hy).1, h4⟩
      rcases hy with rfl | hy
      · omega
      · have := h3 y hy; omega
    · rintro ⟨h1, h2, h3⟩
      have hx := h1 x (.inl rfl)
      refine ⟨by omega, by omega, fun y hy => ⟨h2 y hy, (h1 y (.inr hy)).2⟩, h3⟩
def less (m : List Int) (g : Nat) : List Int := m.take g ++ m.drop (g + 1)
theorem less_len (m : List Int) (g : Nat) (h : g < m.length) : (less m g).length + 1 = m.length := by
  simp [less]; omega
theorem less_good (m : List Int) (g : Nat) (hg : good m = true) (h2 : 2 ≤ m.length) (h : g < m.length) : good (less m g) = true := by
  have hl := less_len m g h
  simp only [good, Bool.and_eq_true, Bool.not_eq_true', decide_eq_false_iff_not, rise_iff] at hg ⊢
  obtain ⟨g1, g2, g3, g4⟩ := hg
  have hs : (less m g).Sublist m := by
    unfold less
    rw [← List.eraseIdx_eq_take_drop_succ]
    exact List.eraseIdx_sublist m g
  exact ⟨by omega, by omega, fun x hx => g3 x (hs.subset hx), g4.sublist hs⟩
theorem less_not (m : List Int) (g : Nat) (hg : good m = true) (h : g < m.length) : ∀ x ∈ less m g, x ≠ m[g] := by
  have hpw := (rise_pair m (-1) (by simp only [good, Bool.and_eq_true] at hg; exact hg.2.2)).2
  have e : m = m.take g ++ m[g] :: m.drop (g + 1) := by rw [← List.drop_eq_getElem_cons h, List.take_append_drop]
  obtain ⟨a, ha⟩ : ∃ a, a = m[g] := ⟨_, rfl⟩
  rw [← ha] at e ⊢
  rw [e, List.pairwise_append, List.pairwise_cons] at hpw
  obtain ⟨h1, ⟨h2, h3⟩, h4⟩ := hpw
  intro x hx
  unfold less at hx
  rcases List.mem_append.1 hx with hx | hx
  · have := h4 x hx a (List.mem_cons_self ..)
    omega
  · have := h2 x hx
    omega
theorem gone_f (k : Nat) (b m : List Int) (g : Nat) (hg : good m = true) (h2 : 2 ≤ m.length) (h : g < m.length) (hk : 1200 < k) (hb : b.length ≤ 1000) : data_Shard.f k b (less m g) m[g] = some ([], 1) := by
  have hl := less_len m g h
  have hm := good_len hg
  obtain ⟨r, hr, hf⟩ := shard_f k b (less m g) m[g] hk (by omega) hb
  rcases hr with ⟨rfl, -⟩ | ⟨p, rfl, hp, he⟩
  · rw [hf, if_neg (by omega)]
  · exact absurd he (less_not m g hg h _ (List.getElem_mem hp))
/-- How many the first k members have. -/
def got (L b : List Int) (k : Nat) : Nat := sumTo (fun p => (shardF L.length p 0 b).length) k
theorem got_succ (L b : List Int) (k : Nat) : got L b (k + 1) = got L b k + (shardF L.length k 0 b).length := rfl
theorem got_all (L b : List Int) (hL : good L = true) : got L b L.length = b.length := sum_shards _ (good_len hL).1 b 0
theorem got_le (L b : List Int) (hL : good L = true) (k : Nat) (hk : k ≤ L.length) : got L b k ≤ b.length := sum_le _ (good_len hL).1 b 0 k hk

theorem left_l0 (b L : List Int) (hL : good L = true) (hb : b.length ≤ 100) : ∀ (d k i : Nat), i + d = L.length → 1300 + d < k → carousellaw16_DataLeft.l0 k b L 1 (got L b i) i = some true := by
  intro d
  have hm := good_len hL
  induction d with
  | zero =>
    intro k i hd hk
    obtain ⟨k, rfl⟩ : ∃ m, k = m + 1 := ⟨k - 1, by omega⟩
    obtain rfl : i = L.length := by omega
    simp only [carousellaw16_DataLeft.l0]
    rw [if_neg (by omega), if_pos trivial, got_all L b hL]
    simp
  | succ d ih =>
    intro k i hd hk
    obtain ⟨k, rfl⟩ : ∃ m, k = m + 1 := ⟨k - 1, by omega⟩
    have h1 := got_le L b hL (i + 1) (by omega)
    rw [got_succ] at h1
    simp only [carousellaw16_DataLeft.l0]
    rw [if_pos (by omega), if_pos (by omega), rd_at L i (by omega), shard_mine k b L i (by omega) hL (by omega) (by omega)]
    simp only [Option.bind_some, if_true]
    rw [w64 (by omega) (by omega), w64 (by omega) (by omega)]
    have := ih k (i + 1) (by omega) (by omega)
    rw [got_succ] at this
    simpa using this
theorem left_any (k : Nat) (hk : 4000 < k) (xs ls : List Int) (gone : Int) : carousellaw16_DataLeft.f k xs ls gone = some true := by
  obtain ⟨k, rfl⟩ : ∃ m, k = m + 1 := ⟨k - 1, by omega⟩
  have hj : carousellaw16_DataLeft.j0 (k + 1) xs ls gone true = some true := by simp only [carousellaw16_DataLeft.j0, if_true]
  unfold carousellaw16_DataLeft.f
  rw [awake_f _ (by omega)]
  simp only [Option.bind_some, if_true]
  by_cases h1 : (xs.length : Int) > 100
  · rw [if_pos h1]; exact hj
  rw [if_neg h1]
  by_cases h2 : (ls.length : Int) < 2
  · rw [if_pos h2]; exact hj
  rw [if_neg h2]
  by_cases h3 : (ls.length : Int) > 16
  · rw [if_pos h3]; exact hj
  rw [if_neg h3, good_f _ ls (by omega) (by omega)]
  simp only [Option.bind_some]
  by_cases hg : good ls = true
  · rw [if_pos hg]
    by_cases h4 : gone < 0
    · rw [if_pos h4]; exact hj
    rw [if_neg h4]
    by_cases h5 : gone ≥ (ls.length : Int)
    · rw [decide_eq_true h5]; exact hj
    rw [decide_eq_false h5]
    obtain ⟨g, rfl⟩ := Int.eq_ofNat_of_zero_le (show 0 ≤ gone by omega)
    have hgl : g < ls.length := by omega
    have e1 : ((g : Int)).toNat = g := by omega
    have e2 : ((g : Int) + 1).toNat = g + 1 := by omega
    simp only [carousellaw16_DataLeft.j0]
    rw [if_neg (by simp), w64 (by omega) (by omega)]
    simp only [Option.bind_some, e1, e2, List.nil_append]
    have hle : ls.take g ++ ls.drop (g + 1) = less ls g := rfl
    rw [if_pos (by omega), if_pos (by omega), if_pos (by simp; omega), if_pos (by omega), if_pos (by omega), if_pos (by simp; omega), if_pos (by omega), hle, rd_at ls g hgl, gone_f k xs ls g hg (by omega) hgl (by omega) (by omega)]
    simp only [Option.bind_some]
    have hl := less_len ls g hgl
    have hz := left_l0 xs (less ls g) (less_good ls g hg (by omega) hgl) (by omega) (less ls g).length k 0 (by omega) (by omega)
    simpa [got, sumTo] using hz
  · rw [if_neg hg]; exact hj
theorem c_of {w : World} {A : Option Addr} {n : Nat} {xs : List Int} (h : ReadsInt w .i64 A n xs) : Kd.C (Kd.int .i64) w A n xs := by
  refine ⟨h.1, h.2.1, fun hp => ?_⟩
  obtain ⟨ad, e, hc⟩ := h.2.2 hp
  refine ⟨ad, e, fun j p hj => ⟨[.int .i64 p], rfl, rfl, fun i u hu => ?_⟩⟩
  have hj' : j < n := by rw [← h.1]; exact (List.getElem?_eq_some_iff.1 hj).1
  cases i with
  | zero =>
    simp only [List.getElem?_cons_zero, Option.some.injEq] at hu
    subst hu
    have := hc j hj'
    rw [List.getD_eq_getElem?_getD, hj] at this
    show w.cell? (ad.add (j * 1 + 0)) = _
    simpa using this
  | succ i => simp at hu
theorem left_walk (W : World) (A : Option Addr) (n c : Nat) (xs : List Int) (h : ReadsInt W .i64 A n xs) (hw : ∀ x ∈ xs, (Lit.int .i64 x).wf = true) (hc : n ≤ c) (hs : n * 8 ≤ 140737488351232)
    (A' : Option Addr) (m c' : Nat) (ls : List Int) (h' : ReadsInt W .i64 A' m ls) (hw' : ∀ x ∈ ls, (Lit.int .i64 x).wf = true) (hc' : m ≤ c') (hs' : m * 8 ≤ 140737488351232)
    (gone : Int) (wg : (Lit.int .i64 gone).wf = true) :
    Calls Try.prog 8 #[.slice A n c, .slice A' m c', .int .i64 gone] W fun e w' => e = .returned (.bool true) ∧ Below W.heap.size W w' := by
  obtain rfl := h.1
  obtain rfl := h'.1
  exact carousellaw16_DataLeft.calls 4001 A c xs A' c' ls gone true W (c_of h) hc (c_of h') hc' (left_any 4001 (by decide) xs ls gone)
end Go.Proofs.Ytnldflbnngealaa.Left
