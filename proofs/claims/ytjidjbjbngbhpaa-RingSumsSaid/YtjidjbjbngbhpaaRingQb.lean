/- Whatever turns the places take: who has sent and got how much; all is over in time. No program. -/
import Derived.Test.YtjidjbjbngbhpaaRingT
set_option linter.unusedVariables false
set_option linter.unusedSimpArgs false
namespace Go.Proofs.Ytjidjbjbngbhpaa
open Go.RowKit Go.Proofs.YtjidjbjbngbhpaaW.PrintWords Go.Proofs.Ytjidjbjbngbhpaa.K

def outs (n : Nat) (o g : Nat → Nat) (p : Nat) : Nat → Nat := if o p ≤ g p ∧ o p < 2 * n - 2 then upd o p (o p + 1) else o
def gets (n : Nat) (o g : Nat → Nat) (p : Nat) : Nat → Nat := if g p < o (pre n p) ∧ g p ≤ o p then upd g p (g p + 1) else g
structure Inv (n : Nat) (o g : Nat → Nat) : Prop where
  near : ∀ p, p < n → o p ≤ g p + 1 ∧ g p ≤ o p + 1
  way : ∀ p, p < n → g p ≤ o (pre n p)
  cap : ∀ p, p < n → o p ≤ 2 * n - 2
theorem outs_ge (n : Nat) (o g : Nat → Nat) (p q : Nat) : o q ≤ outs n o g p q := by
  unfold outs upd
  split
  · by_cases h : q = p
    · subst h; simp
    · simp [h]
  · exact Nat.le_refl _
theorem gets_ge (n : Nat) (o g : Nat → Nat) (p q : Nat) : g q ≤ gets n o g p q := by
  unfold gets upd
  split
  · by_cases h : q = p
    · subst h; simp
    · simp [h]
  · exact Nat.le_refl _
theorem Inv.out {n : Nat} {o g : Nat → Nat} (h : Inv n o g) {p : Nat} (hp : p < n) : Inv n (outs n o g p) g := by
  unfold outs
  split
  · rename_i hc
    refine ⟨fun q hq => ?_, fun q hq => Nat.le_trans (h.way q hq) ?_, fun q hq => ?_⟩
    · by_cases e : q = p
      · subst e; rw [upd_same]; have := h.near q hq; omega
      · rw [upd_other _ _ e]; exact h.near q hq
    · by_cases e : pre n q = p
      · rw [e, upd_same]; omega
      · rw [upd_other _ _ e]; exact Nat.le_refl _
    · by_cases e : q = p
      · subst e; rw [upd_same]; omega
      · rw [upd_other _ _ e]; exact h.cap q hq
  · exact h
theorem Inv.get {n : Nat} {o g : Nat → Nat} (h : Inv n o g) {p : Nat} (hp : p < n) : Inv n o (gets n o g p) := by
  unfold gets
  split
  · rename_i hc
    refine ⟨fun q hq => ?_, fun q hq => ?_, h.cap⟩
    · by_cases e : q = p
      · subst e; rw [upd_same]; have := h.near q hq; omega
      · rw [upd_other _ _ e]; exact h.near q hq
    · by_cases e : q = p
      · subst e; rw [upd_same]; omega
      · rw [upd_other _ _ e]; exact h.way q hq
  · exact h
/-- Behind i turns, the j-th of place f j. -/
def turnO (n : Nat) (f : Nat → Nat) : Nat → (Nat → Nat) × (Nat → Nat)
  | 0 => (fun _ => 0, fun _ => 0)
  | i + 1 => (outs n (turnO n f i).1 (turnO n f i).2 (f i), gets n (outs n (turnO n f i).1 (turnO n f i).2 (f i)) (turnO n f i).2 (f i))
theorem turnO_inv {n : Nat} {f : Nat → Nat} (hf : ∀ i, f i < n) : ∀ i, Inv n (turnO n f i).1 (turnO n f i).2
  | 0 => ⟨fun p _ => ⟨Nat.le_succ _, Nat.le_succ _⟩, fun p _ => Nat.le_refl _, fun p _ => Nat.zero_le _⟩
  | i + 1 => ((turnO_inv hf i).out (hf i)).get (hf i)
theorem turnO_mono (n : Nat) (f : Nat → Nat) (i : Nat) : ∀ d p, (turnO n f i).1 p ≤ (turnO n f (i + d)).1 p ∧ (turnO n f i).2 p ≤ (turnO n f (i + d)).2 p
  | 0, p => ⟨Nat.le_refl _, Nat.le_refl _⟩
  | d + 1, p => by
    obtain ⟨h1, h2⟩ := turnO_mono n f i d p
    exact ⟨Nat.le_trans h1 (outs_ge _ _ _ _ _), Nat.le_trans h2 (gets_ge _ _ _ _ _)⟩
def Lvl (n : Nat) (f : Nat → Nat) (m i : Nat) : Prop := ∀ p, p < n → m ≤ (turnO n f i).1 p ∧ m ≤ (turnO n f i).2 p
theorem covers {n i p : Nat} (hp : p < n) : ∃ j, j < n ∧ (i + j) % n = p := by
  refine ⟨(p + (n - i % n)) % n, Nat.mod_lt _ (by omega), ?_⟩
  have h1 := Nat.mod_lt i (show 0 < n by omega)
  rw [Nat.add_mod, Nat.mod_mod, ← Nat.add_mod]
  have h2 := Nat.div_add_mod i n
  have e : i + (p + (n - i % n)) = p + n + n * (i / n) := by omega
  rw [e, Nat.add_mul_mod_self_left, Nat.add_mod_right, Nat.mod_eq_of_lt hp]
section
variable {n : Nat} {f : Nat → Nat} {T : Nat}
theorem half1 (hn : 1 ≤ n) (hf : ∀ i, f i < n) (hT : ∀ i, T ≤ i → f i = i % n) {m i : Nat} (hi : T ≤ i) (hm : m < 2 * n - 2) (hl : Lvl n f m i) : ∀ q, ∀ p, p < n → (∃ j, j < q ∧ (i + j) % n = p) → m + 1 ≤ (turnO n f (i + q)).1 p
  | 0, p, _, ⟨j, hj, _⟩ => absurd hj (Nat.not_lt_zero _)
  | q + 1, p, hp, ⟨j, hj, e⟩ => by
    rcases Nat.lt_or_ge j q with h | h
    · exact Nat.le_trans (half1 hn hf hT hi hm hl q p hp ⟨j, h, e⟩) (turnO_mono n f (i + q) 1 p).1
    · obtain rfl : j = q := by omega
      have h1 := turnO_mono n f i j p
      have h2 := hl p hp
      have hfi : f (i + j) = p := by rw [hT _ (by omega), e]
      show m + 1 ≤ outs n (turnO n f (i + j)).1 (turnO n f (i + j)).2 (f (i + j)) p
      rw [hfi]
      by_cases h3 : m + 1 ≤ (turnO n f (i + j)).1 p
      · exact Nat.le_trans h3 (outs_ge _ _ _ _ _)
      · have h4 : (turnO n f (i + j)).1 p = m := by omega
        unfold outs
        rw [if_pos ⟨by omega, by omega⟩, upd_same, h4]
        exact Nat.le_refl _
theorem half2 (hn : 1 ≤ n) (hf : ∀ i, f i < n) (hT : ∀ i, T ≤ i → f i = i % n) {m i : Nat} (hi : T ≤ i) (hl : Lvl n f m i) (ho : ∀ p, p < n → m + 1 ≤ (turnO n f i).1 p) : ∀ q, ∀ p, p < n → (∃ j, j < q ∧ (i + j) % n = p) → m + 1 ≤ (turnO n f (i + q)).2 p
  | 0, p, _, ⟨j, hj, _⟩ => absurd hj (Nat.not_lt_zero _)
  | q + 1, p, hp, ⟨j, hj, e⟩ => by
    rcases Nat.lt_or_ge j q with h | h
    · exact Nat.le_trans (half2 hn hf hT hi hl ho q p hp ⟨j, h, e⟩) (turnO_mono n f (i + q) 1 p).2
    · obtain rfl : j = q := by omega
      have h1 := turnO_mono n f i j p
      have h2 := hl p hp
      have hfi : f (i + j) = p := by rw [hT _ (by omega), e]
      have ho1 : ∀ p, p < n → m + 1 ≤ outs n (turnO n f (i + j)).1 (turnO n f (i + j)).2 (f (i + j)) p := fun p hp => Nat.le_trans (Nat.le_trans (ho p hp) (turnO_mono n f i j p).1) (outs_ge _ _ _ _ _)
      show m + 1 ≤ gets n (outs n (turnO n f (i + j)).1 (turnO n f (i + j)).2 (f (i + j))) (turnO n f (i + j)).2 (f (i + j)) p
      by_cases h3 : m + 1 ≤ (turnO n f (i + j)).2 p
      · exact Nat.le_trans h3 (gets_ge _ _ _ _ _)
      · have h4 : (turnO n f (i + j)).2 p = m := by omega
        have a1 := ho1 p hp
        have a2 := ho1 (pre n p) (pre_lt hn)
        rw [hfi] at a1 a2 ⊢
        unfold gets
        rw [if_pos ⟨by omega, by omega⟩, upd_same, h4]
        exact Nat.le_refl _
theorem level (hn : 1 ≤ n) (hf : ∀ i, f i < n) (hT : ∀ i, T ≤ i → f i = i % n) : ∀ m, m ≤ 2 * n - 2 → Lvl n f m (T + 2 * n * m)
  | 0, _ => fun p _ => ⟨Nat.zero_le _, Nat.zero_le _⟩
  | m + 1, hm => by
    have ih := level hn hf hT m (by omega)
    have h1 : ∀ p, p < n → m + 1 ≤ (turnO n f (T + 2 * n * m + n)).1 p := fun p hp => half1 hn hf hT (by omega) (by omega) ih n p hp (covers hp)
    have l1 : Lvl n f m (T + 2 * n * m + n) := fun p hp => ⟨Nat.le_trans (ih p hp).1 (turnO_mono n f _ n p).1, Nat.le_trans (ih p hp).2 (turnO_mono n f _ n p).2⟩
    have h2 : ∀ p, p < n → m + 1 ≤ (turnO n f (T + 2 * n * m + n + n)).2 p := fun p hp => half2 hn hf hT (by omega) l1 h1 n p hp (covers hp)
    have e : T + 2 * n * (m + 1) = T + 2 * n * m + n + n := by rw [Nat.mul_add]; omega
    rw [e]
    exact fun p hp => ⟨Nat.le_trans (h1 p hp) (turnO_mono n f _ n p).1, h2 p hp⟩
/-- Behind T turns, and 8 n n more, one place behind another, all is over. -/
theorem over_all (hn : 1 ≤ n) (hf : ∀ i, f i < n) (hT : ∀ i, T ≤ i → f i = i % n) {N : Nat} (hN : T + 8 * n * n ≤ N) : ∀ p, p < n → (turnO n f N).1 p = 2 * n - 2 ∧ (turnO n f N).2 p = 2 * n - 2 := by
  intro p hp
  have hl := level hn hf hT (2 * n - 2) (Nat.le_refl _) p hp
  have hle : T + 2 * n * (2 * n - 2) ≤ N := by
    have h1 : 2 * n * (2 * n - 2) ≤ 2 * n * (2 * n) := Nat.mul_le_mul_left _ (by omega)
    have h2 : 2 * n * (2 * n) = 4 * n * n := by rw [Nat.mul_assoc, Nat.mul_left_comm n 2 n, ← Nat.mul_assoc, ← Nat.mul_assoc]
    have h3 : 4 * n * n ≤ 8 * n * n := Nat.mul_le_mul_right _ (by omega)
    omega
  obtain ⟨d, rfl⟩ : ∃ d, N = T + 2 * n * (2 * n - 2) + d := ⟨N - (T + 2 * n * (2 * n - 2)), by omega⟩
  have hm := turnO_mono n f (T + 2 * n * (2 * n - 2)) d p
  have hi := turnO_inv hf (T + 2 * n * (2 * n - 2) + d)
  have c1 := hi.cap p hp
  have c2 := hi.way p hp
  have c3 := hi.cap (pre n p) (pre_lt hn)
  omega
end
end Go.Proofs.Ytjidjbjbngbhpaa
