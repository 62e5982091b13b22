/- The plain law of the ring: whatever order the places take their turns, each comes to the sum of all. No program. -/
import Derived.Test.YtjidjbjbngbhpaaRingK
set_option linter.unusedVariables false
set_option linter.unusedSimpArgs false
namespace Go.Proofs.Ytjidjbjbngbhpaa
open Go.RowKit Go.Proofs.YtjidjbjbngbhpaaW.PrintWords Go.Proofs.Ytjidjbjbngbhpaa.K

/-! Numbers of 128 bits -/
def wm (p : Int × Int) : Int := (p.1 * 18446744073709551616 + p.2) % 340282366920938463463374607431768211456
theorem wsum_hi (x y c : Int) : ∃ T : Int, wrap64 ((IntKind.u64.wrap x + IntKind.u64.wrap y + c) % 18446744073709551616) = x + y + c - 18446744073709551616 * T := by
  rw [IntKind.wrap_u64, IntKind.wrap_u64]
  unfold wrap64
  refine ⟨x / 18446744073709551616 + y / 18446744073709551616 + (x % 18446744073709551616 + y % 18446744073709551616 + c) / 18446744073709551616 + ((x % 18446744073709551616 + y % 18446744073709551616 + c) % 18446744073709551616 + 9223372036854775808) / 18446744073709551616, ?_⟩
  omega
theorem wm_sum (a b : Int × Int) : wm (wsum a b) = (wm a + wm b) % 340282366920938463463374607431768211456 := by
  unfold wm wsum
  simp only []
  obtain ⟨T, hT⟩ := wsum_hi a.1 b.1 ((a.2 + b.2) / 18446744073709551616)
  rw [hT]
  clear hT
  omega
theorem wm_inj {p q : Int × Int} (hp : WwfP p) (hq : WwfP q) (h : wm p = wm q) : p = q := by
  rw [wwf_iff] at hp hq
  unfold wm at h
  obtain ⟨p1, p2⟩ := p
  obtain ⟨q1, q2⟩ := q
  simp only [] at hp hq h
  have : p1 = q1 ∧ p2 = q2 := by omega
  rw [this.1, this.2]
theorem wm_rng (p : Int × Int) : 0 ≤ wm p ∧ wm p < 340282366920938463463374607431768211456 := ⟨Int.emod_nonneg _ (by decide), Int.emod_lt_of_pos _ (by decide)⟩
theorem wm_zero : wm (0, 0) = 0 := by decide

/-! Sums around -/
def Sm (f : Nat → Int) : Nat → Int
  | 0 => 0
  | n + 1 => Sm f n + f n
theorem Sm_congr {f h : Nat → Int} : ∀ n, (∀ j, j < n → f j = h j) → Sm f n = Sm h n
  | 0, _ => rfl
  | n + 1, e => by rw [Sm, Sm, Sm_congr n (fun j hj => e j (by omega)), e n (by omega)]
theorem Sm_shift (h : Nat → Int) : ∀ n, Sm (fun j => h (j + 1)) n + h 0 = Sm h (n + 1)
  | 0 => by simp [Sm]
  | n + 1 => by
    have := Sm_shift h n
    rw [Sm, Sm]
    rw [← this]
    omega
theorem Sm_rot (f : Nat → Int) (n : Nat) (hn : 0 < n) : ∀ c, Sm (fun j => f ((c + j) % n)) n = Sm f n
  | 0 => Sm_congr n fun j hj => by rw [Nat.zero_add, Nat.mod_eq_of_lt hj]
  | c + 1 => by
    have h1 := Sm_shift (fun j => f ((c + j) % n)) n
    have h2 := Sm_rot f n hn c
    have e : Sm (fun j => f ((c + 1 + j) % n)) n = Sm (fun j => (fun j => f ((c + j) % n)) (j + 1)) n := Sm_congr n fun j hj => by
      simp only []
      rw [show c + 1 + j = c + (j + 1) by omega]
    rw [e]
    have h3 : Sm (fun j => f ((c + j) % n)) (n + 1) = Sm f n + f ((c + n) % n) := by rw [Sm, h2]
    rw [h3] at h1
    have h4 : f ((c + 0) % n) = f ((c + n) % n) := by rw [Nat.add_zero, Nat.add_mod_right]
    simp only [] at h1 ⊢
    rw [h4] at h1
    omega

/-! What the places hold -/
def pre (n i : Nat) : Nat := (i + n - 1) % n
def csn (n p g : Nat) : Nat := (cs (p : Int) (n : Int) (g : Int)).toNat
def addB (n g : Nat) : Bool := decide ((g : Int) < (n : Int) - 1)
def Gs (R : Nat → List (Int × Int)) (k n : Nat) : Nat → Nat → List (Int × Int)
  | 0 => R
  | g + 1 => fun i => gotL (Gs R k n g i) (cstart k n (csn n (pre n i) g)) (addB n g) (cutL (Gs R k n g (pre n i)) (cstart k n (csn n (pre n i) g)) (cstart k n (csn n (pre n i) g + 1))) (cstart k n (csn n (pre n i) g + 1) - cstart k n (csn n (pre n i) g))
/-- The part that place p sends in round g. -/
def Vs (R : Nat → List (Int × Int)) (k n g p : Nat) : List (Int × Int) := cutL (Gs R k n g p) (cstart k n (csn n p g)) (cstart k n (csn n p g + 1))
theorem ncases {n : Nat} (h1 : 2 ≤ n) (h2 : n ≤ 16) : n = 2 ∨ n = 3 ∨ n = 4 ∨ n = 5 ∨ n = 6 ∨ n = 7 ∨ n = 8 ∨ n = 9 ∨ n = 10 ∨ n = 11 ∨ n = 12 ∨ n = 13 ∨ n = 14 ∨ n = 15 ∨ n = 16 := by omega
theorem pre_lt {n i : Nat} (hn : 1 ≤ n) : pre n i < n := Nat.mod_lt _ (by omega)
theorem csn_lt {n p g : Nat} (hn : 2 ≤ n) : csn n p g < n := by
  have := @cs_rng (p : Int) (n : Int) (g : Int) (by omega)
  unfold csn
  omega
theorem csn_eq {n p g : Nat} (hn : 2 ≤ n) : cs (p : Int) (n : Int) (g : Int) = (csn n p g : Int) := by
  have := @cs_rng (p : Int) (n : Int) (g : Int) (by omega)
  unfold csn
  omega
theorem csn_pre {n i g : Nat} (h1 : 2 ≤ n) (h2 : n ≤ 16) (hi : i < n) : cs (((i : Int) + n - 1) % n) (n : Int) (g : Int) = (csn n (pre n i) g : Int) := by
  rw [← csn_eq h1]
  have e : (((i : Int) + n - 1) % n) = ((pre n i : Nat) : Int) := by
    unfold pre
    rw [Int.natCast_emod]
    congr 1
    omega
  rw [e]
/-- What is sent is not what comes. -/
theorem csn_ne {n p g : Nat} (h1 : 2 ≤ n) (h2 : n ≤ 16) (hp : p < n) (hg : g ≤ 2 * n - 3) : csn n (pre n p) g ≠ csn n p g := by
  have e1 := @csn_eq n (pre n p) g h1
  have e2 := @csn_eq n p g h1
  intro e
  rw [← e, ← e1] at e2
  unfold cs pre at e2
  clear e e1
  rcases ncases h1 h2 with rfl | rfl | rfl | rfl | rfl | rfl | rfl | rfl | rfl | rfl | rfl | rfl | rfl | rfl | rfl <;> split at e2 <;> omega
theorem csn_up {n i g c : Nat} (h1 : 2 ≤ n) (h2 : n ≤ 16) (hi : i < n) (hc : c < n) (hg : g < n - 1) : csn n (pre n i) g = c ↔ (i + n - c) % n = g + 1 := by
  have e1 := @csn_eq n (pre n i) g h1
  have : csn n (pre n i) g = c ↔ cs (pre n i : Int) (n : Int) (g : Int) = (c : Int) := by rw [e1]; omega
  rw [this]
  unfold cs pre
  rw [if_pos (by omega)]
  clear e1 this
  rcases ncases h1 h2 with rfl | rfl | rfl | rfl | rfl | rfl | rfl | rfl | rfl | rfl | rfl | rfl | rfl | rfl | rfl <;> omega
theorem csn_down {n i s c : Nat} (h1 : 2 ≤ n) (h2 : n ≤ 16) (hi : i < n) (hc : c < n) (hs : s ≤ n - 2) : csn n (pre n i) (n - 1 + s) = c ↔ (i + n - c) % n = s := by
  have e1 := @csn_eq n (pre n i) (n - 1 + s) h1
  have : csn n (pre n i) (n - 1 + s) = c ↔ cs (pre n i : Int) (n : Int) ((n - 1 + s : Nat) : Int) = (c : Int) := by rw [e1]; omega
  rw [this]
  unfold cs pre
  rw [if_neg (by omega)]
  clear e1 this
  rcases ncases h1 h2 with rfl | rfl | rfl | rfl | rfl | rfl | rfl | rfl | rfl | rfl | rfl | rfl | rfl | rfl | rfl <;> omega
theorem pre_dist {n i c : Nat} (h1 : 2 ≤ n) (h2 : n ≤ 16) (hi : i < n) (hc : c < n) : (pre n i + n - c) % n = if (i + n - c) % n = 0 then n - 1 else (i + n - c) % n - 1 := by
  unfold pre
  rcases ncases h1 h2 with rfl | rfl | rfl | rfl | rfl | rfl | rfl | rfl | rfl | rfl | rfl | rfl | rfl | rfl | rfl <;> split <;> omega
theorem dist_back {n i c : Nat} (h1 : 2 ≤ n) (h2 : n ≤ 16) (hi : i < n) (hc : c < n) : (c + (i + n - c) % n) % n = i := by
  rcases ncases h1 h2 with rfl | rfl | rfl | rfl | rfl | rfl | rfl | rfl | rfl | rfl | rfl | rfl | rfl | rfl | rfl <;> omega

/-! A place in the row -/
theorem gotL_at (l : List (Int × Int)) (lo : Nat) (add : Bool) (M : List (Int × Int)) (x : Nat) (hx : x < l.length) : ∀ j, (gotL l lo add M j).getD x (0, 0) = if lo ≤ x ∧ x < lo + j then gotV add (l.getD x (0, 0)) (M.getD (x - lo) (0, 0)) else l.getD x (0, 0)
  | 0 => by rw [if_neg (by omega)]; rfl
  | j + 1 => by
    have ih := gotL_at l lo add M x hx j
    rw [gotL, List.getD_eq_getElem?_getD]
    by_cases h : lo + j = x
    · subst h
      rw [List.getElem?_set_self (by rw [gotL_len]; exact hx), if_pos ⟨by omega, by omega⟩]
      simp only [Option.getD_some]
      rw [show lo + j - lo = j by omega]
    · rw [List.getElem?_set_ne h, ← List.getD_eq_getElem?_getD, ih]
      by_cases h2 : lo ≤ x ∧ x < lo + j
      · rw [if_pos h2, if_pos ⟨h2.1, by omega⟩]
      · rw [if_neg h2, if_neg (by omega)]
theorem cutL_at (l : List (Int × Int)) (a b i : Nat) (hi : i < b - a) : (cutL l a b).getD i (0, 0) = l.getD (a + i) (0, 0) := by
  unfold cutL
  rw [List.getD_eq_getElem?_getD, List.getD_eq_getElem?_getD, List.getElem?_take, if_pos hi, List.getElem?_drop]
theorem list_ext {l m : List (Int × Int)} (h : l.length = m.length) (e : ∀ i, i < l.length → l.getD i (0, 0) = m.getD i (0, 0)) : l = m :=
  List.ext_getElem h fun i h1 h2 => by
    have := e i h1
    simpa [List.getD_eq_getElem?_getD, h1, h2] using this
theorem cstart_mono' (k n : Nat) : ∀ {a b : Nat}, a ≤ b → cstart k n a ≤ cstart k n b
  | a, 0, h => by rw [Nat.le_zero.1 h]; exact Nat.le_refl _
  | a, b + 1, h => by
    rcases Nat.lt_or_ge a (b + 1) with h1 | h1
    · exact Nat.le_trans (cstart_mono' k n (by omega)) (cstart_mono k n b)
    · obtain rfl : a = b + 1 := by omega
      exact Nat.le_refl _
/-- Of unlike chunks none reaches into the other. -/
theorem chunk_apart (k n : Nat) {c d x : Nat} (h1 : cstart k n c ≤ x) (h2 : x < cstart k n (c + 1)) (h3 : cstart k n d ≤ x) (h4 : x < cstart k n (d + 1)) : c = d := by
  rcases Nat.lt_trichotomy c d with h | h | h
  · have := cstart_mono' k n (a := c + 1) (b := d) (by omega); omega
  · exact h
  · have := cstart_mono' k n (a := d + 1) (b := c) (by omega); omega
theorem chunk_of (k n : Nat) (hn : 1 ≤ n) {x : Nat} (hx : x < k) : ∃ c, c < n ∧ cstart k n c ≤ x ∧ x < cstart k n (c + 1) := by
  have key : ∀ m, m ≤ n → x < cstart k n m → ∃ c, c < m ∧ cstart k n c ≤ x ∧ x < cstart k n (c + 1) := by
    intro m
    induction m with
    | zero => intro _ h; simp [cstart] at h
    | succ m ih =>
      intro hm h
      by_cases h2 : x < cstart k n m
      · obtain ⟨c, h3, h4⟩ := ih (by omega) h2
        exact ⟨c, by omega, h4⟩
      · exact ⟨m, by omega, by omega, h⟩
  exact key n (Nat.le_refl _) (by rw [cstart_end k n hn]; exact hx)
section
variable (R : Nat → List (Int × Int)) (k n : Nat)
/-- All rows are of one length, of true numbers. -/
def Rok : Prop := 2 ≤ n ∧ n ≤ 16 ∧ ∀ i, i < n → (R i).length = k ∧ ∀ p ∈ R i, WwfP p
end
variable {R : Nat → List (Int × Int)} {k n : Nat}
theorem Gs_len (h : Rok R k n) : ∀ g i, i < n → (Gs R k n g i).length = k
  | 0, i, hi => (h.2.2 i hi).1
  | g + 1, i, hi => by rw [Gs, gotL_len]; exact Gs_len h g i hi
theorem mem_set_wf {l : List (Int × Int)} {q : Nat} {x : Int × Int} (h : ∀ p ∈ l, WwfP p) (hx : WwfP x) : ∀ p ∈ l.set q x, WwfP p := fun p hp => by
  rcases List.mem_or_eq_of_mem_set hp with h1 | h1
  · exact h p h1
  · rw [h1]; exact hx
theorem getD_wf {l : List (Int × Int)} (h : ∀ p ∈ l, WwfP p) (j : Nat) : WwfP (l.getD j (0, 0)) := by
  rw [List.getD_eq_getElem?_getD]
  by_cases hj : j < l.length
  · rw [List.getElem?_eq_getElem hj]; exact h _ (List.getElem_mem hj)
  · rw [List.getElem?_eq_none (by omega)]; exact ⟨by decide, by decide⟩
theorem gotL_wf {l M : List (Int × Int)} (lo : Nat) (add : Bool) (h : ∀ p ∈ l, WwfP p) (hM : ∀ p ∈ M, WwfP p) : ∀ j, ∀ p ∈ gotL l lo add M j, WwfP p
  | 0 => h
  | j + 1 => mem_set_wf (gotL_wf lo add h hM j) (gotV_wf add (getD_wf hM j))
theorem cutL_wfP {l : List (Int × Int)} (h : ∀ p ∈ l, WwfP p) (a b : Nat) : ∀ p ∈ cutL l a b, WwfP p := fun p hp => h p (List.mem_of_mem_drop (List.mem_of_mem_take hp))
theorem Gs_wf (h : Rok R k n) : ∀ g i, i < n → ∀ p ∈ Gs R k n g i, WwfP p
  | 0, i, hi => (h.2.2 i hi).2
  | g + 1, i, hi => gotL_wf _ _ (Gs_wf h g i hi) (cutL_wfP (Gs_wf h g _ (pre_lt (by have := h.1; omega))) _ _) _
/-- What a round does to one place in the row. -/
theorem Gs_at (h : Rok R k n) {g i c x : Nat} (hi : i < n) (hc : c < n) (h1 : cstart k n c ≤ x) (h2 : x < cstart k n (c + 1)) :
    (Gs R k n (g + 1) i).getD x (0, 0) = if csn n (pre n i) g = c then gotV (addB n g) ((Gs R k n g i).getD x (0, 0)) ((Gs R k n g (pre n i)).getD x (0, 0)) else (Gs R k n g i).getD x (0, 0) := by
  have hk : x < k := Nat.lt_of_lt_of_le h2 (cstart_le k n (c + 1) (by omega))
  have hp := csn_lt (n := n) (p := pre n i) (g := g) h.1
  obtain ⟨d, hd⟩ : ∃ d, d = csn n (pre n i) g := ⟨_, rfl⟩
  have e0 : Gs R k n (g + 1) i = gotL (Gs R k n g i) (cstart k n (csn n (pre n i) g)) (addB n g) (cutL (Gs R k n g (pre n i)) (cstart k n (csn n (pre n i) g)) (cstart k n (csn n (pre n i) g + 1))) (cstart k n (csn n (pre n i) g + 1) - cstart k n (csn n (pre n i) g)) := rfl
  rw [e0, ← hd]
  rw [← hd] at hp
  clear e0
  have hlo := cstart_mono k n d
  rw [gotL_at _ _ _ _ _ (by rw [Gs_len h g i hi]; exact hk)]
  by_cases e : d = c
  · subst e
    rw [if_pos ⟨h1, by omega⟩, if_pos rfl, cutL_at _ _ _ _ (by omega)]
    rw [show cstart k n d + (x - cstart k n d) = x by omega]
  · rw [if_neg e, if_neg (fun h3 => e (chunk_apart k n h3.1 (by omega) h1 h2))]
/-- What is sent in a round is the same, whether the round's part has come or not. -/
theorem Vs_next (h : Rok R k n) {g p : Nat} (hp : p < n) (hg : g ≤ 2 * n - 3) : cutL (Gs R k n (g + 1) p) (cstart k n (csn n p g)) (cstart k n (csn n p g + 1)) = Vs R k n g p := by
  have hc := csn_lt (n := n) (p := p) (g := g) h.1
  have hle := cstart_le k n (csn n p g + 1) (by omega)
  unfold Vs
  have e1 := cutL_len (Gs R k n (g + 1) p) (cstart k n (csn n p g)) (cstart k n (csn n p g + 1)) (by rw [Gs_len h _ p hp]; exact hle)
  have e2 := cutL_len (Gs R k n g p) (cstart k n (csn n p g)) (cstart k n (csn n p g + 1)) (by rw [Gs_len h _ p hp]; exact hle)
  refine list_ext (by rw [e1, e2]) fun i hi => ?_
  rw [e1] at hi
  rw [cutL_at _ _ _ _ hi, cutL_at _ _ _ _ hi, Gs_at h hp hc (by omega) (by omega), if_neg (csn_ne h.1 h.2.1 hp hg)]
/-- The sum of the first d + 1 places from chunk c's on. -/
def Cy (R : Nat → List (Int × Int)) (n c x d : Nat) : Int := Sm (fun j => wm ((R ((c + j) % n)).getD x (0, 0))) (d + 1) % 340282366920938463463374607431768211456
theorem rise (h : Rok R k n) {c x : Nat} (hc : c < n) (h1 : cstart k n c ≤ x) (h2 : x < cstart k n (c + 1)) : ∀ g, g ≤ n - 1 → ∀ i, i < n →
    wm ((Gs R k n g i).getD x (0, 0)) = if (i + n - c) % n ≤ g then Cy R n c x ((i + n - c) % n) else wm ((R i).getD x (0, 0))
  | 0, _, i, hi => by
    have hb := dist_back h.1 h.2.1 hi hc
    by_cases h0 : (i + n - c) % n ≤ 0
    · rw [if_pos h0]
      have h0' : (i + n - c) % n = 0 := by omega
      rw [h0'] at hb ⊢
      unfold Cy
      rw [Sm, Sm]
      rw [hb]
      have := wm_rng ((R i).getD x (0, 0))
      simp only [Gs]
      omega
    · rw [if_neg h0]; rfl
  | g + 1, hg, i, hi => by
    have ih := rise h hc h1 h2 g (by omega)
    have hn := h.1
    have hu := csn_up h.1 h.2.1 hi hc (g := g) (by omega)
    have hb := dist_back h.1 h.2.1 hi hc
    have hpd := pre_dist h.1 h.2.1 hi hc
    rw [Gs_at h hi hc h1 h2]
    by_cases e : csn n (pre n i) g = c
    · rw [if_pos e]
      have hd := hu.1 e
      have ha : addB n g = true := by unfold addB; exact decide_eq_true (by omega)
      rw [ha]
      unfold gotV
      have hpd' : (pre n i + n - c) % n = g := by rw [hpd, hd, if_neg (by omega)]; omega
      rw [if_pos rfl, wm_sum, ih i hi, ih _ (pre_lt (by omega)), hpd', hd]
      rw [if_neg (show ¬ g + 1 ≤ g by omega), if_pos (Nat.le_refl g), if_pos (Nat.le_refl (g + 1))]
      rw [hd] at hb
      have e3 : Sm (fun j => wm ((R ((c + j) % n)).getD x (0, 0))) (g + 1 + 1) = Sm (fun j => wm ((R ((c + j) % n)).getD x (0, 0))) (g + 1) + wm ((R i).getD x (0, 0)) := by
        conv => lhs; rw [Sm]
        rw [hb]
      unfold Cy
      rw [e3]
      omega
    · rw [if_neg e, ih i hi]
      have hd : ¬ (i + n - c) % n = g + 1 := fun h3 => e (hu.2 h3)
      by_cases h3 : (i + n - c) % n ≤ g
      · rw [if_pos h3, if_pos (by omega)]
      · rw [if_neg h3, if_neg (by omega)]
end Go.Proofs.Ytjidjbjbngbhpaa
