/- Frames as lists of bytes: what is written, that it is read back, that a byte changed is seen. No program. -/
import Derived.Test.YtbjjfgfepbklnaaCrcA
import Derived.Test.YtbjjfgfepbklnaaPackE
set_option linter.unusedVariables false
set_option linter.unusedSimpArgs false
namespace Go.Proofs.Ytbjjfgfepbklnaa
open Go.RowKit Go.Proofs.YtbjjfgfepbklnaaW.PrintWords

structure Fr where
  k : Int
  f : Int
  t : Int
  v : Int
  s : Int
  b : List Int
def Fr.good (x : Fr) : Prop := (1 ≤ x.k ∧ x.k ≤ 20) ∧ (0 ≤ x.f ∧ x.f < 16) ∧ (0 ≤ x.t ∧ x.t < 16) ∧ x.b.length ≤ 16384
instance (x : Fr) : Decidable x.good := by unfold Fr.good; infer_instance
def Fr.wf (x : Fr) : Prop := (0 ≤ x.v ∧ x.v < 4294967296) ∧ (0 ≤ x.s ∧ x.s < 4294967296) ∧ ∀ y ∈ x.b, (Lit.int .u8 y).wf = true
def frH (x : Fr) : List Int := [82, 1, x.k, x.f, x.t] ++ bes x.v 4 4 ++ bes x.s 4 4 ++ bes (x.b.length : Int) 2 2
def frB (x : Fr) : List Int := frH x ++ x.b
def enc (x : Fr) : List Int := frB x ++ bes (moreI 0 (frB x)) 4 4

theorem frH_len (x : Fr) : (frH x).length = 15 := by simp [frH, bes_len]
theorem frB_len (x : Fr) : (frB x).length = 15 + x.b.length := by simp [frB, frH_len]
theorem enc_len (x : Fr) : (enc x).length = 19 + x.b.length := by simp [enc, frB_len, bes_len]; omega
theorem wf_u8 {y : Int} : (Lit.int .u8 y).wf = true ↔ 0 ≤ y ∧ y < 256 := by
  simp [Lit.wf, IntKind.min, IntKind.max, IntKind.signed, IntKind.bits]; omega
theorem bes_wf (v : Int) (n : Nat) : ∀ k, ∀ y ∈ bes v n k, (Lit.int .u8 y).wf = true
  | 0, y, h => by simp [bes] at h
  | k + 1, y, h => by
    simp only [bes, List.mem_append, List.mem_singleton] at h
    rcases h with h | rfl
    · exact bes_wf v n k y h
    · rw [wf_u8]; exact ⟨Int.emod_nonneg _ (by decide), Int.emod_lt_of_pos _ (by decide)⟩
theorem frH_wf {x : Fr} (hg : x.good) : ∀ y ∈ frH x, (Lit.int .u8 y).wf = true := by
  intro y hy
  obtain ⟨h1, h2, h3, h4⟩ := hg
  simp only [frH, List.mem_append, List.mem_cons, List.not_mem_nil, or_false] at hy
  rcases hy with ((h | h) | h) | h
  · rw [wf_u8]; omega
  · exact bes_wf _ _ _ _ h
  · exact bes_wf _ _ _ _ h
  · exact bes_wf _ _ _ _ h
theorem frB_wf {x : Fr} (hg : x.good) (hw : x.wf) : ∀ y ∈ frB x, (Lit.int .u8 y).wf = true := by
  intro y hy
  rcases List.mem_append.1 hy with h | h
  · exact frH_wf hg y h
  · exact hw.2.2 y h
theorem enc_wf {x : Fr} (hg : x.good) (hw : x.wf) : ∀ y ∈ enc x, (Lit.int .u8 y).wf = true := by
  intro y hy
  rcases List.mem_append.1 hy with h | h
  · exact frB_wf hg hw y h
  · exact bes_wf _ _ _ _ h
theorem moreI_rng (c : Int) (xs : List Int) : 0 ≤ moreI c xs ∧ moreI c xs < 4294967296 := by unfold moreI turn32; exact bits_rng _ _ _

theorem atU_mid (p q : List Int) (v : Int) (n a : Nat) (hn : n ≤ 8) (hv : 0 ≤ v) (ha : p.length = a) : atU (p ++ (bes v n n ++ q)) a n = v % 2 ^ (8 * n) := by
  unfold atU
  subst ha
  rw [List.drop_left, List.take_append_of_le_length (by rw [bes_len]; exact Nat.le_refl _), List.take_of_length_le (by rw [bes_len]; exact Nat.le_refl _)]
  obtain ⟨m, rfl⟩ := Int.eq_ofNat_of_zero_le hv
  have := numU_all m n hn
  rw [this]
  simp
theorem atU_one (p q : List Int) (y : Int) (a : Nat) (hy : 0 ≤ y ∧ y < 256) (ha : p.length = a) : atU (p ++ (y :: q)) a 1 = y := by
  unfold atU
  subst ha
  rw [List.drop_left]
  obtain ⟨m, rfl⟩ := Int.eq_ofNat_of_zero_le hy.1
  have := numStep_nat 0 m (by decide) (by omega)
  simpa [numU] using this
theorem atU_take (xs : List Int) (a n k : Nat) (h : a + n ≤ k) : atU (xs.take k) a n = atU xs a n := by
  unfold atU
  rw [List.drop_take, List.take_take, Nat.min_eq_left (by omega)]

/-- What a frame's bytes say, read where they stand. -/
theorem read_k {x : Fr} (hg : x.good) : atU (enc x) 2 1 = x.k := by
  have : enc x = [82, 1] ++ (x.k :: ([x.f, x.t] ++ bes x.v 4 4 ++ bes x.s 4 4 ++ bes (x.b.length : Int) 2 2 ++ x.b ++ bes (moreI 0 (frB x)) 4 4)) := by simp [enc, frB, frH]
  rw [this]
  obtain ⟨h1, h2, h3, h4⟩ := hg
  exact atU_one _ _ _ _ (by omega) rfl
theorem read_f {x : Fr} (hg : x.good) : atU (enc x) 3 1 = x.f := by
  have : enc x = [82, 1, x.k] ++ (x.f :: ([x.t] ++ bes x.v 4 4 ++ bes x.s 4 4 ++ bes (x.b.length : Int) 2 2 ++ x.b ++ bes (moreI 0 (frB x)) 4 4)) := by simp [enc, frB, frH]
  rw [this]
  obtain ⟨h1, h2, h3, h4⟩ := hg
  exact atU_one _ _ _ _ (by omega) rfl
theorem read_t {x : Fr} (hg : x.good) : atU (enc x) 4 1 = x.t := by
  have : enc x = [82, 1, x.k, x.f] ++ (x.t :: (bes x.v 4 4 ++ bes x.s 4 4 ++ bes (x.b.length : Int) 2 2 ++ x.b ++ bes (moreI 0 (frB x)) 4 4)) := by simp [enc, frB, frH]
  rw [this]
  obtain ⟨h1, h2, h3, h4⟩ := hg
  exact atU_one _ _ _ _ (by omega) rfl
theorem read_v {x : Fr} (hw : x.wf) : atU (enc x) 5 4 = x.v := by
  have : enc x = [82, 1, x.k, x.f, x.t] ++ (bes x.v 4 4 ++ (bes x.s 4 4 ++ bes (x.b.length : Int) 2 2 ++ x.b ++ bes (moreI 0 (frB x)) 4 4)) := by simp [enc, frB, frH]
  rw [this]
  obtain ⟨h1, h2, h3⟩ := hw
  rw [atU_mid [82, 1, x.k, x.f, x.t] _ x.v 4 5 (by decide) h1.1 rfl]
  simp; omega
theorem read_s {x : Fr} (hw : x.wf) : atU (enc x) 9 4 = x.s := by
  have : enc x = ([82, 1, x.k, x.f, x.t] ++ bes x.v 4 4) ++ (bes x.s 4 4 ++ (bes (x.b.length : Int) 2 2 ++ x.b ++ bes (moreI 0 (frB x)) 4 4)) := by simp [enc, frB, frH]
  rw [this]
  obtain ⟨h1, h2, h3⟩ := hw
  rw [atU_mid _ _ _ _ _ (by decide) h2.1 (by simp [bes_len])]
  simp; omega
theorem read_n {x : Fr} (hg : x.good) : atU (enc x) 13 2 = (x.b.length : Int) := by
  have : enc x = ([82, 1, x.k, x.f, x.t] ++ bes x.v 4 4 ++ bes x.s 4 4) ++ (bes (x.b.length : Int) 2 2 ++ (x.b ++ bes (moreI 0 (frB x)) 4 4)) := by simp [enc, frB, frH]
  rw [this]
  have := hg.2.2.2
  rw [atU_mid _ _ _ _ _ (by decide) (by omega) (by simp [bes_len])]
  simp; omega
theorem read_b (x : Fr) : ((enc x).drop 15).take x.b.length = x.b := by
  have : enc x = frH x ++ (x.b ++ bes (moreI 0 (frB x)) 4 4) := by simp [enc, frB]
  rw [this, ← frH_len x, List.drop_left, List.take_left]
theorem read_b2 (x : Fr) : ((enc x).drop 15).take ((enc x).length - 19) = x.b := by
  rw [enc_len, show 19 + x.b.length - 19 = x.b.length by omega, read_b]

theorem enc_inj {x y : Fr} (gx : x.good) (gy : y.good) (wx : x.wf) (wy : y.wf) (h : enc x = enc y) : x = y := by
  have h1 := read_k gx; rw [h, read_k gy] at h1
  have h2 := read_f gx; rw [h, read_f gy] at h2
  have h3 := read_t gx; rw [h, read_t gy] at h3
  have h4 := read_v wx; rw [h, read_v wy] at h4
  have h5 := read_s wx; rw [h, read_s wy] at h5
  have h6 := read_b2 x; rw [h, read_b2 y] at h6
  cases x; cases y; simp_all
theorem same_len {x y : Fr} (gx : x.good) (gy : y.good) (h : (enc x).take 15 = (enc y).take 15) : x.b.length = y.b.length := by
  have h1 := read_n gx
  have h2 := read_n gy
  rw [← atU_take _ 13 2 15 (by decide)] at h1 h2
  rw [h, h2] at h1
  omega
theorem cut_none {x : Fr} (gx : x.good) (cut : Nat) (h : cut < (enc x).length) : ¬ ∃ y : Fr, y.good ∧ y.wf ∧ enc y = (enc x).take cut := by
  rintro ⟨y, gy, wy, e⟩
  have hl : (enc y).length = cut := by rw [e, List.length_take]; omega
  have h1 := enc_len y
  have h2 := enc_len x
  have := same_len gy gx (by rw [e, List.take_take, Nat.min_eq_left (by omega)])
  omega
theorem more_none {x : Fr} (gx : x.good) (m : List Int) (h : 1 ≤ m.length) : ¬ ∃ y : Fr, y.good ∧ y.wf ∧ enc y = enc x ++ m := by
  rintro ⟨y, gy, wy, e⟩
  have hl : (enc y).length = (enc x).length + m.length := by rw [e, List.length_append]
  have h1 := enc_len y
  have h2 := enc_len x
  have := same_len gy gx (by rw [e, List.take_append_of_le_length (by omega)])
  omega

theorem one_byte (X : List Nat) (i z : Nat) (hX : ∀ x ∈ X, x < 256) (hi : i < X.length) (hz : z < 256) (h : M.more 0 (X.set i z) = M.more 0 X) : z = X[i] := by
  have e1 : X = X.take i ++ (X[i] :: X.drop (i + 1)) := by simp
  have e2 : X.set i z = X.take i ++ (z :: X.drop (i + 1)) := List.set_eq_take_append_cons_drop .. |>.trans (by simp [hi])
  have hp : ∀ x ∈ X.take i, x < 256 := fun x hx => hX x (List.mem_of_mem_take hx)
  have hs : ∀ x ∈ X.drop (i + 1), x < 256 := fun x hx => hX x (List.mem_of_mem_drop hx)
  have hxi : X[i] < 256 := hX _ (List.getElem_mem hi)
  unfold M.more at h
  have h := M.xor_cancelL h
  have hc : M.full ^^^ 0 < 4294967296 := by decide
  rw [e2] at h
  conv at h => rhs; rw [e1]
  rw [M.run_append, M.run_append] at h
  have hr := M.run_lt (X.take i) hc hp
  have h2 : M.run (M.by1 (M.run (M.full ^^^ 0) (X.take i)) z) (X.drop (i + 1)) = M.run (M.by1 (M.run (M.full ^^^ 0) (X.take i)) X[i]) (X.drop (i + 1)) := h
  have h3 := M.run_inj _ (M.by1_lt hr hz) (M.by1_lt hr hxi) hs h2
  have h4 := M.stN_inj (M.xor_lt hr (by omega)) (M.xor_lt hr (by omega)) 8 h3
  exact M.xor_cancelL h4
theorem one_byteI (xs : List Int) (i : Nat) (z : Int) (hx : ∀ x ∈ xs, (Lit.int .u8 x).wf = true) (hi : i < xs.length) (hz : (Lit.int .u8 z).wf = true) (h : moreI 0 (xs.set i z) = moreI 0 xs) : z = xs[i] := by
  obtain ⟨X, rfl, hX⟩ := to_nats xs hx
  rw [wf_u8] at hz
  obtain ⟨m, rfl⟩ := Int.eq_ofNat_of_zero_le hz.1
  have e : (X.map fun (x : Nat) => (x : Int)).set i ((m : Nat) : Int) = (X.set i m).map fun (x : Nat) => (x : Int) := by
    rw [List.map_set]
  have hm : ∀ x ∈ X.set i m, x < 256 := fun x hx => by
    rcases List.mem_or_eq_of_mem_set hx with h | h
    · exact hX x h
    · omega
  have e0 : (0 : Int) = ((0 : Nat) : Int) := rfl
  rw [e, e0, moreI_nat 0 _ (by decide) hm, moreI_nat 0 _ (by decide) hX] at h
  have hi' : i < X.length := by simpa using hi
  have := one_byte X i m hX hi' (by omega) (by exact_mod_cast h)
  simp [this]
theorem bes4_inj {a b : Int} (ha : 0 ≤ a ∧ a < 4294967296) (hb : 0 ≤ b ∧ b < 4294967296) (h : bes a 4 4 = bes b 4 4) : a = b := by
  obtain ⟨m, rfl⟩ := Int.eq_ofNat_of_zero_le ha.1
  obtain ⟨n, rfl⟩ := Int.eq_ofNat_of_zero_le hb.1
  have h1 := numU_all m 4 (by decide)
  have h2 := numU_all n 4 (by decide)
  rw [h, h2] at h1
  have : ((n % 2 ^ (8 * 4) : Nat) : Int) = ((m % 2 ^ (8 * 4) : Nat) : Int) := h1
  have h3 : n % 2 ^ (8 * 4) = m % 2 ^ (8 * 4) := by exact_mod_cast this
  simp at h3
  omega
theorem set_none {x : Fr} (gx : x.good) (wx : x.wf) (i : Nat) (z : Int) (hi : i < (enc x).length) (hz : (Lit.int .u8 z).wf = true) (hne : z ≠ (enc x)[i]) : ¬ ∃ y : Fr, y.good ∧ y.wf ∧ enc y = (enc x).set i z := by
  rintro ⟨y, gy, wy, e⟩
  have hl : (enc y).length = (enc x).length := by rw [e, List.length_set]
  have h1 := enc_len y
  have h2 := enc_len x
  have hb : x.b.length = y.b.length := by omega
  have hB : (frB y).length = (frB x).length := by rw [frB_len, frB_len, hb]
  by_cases hlt : i < (frB x).length
  · have e2 : (enc x).set i z = (frB x).set i z ++ bes (moreI 0 (frB x)) 4 4 := by rw [enc, List.set_append_left _ _ hlt]
    rw [e2, enc] at e
    obtain ⟨e3, e4⟩ := List.append_inj e (by rw [List.length_set, hB])
    have e5 := bes4_inj (moreI_rng ..) (moreI_rng ..) e4
    rw [e3] at e5
    have := one_byteI _ _ _ (frB_wf gx wx) hlt hz e5
    refine hne (this.trans ?_)
    simp [enc, List.getElem_append_left hlt]
  · have e2 : (enc x).set i z = frB x ++ (bes (moreI 0 (frB x)) 4 4).set (i - (frB x).length) z := by rw [enc, List.set_append_right _ _ (by omega)]
    rw [e2] at e
    conv at e => lhs; rw [enc]
    obtain ⟨e3, e4⟩ := List.append_inj e hB
    rw [e3] at e4
    have hi2 : i - (frB x).length < (bes (moreI 0 (frB x)) 4 4).length := by rw [bes_len]; rw [frB_len]; omega
    have e5 : (bes (moreI 0 (frB x)) 4 4)[i - (frB x).length]? = some z := by
      rw [e4]
      simp [List.getElem?_set, hi2]
    rw [List.getElem?_eq_getElem hi2] at e5
    refine hne ?_
    have : (enc x)[i] = (bes (moreI 0 (frB x)) 4 4)[i - (frB x).length] := by
      simp [enc, List.getElem_append_right (show (frB x).length ≤ i by omega)]
    rw [this]
    injection e5 with e5
    exact e5.symm
end Go.Proofs.Ytbjjfgfepbklnaa
