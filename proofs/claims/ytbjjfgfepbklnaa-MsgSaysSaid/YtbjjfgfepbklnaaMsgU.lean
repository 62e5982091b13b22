/- Bytes that are a message's body, by their lengths alone. No program. -/
import Derived.Test.YtbjjfgfepbklnaaMsgH
set_option linter.unusedVariables false
set_option linter.unusedSimpArgs false
namespace Go.Proofs.Ytbjjfgfepbklnaa
open Go.RowKit Go.Proofs.YtbjjfgfepbklnaaW.PrintWords Go.Proofs.Ytbjjfgfepbklnaa.K

theorem bes_up (v z n : Nat) (hz : z < 256) : ∀ k, k ≤ n → bes ((v * 256 + z : Nat) : Int) (n + 1) k = bes (v : Int) n k
  | 0, _ => rfl
  | k + 1, h => by
    unfold bes
    rw [bes_up v z n hz k (by omega), byte_nat, byte_nat]
    have e : 8 * (n + 1 - 1 - k) = 8 * (n - 1 - k) + 8 := by omega
    rw [e, Nat.pow_add, Nat.mul_comm (2 ^ (8 * (n - 1 - k))) (2 ^ 8), show (2 : Nat) ^ 8 = 256 from rfl, ← Nat.div_div_eq_div_mul, show (v * 256 + z) / 256 = v by omega]
theorem bes_back : ∀ (n : Nat) (zs : List Int), zs.length = n → n ≤ 8 → (∀ y ∈ zs, (Lit.int .u8 y).wf = true) → ∃ v : Nat, numU 0 zs = (v : Int) ∧ v < 2 ^ (8 * n) ∧ bes (v : Int) n n = zs
  | 0, zs, hl, _, _ => by
    obtain rfl := List.length_eq_zero_iff.1 hl
    exact ⟨0, rfl, by decide, rfl⟩
  | n + 1, zs, hl, h8, hw => by
    rcases List.eq_nil_or_concat zs with rfl | ⟨l, a, rfl⟩
    · simp at hl
    · rw [List.concat_eq_append] at hl hw ⊢
      have hl' : l.length = n := by simpa using hl
      obtain ⟨v, h1, h2, h3⟩ := bes_back n l hl' (by omega) (fun y hy => hw y (List.mem_append_left _ hy))
      have ha := wf_u8.1 (hw a (List.mem_append_right _ (List.mem_singleton.2 rfl)))
      obtain ⟨z, rfl⟩ := Int.eq_ofNat_of_zero_le ha.1
      have hz : z < 256 := by omega
      have hle : 2 ^ (8 * n) ≤ 2 ^ 56 := Nat.pow_le_pow_right (by decide) (by omega)
      have e : numU 0 (l ++ [(z : Int)]) = ((v * 256 + z : Nat) : Int) := by
        unfold numU at h1 ⊢
        rw [List.foldl_append, h1]
        exact numStep_nat v z (by omega) hz
      refine ⟨v * 256 + z, e, ?_, ?_⟩
      · rw [show 8 * (n + 1) = 8 * n + 8 by omega, Nat.pow_add]; omega
      · unfold bes
        rw [bes_up v z n hz n (Nat.le_refl _), h3, byte_nat, show 8 * (n + 1 - 1 - n) = 0 by omega, Nat.pow_zero, Nat.div_one, show (v * 256 + z) % 256 = z by omega]
theorem at_back {b : List Int} {a m : Nat} (hm : m ≤ 8) (h : a + m ≤ b.length) (hw : ∀ y ∈ b, (Lit.int .u8 y).wf = true) : (0 ≤ atU b a m ∧ atU b a m < 2 ^ (8 * m)) ∧ bes (atU b a m) m m = (b.drop a).take m := by
  obtain ⟨v, h1, h2, h3⟩ := bes_back m ((b.drop a).take m) (by rw [List.length_take, List.length_drop]; omega) hm (fun y hy => hw y (List.mem_of_mem_drop (List.mem_of_mem_take hy)))
  have e : atU b a m = (v : Int) := h1
  rw [e]
  refine ⟨⟨by omega, ?_⟩, h3⟩
  have : ((v : Nat) : Int) < ((2 ^ (8 * m) : Nat) : Int) := by omega
  simpa using this
def RG (b : List Int) : Prop := 4 ≤ b.length ∧ pcn b ≤ 500 ∧ 4 + 8 * pcn b ≤ b.length ∧ pcw b ≤ 500 ∧ b.length = 2 + 8 * pcn b + 2 + 16 * pcw b
theorem n8_back {b : List Int} {a : Nat} (h : a + 8 ≤ b.length) (hw : ∀ y ∈ b, (Lit.int .u8 y).wf = true) : n8 (wrap64 (atU b a 8)) = (b.drop a).take 8 := by
  have := at_back (a := a) (m := 8) (by decide) h hw
  unfold n8
  rw [show wrap64 (atU b a 8) % 18446744073709551616 = atU b a 8 by have := this.1; unfold wrap64; omega]
  exact this.2
theorem pN_succ (b : List Int) (k : Nat) : pN b (k + 1) = pN b k ++ [wrap64 (atU b (2 + 8 * k) 8)] := by simp [pN, List.range_succ]
theorem pW_succ (b : List Int) (a k : Nat) : pW b a (k + 1) = pW b a k ++ [(wrap64 (atU b (a + 16 * k) 8), atU b (a + 16 * k + 8) 8)] := by simp [pW, List.range_succ]
theorem nB_back {b : List Int} (hw : ∀ y ∈ b, (Lit.int .u8 y).wf = true) : ∀ c, 2 + 8 * c ≤ b.length → nB (pN b c) = (b.drop 2).take (8 * c)
  | 0, _ => by simp [pN, nB]
  | c + 1, h => by
    have ih := nB_back hw c (by omega)
    have e : nB (pN b (c + 1)) = nB (pN b c) ++ n8 (wrap64 (atU b (2 + 8 * c) 8)) := by rw [pN_succ]; simp [nB]
    rw [e, ih, n8_back (by omega) hw, show 8 * (c + 1) = 8 * c + 8 by omega, List.take_add, List.drop_drop]
theorem wB_back {b : List Int} {a : Nat} (hw : ∀ y ∈ b, (Lit.int .u8 y).wf = true) : ∀ c, a + 16 * c ≤ b.length → wB (pW b a c) = (b.drop a).take (16 * c)
  | 0, _ => by simp [pW, wB]
  | c + 1, h => by
    have ih := wB_back (a := a) hw c (by omega)
    have e : wB (pW b a (c + 1)) = wB (pW b a c) ++ (n8 (wrap64 (atU b (a + 16 * c) 8)) ++ bes (atU b (a + 16 * c + 8) 8) 8 8) := by rw [pW_succ]; simp [wB, w16]
    rw [e, ih, n8_back (by omega) hw, (at_back (a := a + 16 * c + 8) (m := 8) (by decide) (by omega) hw).2, show 16 * (c + 1) = 16 * c + (8 + 8) by omega, List.take_add, List.drop_drop, List.take_add, List.drop_drop]
theorem mbody_back {y : Fr} (hw : ∀ z ∈ y.b, (Lit.int .u8 z).wf = true) (h : RG y.b) : mbody (pM y) = y.b := by
  obtain ⟨h1, h2, h3, h4, h5⟩ := h
  have a1 := at_back (b := y.b) (a := 0) (m := 2) (by decide) (by omega) hw
  have a2 := at_back (b := y.b) (a := 2 + 8 * pcn y.b) (m := 2) (by decide) (by omega) hw
  have l1 : (pM y).n.length = pcn y.b := by show (pN _ _).length = _; simp [pN]
  have l2 : (pM y).w.length = pcw y.b := by show (pW _ _ _).length = _; simp [pW]
  have e1 : n2 (pcn y.b) = (y.b.drop 0).take 2 := by
    rw [← a1.2]; unfold n2
    rw [show ((pcn y.b : Nat) : Int) = atU y.b 0 2 by unfold pcn; exact Int.toNat_of_nonneg a1.1.1]
  have e2 : n2 (pcw y.b) = (y.b.drop (2 + 8 * pcn y.b)).take 2 := by
    rw [← a2.2]; unfold n2
    rw [show ((pcw y.b : Nat) : Int) = atU y.b (2 + 8 * pcn y.b) 2 by unfold pcw; exact Int.toNat_of_nonneg a2.1.1]
  unfold mbody
  rw [l1, l2, e1, e2, show (pM y).n = pN y.b (pcn y.b) from rfl, show (pM y).w = pW y.b (2 + 8 * pcn y.b + 2) (pcw y.b) from rfl, nB_back hw _ (by omega), wB_back hw _ (by omega)]
  have s1 : y.b = y.b.take (2 + 8 * pcn y.b + 2 + 16 * pcw y.b) := by rw [← h5, List.take_length]
  conv => rhs; rw [s1]
  rw [List.take_add, List.take_add, List.take_add, List.drop_zero]
theorem wf_pM {y : Fr} (hw : y.wf) (h : RG y.b) : (pM y).wf := by
  refine ⟨hw.1, hw.2.1, ?_, ?_⟩
  · intro z hz
    obtain ⟨i, _, rfl⟩ := List.mem_map.1 hz
    exact wrap64_wf _
  · intro z hz
    obtain ⟨i, hi, rfl⟩ := List.mem_map.1 hz
    have hi' : i < pcw y.b := List.mem_range.1 hi
    have := (at_back (b := y.b) (a := 2 + 8 * pcn y.b + 2 + 16 * i + 8) (m := 8) (by decide) (by have := h.2.2.2.2; omega) hw.2.2).1
    exact ⟨wrap64_wf _, mk_u64 (by omega) (by omega)⟩
theorem good_pM {y : Fr} (hg : y.good) (h : RG y.b) : (pM y).good :=
  ⟨hg.1, hg.2.1, hg.2.2.1, by show (pN _ _).length ≤ 500; simp [pN]; exact h.2.1, by show (pW _ _ _).length ≤ 500; simp [pW]; exact h.2.2.2.1⟩
theorem rg_yes {xs : List Int} {y : Fr} (hy : Is xs y) (h : RG y.b) : MIs xs (pM y) := by
  refine ⟨good_pM hy.1 h, wf_pM hy.2.1 h, ?_⟩
  have e : mfr (pM y) = y := by
    show Fr.mk _ _ _ _ _ (mbody (pM y)) = y
    rw [mbody_back hy.2.1.2.2 h]; rfl
  unfold menc
  rw [e]; exact hy.2.2
theorem rg_no {xs : List Int} {y : Fr} (hy : Is xs y) (h : ¬ RG y.b) : ¬ ∃ x, MIs xs x := by
  rintro ⟨x, hx⟩
  obtain rfl := hy.eq hx.is
  refine h ?_
  have hg := hx.1.2.2.2
  show RG (mbody x)
  unfold RG
  rw [pcn_eq hx.1, pcw_eq hx.1, mbody_len]
  omega
end Go.Proofs.Ytbjjfgfepbklnaa
