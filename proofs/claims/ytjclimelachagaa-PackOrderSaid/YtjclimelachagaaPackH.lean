/- The walk of PackOrder. -/
import Derived.Test.YtjclimelachagaaPackG0
import Derived.Deep.RegionWith
set_option linter.unusedVariables false
set_option linter.unusedSimpArgs false
namespace Go.Proofs.Ytjclimelachagaa
open Go.RowKit Go.Proofs.YtjclimelachagaaW.PrintWords Go.Proofs.Ytjclimelachagaa.K

/-! the order of bytes is the order of numbers -/
def foldN (v : Nat) (l : List Nat) : Nat := l.foldl (fun v x => v * 256 + x) v
theorem less_fold : ∀ (x y : List Nat) (p q : Nat), x.length = y.length → (∀ a ∈ x, a < 256) → (∀ a ∈ y, a < 256) →
    (foldN p x < foldN q y ↔ (p < q ∨ p = q ∧ Op.bytesLess (x.map UInt8.ofNat) (y.map UInt8.ofNat) = true))
  | [], [], p, q, _, _, _ => by simp [foldN, Op.bytesLess]
  | a :: x, b :: y, p, q, hl, hx, hy => by
    have ha := hx a (by simp)
    have hb := hy b (by simp)
    have ih := less_fold x y (p * 256 + a) (q * 256 + b) (by simpa using hl) (fun c hc => hx c (by simp [hc])) (fun c hc => hy c (by simp [hc]))
    have e1 : (UInt8.ofNat a < UInt8.ofNat b) ↔ a < b := by
      rw [UInt8.lt_iff_toNat_lt, UInt8.toNat_ofNat', UInt8.toNat_ofNat', Nat.mod_eq_of_lt (by omega), Nat.mod_eq_of_lt (by omega)]
    have e2 : (UInt8.ofNat a = UInt8.ofNat b) ↔ a = b := by
      rw [← UInt8.toNat_inj, UInt8.toNat_ofNat', UInt8.toNat_ofNat', Nat.mod_eq_of_lt (by omega), Nat.mod_eq_of_lt (by omega)]
    have f1 : foldN p (a :: x) = foldN (p * 256 + a) x := rfl
    have f2 : foldN q (b :: y) = foldN (q * 256 + b) y := rfl
    rw [f1, f2, ih]
    simp only [List.map_cons, Op.bytesLess, Bool.or_eq_true, decide_eq_true_eq, Bool.and_eq_true, beq_iff_eq, e1, e2]
    generalize Op.bytesLess (List.map UInt8.ofNat x) (List.map UInt8.ofNat y) = B
    cases B
    · simp only [Bool.false_eq_true, and_false, or_false]; omega
    · simp only [and_true]; omega
def besN (v n : Nat) : Nat → List Nat
  | 0 => []
  | k + 1 => besN v n k ++ [v / 2 ^ (8 * (n - 1 - k)) % 256]
theorem besN_lt (v n : Nat) : ∀ k, ∀ x ∈ besN v n k, x < 256
  | 0, x, h => by simp [besN] at h
  | k + 1, x, h => by
    rw [besN] at h
    rcases List.mem_append.1 h with h | h
    · exact besN_lt v n k x h
    · simp at h; omega
theorem besN_len (v n : Nat) : ∀ k, (besN v n k).length = k
  | 0 => rfl
  | k + 1 => by simp [besN, besN_len v n k]
theorem bes_nat (v n : Nat) : ∀ k, bes (v : Int) n k = (besN v n k).map fun (x : Nat) => (x : Int)
  | 0 => rfl
  | k + 1 => by rw [bes, besN, bes_nat v n k, List.map_append, byte_nat]; rfl
theorem foldN_bes (v n : Nat) : ∀ k, k ≤ n → foldN 0 (besN v n k) = v / 2 ^ (8 * (n - k)) % 2 ^ (8 * k)
  | 0, _ => by simp [besN, foldN, Nat.mod_one]
  | k + 1, hk => by
    have ih := foldN_bes v n k (by omega)
    have e : foldN 0 (besN v n (k + 1)) = foldN 0 (besN v n k) * 256 + v / 2 ^ (8 * (n - 1 - k)) % 256 := by simp [besN, foldN, List.foldl_append]
    rw [e, ih]
    have e2 : v / 2 ^ (8 * (n - k)) = v / 2 ^ (8 * (n - 1 - k)) / 256 := by
      rw [Nat.div_div_eq_div_mul, show 8 * (n - k) = 8 * (n - 1 - k) + 8 by omega, Nat.pow_add]
    have e3 : n - (k + 1) = n - 1 - k := by omega
    rw [e2, e3, show 8 * (k + 1) = 8 + 8 * k by omega, Nat.pow_add, Nat.mod_mul, show (2 : Nat) ^ 8 = 256 from rfl]
    generalize v / 2 ^ (8 * (n - 1 - k)) = y
    generalize y / 256 % 2 ^ (8 * k) = z
    omega
theorem str_bes (v n : Nat) : (strOfNums (bes (v : Int) n n)).toList = (besN v n n).map UInt8.ofNat := by
  rw [show (strOfNums (bes (v : Int) n n)).toList = (strOfNums (bes (v : Int) n n)).data.toList from ByteArray.toList_eq _, strOfNums_data, bes_nat, List.map_map]
  apply List.map_congr_left
  intro x _
  simp [Function.comp]
theorem bes_less (a b : Int) (n : Nat) (ha : 0 ≤ a ∧ a < 2 ^ (8 * n)) (hb : 0 ≤ b ∧ b < 2 ^ (8 * n)) : Op.bytesLess (strOfNums (bes a n n)).toList (strOfNums (bes b n n)).toList = decide (a < b) := by
  obtain ⟨a, rfl⟩ := Int.eq_ofNat_of_zero_le ha.1
  obtain ⟨b, rfl⟩ := Int.eq_ofNat_of_zero_le hb.1
  have ha' : a < 2 ^ (8 * n) := by exact_mod_cast ha.2
  have hb' : b < 2 ^ (8 * n) := by exact_mod_cast hb.2
  have h := less_fold (besN a n n) (besN b n n) 0 0 (by rw [besN_len, besN_len]) (besN_lt a n n) (besN_lt b n n)
  rw [foldN_bes a n n (Nat.le_refl _), foldN_bes b n n (Nat.le_refl _), Nat.sub_self, Nat.mul_zero, Nat.pow_zero, Nat.div_one, Nat.div_one, Nat.mod_eq_of_lt ha', Nat.mod_eq_of_lt hb'] at h
  rw [str_bes, str_bes, Bool.eq_iff_iff, decide_eq_true_eq, Int.ofNat_lt]
  simp only [Nat.lt_irrefl, true_and, false_or] at h
  exact h.symm

theorem size_bes (v : Int) (n : Nat) : (strOfNums (bes v n n)).size = n := by rw [strOfNums_size, bes_len]
set_option maxRecDepth 100000 in
set_option maxHeartbeats 8000000 in
theorem order_walk (W : World) (a : Int) (wa : (Lit.int .u64 a).wf = true) (b : Int) (wb : (Lit.int .u64 b).wf = true) (c : Int) (wc : (Lit.int .u32 c).wf = true) (d : Int) (wd : (Lit.int .u32 d).wf = true) :
    Calls Try.prog 4 #[.int .u64 a, .int .u64 b, .int .u32 c, .int .u32 d] W fun e w' => e = .returned (.bool true) ∧ Below W.heap.size W w' := by
  have ha : 0 ≤ a ∧ a < 18446744073709551616 := by simp [Lit.wf, IntKind.min, IntKind.max, IntKind.signed, IntKind.bits] at wa; omega
  have hb : 0 ≤ b ∧ b < 18446744073709551616 := by simp [Lit.wf, IntKind.min, IntKind.max, IntKind.signed, IntKind.bits] at wb; omega
  have hc : 0 ≤ c ∧ c < 4294967296 := by simp [Lit.wf, IntKind.min, IntKind.max, IntKind.signed, IntKind.bits] at wc; omega
  have hd : 0 ≤ d ∧ d < 4294967296 := by simp [Lit.wf, IntKind.min, IntKind.max, IntKind.signed, IntKind.bits] at wd; omega
  have l1 := bes_less a b 8 (by simpa using ha) (by simpa using hb)
  have l2 := bes_less c d 4 (by simpa using hc) (by simpa using hd)
  have z1 := size_bes a 8
  have z2 := size_bes c 4
  have K : ∀ (w : World) (A : Option Addr) (n c : Nat) (xs : List Int), Bts w A n xs → (convert 22 9 (.slice A n c)).run Try.prog w = .ok (.string (strOfNums xs)) w := fun w A n c xs h => str_of h.1
  have HK := Lib.hid K
  have CA := Lib.hid (fun w => wU64_walk none [] 0 0 a w (reads_nil _ _) (by decide) ha)
  have CB := Lib.hid (fun w => wU64_walk none [] 0 0 b w (reads_nil _ _) (by decide) hb)
  have CC := Lib.hid (fun w => wU32_walk none [] 0 0 c w (reads_nil _ _) (by decide) hc)
  have CD := Lib.hid (fun w => wU32_walk none [] 0 0 d w (reads_nil _ _) (by decide) hd)
  obtain ⟨SA, hSA⟩ : ∃ S : ByteArray, S = strOfNums (bes a 8 8) := ⟨_, rfl⟩
  obtain ⟨SB, hSB⟩ : ∃ S : ByteArray, S = strOfNums (bes b 8 8) := ⟨_, rfl⟩
  obtain ⟨SC, hSC⟩ : ∃ S : ByteArray, S = strOfNums (bes c 4 4) := ⟨_, rfl⟩
  obtain ⟨SD, hSD⟩ : ∃ S : ByteArray, S = strOfNums (bes d 4 4) := ⟨_, rfl⟩
  rw [← hSA, ← hSB] at l1
  rw [← hSC, ← hSD] at l2
  rw [← hSA] at z1
  rw [← hSC] at z2
  have HA := Lib.hid hSA; have HB := Lib.hid hSB; have HC := Lib.hid hSC; have HD := Lib.hid hSD
  clear hSA hSB hSC hSD K ha hb hc hd wa wb wc wd
  go_enter Try.func4, Try.ntmps4
  go_wp2_with fail
  refine (awake_walk W).mono ?_
  rintro e w1 ⟨rfl, hb1⟩
  have HW := Lib.hid hb1; clear hb1
  go_wp2_with fail
  go_region_with (first | (go_at_call 16; (with_reducible refine (CA.out _).mono ?_); rintro e w2 ⟨A2, c2, rfl, hown, hbx⟩; have HX := Lib.hid (Bts.own hown); have kx := HK.out _ _ _ c2 _ HX.out; rw [List.nil_append, ← HA.out] at kx; have HWx := Lib.hid (below_then (Go.RowKit.Hid.out (by assumption : Hid (Below W.heap.size W w1)) |> fun h => below_drew h) (below_drew (Go.RowKit.Hid.out (by assumption : Hid (Below W.heap.size W w1)))).size hbx); clear hown hbx) | (go_at_call 16; refine (CB.out _).mono ?_; rintro e w3 ⟨A3, c3, rfl, hown, hby⟩; have HY := Lib.hid (Bts.own hown); have ky := HK.out _ _ _ c3 _ HY.out; rw [List.nil_append, ← HB.out] at ky; have HX2 := Lib.hid ((Go.RowKit.Hid.out HX).below hby); have kx2 := HK.out _ _ _ c2 _ HX2.out; rw [List.nil_append, ← HA.out] at kx2; have HWy := Lib.hid (below_then HWx.out HWx.out.size hby); clear hown hby))
  all_goals (have HZ := Lib.hid HWy.out; clear HX HX2 HWx HWy kx ky kx2; go_wp2_with fail)
  all_goals (go_region_with (first | (go_at_call 17; (with_reducible refine (CC.out _).mono ?_); rintro e w4 ⟨A4, c4, rfl, hown, hbx⟩; have HX := Lib.hid (Bts.own hown); have kx := HK.out _ _ _ c4 _ HX.out; rw [List.nil_append, ← HC.out] at kx; have HWx := Lib.hid (below_then (below_drew HZ.out) (below_drew HZ.out).size hbx); clear hown hbx) | (go_at_call 17; refine (CD.out _).mono ?_; rintro e w5 ⟨A5, c5, rfl, hown, hby⟩; have HY := Lib.hid (Bts.own hown); have ky := HK.out _ _ _ c5 _ HY.out; rw [List.nil_append, ← HD.out] at ky; have HX2 := Lib.hid ((Go.RowKit.Hid.out HX).below hby); have kx2 := HK.out _ _ _ c4 _ HX2.out; rw [List.nil_append, ← HC.out] at kx2; have HWy := Lib.hid (below_then HWx.out HWx.out.size hby); clear hown hby)))
  all_goals (go_wp2_with fail)
  all_goals (go_ret)
  all_goals (exact ⟨rfl, HWy.out⟩)
end Go.Proofs.Ytjclimelachagaa
