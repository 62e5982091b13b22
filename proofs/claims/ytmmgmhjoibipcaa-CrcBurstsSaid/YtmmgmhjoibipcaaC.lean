/- The walk of CrcLines. -/
import Derived.Test.YtmmgmhjoibipcaaB
import Derived.StillTailTactics
set_option linter.unusedVariables false
set_option linter.unusedSimpArgs false
namespace Go.Proofs.Ytmmgmhjoibipcaa
open Go.RowKit Go.Proofs.YtmmgmhjoibipcaaW.PrintWords

theorem reads_at {w : World} {k : IntKind} {A : Option Addr} {n : Nat} {xs : List Int} (h : ReadsInt w k A n xs) (i : Nat) (hi : i < n) : ∃ ad, A = some ad ∧ w.cell? (ad.add i) = some (.int k (xs.getD i 0)) := by
  obtain ⟨ad, e, hc⟩ := h.2.2 (by omega)
  exact ⟨ad, e, hc i hi⟩
/-- The first k done, the others 0. -/
def part3 (xs ys zs : List Int) (n : Nat) : Nat → List Int
  | 0 => List.replicate n 0
  | k + 1 => (part3 xs ys zs n k).set k (bits .xor .u8 (bits .xor .u8 (xs.getD k 0) (ys.getD k 0)) (zs.getD k 0))
theorem part3_len (xs ys zs : List Int) (n : Nat) : ∀ k, (part3 xs ys zs n k).length = n
  | 0 => by simp [part3]
  | k + 1 => by rw [part3, List.length_set, part3_len xs ys zs n k]
theorem part3_get (xs ys zs : List Int) (n : Nat) : ∀ k, k ≤ n → ∀ i, i < k → (part3 xs ys zs n k)[i]? = some (bits .xor .u8 (bits .xor .u8 (xs.getD i 0) (ys.getD i 0)) (zs.getD i 0))
  | 0, _, i, h => by omega
  | k + 1, hk, i, h => by
    rw [part3, List.getElem?_set]
    by_cases e : k = i
    · subst e
      rw [if_pos rfl, if_pos (by rw [part3_len]; omega)]
    · rw [if_neg e, part3_get xs ys zs n k (by omega) i (by omega)]
theorem part3_nat (X Y Z : List Nat) (hX : ∀ x ∈ X, x < 256) (hY : ∀ x ∈ Y, x < 256) (hZ : ∀ x ∈ Z, x < 256) (h1 : Y.length = X.length) (h2 : Z.length = X.length) :
    part3 (X.map fun (x : Nat) => (x : Int)) (Y.map fun (x : Nat) => (x : Int)) (Z.map fun (x : Nat) => (x : Int)) X.length X.length = (List.zipWith (· ^^^ ·) (List.zipWith (· ^^^ ·) X Y) Z).map fun (x : Nat) => (x : Int) := by
  apply List.ext_getElem?
  intro i
  by_cases hi : i < X.length
  · have b1 := hX _ (List.getElem_mem hi)
    have b2 := hY _ (List.getElem_mem (show i < Y.length by omega))
    have b3 := hZ _ (List.getElem_mem (show i < Z.length by omega))
    rw [part3_get _ _ _ _ _ (Nat.le_refl _) i hi]
    simp only [List.getD_eq_getElem?_getD, List.getElem?_map, List.getElem?_zipWith, List.getElem?_eq_getElem hi, List.getElem?_eq_getElem (show i < Y.length by omega), List.getElem?_eq_getElem (show i < Z.length by omega), Option.map_some, Option.getD_some]
    rw [u8_xor_nat _ _ b1 b2, u8_xor_nat _ _ (Nat.xor_lt_two_pow (n := 8) b1 b2) b3]
  · rw [List.getElem?_eq_none (by rw [part3_len]; omega), List.getElem?_eq_none (by simp; omega)]
theorem lines_true (xs ys zs : List Int) (n : Nat) (hw : ∀ x ∈ xs, (Lit.int .u8 x).wf = true) (hw' : ∀ x ∈ ys, (Lit.int .u8 x).wf = true) (hw'' : ∀ x ∈ zs, (Lit.int .u8 x).wf = true) (h : xs.length = n) (h1 : ys.length = n) (h2 : zs.length = n) :
    moreI 0 (part3 xs ys zs n n) = bits .xor .u32 (bits .xor .u32 (moreI 0 xs) (moreI 0 ys)) (moreI 0 zs) := by
  obtain ⟨X, rfl, hX⟩ := to_nats xs hw
  obtain ⟨Y, rfl, hY⟩ := to_nats ys hw'
  obtain ⟨Z, rfl, hZ⟩ := to_nats zs hw''
  simp only [List.length_map] at h h1 h2
  subst h
  have h0 : (0 : Nat) < 4294967296 := by decide
  have m := fun xs hx => moreI_nat 0 xs h0 hx
  simp only [Int.natCast_zero] at m
  rw [part3_nat X Y Z hX hY hZ h1 h2, m X hX, m Y hY, m Z hZ, m _ ?_, M.more_lines X Y Z h1 h2, xorN _ _ (M.more_lt 0 X h0 hX) (M.more_lt 0 Y h0 hY), xorN _ _ (M.xor_lt (M.more_lt 0 X h0 hX) (M.more_lt 0 Y h0 hY)) (M.more_lt 0 Z h0 hZ)]
  intro x hx
  obtain ⟨i, hi, rfl⟩ := List.getElem_of_mem hx
  simp only [List.length_zipWith] at hi
  simp only [List.getElem_zipWith]
  exact Nat.xor_lt_two_pow (n := 8) (Nat.xor_lt_two_pow (n := 8) (hX _ (List.getElem_mem _)) (hY _ (List.getElem_mem _))) (hZ _ (List.getElem_mem _))
set_option maxHeartbeats 1000000 in
theorem lines_walk (W : World) (A : Option Addr) (n c : Nat) (xs : List Int) (h : ReadsInt W .u8 A n xs) (hw : ∀ x ∈ xs, (Lit.int .u8 x).wf = true) (hc : n ≤ c) (hs : n * 1 ≤ 140737488351232)
    (A' : Option Addr) (n' c' : Nat) (ys : List Int) (h' : ReadsInt W .u8 A' n' ys) (hw' : ∀ x ∈ ys, (Lit.int .u8 x).wf = true) (hc' : n' ≤ c') (hs' : n' * 1 ≤ 140737488351232)
    (A'' : Option Addr) (n'' c'' : Nat) (zs : List Int) (h'' : ReadsInt W .u8 A'' n'' zs) (hw'' : ∀ x ∈ zs, (Lit.int .u8 x).wf = true) (hc'' : n'' ≤ c'') (hs'' : n'' * 1 ≤ 140737488351232) :
    Calls Try.prog 7 #[.slice A n c, .slice A' n' c', .slice A'' n'' c''] W fun e w' => e = .returned (.bool true) ∧ Below W.heap.size W w' := by
  have H : ∀ w1, Below W.heap.size W w1 → ReadsInt w1 .u8 A n xs := fun w1 hb => h.below hb
  have H' : ∀ w1, Below W.heap.size W w1 → ReadsInt w1 .u8 A' n' ys := fun w1 hb => h'.below hb
  have H'' : ∀ w1, Below W.heap.size W w1 → ReadsInt w1 .u8 A'' n'' zs := fun w1 hb => h''.below hb
  clear h h' h''
  by_cases h6 : 300 < n
  · go_enter Try.func7, Try.ntmps7
    go_wp2_with (go_at_call 8; refine (awake_walk _).mono ?_; rintro e w1 ⟨rfl, hb⟩)
    go_ret
    exact ⟨rfl, hb⟩
  by_cases h7 : (n' : Int) = n
  case neg =>
    have h7' : ((n' : Int) != (n : Int)) = true := by simp [h7]
    clear h7
    go_enter Try.func7, Try.ntmps7
    go_wp2_with (go_at_call 8; refine (awake_walk _).mono ?_; rintro e w1 ⟨rfl, hb⟩)
    go_ret
    exact ⟨rfl, hb⟩
  obtain rfl : n' = n := by omega
  clear h7
  by_cases h8 : (n'' : Int) = n'
  case neg =>
    have h7' : ((n'' : Int) != (n' : Int)) = true := by simp [h8]
    clear h8
    go_enter Try.func7, Try.ntmps7
    go_wp2_with (go_at_call 8; refine (awake_walk _).mono ?_; rintro e w1 ⟨rfl, hb⟩)
    go_ret
    exact ⟨rfl, hb⟩
  obtain rfl : n'' = n' := by omega
  clear h8
  have hmk := print_make (P := Try.prog) 25 5 .u8 1 Try.underlying25 (by kernel_rfl) (by decide) n'' (by omega)
  go_enter Try.func7, Try.ntmps7
  go_wp2_with (go_at_call 8; refine (awake_walk _).mono ?_; rintro e w1 ⟨rfl, hb⟩)
  have hO := own_made w1 W.heap.size 5 .u8 n'' hb.size (by omega)
  have hb1 := hb.alloc hb.size (.cells (madeCells #[.int .u8 0] n'') 5)
  obtain ⟨g, hg⟩ : ∃ g, g = w1.heap.size := ⟨_, rfl⟩
  obtain ⟨w2, hw2⟩ : ∃ w2, w2 = w1.alloc (.cells (madeCells #[.int .u8 0] n'') 5) := ⟨_, rfl⟩
  have hgb := hb.size
  rw [← hg] at hO hgb ⊢
  rw [← hw2] at hO hb1 ⊢
  clear hw2 hmk hg hb
  go_loopw [8] (fun i wr => ∃ k : Nat, k ≤ n'' ∧ i = .int .i64 k ∧ Aside0 (wr.ownsRow W.heap.size 5 1 (.slice (some ⟨g, 0, none⟩) n'' n'') n'' (nums .u8 (part3 xs ys zs n'' k)) ∧ Below W.heap.size W wr)) (fun i _ => n'' - (intOf i).toNat)
  case atStart => exact ⟨0, Nat.zero_le _, rfl, ⟨hO, hb1⟩⟩
  case round =>
    obtain ⟨k, hk, rfl, HK⟩ := hrel
    by_cases hlt : k < n''
    · obtain ⟨a1, rfl, c1⟩ := reads_at (H _ HK.out.2) k hlt
      obtain ⟨a2, rfl, c2⟩ := reads_at (H' _ HK.out.2) k hlt
      obtain ⟨a3, rfl, c3⟩ := reads_at (H'' _ HK.out.2) k hlt
      obtain ⟨f1, f2⟩ := own_at HK.out.1 k (by omega) (by omega)
      simp only [Int.toNat_natCast] at f1 f2
      go_wp2
      go_still_tail 17, (by kernel_rfl)
      change wpList _ _ _ _ _ wr.drew
      go_wp2
      go_roundw
      case rel =>
        obtain ⟨s1, s2⟩ := own_store HK.out.1 k (bits .xor .u8 (bits .xor .u8 (xs.getD k 0) (ys.getD k 0)) (zs.getD k 0))
        simp only [Int.toNat_natCast] at s1 s2
        have s3 := below_drew (pw_below_grown HK.out.2 (some g) HK.out.2.size s2 (fun q hq => by cases hq; exact hgb))
        exact ⟨k + 1, by omega, by go_num, ⟨by simpa [part3] using pw_own_below s1 (below_drew (Below.refl _ _)), by simpa using s3⟩⟩
      case measure => simp [intOf]; omega
    · obtain rfl : k = n'' := by omega
      obtain ⟨A4, c4, e4, R4⟩ := own_reads HK.out.1
      cases e4
      have R1 := H _ HK.out.2
      have R2 := H' _ HK.out.2
      have R3 := H'' _ HK.out.2
      have HT : Aside0 (moreI 0 (part3 xs ys zs k k) = bits .xor .u32 (bits .xor .u32 (moreI 0 xs) (moreI 0 ys)) (moreI 0 zs)) := ⟨lines_true xs ys zs k hw hw' hw'' R1.1 R2.1 R3.1⟩
      have HR : Aside0 (ReadsInt wr .u8 (some ⟨g, 0, none⟩) k (part3 xs ys zs k k) ∧ ReadsInt wr .u8 A k xs ∧ ReadsInt wr .u8 A' k ys ∧ ReadsInt wr .u8 A'' k zs) := ⟨R4, R1, R2, R3⟩
      clear R1 R2 R3 R4 H H' H'' hw hw' hw''
      go_wp2_with (first | (go_at_call 9; (with_reducible refine (of_walk _ _ _ _ _ HR.out.1).mono ?_); rintro e w' ⟨rfl, rfl⟩) | (go_at_call 9; (with_reducible refine (of_walk _ _ _ _ _ HR.out.2.1).mono ?_); rintro e w' ⟨rfl, rfl⟩) | (go_at_call 9; (with_reducible refine (of_walk _ _ _ _ _ HR.out.2.2.1).mono ?_); rintro e w' ⟨rfl, rfl⟩) | (go_at_call 9; (with_reducible refine (of_walk _ _ _ _ _ HR.out.2.2.2).mono ?_); rintro e w' ⟨rfl, rfl⟩))
      go_ret
      exact ⟨by rw [HT.out]; simp, HK.out.2⟩
end Go.Proofs.Ytmmgmhjoibipcaa
