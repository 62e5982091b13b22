/- Walks of package pack: numbers written. -/
import Derived.Test.YtbjjfgfepbklnaaPackA
set_option linter.unusedVariables false
set_option linter.unusedSimpArgs false
namespace Go.Proofs.Ytbjjfgfepbklnaa
open Go.RowKit Go.Proofs.YtbjjfgfepbklnaaW.PrintWords Go.Proofs.Ytbjjfgfepbklnaa.K

def bes (v : Int) (n : Nat) : Nat → List Int
  | 0 => []
  | k + 1 => bes v n k ++ [v / 2 ^ (8 * (n - 1 - k)) % 256]
theorem bes_len (v : Int) (n : Nat) : ∀ k, (bes v n k).length = k
  | 0 => rfl
  | k + 1 => by simp [bes, bes_len v n k]
set_option maxHeartbeats 400000 in
theorem put_walk (A : Option Addr) (xs : List Int) (l cap n : Nat) (v : Int) (w : World) (h : ReadsInt w .u8 A l xs) (hn : l ≤ 1000000) (h8 : n ≤ 8) (hv : 0 ≤ v ∧ v < 18446744073709551616) :
    Calls Try.prog 46 #[.slice A l cap, .int .u64 v, .int .i64 n] w fun e w' => ∃ A1 c1, e = .returned (.slice A1 (l + n) c1) ∧ w'.ownsRow w.heap.size 5 1 (.slice A1 (l + n) c1) (l + n) (nums .u8 (xs ++ bes v n n)) ∧ Below w.heap.size w w' := by
  have HL := Lib.hid h; clear h
  go_enter Try.func46, Try.ntmps46
  go_wp2_with (first | (at_builtin; refine K.app_row (w0 := w) w.heap.size rfl (.tmp 9) (.tmp 10) 31 5 .u8 1 rfl Try.underlying31 (by kernel_rfl) (by decide) _ [] xs _ _ _ rfl rfl (own_lit _ _ 5 .u8 [] (Nat.le_refl _) (by decide)) (HL.out.below ((Below.refl _ _).alloc (Nat.le_refl _) _)) ((Below.refl _ _).alloc (Nat.le_refl _) _) (by simp) (by simp; omega) l HL.out.1 ?_; intro A1 c1 w2 hown hB1 _; have HO := Lib.hid hown; clear hown))
  go_loopw [7, 8] (fun s i wr => ∃ (k : Nat) (A1 : Option Addr) (c1 : Nat), k ≤ n ∧ i = .int .i64 ((n : Int) - 1 - k) ∧ s = .slice A1 (l + k) c1 ∧ Aside0 (wr.ownsRow w.heap.size 5 1 (.slice A1 (l + k) c1) (l + k) (nums .u8 (xs ++ bes v n k)) ∧ Below w.heap.size w wr)) (fun _ i _ => (intOf i + 1).toNat)
  case atStart => exact ⟨0, A1, c1, Nat.zero_le _, by simp, rfl, ⟨by simpa [bes] using HO.out, hB1⟩⟩
  case round =>
    obtain ⟨k, A1, c1, hk, rfl, rfl, HK⟩ := hrel
    by_cases hlt : k < n
    · have hk1 : ∀ y : Int, (xs ++ bes v n k ++ [y]).length = l + (k + 1) := fun y => by have := HL.out.1; simp [bes_len]; omega
      have hk0 : (xs ++ bes v n k).length = l + k := by have := HL.out.1; simp [bes_len]; omega
      have HK1 := Lib.hid hk1; clear hk1
      have HK0 := Lib.hid hk0; clear hk0
      go_wp2_with (at_builtin; refine K.app_num (w0 := w) w.heap.size rfl (.tmp 18) (.tmp 24) 31 5 .u8 1 rfl Try.underlying31 (by kernel_rfl) (by decide) _ (xs ++ bes v n k) _ rfl rfl (by rw [HK0.out]; exact HK.out.1) HK.out.2 HK.out.2.size (by rw [HK0.out]; omega) (l + (k + 1)) (HK1.out _) ?_; intro A2 c2 w3 hown hB2 _; have HO := Lib.hid hown; clear hown)
      go_roundw
      case rel => exact ⟨k + 1, A2, c2, by omega, by congr 1; omega, rfl, ⟨by have := HO.out; simpa [bes] using this, hB2⟩⟩
      case measure => simp [intOf]; omega
    · obtain rfl : k = n := by omega
      go_wp2
      go_ret
      exact ⟨A1, c1, rfl, HK.out⟩

/-- What a number's bytes are, behind what is there. -/
def Wrote (w : World) (N : Nat) (ys : List Int) (e : Ending) (w' : World) : Prop := ∃ A1 c1, e = .returned (.slice A1 N c1) ∧ w'.ownsRow w.heap.size 5 1 (.slice A1 N c1) N (nums .u8 ys) ∧ Below w.heap.size w w'
set_option maxHeartbeats 400000 in
theorem wU16_walk (A : Option Addr) (xs : List Int) (l cap : Nat) (v : Int) (w : World) (h : ReadsInt w .u8 A l xs) (hn : l ≤ 1000000) :
    Calls Try.prog 27 #[.slice A l cap, .int .i64 v] w (Wrote w (l + 2) (xs ++ bes (v % 18446744073709551616) 2 2)) := by
  have HL := Lib.hid h; clear h
  have C := put_walk A xs l cap 2 (v % 18446744073709551616) w HL.out hn (by decide) (by omega)
  have HC := Lib.hid C; clear C
  go_enter Try.func27, Try.ntmps27
  go_wp2_with (go_at_call 46; refine HC.out.mono ?_; rintro e w1 ⟨A1, c1, rfl, hown, hb⟩; have HO := Lib.hid hown; clear hown)
  go_ret
  exact ⟨A1, c1, rfl, HO.out, hb⟩
set_option maxHeartbeats 400000 in
theorem wU32_walk (A : Option Addr) (xs : List Int) (l cap : Nat) (v : Int) (w : World) (h : ReadsInt w .u8 A l xs) (hn : l ≤ 1000000) (hv : 0 ≤ v ∧ v < 4294967296) :
    Calls Try.prog 47 #[.slice A l cap, .int .u32 v] w (Wrote w (l + 4) (xs ++ bes (v) 4 4)) := by
  have HL := Lib.hid h; clear h
  have C := put_walk A xs l cap 4 (v) w HL.out hn (by decide) (by omega)
  have HC := Lib.hid C; clear C
  go_enter Try.func47, Try.ntmps47
  go_wp2_with (go_at_call 46; refine HC.out.mono ?_; rintro e w1 ⟨A1, c1, rfl, hown, hb⟩; have HO := Lib.hid hown; clear hown)
  go_ret
  exact ⟨A1, c1, rfl, HO.out, hb⟩
set_option maxHeartbeats 400000 in
theorem wU64_walk (A : Option Addr) (xs : List Int) (l cap : Nat) (v : Int) (w : World) (h : ReadsInt w .u8 A l xs) (hn : l ≤ 1000000) (hv : 0 ≤ v ∧ v < 18446744073709551616) :
    Calls Try.prog 28 #[.slice A l cap, .int .u64 v] w (Wrote w (l + 8) (xs ++ bes (v) 8 8)) := by
  have HL := Lib.hid h; clear h
  have C := put_walk A xs l cap 8 (v) w HL.out hn (by decide) (by omega)
  have HC := Lib.hid C; clear C
  go_enter Try.func28, Try.ntmps28
  go_wp2_with (go_at_call 46; refine HC.out.mono ?_; rintro e w1 ⟨A1, c1, rfl, hown, hb⟩; have HO := Lib.hid hown; clear hown)
  go_ret
  exact ⟨A1, c1, rfl, HO.out, hb⟩
end Go.Proofs.Ytbjjfgfepbklnaa
