/- Walks of the reference's numbers in bytes. -/
import Derived.Test.YtbjjfgfepbklnaaPackC
import Derived.Test.YtbjjfgfepbklnaaPackB
set_option linter.unusedVariables false
set_option linter.unusedSimpArgs false
namespace Go.Proofs.Ytbjjfgfepbklnaa
open Go.RowKit Go.Proofs.YtbjjfgfepbklnaaW.PrintWords Go.Proofs.Ytbjjfgfepbklnaa.K

set_option maxHeartbeats 400000 in
theorem ru16_walk (A : Option Addr) (xs : List Int) (l cap : Nat) (v : Int) (w : World) (h : ReadsInt w .u8 A l xs) (hn : l ≤ 1000000) :
    Calls Try.prog 39 #[.slice A l cap, .int .i64 v] w (Wrote w (l + 2) (xs ++ [v / 256 % 256, v % 256])) := by
  have HL := Lib.hid h; clear h
  have hlen : ∀ a b : Int, (xs ++ [a, b]).length = l + 2 := fun a b => by rw [List.length_append, HL.out.1]; rfl
  have HE := Lib.hid hlen; clear hlen
  go_enter Try.func39, Try.ntmps39
  go_wp2_with (first | (at_builtin; refine K.app_row (w0 := w) w.heap.size rfl (.tmp 5) (.tmp 6) 31 5 .u8 1 rfl Try.underlying31 (by kernel_rfl) (by decide) _ [] xs _ _ _ rfl rfl (own_lit _ _ 5 .u8 [] (Nat.le_refl _) (by decide)) (HL.out.below ((Below.refl _ _).alloc (Nat.le_refl _) _)) ((Below.refl _ _).alloc (Nat.le_refl _) _) (by simp) (by simp; omega) l HL.out.1 ?_; intro A1 c1 w2 hown hB1 _; have HO := Lib.hid hown; clear hown) | (at_builtin; refine K.app_row (w0 := w) w.heap.size rfl (.tmp 7) (.tmp 13) 31 5 .u8 1 rfl Try.underlying31 (by kernel_rfl) (by decide) _ xs [_, _] _ _ _ rfl rfl (by have := HO.out; rw [HL.out.1]; exact this.alloc _) (reads_lit _ .u8 [_, _] 5 (0, 0) 2 rfl (by decide)) (hB1.alloc hB1.size _) (by have := hB1.size; simp; omega) (by rw [HL.out.1]; omega) (l + 2) (HE.out _ _) ?_; intro A2 c2 w3 hown hB2 _; have HO2 := Lib.hid hown; clear hown))
  go_ret
  exact ⟨A2, c2, rfl, HO2.out, hB2⟩

def be4 (v : Int) : List Int := [v / 65536 / 256 % 256, v / 65536 % 256, wrap64 (bits .and .u32 v 65535) / 256 % 256, wrap64 (bits .and .u32 v 65535) % 256]
set_option maxHeartbeats 400000 in
theorem ru32_walk (A : Option Addr) (xs : List Int) (l cap : Nat) (v : Int) (w : World) (h : ReadsInt w .u8 A l xs) (hn : l ≤ 100000) (hv : 0 ≤ v ∧ v < 4294967296) :
    Calls Try.prog 50 #[.slice A l cap, .int .u32 v] w (Wrote w (l + 4) (xs ++ be4 v)) := by
  have HL := Lib.hid h; clear h
  go_enter Try.func50, Try.ntmps50
  go_wp2_with (first | (go_at_call 39; (with_reducible refine (ru16_walk A xs l cap _ w HL.out (by omega)).mono ?_); rintro e w1 ⟨A1, c1, rfl, hown, hb⟩; have HO := Lib.hid hown; clear hown; have HR := Lib.hid (own_info HO.out).2.2.2.1) | (go_at_call 39; refine (ru16_walk _ _ _ _ _ _ HR.out (by omega)).mono ?_; rintro e w2 ⟨A2, c2, rfl, hown, hb2⟩; have HO2 := Lib.hid hown; clear hown))
  go_ret
  refine ⟨A2, c2, rfl, ?_, below_then hb hb.size hb2⟩
  have := HO2.out
  rw [show l + 2 + 2 = l + 4 from rfl] at this
  simp only [List.append_assoc] at this
  exact own_base_le this hb.size

def be8 (v : Int) : List Int := be4 (v / 4294967296) ++ be4 (bits .and .u64 v 4294967295 % 4294967296)
set_option maxHeartbeats 400000 in
theorem ru64_walk (A : Option Addr) (xs : List Int) (l cap : Nat) (v : Int) (w : World) (h : ReadsInt w .u8 A l xs) (hn : l ≤ 10000) (hv : 0 ≤ v ∧ v < 18446744073709551616) :
    Calls Try.prog 40 #[.slice A l cap, .int .u64 v] w (Wrote w (l + 8) (xs ++ be8 v)) := by
  have HL := Lib.hid h; clear h
  go_enter Try.func40, Try.ntmps40
  go_wp2_with (first | (go_at_call 50; (with_reducible refine (ru32_walk A xs l cap _ w HL.out (by omega) (by omega)).mono ?_); rintro e w1 ⟨A1, c1, rfl, hown, hb⟩; have HO := Lib.hid hown; clear hown; have HR := Lib.hid (own_info HO.out).2.2.2.1) | (go_at_call 50; refine (ru32_walk _ _ _ _ _ _ HR.out (by omega) (by omega)).mono ?_; rintro e w2 ⟨A2, c2, rfl, hown, hb2⟩; have HO2 := Lib.hid hown; clear hown))
  go_ret
  refine ⟨A2, c2, rfl, ?_, below_then hb hb.size hb2⟩
  have := HO2.out
  rw [show l + 4 + 4 = l + 8 from rfl] at this
  simp only [List.append_assoc] at this
  exact own_base_le this hb.size

/-- The number of so many bytes at a place. -/
def atU (xs : List Int) (a n : Nat) : Int := numU 0 ((xs.drop a).take n)
theorem atU_succ (xs : List Int) (a k : Nat) (h : a + k < xs.length) : atU xs a (k + 1) = numStep (atU xs a k) (xs.getD (a + k) 0) := by
  unfold atU
  rw [numU_succ 0 _ k (by rw [List.length_drop]; omega)]
  simp [List.getD_eq_getElem?_getD, List.getElem?_drop]
set_option maxHeartbeats 400000 in
theorem at_walk (A : Option Addr) (xs : List Int) (l cap a n : Nat) (w : World) (h : ReadsInt w .u8 A l xs) (hn : a + n ≤ l) (h8 : n ≤ 8) :
    Calls Try.prog 36 #[.slice A l cap, .int .i64 a, .int .i64 n] w fun e w' => e = .returned (.int .u64 (atU xs a n)) ∧ w = w' := by
  have hm := h.2.1
  have HL := Lib.hid h; clear h
  go_enter Try.func36, Try.ntmps36
  go_wp2
  go_loop [7, 8] (fun s i => ∃ k : Nat, k ≤ n ∧ i = .int .i64 k ∧ s = .int .u64 (atU xs a k)) (fun _ i => n - (intOf i).toNat)
  case atStart => exact ⟨0, Nat.zero_le _, rfl, rfl⟩
  case round =>
    obtain ⟨k, hk, rfl, rfl⟩ := hrel
    by_cases hlt : k < n
    · have HS := Lib.hid (atU_succ xs a k (by rw [HL.out.1]; omega))
      obtain ⟨ad, rfl, hck⟩ := reads_at HL.out (a + k) (by omega)
      have q1 : ((a : Int) + k).toNat = a + k := by omega
      go_wp2
      go_round
      case rel => exact ⟨k + 1, by omega, by go_num, by rw [HS.out]; rfl⟩
      case measure => simp [intOf]; omega
    · obtain rfl : k = n := by omega
      go_wp2
      go_ret
      exact ⟨rfl, rfl⟩
end Go.Proofs.Ytbjjfgfepbklnaa
