/- Walks of crc. -/
import Derived.Test.YtbjjfgfepbklnaaRows
import Derived.Test.YtbjjfgfepbklnaaWWords
import Derived.Test.YtbjjfgfepbklnaaCrcM
import Derived.Test.YtbjjfgfepbklnaaK
import Derived.ProofKit
import Derived.OpenShut
import Derived.Outline
import Derived.LoopTactic
import Derived.Lib.Hide
import Derived.Deep.QuietTactic
import Derived.BigQuiet
import Derived.Lib.SlBytesConst
set_option linter.unusedVariables false
set_option linter.unusedSimpArgs false
namespace Go.Proofs.Ytbjjfgfepbklnaa
open Go.RowKit Go.Proofs.YtbjjfgfepbklnaaW.PrintWords

/-- One bit's step. -/
def bit1 (c : Int) : Int := bits .xor .u32 (c / 2) (bits .and .u32 3988292384 (-(bits .and .u32 c 1) % 4294967296))
def bitN : Nat → Int → Int
  | 0, c => c
  | n + 1, c => bit1 (bitN n c)
theorem bitN_succ (n : Nat) (c : Int) : bitN (n + 1) c = bit1 (bitN n c) := rfl
def byte1 (c x : Int) : Int := bitN 8 (bits .xor .u32 c (x % 4294967296))
def runs (c : Int) (xs : List Int) : Int := xs.foldl byte1 c
theorem runs_succ (c : Int) (xs : List Int) (k : Nat) (h : k < xs.length) : runs c (xs.take (k + 1)) = byte1 (runs c (xs.take k)) (xs.getD k 0) := by
  unfold runs
  rw [List.take_succ_eq_append_getElem h, List.foldl_append]
  simp [List.getD_eq_getElem?_getD, List.getElem?_eq_getElem h]
def turn32 (c : Int) : Int := bits BinOp.xor IntKind.u32 IntKind.u32.max c
def moreI (c : Int) (xs : List Int) : Int := turn32 (runs (turn32 c) xs)
theorem runs_all (c : Int) (xs : List Int) (k : Nat) (h : xs.length ≤ k) : runs c (xs.take k) = runs c xs := by rw [List.take_of_length_le h]

set_option maxHeartbeats 400000 in
theorem more_walk (c : Int) (A : Option Addr) (xs : List Int) (n cap : Nat) (w : World) (h : ReadsInt w .u8 A n xs) :
    Calls Try.prog 53 #[.int .u32 c, .slice A n cap] w fun e w' => e = .returned (.int .u32 (moreI c xs)) ∧ w = w' := by
  obtain ⟨hl, hm, hc⟩ := h
  have HL := Lib.hid hl; clear hl
  go_enter Try.func53, Try.ntmps53
  go_wp2
  go_loop [0, 11] (fun s i => ∃ k : Nat, k ≤ n ∧ i = .int .i64 k ∧ s = .int .u32 (runs (turn32 c) (xs.take k))) (fun _ i => n - (intOf i).toNat)
  case atStart => exact ⟨0, Nat.zero_le _, rfl, rfl⟩
  case round =>
    obtain ⟨k, hk, rfl, rfl⟩ := hrel
    by_cases hlt : k < n
    · have HS := Lib.hid (runs_succ (turn32 c) xs k (by rw [HL.out]; exact hlt))
      obtain ⟨ad, rfl, hcell⟩ := hc (by omega)
      have hck := hcell k hlt
      clear hc hcell
      go_wp2
      go_loop [0, 19] (fun s i => ∃ j : Nat, j ≤ 8 ∧ i = .int .i64 j ∧ s = .int .u32 (bitN j (bits .xor .u32 (runs (turn32 c) (xs.take k)) (xs.getD k 0 % 4294967296)))) (fun _ i => 8 - (intOf i).toNat)
      case atStart => exact ⟨0, Nat.zero_le _, rfl, by simp [bitN]⟩
      case round =>
        obtain ⟨j, hj, rfl, rfl⟩ := hrel
        by_cases hlt2 : j < 8
        · go_wp2
          go_round
          case rel => exact ⟨j + 1, by omega, by go_num, by rw [bitN_succ]; rfl⟩
          case measure => simp [intOf]; omega
        · obtain rfl : j = 8 := by omega
          go_wp2
          go_round
          case rel => exact ⟨k + 1, by omega, by go_num, by rw [HS.out]; rfl⟩
          case measure => simp [intOf]; omega
    · clear hc
      go_wp2
      go_ret
      exact ⟨by rw [runs_all _ _ _ (by rw [HL.out]; omega)]; rfl, rfl⟩
theorem of_walk (A : Option Addr) (xs : List Int) (n cap : Nat) (w : World) (h : ReadsInt w .u8 A n xs) :
    Calls Try.prog 48 #[.slice A n cap] w fun e w' => e = .returned (.int .u32 (moreI 0 xs)) ∧ w = w' := by
  have H := Lib.hid h; clear h
  go_enter Try.func48, Try.ntmps48
  go_wp2_with (go_at_call 53; refine (more_walk _ _ _ _ _ _ H.out).mono ?_; rintro e w' ⟨rfl, rfl⟩)
  go_ret
  exact ⟨rfl, rfl⟩

/-! the numbers -/
theorem bits_rng (op : BinOp) (a b : Int) : 0 ≤ bits op .u32 a b ∧ bits op .u32 a b < 4294967296 := by
  unfold bits
  split <;> (rw [IntKind.wrap_u32]; omega)
theorem xorN (a b : Nat) (ha : a < 4294967296) (hb : b < 4294967296) : bits .xor .u32 (a : Int) (b : Int) = ((a ^^^ b : Nat) : Int) := u32_xor_nat a b ha hb
theorem and1 (c : Nat) (hc : c < 4294967296) : bits .and .u32 (c : Int) 1 = ((c % 2 : Nat) : Int) := by
  have := u32_and_nat c 1 hc (by decide)
  rw [Nat.and_one_is_mod] at this
  exact this
theorem bit1_nat (c : Nat) (hc : c < 4294967296) : bit1 (c : Int) = (M.st c : Nat) := by
  unfold bit1 M.st
  have e2 : ((c : Int) / 2) = ((c / 2 : Nat) : Int) := by omega
  rw [and1 c hc, e2]
  rcases Nat.mod_two_eq_zero_or_one c with h | h
  · rw [h]
    have : bits .and .u32 3988292384 (-((0 : Nat) : Int) % 4294967296) = ((0 : Nat) : Int) := by decide
    rw [this, xorN _ _ (by omega) (by decide)]; rfl
  · rw [h]
    have : bits .and .u32 3988292384 (-((1 : Nat) : Int) % 4294967296) = ((M.P32 : Nat) : Int) := by decide
    rw [this, xorN _ _ (by omega) (by decide)]; rfl
theorem bit1_odd (c : Int) (h0 : 0 ≤ c) (h1 : c < 4294967296) (h : bits .and .u32 c 1 = 1) : bit1 c = bits .xor .u32 (c / 2) 3988292384 := by
  unfold bit1
  rw [h]
  have : bits .and .u32 3988292384 (-1 % 4294967296) = 3988292384 := by decide
  rw [this]
theorem bit1_even (c : Int) (h0 : 0 ≤ c) (h1 : c < 4294967296) (h : ¬ bits .and .u32 c 1 = 1) : bit1 c = c / 2 := by
  obtain ⟨n, rfl⟩ := Int.eq_ofNat_of_zero_le h0
  rw [and1 n (by omega)] at h
  rw [bit1_nat n (by omega)]
  unfold M.st
  rw [if_neg (by omega), Nat.xor_zero]; omega
theorem bit1_rng (c : Int) : 0 ≤ bit1 c ∧ bit1 c < 4294967296 := bits_rng ..
theorem bitN_nat (c : Nat) (hc : c < 4294967296) : ∀ n, bitN n (c : Int) = (M.stN n c : Nat)
  | 0 => rfl
  | n + 1 => by rw [bitN, bitN_nat c hc n, bit1_nat _ (M.stN_lt hc n)]; rfl
theorem byte1_nat (c x : Nat) (hc : c < 4294967296) (hx : x < 256) : byte1 (c : Int) (x : Int) = (M.by1 c x : Nat) := by
  unfold byte1 M.by1
  have e : ((x : Int) % 4294967296) = (x : Int) := by omega
  rw [e, xorN _ _ hc (by omega), bitN_nat _ (M.xor_lt hc (by omega))]
theorem runs_nat : ∀ (xs : List Nat) (c : Nat), c < 4294967296 → (∀ x ∈ xs, x < 256) → runs (c : Int) (xs.map fun (x : Nat) => (x : Int)) = (M.run c xs : Nat)
  | [], _, _, _ => rfl
  | x :: r, c, hc, hx => by
    have hx0 := hx x (by simp)
    have := runs_nat r (M.by1 c x) (M.by1_lt hc hx0) (fun y hy => hx y (by simp [hy]))
    simp only [runs, M.run, List.map_cons, List.foldl_cons] at this ⊢
    rw [byte1_nat c x hc hx0]; exact this
theorem turn_nat (c : Nat) (hc : c < 4294967296) : turn32 (c : Int) = (M.full ^^^ c : Nat) := by
  have := xorN M.full c (by decide) hc
  exact this
theorem moreI_nat (c : Nat) (xs : List Nat) (hc : c < 4294967296) (hx : ∀ x ∈ xs, x < 256) : moreI (c : Int) (xs.map fun (x : Nat) => (x : Int)) = (M.more c xs : Nat) := by
  unfold moreI M.more
  rw [turn_nat c hc, runs_nat xs _ (M.xor_lt (by decide) hc) hx, turn_nat _ (M.run_lt xs (M.xor_lt (by decide) hc) hx)]
/-- Whole numbers that are bytes, as natural numbers. -/
theorem to_nats (xs : List Int) (h : ∀ x ∈ xs, (Lit.int .u8 x).wf = true) : ∃ ys : List Nat, xs = ys.map (fun (x : Nat) => (x : Int)) ∧ ∀ y ∈ ys, y < 256 := by
  refine ⟨xs.map Int.toNat, ?_, ?_⟩
  · rw [List.map_map]
    conv => lhs; rw [← List.map_id xs]
    apply List.map_congr_left
    intro x hx
    have := h x hx
    simp [Lit.wf, IntKind.min, IntKind.max, IntKind.signed, IntKind.bits] at this
    simp only [Function.comp, id]
    omega
  · intro y hy
    obtain ⟨x, hx, rfl⟩ := List.mem_map.1 hy
    have := h x hx
    simp [Lit.wf, IntKind.min, IntKind.max, IntKind.signed, IntKind.bits] at this
    omega

/-! the reference's walk -/
set_option maxHeartbeats 400000 in
theorem rmore_walk (c : Int) (A : Option Addr) (xs : List Int) (n cap : Nat) (w : World) (h : ReadsInt w .u8 A n xs) :
    Calls Try.prog 54 #[.int .u32 c, .slice A n cap] w fun e w' => e = .returned (.int .u32 (moreI c xs)) ∧ w = w' := by
  obtain ⟨hl, hm, hc⟩ := h
  have HL := Lib.hid hl; clear hl
  go_enter Try.func54, Try.ntmps54
  go_wp2
  go_loop [0, 5] (fun s i => ∃ k : Nat, k ≤ n ∧ i = .int .i64 k ∧ s = .int .u32 (runs (turn32 c) (xs.take k))) (fun _ i => n - (intOf i).toNat)
  case atStart => exact ⟨0, Nat.zero_le _, rfl, rfl⟩
  case round =>
    obtain ⟨k, hk, rfl, rfl⟩ := hrel
    by_cases hlt : k < n
    · have HS := Lib.hid (runs_succ (turn32 c) xs k (by rw [HL.out]; exact hlt))
      obtain ⟨ad, rfl, hcell⟩ := hc (by omega)
      have hck := hcell k hlt
      clear hc hcell
      go_wp2
      go_loop [0, 6] (fun s i => ∃ (j : Nat) (z : Int), j ≤ 8 ∧ i = .int .i64 j ∧ s = .int .u32 z ∧ 0 ≤ z ∧ z < 4294967296 ∧ Aside0 (z = bitN j (bits .xor .u32 (runs (turn32 c) (xs.take k)) (xs.getD k 0 % 4294967296)))) (fun _ i => 8 - (intOf i).toNat)
      case atStart => exact ⟨0, _, Nat.zero_le _, rfl, rfl, (bits_rng ..).1, (bits_rng ..).2, ⟨by simp [bitN]⟩⟩
      case round =>
        obtain ⟨j, z, hj, rfl, rfl, hz0, hz1, HZ⟩ := hrel
        by_cases hlt2 : j < 8
        · by_cases hb : bits .and .u32 z 1 = 1
          · have HB := Lib.hid (bit1_odd z hz0 hz1 hb)
            have hb' : (bits .and .u32 z 1 == 1) = true := by simp [hb]
            clear hb
            go_wp2
            go_round
            case rel => exact ⟨j + 1, _, by omega, by go_num, rfl, (bits_rng ..).1, (bits_rng ..).2, ⟨by rw [bitN_succ, ← HZ.out, HB.out]⟩⟩
            case measure => simp [intOf]; omega
          · have HB := Lib.hid (bit1_even z hz0 hz1 hb)
            have hb' : (bits .and .u32 z 1 == 1) = false := by simp [hb]
            clear hb
            go_wp2
            go_round
            case rel => exact ⟨j + 1, _, by omega, by go_num, rfl, by omega, by omega, ⟨by rw [bitN_succ, ← HZ.out, HB.out]⟩⟩
            case measure => simp [intOf]; omega
        · obtain rfl : j = 8 := by omega
          go_wp2
          go_round
          case rel => exact ⟨k + 1, by omega, by go_num, by rw [HS.out, HZ.out]; rfl⟩
          case measure => simp [intOf]; omega
    · clear hc
      go_wp2
      go_ret
      exact ⟨by rw [runs_all _ _ _ (by rw [HL.out]; omega)]; rfl, rfl⟩
theorem crc_walk (A : Option Addr) (xs : List Int) (n cap : Nat) (w : World) (h : ReadsInt w .u8 A n xs) :
    Calls Try.prog 52 #[.slice A n cap] w fun e w' => e = .returned (.int .u32 (moreI 0 xs)) ∧ w = w' := by
  have H := Lib.hid h; clear h
  go_enter Try.func52, Try.ntmps52
  go_wp2_with (go_at_call 54; refine (rmore_walk _ _ _ _ _ _ H.out).mono ?_; rintro e w' ⟨rfl, rfl⟩)
  go_ret
  exact ⟨rfl, rfl⟩

end Go.Proofs.Ytbjjfgfepbklnaa
