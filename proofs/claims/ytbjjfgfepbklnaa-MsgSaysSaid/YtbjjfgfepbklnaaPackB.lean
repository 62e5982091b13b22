/- Walks of package pack: numbers read. -/
import Derived.Test.YtbjjfgfepbklnaaPackA
set_option linter.unusedVariables false
set_option linter.unusedSimpArgs false
namespace Go.Proofs.Ytbjjfgfepbklnaa
open Go.RowKit Go.Proofs.YtbjjfgfepbklnaaW.PrintWords Go.Proofs.Ytbjjfgfepbklnaa.K

def numStep (v x : Int) : Int := bits .or .u64 (v * 256 % 18446744073709551616) (x % 18446744073709551616)
def numU (v : Int) (xs : List Int) : Int := xs.foldl numStep v
theorem numU_succ (v : Int) (xs : List Int) (k : Nat) (h : k < xs.length) : numU v (xs.take (k + 1)) = numStep (numU v (xs.take k)) (xs.getD k 0) := by
  unfold numU
  rw [List.take_succ_eq_append_getElem h, List.foldl_append]
  simp [List.getD_eq_getElem?_getD, List.getElem?_eq_getElem h]

set_option maxHeartbeats 400000 in
theorem number_of (r : Nat) (m : Int) (w : World) (ys xs' : List Int) (sp' : Bool)
    (hB : Calls Try.prog 24 #[.pointer (some ⟨r, 0, none⟩), .int .i64 m] w fun e w' => ∃ A n c, e = .returned (.slice A n c) ∧ ReadsInt w' .u8 A n ys ∧ Rdr w' r xs' sp' ∧ w.grownBy w' (some r)) :
    Calls Try.prog 45 #[.pointer (some ⟨r, 0, none⟩), .int .i64 m] w fun e w' => e = .returned (.int .u64 (numU 0 ys)) ∧ Rdr w' r xs' sp' ∧ w.grownBy w' (some r) := by
  go_enter Try.func45, Try.ntmps45
  go_wp2_with (go_at_call 24; refine hB.mono ?_; rintro e w1 ⟨A, n, c, rfl, hrd, hr1, hg⟩; have HR := Lib.hid hrd; clear hrd; have HG := Lib.hid (show Rdr w1 r xs' sp' ∧ w.grownBy w1 (some r) from ⟨hr1, hg⟩); clear hr1 hg)
  have hm := HR.out.2.1
  go_loop [5, 12] (fun s i => ∃ k : Nat, k ≤ n ∧ i = .int .i64 k ∧ s = .int .u64 (numU 0 (ys.take k))) (fun _ i => n - (intOf i).toNat)
  case atStart => exact ⟨0, Nat.zero_le _, rfl, rfl⟩
  case round =>
    obtain ⟨k, hk, rfl, rfl⟩ := hrel
    by_cases hlt : k < n
    · have HS := Lib.hid (numU_succ 0 ys k (by rw [HR.out.1]; exact hlt))
      obtain ⟨ad, rfl, hck⟩ := reads_at HR.out k hlt
      go_wp2
      go_round
      case rel => exact ⟨k + 1, by omega, by go_num, by rw [HS.out]; rfl⟩
      case measure => simp [intOf]; omega
    · go_wp2
      go_ret
      exact ⟨by rw [List.take_of_length_le (by rw [HR.out.1]; omega)]; rfl, HG.out⟩
theorem number_ok (r m : Nat) (xs : List Int) (w : World) (h : Rdr w r xs false) (hm : m ≤ xs.length) (hx : xs.length ≤ 1000000) :
    Calls Try.prog 45 #[.pointer (some ⟨r, 0, none⟩), .int .i64 m] w fun e w' => e = .returned (.int .u64 (numU 0 (xs.take m))) ∧ Rdr w' r (xs.drop m) false ∧ w.grownBy w' (some r) :=
  number_of r m w _ _ _ ((bytes_ok r m xs w h hm hx).mono fun e w' ⟨A, c, e1, ho, hr, hg⟩ => ⟨A, m, c, e1, (own_info ho).2.2.2.1, hr, hg⟩)
theorem number_bad (r : Nat) (n : Int) (xs : List Int) (sp : Bool) (w : World) (h : Rdr w r xs sp) (hb : sp = true ∨ n < 0 ∨ (xs.length : Int) < n) :
    Calls Try.prog 45 #[.pointer (some ⟨r, 0, none⟩), .int .i64 n] w fun e w' => e = .returned (.int .u64 0) ∧ Rdr w' r [] true ∧ w.grownBy w' (some r) :=
  number_of r n w [] _ _ ((bytes_bad r n xs sp w h hb).mono fun e w' ⟨e1, hr, hg⟩ => ⟨none, 0, 0, e1, reads_nil _ _, hr, hg⟩)

/-! U8, U16, U32, U64: what number tells, as the kind -/
set_option maxHeartbeats 400000 in
theorem u8_of (r : Nat) (w : World) (v : Int) (Q : World → Prop) (hB : Calls Try.prog 45 #[.pointer (some ⟨r, 0, none⟩), .int .i64 1] w fun e w' => e = .returned (.int .u64 v) ∧ Q w') :
    Calls Try.prog 43 #[.pointer (some ⟨r, 0, none⟩)] w fun e w' => e = .returned (.int .i64 (wrap64 v)) ∧ Q w' := by
  go_enter Try.func43, Try.ntmps43
  go_wp2_with (go_at_call 45; refine hB.mono ?_; rintro e w1 ⟨rfl, hq⟩; have HQ := Lib.hid hq; clear hq)
  go_ret
  exact ⟨rfl, HQ.out⟩
set_option maxHeartbeats 400000 in
theorem u16_of (r : Nat) (w : World) (v : Int) (Q : World → Prop) (hB : Calls Try.prog 45 #[.pointer (some ⟨r, 0, none⟩), .int .i64 2] w fun e w' => e = .returned (.int .u64 v) ∧ Q w') :
    Calls Try.prog 21 #[.pointer (some ⟨r, 0, none⟩)] w fun e w' => e = .returned (.int .i64 (wrap64 v)) ∧ Q w' := by
  go_enter Try.func21, Try.ntmps21
  go_wp2_with (go_at_call 45; refine hB.mono ?_; rintro e w1 ⟨rfl, hq⟩; have HQ := Lib.hid hq; clear hq)
  go_ret
  exact ⟨rfl, HQ.out⟩
set_option maxHeartbeats 400000 in
theorem u32_of (r : Nat) (w : World) (v : Int) (Q : World → Prop) (hB : Calls Try.prog 45 #[.pointer (some ⟨r, 0, none⟩), .int .i64 4] w fun e w' => e = .returned (.int .u64 v) ∧ Q w') :
    Calls Try.prog 44 #[.pointer (some ⟨r, 0, none⟩)] w fun e w' => e = .returned (.int .u32 (v % 4294967296)) ∧ Q w' := by
  go_enter Try.func44, Try.ntmps44
  go_wp2_with (go_at_call 45; refine hB.mono ?_; rintro e w1 ⟨rfl, hq⟩; have HQ := Lib.hid hq; clear hq)
  go_ret
  exact ⟨rfl, HQ.out⟩
set_option maxHeartbeats 400000 in
theorem u64_of (r : Nat) (w : World) (v : Int) (Q : World → Prop) (hB : Calls Try.prog 45 #[.pointer (some ⟨r, 0, none⟩), .int .i64 8] w fun e w' => e = .returned (.int .u64 v) ∧ Q w') :
    Calls Try.prog 22 #[.pointer (some ⟨r, 0, none⟩)] w fun e w' => e = .returned (.int .u64 v) ∧ Q w' := by
  go_enter Try.func22, Try.ntmps22
  go_wp2_with (go_at_call 45; refine hB.mono ?_; rintro e w1 ⟨rfl, hq⟩; have HQ := Lib.hid hq; clear hq)
  go_ret
  exact ⟨rfl, HQ.out⟩
end Go.Proofs.Ytbjjfgfepbklnaa
