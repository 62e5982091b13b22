/- The walk of PackReads' law: printed by a program of mine (genreads2.py), case by case. -/
import Derived.Test.YtjclimelachagaaPackI
set_option linter.unusedVariables false
set_option linter.unusedSimpArgs false
namespace Go.Proofs.Ytjclimelachagaa
open Go.RowKit Go.Proofs.YtjclimelachagaaW.PrintWords Go.Proofs.Ytjclimelachagaa.K

theorem end_st2 {W w : World} {r n : Nat} {xs : List Int} {at_ : Nat} {bad : Bool} (h : St W r xs at_ bad w) (hx : xs.length = n) (ha : at_ ≤ n) : Calls Try.prog 15 #[.pointer (some ⟨r, 0, none⟩)] w fun e w' => e = .returned (.bool (!bad && ((at_ : Int) == (n : Int)))) ∧ w = w' := by
  subst hx
  exact end_st h ha
set_option maxRecDepth 100000 in
set_option maxHeartbeats 40000000 in
theorem reads_walk (W : World) (A : Option Addr) (n c : Nat) (xs : List Int) (h : ReadsInt W .u8 A n xs) (hw : ∀ x ∈ xs, (Lit.int .u8 x).wf = true) (hc : n ≤ c) (hs : n * 1 ≤ 140737488351232)
    (A' : Option Addr) (m c' : Nat) (ls : List Int) (h' : ReadsInt W .i64 A' m ls) (hw' : ∀ x ∈ ls, (Lit.int .i64 x).wf = true) (hc' : m ≤ c') (hs' : m * 8 ≤ 140737488351232) :
    Calls Try.prog 3 #[.slice A n c, .slice A' m c'] W fun e w' => e = .returned (.bool true) ∧ Below W.heap.size W w' := by
  have H : ∀ w1, Below W.heap.size W w1 → ReadsInt w1 .u8 A n xs := fun w1 hb => h.below hb
  have H' : ∀ w1, Below W.heap.size W w1 → ReadsInt w1 .i64 A' m ls := fun w1 hb => h'.below hb
  have HN := Lib.hid h.1
  have HM := Lib.hid h'.1
  have HWF := Lib.hid hw'
  clear h h' hw hw'
  by_cases h6 : 200 < n
  · go_enter Try.func3, Try.ntmps3
    go_wp2_with (go_at_call 7; refine (awake_walk _).mono ?_; rintro e w1 ⟨rfl, hb⟩)
    go_ret
    exact ⟨rfl, hb⟩
  by_cases h7 : 100 < m
  · go_enter Try.func3, Try.ntmps3
    go_wp2_with (go_at_call 7; refine (awake_walk _).mono ?_; rintro e w1 ⟨rfl, hb⟩)
    go_ret
    exact ⟨rfl, hb⟩
  go_enter Try.func3, Try.ntmps3
  go_wp2_with fail
  refine (awake_walk W).mono ?_
  rintro e w1 ⟨rfl, hb⟩
  go_wp2_with (at_builtin; refine K.app_row (w0 := w1) w1.heap.size rfl (.tmp 24) (.tmp 25) 22 5 .u8 1 rfl Try.underlying22 (by kernel_rfl) (by decide) _ [] xs _ _ _ rfl rfl (own_lit _ _ 5 .u8 [] (Nat.le_refl _) (by decide)) ((H _ hb).below ((Below.refl _ _).alloc (Nat.le_refl _) _)) ((Below.refl _ _).alloc (Nat.le_refl _) _) (by simp) (by simp; omega) n HN.out ?_; intro A1 c1 w2 hown hB1 _; have HO := Lib.hid hown; clear hown)
  have hb2 := below_then hb hb.size hB1
  refine (read_walk A1 xs n c1 w2 (own_info HO.out).2.2.2.1 (by omega)).mono ?_
  rintro e w3 ⟨r, hr, rfl, hR, hb3⟩
  have hr1 : W.heap.size ≤ r := Nat.le_trans hb2.size hr
  have hst : St W r xs 0 false w3 := ⟨below_then hb2 hb2.size hb3, by simpa [left] using hR⟩
  have HST := Lib.hid hst
  clear hst hR hb3 hb2 HO hB1 hb hr
  go_wp2_with fail
  go_loopw [6, 7, 8] (fun a b i wr => ∃ (k at_ : Nat) (bad : Bool), k ≤ m ∧ at_ ≤ n ∧ i = .int .i64 k ∧ a = .int .i64 at_ ∧ b = .bool bad ∧ Aside0 (St W r xs at_ bad wr)) (fun _ _ i _ => m - (intOf i).toNat)
  case atStart => exact ⟨0, 0, false, Nat.zero_le _, Nat.zero_le _, rfl, rfl, rfl, ⟨HST.out⟩⟩
  case round =>
    obtain ⟨k, at_, bad, hk, hat, rfl, rfl, rfl, HK⟩ := hrel
    by_cases hlt : k < m
    · obtain ⟨ld, rfl, hcl⟩ := reads_at (H' _ HK.out.1) k hlt
      have hLwf : (Lit.int .i64 (ls.getD k 0)).wf = true := by
        have hkl : k < ls.length := by rw [HM.out]; exact hlt
        rw [List.getD_eq_getElem?_getD, List.getElem?_eq_getElem hkl]
        exact HWF.out _ (List.getElem_mem hkl)
      have hand := and7 (ls.getD k 0)
      obtain ⟨L, hL⟩ : ∃ L, L = ls.getD k 0 := ⟨_, rfl⟩
      rw [← hL] at hcl hLwf hand
      have hLb : -9223372036854775808 ≤ L ∧ L ≤ 9223372036854775807 := by simp [Lit.wf, IntKind.min, IntKind.max, IntKind.signed, IntKind.bits] at hLwf; omega
      clear hL hLwf
      have hx : xs.length = n := HN.out
      have HX := Lib.hid hx
      have hbx : ∀ w, St W r xs at_ bad w → ReadsInt w .u8 A n xs := fun w h => H w h.1
      have HBX := Lib.hid hbx
      clear hbx
      have hq0 : 0 ≤ L % 8 := by omega
      have hq1 : L % 8 < 8 := by omega
      obtain ⟨j, hj⟩ := Int.eq_ofNat_of_zero_le hq0
      rw [hj] at hand hq1
      have HJ := Lib.hid hj
      clear hj hq0 hx
      match j, hq1 with
      | 0, _ =>
        cases bad with
        | true =>
            go_wp2_with (first | (go_at_call 10; refine (U8_st0 hr1 (HK.out.alloc _) (.inl rfl) (by rw [HX.out]; omega)).mono ?_; rintro e w5 ⟨rfl, hst5⟩; have HS5 := Lib.hid hst5; clear hst5) | (go_at_call 15; (refine (show Calls _ _ _ _ _ from by have C := end_st HS5.out (by rw [HX.out]; omega); rw [HX.out] at C; exact C).mono ?_); rintro e w' ⟨rfl, rfl⟩))
            go_roundw
            case rel => exact ⟨k + 1, at_, true, by omega, by omega, by go_num, by first | rfl | go_num, rfl, ⟨HS5.out⟩⟩
            case measure => simp [intOf]; omega
        | false =>
          by_cases hfit : ((1 : Nat) : Int) ≤ (n : Int) - at_
          · skip
            go_wp2_with (first | (go_at_call 9; refine (at_walk A xs n c at_ 1 _ (HBX.out _ (HK.out.alloc _)) (by omega) (by decide)).mono ?_; rintro e w' ⟨rfl, rfl⟩) | (go_at_call 10; refine (U8_st hr1 (HK.out.alloc _) (by rw [HX.out]; omega) (by rw [HX.out]; omega)).mono ?_; rintro e w5 ⟨rfl, hst5⟩; have HS5 := Lib.hid hst5; clear hst5) | (go_at_call 15; (refine (show Calls _ _ _ _ _ from by have C := end_st HS5.out (by rw [HX.out]; omega); rw [HX.out] at C; exact C).mono ?_); rintro e w' ⟨rfl, rfl⟩))
            go_roundw
            case rel => exact ⟨k + 1, at_ + 1, false, by omega, by omega, by go_num, by first | rfl | go_num, rfl, ⟨HS5.out⟩⟩
            case measure => simp [intOf]; omega
          · skip
            go_wp2_with (first | (go_at_call 10; refine (U8_st0 hr1 (HK.out.alloc _) (.inr (by rw [HX.out]; omega)) (by rw [HX.out]; omega)).mono ?_; rintro e w5 ⟨rfl, hst5⟩; have HS5 := Lib.hid hst5; clear hst5) | (go_at_call 15; (refine (show Calls _ _ _ _ _ from by have C := end_st HS5.out (by rw [HX.out]; omega); rw [HX.out] at C; exact C).mono ?_); rintro e w' ⟨rfl, rfl⟩))
            go_roundw
            case rel => exact ⟨k + 1, at_, true, by omega, by omega, by go_num, by first | rfl | go_num, rfl, ⟨HS5.out⟩⟩
            case measure => simp [intOf]; omega
      | 1, _ =>
        cases bad with
        | true =>
            go_wp2_with (first | (go_at_call 11; refine (U16_st0 hr1 (HK.out.alloc _) (.inl rfl) (by rw [HX.out]; omega)).mono ?_; rintro e w5 ⟨rfl, hst5⟩; have HS5 := Lib.hid hst5; clear hst5) | (go_at_call 15; (refine (show Calls _ _ _ _ _ from by have C := end_st HS5.out (by rw [HX.out]; omega); rw [HX.out] at C; exact C).mono ?_); rintro e w' ⟨rfl, rfl⟩))
            go_roundw
            case rel => exact ⟨k + 1, at_, true, by omega, by omega, by go_num, by first | rfl | go_num, rfl, ⟨HS5.out⟩⟩
            case measure => simp [intOf]; omega
        | false =>
          by_cases hfit : ((2 : Nat) : Int) ≤ (n : Int) - at_
          · skip
            go_wp2_with (first | (go_at_call 9; refine (at_walk A xs n c at_ 2 _ (HBX.out _ (HK.out.alloc _)) (by omega) (by decide)).mono ?_; rintro e w' ⟨rfl, rfl⟩) | (go_at_call 11; refine (U16_st hr1 (HK.out.alloc _) (by rw [HX.out]; omega) (by rw [HX.out]; omega)).mono ?_; rintro e w5 ⟨rfl, hst5⟩; have HS5 := Lib.hid hst5; clear hst5) | (go_at_call 15; (refine (show Calls _ _ _ _ _ from by have C := end_st HS5.out (by rw [HX.out]; omega); rw [HX.out] at C; exact C).mono ?_); rintro e w' ⟨rfl, rfl⟩))
            go_roundw
            case rel => exact ⟨k + 1, at_ + 2, false, by omega, by omega, by go_num, by first | rfl | go_num, rfl, ⟨HS5.out⟩⟩
            case measure => simp [intOf]; omega
          · skip
            go_wp2_with (first | (go_at_call 11; refine (U16_st0 hr1 (HK.out.alloc _) (.inr (by rw [HX.out]; omega)) (by rw [HX.out]; omega)).mono ?_; rintro e w5 ⟨rfl, hst5⟩; have HS5 := Lib.hid hst5; clear hst5) | (go_at_call 15; (refine (show Calls _ _ _ _ _ from by have C := end_st HS5.out (by rw [HX.out]; omega); rw [HX.out] at C; exact C).mono ?_); rintro e w' ⟨rfl, rfl⟩))
            go_roundw
            case rel => exact ⟨k + 1, at_, true, by omega, by omega, by go_num, by first | rfl | go_num, rfl, ⟨HS5.out⟩⟩
            case measure => simp [intOf]; omega
      | 2, _ =>
        cases bad with
        | true =>
            go_wp2_with (first | (go_at_call 12; refine (U32_st0 hr1 (HK.out.alloc _) (.inl rfl) (by rw [HX.out]; omega)).mono ?_; rintro e w5 ⟨rfl, hst5⟩; have HS5 := Lib.hid hst5; clear hst5) | (go_at_call 15; (refine (show Calls _ _ _ _ _ from by have C := end_st HS5.out (by rw [HX.out]; omega); rw [HX.out] at C; exact C).mono ?_); rintro e w' ⟨rfl, rfl⟩))
            go_roundw
            case rel => exact ⟨k + 1, at_, true, by omega, by omega, by go_num, by first | rfl | go_num, rfl, ⟨HS5.out⟩⟩
            case measure => simp [intOf]; omega
        | false =>
          by_cases hfit : ((4 : Nat) : Int) ≤ (n : Int) - at_
          · skip
            go_wp2_with (first | (go_at_call 9; refine (at_walk A xs n c at_ 4 _ (HBX.out _ (HK.out.alloc _)) (by omega) (by decide)).mono ?_; rintro e w' ⟨rfl, rfl⟩) | (go_at_call 12; refine (U32_st hr1 (HK.out.alloc _) (by rw [HX.out]; omega) (by rw [HX.out]; omega)).mono ?_; rintro e w5 ⟨rfl, hst5⟩; have HS5 := Lib.hid hst5; clear hst5) | (go_at_call 15; (refine (show Calls _ _ _ _ _ from by have C := end_st HS5.out (by rw [HX.out]; omega); rw [HX.out] at C; exact C).mono ?_); rintro e w' ⟨rfl, rfl⟩))
            go_roundw
            case rel => exact ⟨k + 1, at_ + 4, false, by omega, by omega, by go_num, by first | rfl | go_num, rfl, ⟨HS5.out⟩⟩
            case measure => simp [intOf]; omega
          · skip
            go_wp2_with (first | (go_at_call 12; refine (U32_st0 hr1 (HK.out.alloc _) (.inr (by rw [HX.out]; omega)) (by rw [HX.out]; omega)).mono ?_; rintro e w5 ⟨rfl, hst5⟩; have HS5 := Lib.hid hst5; clear hst5) | (go_at_call 15; (refine (show Calls _ _ _ _ _ from by have C := end_st HS5.out (by rw [HX.out]; omega); rw [HX.out] at C; exact C).mono ?_); rintro e w' ⟨rfl, rfl⟩))
            go_roundw
            case rel => exact ⟨k + 1, at_, true, by omega, by omega, by go_num, by first | rfl | go_num, rfl, ⟨HS5.out⟩⟩
            case measure => simp [intOf]; omega
      | 3, _ =>
        cases bad with
        | true =>
            go_wp2_with (first | (go_at_call 13; refine (U64_st0 hr1 (HK.out.alloc _) (.inl rfl) (by rw [HX.out]; omega)).mono ?_; rintro e w5 ⟨rfl, hst5⟩; have HS5 := Lib.hid hst5; clear hst5) | (go_at_call 15; (refine (show Calls _ _ _ _ _ from by have C := end_st HS5.out (by rw [HX.out]; omega); rw [HX.out] at C; exact C).mono ?_); rintro e w' ⟨rfl, rfl⟩))
            go_roundw
            case rel => exact ⟨k + 1, at_, true, by omega, by omega, by go_num, by first | rfl | go_num, rfl, ⟨HS5.out⟩⟩
            case measure => simp [intOf]; omega
        | false =>
          by_cases hfit : ((8 : Nat) : Int) ≤ (n : Int) - at_
          · skip
            go_wp2_with (first | (go_at_call 9; refine (at_walk A xs n c at_ 8 _ (HBX.out _ (HK.out.alloc _)) (by omega) (by decide)).mono ?_; rintro e w' ⟨rfl, rfl⟩) | (go_at_call 13; refine (U64_st hr1 (HK.out.alloc _) (by rw [HX.out]; omega) (by rw [HX.out]; omega)).mono ?_; rintro e w5 ⟨rfl, hst5⟩; have HS5 := Lib.hid hst5; clear hst5) | (go_at_call 15; (refine (show Calls _ _ _ _ _ from by have C := end_st HS5.out (by rw [HX.out]; omega); rw [HX.out] at C; exact C).mono ?_); rintro e w' ⟨rfl, rfl⟩))
            go_roundw
            case rel => exact ⟨k + 1, at_ + 8, false, by omega, by omega, by go_num, by first | rfl | go_num, rfl, ⟨HS5.out⟩⟩
            case measure => simp [intOf]; omega
          · skip
            go_wp2_with (first | (go_at_call 13; refine (U64_st0 hr1 (HK.out.alloc _) (.inr (by rw [HX.out]; omega)) (by rw [HX.out]; omega)).mono ?_; rintro e w5 ⟨rfl, hst5⟩; have HS5 := Lib.hid hst5; clear hst5) | (go_at_call 15; (refine (show Calls _ _ _ _ _ from by have C := end_st HS5.out (by rw [HX.out]; omega); rw [HX.out] at C; exact C).mono ?_); rintro e w' ⟨rfl, rfl⟩))
            go_roundw
            case rel => exact ⟨k + 1, at_, true, by omega, by omega, by go_num, by first | rfl | go_num, rfl, ⟨HS5.out⟩⟩
            case measure => simp [intOf]; omega
      | 4, _ =>
        cases bad with
        | true =>
            go_wp2_with fail
            refine (bytes_st0 hr1 (HK.out.alloc _) (.inl rfl) (by rw [HX.out]; omega)).mono ?_
            rintro e w5 ⟨rfl, hst5⟩
            have HS5 := Lib.hid hst5; clear hst5
            go_wp2_with fail
            go_quiet (fail)
            go_wp2_with fail
            refine (end_st2 (HS5.out.drewN _) HX.out (by omega)).mono ?_; rintro e w' ⟨rfl, rfl⟩
            go_wp2_with fail
            go_roundw
            case rel => exact ⟨k + 1, at_, true, by omega, by omega, by go_num, by first | rfl | go_num, rfl, ⟨HS5.out.drewN _⟩⟩
            case measure => simp [intOf]; omega
        | false =>
          by_cases hfit : 0 ≤ L / 8 ∧ L / 8 ≤ (n : Int) - at_
          · obtain ⟨q, hq⟩ := Int.eq_ofNat_of_zero_le hfit.1
            have h1 := hfit.1
            have h2 := hfit.2
            rcases Nat.lt_or_ge 8 q with hq8 | hq8
            · skip
              go_wp2_with fail
              refine (bytes_st hr1 (HK.out.alloc _) (by rw [HX.out]; omega) (by rw [HX.out]; omega)).mono ?_
              rintro e w5 ⟨A5, c5, rfl, hr5, hst5⟩
              have HS5 := Lib.hid hst5; clear hst5
              go_wp2_with fail
              have hsum : IntKind.i64.wrap ((at_ : Int) + (q : Int)) = (at_ : Int) + (q : Int) := by rw [IntKind.wrap_i64]; omega
              obtain ⟨S, hS⟩ : ∃ S : ByteArray, S = strOfNums ((xs.drop at_).take q) := ⟨_, rfl⟩
              have hSS : (S.toList == S.toList) = true := by simp
              have KA := Lib.hid (show ∀ m', (convert 22 9 (.slice A5 q c5)).run Try.prog (w5.drewN m') = .ok (.string S) (w5.drewN m') from fun m' => by rw [hS]; exact str_of (hr5.below (pw_below_drewN (Below.refl _ _) m')))
              obtain ⟨A6, hsl, hA6⟩ : ∃ A6 : Option Addr, (∀ W : World, (Instr.slice 22 (.slice A n c) (some (.int .i64 (at_ : Int))) (some (.int .i64 ((at_ : Int) + (q : Int)))) none).run Try.prog W = .ok (.slice A6 q (c - at_)) W) ∧ ReadsInt w5 .u8 A6 q ((xs.drop at_).take q) := by
                refine ⟨if c = at_ then A else A.map (·.add at_), fun W => ?_, ((H _ HS5.out.1).drop_ at_ (by omega) hc).take_ q (by omega)⟩
                rw [run_slice_lh W 22 A n c Try.underlying22 .i64 .i64 at_ ((at_ : Int) + q) (by omega) (by omega) (by omega)]
                obtain ⟨i5, hi5, -, hz5, -⟩ := info_parts (show (Try.prog.info? 5).map (fun i => (i.zero, i.size, i.bytes)) = some (some (.int .u8 0), 1, 1) by kernel_rfl)
                have hnn : ((at_ : Int) + (q : Int)).toNat - at_ = q := by omega
                simp [sizeOf, typeInfo, hi5, hz5, sliced, Result.andThen, show Try.prog.elem 22 = 5 from rfl, hnn]
              have KB := Lib.hid (show ∀ m', (convert 22 9 (.slice A6 q (c - at_))).run Try.prog (w5.drewN m') = .ok (.string S) (w5.drewN m') from fun m' => by rw [hS]; exact str_of (hA6.below (pw_below_drewN (Below.refl _ _) m')))
              have k1 := KA.out
              have k2 := KB.out
              clear hS hA6 hr5
              go_quiet (fail)
              clear k1 k2
              go_wp2_with fail
              refine (end_st2 (HS5.out.drewN _) HX.out (by omega)).mono ?_; rintro e w' ⟨rfl, rfl⟩
              go_wp2_with fail
              go_roundw
              case rel => exact ⟨k + 1, at_ + q, false, by omega, by omega, by go_num, by first | rfl | go_num, rfl, ⟨HS5.out.drewN _⟩⟩
              case measure => simp [intOf]; omega
            · skip
              go_wp2_with fail
              refine (bytes_st hr1 (HK.out.alloc _) (by rw [HX.out]; omega) (by rw [HX.out]; omega)).mono ?_
              rintro e w5 ⟨A5, c5, rfl, hr5, hst5⟩
              have HS5 := Lib.hid hst5; clear hst5
              go_wp2_with fail
              have hsum : IntKind.i64.wrap ((at_ : Int) + (q : Int)) = (at_ : Int) + (q : Int) := by rw [IntKind.wrap_i64]; omega
              obtain ⟨S, hS⟩ : ∃ S : ByteArray, S = strOfNums ((xs.drop at_).take q) := ⟨_, rfl⟩
              have hSS : (S.toList == S.toList) = true := by simp
              have KA := Lib.hid (show ∀ m', (convert 22 9 (.slice A5 q c5)).run Try.prog (w5.drewN m') = .ok (.string S) (w5.drewN m') from fun m' => by rw [hS]; exact str_of (hr5.below (pw_below_drewN (Below.refl _ _) m')))
              obtain ⟨A6, hsl, hA6⟩ : ∃ A6 : Option Addr, (∀ W : World, (Instr.slice 22 (.slice A n c) (some (.int .i64 (at_ : Int))) (some (.int .i64 ((at_ : Int) + (q : Int)))) none).run Try.prog W = .ok (.slice A6 q (c - at_)) W) ∧ ReadsInt w5 .u8 A6 q ((xs.drop at_).take q) := by
                refine ⟨if c = at_ then A else A.map (·.add at_), fun W => ?_, ((H _ HS5.out.1).drop_ at_ (by omega) hc).take_ q (by omega)⟩
                rw [run_slice_lh W 22 A n c Try.underlying22 .i64 .i64 at_ ((at_ : Int) + q) (by omega) (by omega) (by omega)]
                obtain ⟨i5, hi5, -, hz5, -⟩ := info_parts (show (Try.prog.info? 5).map (fun i => (i.zero, i.size, i.bytes)) = some (some (.int .u8 0), 1, 1) by kernel_rfl)
                have hnn : ((at_ : Int) + (q : Int)).toNat - at_ = q := by omega
                simp [sizeOf, typeInfo, hi5, hz5, sliced, Result.andThen, show Try.prog.elem 22 = 5 from rfl, hnn]
              have KB := Lib.hid (show ∀ m', (convert 22 9 (.slice A6 q (c - at_))).run Try.prog (w5.drewN m') = .ok (.string S) (w5.drewN m') from fun m' => by rw [hS]; exact str_of (hA6.below (pw_below_drewN (Below.refl _ _) m')))
              have k1 := KA.out
              have k2 := KB.out
              clear hS hA6 hr5
              go_quiet (fail)
              clear k1 k2
              go_wp2_with fail
              refine (end_st2 (HS5.out.drewN _) HX.out (by omega)).mono ?_; rintro e w' ⟨rfl, rfl⟩
              go_wp2_with fail
              go_roundw
              case rel => exact ⟨k + 1, at_ + q, false, by omega, by omega, by go_num, by first | rfl | go_num, rfl, ⟨HS5.out.drewN _⟩⟩
              case measure => simp [intOf]; omega
          · by_cases hng : L / 8 < 0
            · go_wp2_with fail
              refine (bytes_st0 hr1 (HK.out.alloc _) (.inr (by rw [HX.out]; omega)) (by rw [HX.out]; omega)).mono ?_
              rintro e w5 ⟨rfl, hst5⟩
              have HS5 := Lib.hid hst5; clear hst5
              go_wp2_with fail
              go_quiet (fail)
              go_wp2_with fail
              refine (end_st2 (HS5.out.drewN _) HX.out (by omega)).mono ?_; rintro e w' ⟨rfl, rfl⟩
              go_wp2_with fail
              go_roundw
              case rel => exact ⟨k + 1, at_, true, by omega, by omega, by go_num, by first | rfl | go_num, rfl, ⟨HS5.out.drewN _⟩⟩
              case measure => simp [intOf]; omega
            · have hng1 : 0 ≤ L / 8 := by omega
              have hng2 : ¬ (L / 8 ≤ (n : Int) - at_) := by omega
              go_wp2_with fail
              refine (bytes_st0 hr1 (HK.out.alloc _) (.inr (by rw [HX.out]; omega)) (by rw [HX.out]; omega)).mono ?_
              rintro e w5 ⟨rfl, hst5⟩
              have HS5 := Lib.hid hst5; clear hst5
              go_wp2_with fail
              go_quiet (fail)
              go_wp2_with fail
              refine (end_st2 (HS5.out.drewN _) HX.out (by omega)).mono ?_; rintro e w' ⟨rfl, rfl⟩
              go_wp2_with fail
              go_roundw
              case rel => exact ⟨k + 1, at_, true, by omega, by omega, by go_num, by first | rfl | go_num, rfl, ⟨HS5.out.drewN _⟩⟩
              case measure => simp [intOf]; omega

      | 5, _ =>
        cases bad with
        | true =>
            go_wp2_with (first | (go_at_call 10; refine (U8_st0 hr1 (HK.out.alloc _) (.inl rfl) (by rw [HX.out]; omega)).mono ?_; rintro e w5 ⟨rfl, hst5⟩; have HS5 := Lib.hid hst5; clear hst5) | (go_at_call 15; (refine (show Calls _ _ _ _ _ from by have C := end_st HS5.out (by rw [HX.out]; omega); rw [HX.out] at C; exact C).mono ?_); rintro e w' ⟨rfl, rfl⟩))
            go_roundw
            case rel => exact ⟨k + 1, at_, true, by omega, by omega, by go_num, by first | rfl | go_num, rfl, ⟨HS5.out⟩⟩
            case measure => simp [intOf]; omega
        | false =>
          by_cases hfit : ((1 : Nat) : Int) ≤ (n : Int) - at_
          · skip
            go_wp2_with (first | (go_at_call 9; refine (at_walk A xs n c at_ 1 _ (HBX.out _ (HK.out.alloc _)) (by omega) (by decide)).mono ?_; rintro e w' ⟨rfl, rfl⟩) | (go_at_call 10; refine (U8_st hr1 (HK.out.alloc _) (by rw [HX.out]; omega) (by rw [HX.out]; omega)).mono ?_; rintro e w5 ⟨rfl, hst5⟩; have HS5 := Lib.hid hst5; clear hst5) | (go_at_call 15; (refine (show Calls _ _ _ _ _ from by have C := end_st HS5.out (by rw [HX.out]; omega); rw [HX.out] at C; exact C).mono ?_); rintro e w' ⟨rfl, rfl⟩))
            go_roundw
            case rel => exact ⟨k + 1, at_ + 1, false, by omega, by omega, by go_num, by first | rfl | go_num, rfl, ⟨HS5.out⟩⟩
            case measure => simp [intOf]; omega
          · skip
            go_wp2_with (first | (go_at_call 10; refine (U8_st0 hr1 (HK.out.alloc _) (.inr (by rw [HX.out]; omega)) (by rw [HX.out]; omega)).mono ?_; rintro e w5 ⟨rfl, hst5⟩; have HS5 := Lib.hid hst5; clear hst5) | (go_at_call 15; (refine (show Calls _ _ _ _ _ from by have C := end_st HS5.out (by rw [HX.out]; omega); rw [HX.out] at C; exact C).mono ?_); rintro e w' ⟨rfl, rfl⟩))
            go_roundw
            case rel => exact ⟨k + 1, at_, true, by omega, by omega, by go_num, by first | rfl | go_num, rfl, ⟨HS5.out⟩⟩
            case measure => simp [intOf]; omega
      | 6, _ =>
        cases bad with
        | true =>
            go_wp2_with (first | (go_at_call 11; refine (U16_st0 hr1 (HK.out.alloc _) (.inl rfl) (by rw [HX.out]; omega)).mono ?_; rintro e w5 ⟨rfl, hst5⟩; have HS5 := Lib.hid hst5; clear hst5) | (go_at_call 15; (refine (show Calls _ _ _ _ _ from by have C := end_st HS5.out (by rw [HX.out]; omega); rw [HX.out] at C; exact C).mono ?_); rintro e w' ⟨rfl, rfl⟩))
            go_roundw
            case rel => exact ⟨k + 1, at_, true, by omega, by omega, by go_num, by first | rfl | go_num, rfl, ⟨HS5.out⟩⟩
            case measure => simp [intOf]; omega
        | false =>
          by_cases hfit : ((2 : Nat) : Int) ≤ (n : Int) - at_
          · skip
            go_wp2_with (first | (go_at_call 9; refine (at_walk A xs n c at_ 2 _ (HBX.out _ (HK.out.alloc _)) (by omega) (by decide)).mono ?_; rintro e w' ⟨rfl, rfl⟩) | (go_at_call 11; refine (U16_st hr1 (HK.out.alloc _) (by rw [HX.out]; omega) (by rw [HX.out]; omega)).mono ?_; rintro e w5 ⟨rfl, hst5⟩; have HS5 := Lib.hid hst5; clear hst5) | (go_at_call 15; (refine (show Calls _ _ _ _ _ from by have C := end_st HS5.out (by rw [HX.out]; omega); rw [HX.out] at C; exact C).mono ?_); rintro e w' ⟨rfl, rfl⟩))
            go_roundw
            case rel => exact ⟨k + 1, at_ + 2, false, by omega, by omega, by go_num, by first | rfl | go_num, rfl, ⟨HS5.out⟩⟩
            case measure => simp [intOf]; omega
          · skip
            go_wp2_with (first | (go_at_call 11; refine (U16_st0 hr1 (HK.out.alloc _) (.inr (by rw [HX.out]; omega)) (by rw [HX.out]; omega)).mono ?_; rintro e w5 ⟨rfl, hst5⟩; have HS5 := Lib.hid hst5; clear hst5) | (go_at_call 15; (refine (show Calls _ _ _ _ _ from by have C := end_st HS5.out (by rw [HX.out]; omega); rw [HX.out] at C; exact C).mono ?_); rintro e w' ⟨rfl, rfl⟩))
            go_roundw
            case rel => exact ⟨k + 1, at_, true, by omega, by omega, by go_num, by first | rfl | go_num, rfl, ⟨HS5.out⟩⟩
            case measure => simp [intOf]; omega
      | 7, _ =>
        cases bad with
        | true =>
            go_wp2_with (first | (go_at_call 12; refine (U32_st0 hr1 (HK.out.alloc _) (.inl rfl) (by rw [HX.out]; omega)).mono ?_; rintro e w5 ⟨rfl, hst5⟩; have HS5 := Lib.hid hst5; clear hst5) | (go_at_call 15; (refine (show Calls _ _ _ _ _ from by have C := end_st HS5.out (by rw [HX.out]; omega); rw [HX.out] at C; exact C).mono ?_); rintro e w' ⟨rfl, rfl⟩))
            go_roundw
            case rel => exact ⟨k + 1, at_, true, by omega, by omega, by go_num, by first | rfl | go_num, rfl, ⟨HS5.out⟩⟩
            case measure => simp [intOf]; omega
        | false =>
          by_cases hfit : ((4 : Nat) : Int) ≤ (n : Int) - at_
          · skip
            go_wp2_with (first | (go_at_call 9; refine (at_walk A xs n c at_ 4 _ (HBX.out _ (HK.out.alloc _)) (by omega) (by decide)).mono ?_; rintro e w' ⟨rfl, rfl⟩) | (go_at_call 12; refine (U32_st hr1 (HK.out.alloc _) (by rw [HX.out]; omega) (by rw [HX.out]; omega)).mono ?_; rintro e w5 ⟨rfl, hst5⟩; have HS5 := Lib.hid hst5; clear hst5) | (go_at_call 15; (refine (show Calls _ _ _ _ _ from by have C := end_st HS5.out (by rw [HX.out]; omega); rw [HX.out] at C; exact C).mono ?_); rintro e w' ⟨rfl, rfl⟩))
            go_roundw
            case rel => exact ⟨k + 1, at_ + 4, false, by omega, by omega, by go_num, by first | rfl | go_num, rfl, ⟨HS5.out⟩⟩
            case measure => simp [intOf]; omega
          · skip
            go_wp2_with (first | (go_at_call 12; refine (U32_st0 hr1 (HK.out.alloc _) (.inr (by rw [HX.out]; omega)) (by rw [HX.out]; omega)).mono ?_; rintro e w5 ⟨rfl, hst5⟩; have HS5 := Lib.hid hst5; clear hst5) | (go_at_call 15; (refine (show Calls _ _ _ _ _ from by have C := end_st HS5.out (by rw [HX.out]; omega); rw [HX.out] at C; exact C).mono ?_); rintro e w' ⟨rfl, rfl⟩))
            go_roundw
            case rel => exact ⟨k + 1, at_, true, by omega, by omega, by go_num, by first | rfl | go_num, rfl, ⟨HS5.out⟩⟩
            case measure => simp [intOf]; omega
    · obtain rfl : k = m := by omega
      go_wp2
      go_ret
      exact ⟨rfl, HK.out.1⟩
end Go.Proofs.Ytjclimelachagaa
