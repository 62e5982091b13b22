/- The walk of PackWrites. -/
import Derived.Test.YtjclimelachagaaPackF
import Derived.Deep.RegionWith
set_option linter.unusedVariables false
set_option linter.unusedSimpArgs false
namespace Go.Proofs.Ytjclimelachagaa
open Go.RowKit Go.Proofs.YtjclimelachagaaW.PrintWords Go.Proofs.Ytjclimelachagaa.K

/-- Bytes that are read, in a block of bytes. -/
def Bts (w : World) (A : Option Addr) (n : Nat) (xs : List Int) : Prop := ReadsInt w .u8 A n xs ∧ ∀ ad, A = some ad → ∃ cs fr, w.heap[ad.block]? = some (.cells cs 5 fr)
theorem Bts.kept {w w' : World} {A : Option Addr} {n : Nat} {xs : List Int} (h : Bts w A n xs) (hk : ∀ k : Nat, (∃ cs fr, w.heap[k]? = some (Obj.cells cs 5 fr)) → w'.heap[k]? = w.heap[k]?) : Bts w' A n xs := by
  obtain ⟨h3, h4⟩ := h
  refine ⟨⟨h3.1, h3.2.1, fun hp => ?_⟩, fun ad e => ?_⟩
  · obtain ⟨ad, e, hc⟩ := h3.2.2 hp
    obtain ⟨cs, fr, hb⟩ := h4 ad e
    refine ⟨ad, e, fun j hj => ?_⟩
    have hbl : (ad.add j).block = ad.block := by unfold Addr.add; split <;> rfl
    rw [World.cell?_of_block (w := w) (by rw [hbl]; exact hk _ ⟨_, _, hb⟩)]
    exact hc j hj
  · obtain ⟨cs, fr, hb⟩ := h4 ad e
    exact ⟨cs, fr, by rw [hk _ ⟨_, _, hb⟩]; exact hb⟩
theorem Bts.below {w w' : World} {A : Option Addr} {n : Nat} {xs : List Int} (h : Bts w A n xs) (hb : Below w.heap.size w w') : Bts w' A n xs := h.kept fun k ⟨_, _, hk⟩ => hb.block k (lt_of_heap hk)
theorem Bts.other {w w' : World} {q : Nat} {A : Option Addr} {n : Nat} {xs ys : List Int} {sq : Bool} (h : Bts w A n xs) (hq : Rdr w q ys sq) (hg : w.grownBy w' (some q)) : Bts w' A n xs :=
  h.kept fun k ⟨cs, fr, hk⟩ => hg.block k (lt_of_heap hk) (fun e => by
    injection e with e
    subst e
    obtain ⟨_, _, _, h1, _⟩ := hq
    rw [hk] at h1
    injection h1 with h1
    injection h1 with _ h1
    exact absurd h1 (by decide))
theorem Bts.own {w : World} {base n : Nat} {A : Option Addr} {m c : Nat} {xs : List Int} (h : w.ownsRow base 5 1 (.slice A m c) n (nums .u8 xs)) : Bts w A n xs := by
  obtain ⟨_, _, _, h1, h2⟩ := own_info h
  exact ⟨h1, fun ad e => by obtain ⟨_, cs, hc⟩ := h2 ad e; exact ⟨cs, _, hc⟩⟩
theorem str_of {w : World} {A : Option Addr} {n c : Nat} {xs : List Int} (h : ReadsInt w .u8 A n xs) : (convert 22 9 (.slice A n c)).run Try.prog w = .ok (.string (strOfNums xs)) w :=
  string_of_reads Try.underlying22 Try.underlying5 Try.underlying9 h

theorem and_i64 (v : Int) : bits .and .i64 v 65535 = v % 65536 := by
  have h1 : (BitVec.ofInt 64 v &&& BitVec.ofInt 64 65535).toNat = (v % 18446744073709551616).toNat % 65536 := by
    rw [BitVec.toNat_and, BitVec.toNat_ofInt, BitVec.toNat_ofInt]
    exact Nat.and_two_pow_sub_one_eq_mod _ 16
  have h2 : bits .and .i64 v 65535 = IntKind.i64.wrap ((BitVec.ofInt 64 v &&& BitVec.ofInt 64 65535).toNat : Int) := rfl
  rw [h2, h1, IntKind.wrap_i64]
  omega
set_option maxHeartbeats 40000000 in
theorem writes_walk (W : World) (A : Option Addr) (n c : Nat) (xs : List Int) (h : ReadsInt W .u8 A n xs) (hw : ∀ x ∈ xs, (Lit.int .u8 x).wf = true) (hc : n ≤ c) (hs : n * 1 ≤ 140737488351232)
    (v : Int) (wv : (Lit.int .i64 v).wf = true) (u : Int) (wu : (Lit.int .u32 u).wf = true) (q : Int) (wq : (Lit.int .u64 q).wf = true) :
    Calls Try.prog 6 #[.slice A n c, .int .i64 v, .int .u32 u, .int .u64 q] W fun e w' => e = .returned (.bool true) ∧ Below W.heap.size W w' := by
  have H : ∀ w1, Below W.heap.size W w1 → ReadsInt w1 .u8 A n xs := fun w1 hb => h.below hb
  have HN := Lib.hid h.1
  clear h
  by_cases h6 : 100 < n
  · go_enter Try.func6, Try.ntmps6
    go_wp2_with (go_at_call 7; refine (awake_walk _).mono ?_; rintro e w1 ⟨rfl, hb⟩)
    go_ret
    exact ⟨rfl, hb⟩
  have hu : 0 ≤ u ∧ u < 4294967296 := by simp [Lit.wf, IntKind.min, IntKind.max, IntKind.signed, IntKind.bits] at wu; omega
  have hq : 0 ≤ q ∧ q < 18446744073709551616 := by simp [Lit.wf, IntKind.min, IntKind.max, IntKind.signed, IntKind.bits] at wq; omega
  have HU := Lib.hid hu; have HQ := Lib.hid hq
  clear hu hq wu wq wv hw
  go_enter Try.func6, Try.ntmps6
  go_wp2_with fail
  refine (awake_walk W).mono ?_
  rintro e w1 ⟨rfl, hb⟩
  go_wp2_with (at_builtin; refine K.app_row (w0 := w1) w1.heap.size rfl (.tmp 17) (.tmp 18) 22 5 .u8 1 rfl Try.underlying22 (by kernel_rfl) (by decide) _ [] xs _ _ _ rfl rfl (own_lit _ _ 5 .u8 [] (Nat.le_refl _) (by decide)) ((H _ hb).below ((Below.refl _ _).alloc (Nat.le_refl _) _)) ((Below.refl _ _).alloc (Nat.le_refl _) _) (by simp) (by simp; omega) n HN.out ?_; intro A1 c1 w2 hown hB1 _; have HO := Lib.hid hown; clear hown)
  have hb2 := below_then hb hb.size hB1
  have HR := Lib.hid (own_info HO.out).2.2.2.1
  refine (wU16_walk A1 xs n c1 v w2 HR.out (by omega)).mono ?_
  rintro e w3 ⟨A3, c3, rfl, hown, hb3⟩
  have hb3 := below_then hb2 hb2.size hb3
  have HR3 := Lib.hid (own_info hown).2.2.2.1; clear hown
  go_wp2_with fail
  refine (wU32_walk A3 _ _ c3 u w3 HR3.out (by omega) HU.out).mono ?_
  rintro e w4 ⟨A4, c4, rfl, hown, hb4⟩
  have hb4 := below_then hb3 hb3.size hb4
  have HR4 := Lib.hid (own_info hown).2.2.2.1; clear hown
  go_wp2_with fail
  refine (wU64_walk A4 _ _ c4 q w4 HR4.out (by omega) HQ.out).mono ?_
  rintro e w5 ⟨A5, c5, rfl, hown, hb5⟩
  have hb5 := below_then hb4 hb4.size hb5
  have HX := Lib.hid (Bts.own hown); clear hown HR HR3 HR4 HO
  go_wp2_with fail
  refine (read_walk A5 _ _ c5 w5 HX.out.1 (by omega)).mono ?_
  rintro e w6 ⟨r, hr, rfl, hR, hb6⟩
  have HX6 := Lib.hid (HX.out.below hb6)
  have hr1 : W.heap.size ≤ r := Nat.le_trans hb5.size hr
  have hb6 := below_then hb5 hb5.size hb6
  have hZ : (xs ++ bes (v % 18446744073709551616) 2 2 ++ bes u 4 4 ++ bes q 8 8).length = n + 14 := by simp [bes_len, HN.out]
  have HZ := Lib.hid hZ; clear hZ
  have hT : (xs ++ bes (v % 18446744073709551616) 2 2 ++ bes u 4 4 ++ bes q 8 8).take n = xs ∧ (xs ++ bes (v % 18446744073709551616) 2 2 ++ bes u 4 4 ++ bes q 8 8).drop n = bes (v % 18446744073709551616) 2 2 ++ bes u 4 4 ++ bes q 8 8 := by
    simp only [List.append_assoc]
    have := HN.out
    subst this
    simp
  have hB := bytes_ok r n _ w6 hR (by rw [HZ.out]; omega) (by rw [HZ.out]; omega)
  rw [hT.1, hT.2] at hB
  have HB := Lib.hid hB; clear hB hT
  have HRd := Lib.hid hR; clear hR
  go_wp2_with fail
  refine HB.out.mono ?_
  rintro e w7 ⟨A7, c7, rfl, hown, hR7, hg7⟩
  have hb7 := pw_below_grown hb6 (some r) hb6.size hg7 (fun k e => by cases e; exact hr1)
  have HX7 := Lib.hid (HX6.out.other HRd.out hg7)
  have HY := Lib.hid (Bts.own hown)
  have HR7 := Lib.hid hR7
  clear hown hR7 hg7 HB
  obtain ⟨Inv, hInv⟩ : ∃ I : World → Prop, I = fun w' => Below W.heap.size W w' ∧ Rdr w' r (bes (v % 18446744073709551616) 2 2 ++ bes u 4 4 ++ bes q 8 8) false ∧ Bts w' A5 (n + 2 + 4 + 8) (xs ++ bes (v % 18446744073709551616) 2 2 ++ bes u 4 4 ++ bes q 8 8) ∧ Bts w' A7 n xs := ⟨_, rfl⟩
  have HI := Lib.hid (show ∀ w w', Inv w → Below w.heap.size w w' → Inv w' from fun w w' h hb => by
    subst hInv
    exact ⟨below_then h.1 h.1.size hb, h.2.1.below hb, h.2.2.1.below hb, h.2.2.2.below hb⟩)
  have HB := Lib.hid (show ∀ w, Inv w → ReadsInt w .u8 A n xs from fun w h => by subst hInv; exact H _ h.1)
  have HJ := Lib.hid (show ∀ w, Inv w → Below W.heap.size W w ∧ Rdr w r (bes (v % 18446744073709551616) 2 2 ++ bes u 4 4 ++ bes q 8 8) false from fun w h => by subst hInv; exact ⟨h.1, h.2.1⟩)
  obtain ⟨S, hS⟩ : ∃ S : ByteArray, S = strOfNums (xs ++ bes (v % 18446744073709551616) 2 2 ++ bes u 4 4 ++ bes q 8 8) := ⟨_, rfl⟩
  obtain ⟨S2, hS2⟩ : ∃ S : ByteArray, S = strOfNums xs := ⟨_, rfl⟩
  have HS := Lib.hid hS
  have KS1 := Lib.hid (show ∀ w, Inv w → (convert 22 9 (.slice A5 (n + 2 + 4 + 8) c5)).run Try.prog w = .ok (.string S) w from fun w h => by subst hInv; rw [hS]; exact str_of h.2.2.1.1)
  have KS2 := Lib.hid (show ∀ w, Inv w → (convert 22 9 (.slice A7 n c7)).run Try.prog w = .ok (.string S2) w from fun w h => by subst hInv; rw [hS2]; exact str_of h.2.2.2.1)
  have KS3 := Lib.hid (show ∀ w, Inv w → (convert 22 9 (.slice A n c)).run Try.prog w = .ok (.string S2) w from fun w h => by subst hInv; rw [hS2]; exact str_of (H _ h.1))
  clear hS hS2
  have hSS : (S.toList == S.toList) = true := by simp
  have hSS2 : (S2.toList == S2.toList) = true := by simp
  have i7 : Inv w7.drew := by subst hInv; exact ⟨below_drew hb7, HR7.out.below (below_drew (Below.refl _ _)), HX7.out.below (below_drew (Below.refl _ _)), HY.out.below (below_drew (Below.refl _ _))⟩
  have ka1 := KS1.out _ i7
  have ka2 := KS2.out _ i7
  have ka3 := KS3.out _ i7
  have heq : xs ++ [v / 256 % 256, v % 256] ++ be4 u ++ be8 q = xs ++ bes (v % 18446744073709551616) 2 2 ++ bes u 4 4 ++ bes q 8 8 := by
    obtain ⟨u', rfl⟩ := Int.eq_ofNat_of_zero_le HU.out.1
    obtain ⟨q', rfl⟩ := Int.eq_ofNat_of_zero_le HQ.out.1
    rw [be2_eq, be4_eq u' (by have := HU.out.2; omega), be8_eq q' (by have := HQ.out.2; omega)]
  have HE := Lib.hid heq
  obtain ⟨J2, hJ2⟩ : ∃ J : World → Prop, J = fun w' => Below W.heap.size W w' ∧ Rdr w' r (bes u 4 4 ++ bes q 8 8) false := ⟨_, rfl⟩
  obtain ⟨J3, hJ3⟩ : ∃ J : World → Prop, J = fun w' => Below W.heap.size W w' ∧ Rdr w' r (bes q 8 8) false := ⟨_, rfl⟩
  obtain ⟨J4, hJ4⟩ : ∃ J : World → Prop, J = fun w' => Below W.heap.size W w' ∧ Rdr w' r [] false := ⟨_, rfl⟩
  have C16 := Lib.hid (show ∀ w, Inv w → Calls Try.prog 11 #[.pointer (some ⟨r, 0, none⟩)] w fun e w' => e = .returned (.int .i64 (bits BinOp.and IntKind.i64 v 65535)) ∧ J2 w' from fun w h => by
    obtain ⟨hb, hr⟩ := HJ.out w h
    have C := u16_of r w _ _ (number_ok r 2 _ w hr (by simp [bes_len]) (by simp [bes_len]))
    obtain ⟨m, hm⟩ := Int.eq_ofNat_of_zero_le (show 0 ≤ v % 18446744073709551616 by omega)
    rw [List.append_assoc, List.take_left' (bes_len _ 2 2), List.drop_left' (bes_len _ 2 2), hm, numU_all m 2 (by decide), w64' (by omega) (by omega)] at C
    refine C.mono ?_
    rintro e w' ⟨rfl, h1, h2⟩
    subst hJ2
    exact ⟨by rw [and_i64]; congr 2; omega, pw_below_grown hb (some r) hb.size h2 (fun k e => by cases e; exact hr1), h1⟩)
  have C32 := Lib.hid (show ∀ w, J2 w → Calls Try.prog 12 #[.pointer (some ⟨r, 0, none⟩)] w fun e w' => e = .returned (.int .u32 u) ∧ J3 w' from fun w h => by
    subst hJ2
    obtain ⟨hb, hr⟩ := h
    have C := u32_of r w _ _ (number_ok r 4 _ w hr (by simp [bes_len]) (by simp [bes_len]))
    obtain ⟨m, hm⟩ := Int.eq_ofNat_of_zero_le HU.out.1
    have h3 := HU.out.2
    rw [List.take_left' (bes_len _ 4 4), List.drop_left' (bes_len _ 4 4), hm, numU_all m 4 (by decide)] at C
    refine C.mono ?_
    rintro e w' ⟨rfl, h1, h2⟩
    subst hJ3
    exact ⟨by congr 2; omega, pw_below_grown hb (some r) hb.size h2 (fun k e => by cases e; exact hr1), h1⟩)
  have C64 := Lib.hid (show ∀ w, J3 w → Calls Try.prog 13 #[.pointer (some ⟨r, 0, none⟩)] w fun e w' => e = .returned (.int .u64 q) ∧ J4 w' from fun w h => by
    subst hJ3
    obtain ⟨hb, hr⟩ := h
    have C := u64_of r w _ _ (number_ok r 8 _ w hr (by simp [bes_len]) (by simp [bes_len]))
    obtain ⟨m, hm⟩ := Int.eq_ofNat_of_zero_le HQ.out.1
    have h3 := HQ.out.2
    rw [List.take_of_length_le (by rw [bes_len]; exact Nat.le_refl _), List.drop_of_length_le (by rw [bes_len]; exact Nat.le_refl _), hm, numU_all m 8 (by decide)] at C
    refine C.mono ?_
    rintro e w' ⟨rfl, h1, h2⟩
    subst hJ4
    exact ⟨by congr 2; omega, pw_below_grown hb (some r) hb.size h2 (fun k e => by cases e; exact hr1), h1⟩)
  have CE := Lib.hid (show ∀ w, J4 w → Calls Try.prog 15 #[.pointer (some ⟨r, 0, none⟩)] w fun e w' => e = .returned (.bool true) ∧ w = w' from fun w h => by
    subst hJ4
    exact end_walk r w _ _ h.2)
  have HF := Lib.hid (show ∀ w, J4 w → Below W.heap.size W w from fun w h => by subst hJ4; exact h.1)
  clear hJ2 hJ3 hJ4
  clear hInv heq HX7 HY HR7 hb7 hb6 hb5 hb4 hb3 hb2 hb HX6 HX HRd
  go_wp2_with fail
  go_region_with (first | (go_at_call 21; refine (ru16_walk A xs n c v _ (HB.out _ (by assumption)) (by omega)).mono ?_; rintro e w8 ⟨A8, c8, rfl, hown, hb8⟩; have i8 := HI.out _ _ (by assumption) hb8; have kx8 := KS1.out _ i8; have ky8 := KS2.out _ i8; have kz8 := KS3.out _ i8; have Z8 := Lib.hid (own_info hown).2.2.2.1; clear hown hb8) | (go_at_call 20; refine (ru32_walk _ _ _ _ u _ (Go.RowKit.Hid.out (by assumption)) (by omega) HU.out).mono ?_; rintro e w9 ⟨A9, c9, rfl, hown, hb9⟩; have i9 := HI.out _ _ (by assumption) hb9; have kx9 := KS1.out _ i9; have ky9 := KS2.out _ i9; have kz9 := KS3.out _ i9; have Z9 := Lib.hid (own_info hown).2.2.2.1; clear hown hb9) | (go_at_call 19; refine (ru64_walk _ _ _ _ q _ (Go.RowKit.Hid.out (by assumption)) (by omega) HQ.out).mono ?_; rintro e w10 ⟨A10, c10, rfl, hown, hb10⟩; have i10 := HI.out _ _ (by assumption) hb10; have kx10 := KS1.out _ i10; have ky10 := KS2.out _ i10; have kz10 := KS3.out _ i10; have Z10 := str_of (c := c10) (own_info hown).2.2.2.1; rw [HE.out, ← HS.out] at Z10; clear hown hb10) | (go_at_call 11; refine (C16.out _ (by assumption)).mono ?_; rintro e w11 ⟨rfl, j2⟩) | (go_at_call 12; refine (C32.out _ (by assumption)).mono ?_; rintro e w12 ⟨rfl, j3⟩) | (go_at_call 13; refine (C64.out _ (by assumption)).mono ?_; rintro e w13 ⟨rfl, j4⟩) | (go_at_call 15; refine (CE.out _ (by assumption)).mono ?_; rintro e w14 ⟨rfl, rfl⟩))
  all_goals (go_wp2_with fail; go_ret; exact ⟨rfl, HF.out _ (by assumption)⟩)
end Go.Proofs.Ytjclimelachagaa
