/- Walks of the laws of pack: awake, PackKnown. -/
import Derived.Test.YtjclimelachagaaPackE
set_option linter.unusedVariables false
set_option linter.unusedSimpArgs false
namespace Go.Proofs.Ytjclimelachagaa
open Go.RowKit Go.Proofs.YtjclimelachagaaW.PrintWords Go.Proofs.Ytjclimelachagaa.K

theorem u8_bad (r : Nat) (xs : List Int) (sp : Bool) (w : World) (h : Rdr w r xs sp) (hb : sp = true ∨ (1 : Int) < 0 ∨ (xs.length : Int) < 1) :
    Calls Try.prog 10 #[.pointer (some ⟨r, 0, none⟩)] w fun e w' => e = .returned (.int .i64 0) ∧ Rdr w' r [] true ∧ w.grownBy w' (some r) := by
  have h := u8_of r w 0 _ (number_bad r 1 xs sp w h hb)
  rwa [show wrap64 0 = 0 by decide +kernel] at h
theorem num_12 : wrap64 (numU 0 [1, 2]) = 258 := by decide +kernel
set_option maxHeartbeats 400000 in
theorem awake_walk (w : World) : Calls Try.prog 7 #[] w fun e w' => e = .returned (.bool true) ∧ Below w.heap.size w w' := by
  go_enter Try.func7, Try.ntmps7
  go_wp2_with fail
  refine (read_walk _ [1, 2] 2 2 _ (reads_lit _ .u8 [1, 2] 5 (0, 0) 2 rfl (by decide)) (by decide)).mono ?_
  rintro e w1 ⟨r, hr, rfl, hR, hb⟩
  have hb := K.below_box hb
  have HR := Lib.hid hR; clear hR
  have C1 := u16_of r w1 _ _ (number_ok r 2 [1, 2] w1 HR.out (by decide) (by decide))
  rw [show wrap64 (numU 0 ([1, 2].take 2)) = 258 by decide +kernel] at C1
  have HC := Lib.hid C1; clear C1
  go_wp2_with fail
  refine HC.out.mono ?_
  rintro e w2 ⟨rfl, hR2, hg⟩
  have HR2 := Lib.hid hR2; clear hR2
  have hb2 := pw_below_grown hb (some r) hb.size hg (fun k e => by cases e; simp at hr; omega)
  clear hg
  have C2 := end_walk r w2 _ _ HR2.out
  have HC2 := Lib.hid C2; clear C2
  go_wp2_with fail
  refine HC2.out.mono ?_
  rintro e w3 ⟨rfl, rfl⟩
  go_wp2_with fail
  go_ret
  exact ⟨rfl, hb2⟩
theorem num_1 : wrap64 (numU 0 ([1, 2, 3].take 1)) = 1 := by decide +kernel
set_option maxHeartbeats 1000000 in
theorem known_walk (w : World) : Calls Try.prog 5 #[] w fun e w' => e = .returned (.bool true) ∧ Below w.heap.size w w' := by
  go_enter Try.func5, Try.ntmps5
  go_wp2_with fail
  refine (awake_walk w).mono ?_
  rintro e w1 ⟨rfl, hb⟩
  go_wp2_with fail
  refine (read_walk _ [1, 2, 3] 3 3 _ (reads_lit w1 .u8 [1, 2, 3] 5 (0, 0) 3 rfl (by decide)) (by decide)).mono ?_
  rintro e w2 ⟨r, hr, rfl, hR, hb2⟩
  have hr0 : w1.heap.size ≤ r := by simp at hr; omega
  have hb2 := below_then hb hb.size (K.below_box hb2)
  have hr1 : w.heap.size ≤ r := Nat.le_trans hb.size hr0
  have HR := Lib.hid hR; clear hR
  have C := u8_of r w2 _ _ (number_ok r 1 [1, 2, 3] w2 HR.out (by decide) (by decide))
  rw [num_1] at C
  have HC := Lib.hid C; clear C
  go_wp2_with fail
  refine HC.out.mono ?_
  rintro e w3 ⟨rfl, hR3, hg3⟩
  have hb3 := pw_below_grown hb2 (some r) hb2.size hg3 (fun k e => by cases e; exact hr1)
  have HR3 := Lib.hid hR3; clear hR3 hg3 HC
  have HC := Lib.hid (u32_of r w3 0 _ (number_bad r 4 _ _ w3 HR3.out (.inr (.inr (by decide)))))
  go_wp2_with fail
  refine HC.out.mono ?_
  rintro e w4 ⟨rfl, hR4, hg4⟩
  have hb4 := pw_below_grown hb3 (some r) hb3.size hg4 (fun k e => by cases e; exact hr1)
  have HR4 := Lib.hid hR4; clear hR4 hg4 HC
  have HC := Lib.hid (u8_bad r _ _ w4 HR4.out (.inl rfl))
  go_wp2_with fail
  refine HC.out.mono ?_
  rintro e w5 ⟨rfl, hR5, hg5⟩
  have hb5 := pw_below_grown hb4 (some r) hb4.size hg5 (fun k e => by cases e; exact hr1)
  have HR5 := Lib.hid hR5; clear hR5 hg5 HC
  go_wp2_with fail
  refine (read_walk _ [9] 1 1 _ (reads_lit w5 .u8 [9] 5 (0, 0) 1 rfl (by decide)) (by decide)).mono ?_
  rintro e w6 ⟨s, hs, rfl, hS, hb6⟩
  have hs0 : w5.heap.size ≤ s := by simp at hs; omega
  have hne : r ≠ s := by have := HR5.out.lt; omega
  have hs1 : w.heap.size ≤ s := Nat.le_trans hb5.size hs0
  have HR6 := Lib.hid (HR5.out.below (K.below_box hb6))
  have hb6 := below_then hb5 hb5.size (K.below_box hb6)
  have HS := Lib.hid hS; clear hS
  have HC := Lib.hid (bytes_bad s (-1) _ _ w6 HS.out (.inr (.inl (by decide))))
  go_wp2_with fail
  refine HC.out.mono ?_
  rintro e w7 ⟨rfl, hS7, hg7⟩
  have HR7 := Lib.hid (HR6.out.other HS.out hne hg7)
  have hb7 := pw_below_grown hb6 (some s) hb6.size hg7 (fun k e => by cases e; exact hs1)
  have HS7 := Lib.hid hS7; clear hS7 hg7 HC
  have HC := Lib.hid (end_walk r w7 _ _ HR7.out)
  go_wp2_with fail
  refine HC.out.mono ?_
  rintro e w8 ⟨rfl, rfl⟩
  have HC := Lib.hid (u8_bad s _ _ w7 HS7.out (.inl rfl))
  go_wp2_with fail
  refine HC.out.mono ?_
  rintro e w9 ⟨rfl, hS9, hg9⟩
  have hb9 := pw_below_grown hb7 (some s) hb7.size hg9 (fun k e => by cases e; exact hs1)
  have HS9 := Lib.hid hS9; clear hS9 hg9 HC
  have HC := Lib.hid (end_walk s w9 _ _ HS9.out)
  go_wp2_with fail
  refine HC.out.mono ?_
  rintro e w10 ⟨rfl, rfl⟩
  go_wp2_with fail
  refine (read_walk none [] 0 0 _ (reads_nil w9 .u8) (by decide)).mono ?_
  rintro e w11 ⟨q, hq, rfl, hQ, hb11⟩
  have hb11 := below_then hb9 hb9.size hb11
  have HQ := Lib.hid hQ; clear hQ
  have HC := Lib.hid (end_walk q w11 _ _ HQ.out)
  go_wp2_with fail
  refine HC.out.mono ?_
  rintro e w12 ⟨rfl, rfl⟩
  have HC := Lib.hid (wU16_walk none [] 0 0 65537 w11 (reads_nil w11 .u8) (by decide))
  go_wp2_with fail
  refine HC.out.mono ?_
  rintro e w13 ⟨A1, c1, rfl, hown, hb13⟩
  have hb13 := below_then hb11 hb11.size hb13
  have ks := own_string (P := Try.prog) (src := 22) (dst := 9) Try.underlying22 Try.underlying5 Try.underlying9 hown
  rw [show strOfNums ([] ++ bes (65537 % 18446744073709551616) 2 2) = ⟨#[0, 1]⟩ by decide +kernel] at ks
  clear hown HC
  go_wp2_with fail
  go_ret
  exact ⟨rfl, hb13⟩
end Go.Proofs.Ytjclimelachagaa
