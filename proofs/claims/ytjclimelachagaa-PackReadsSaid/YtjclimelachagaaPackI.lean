/- The walk of PackReads. Printed by a program of mine (genreads.py), case by case. -/
import Derived.Test.YtjclimelachagaaPackG0
import Derived.Deep.QuietTactic
import Derived.BigQuiet
set_option linter.unusedVariables false
set_option linter.unusedSimpArgs false
namespace Go.Proofs.Ytjclimelachagaa
open Go.RowKit Go.Proofs.YtjclimelachagaaW.PrintWords Go.Proofs.Ytjclimelachagaa.K

theorem and7 (v : Int) : bits .and .i64 v 7 = v % 8 := by
  have h1 : (BitVec.ofInt 64 v &&& BitVec.ofInt 64 7).toNat = (v % 18446744073709551616).toNat % 8 := by
    rw [BitVec.toNat_and, BitVec.toNat_ofInt, BitVec.toNat_ofInt]
    exact Nat.and_two_pow_sub_one_eq_mod _ 3
  have h2 : bits .and .i64 v 7 = IntKind.i64.wrap ((BitVec.ofInt 64 v &&& BitVec.ofInt 64 7).toNat : Int) := rfl
  rw [h2, h1, IntKind.wrap_i64]
  omega
/-- What the reader has, and whether it is spoilt. -/
def left (xs : List Int) (at_ : Nat) (bad : Bool) : List Int := if bad then [] else xs.drop at_
/-- What holds at a round's head. -/
def St (W : World) (r : Nat) (xs : List Int) (at_ : Nat) (bad : Bool) (w : World) : Prop := Below W.heap.size W w ∧ Rdr w r (left xs at_ bad) bad
theorem St.alloc {W w : World} {r : Nat} {xs : List Int} {at_ : Nat} {bad : Bool} (h : St W r xs at_ bad w) (o : Obj) : St W r xs at_ bad (w.alloc o) := ⟨h.1.alloc h.1.size o, h.2.below ((Below.refl _ _).alloc (Nat.le_refl _) o)⟩
theorem St.drewN {W w : World} {r : Nat} {xs : List Int} {at_ : Nat} {bad : Bool} (h : St W r xs at_ bad w) (m : Nat) : St W r xs at_ bad (w.drewN m) := ⟨pw_below_drewN h.1 m, h.2.below (pw_below_drewN (Below.refl _ _) m)⟩
theorem St.grown {W w w' : World} {r : Nat} {xs : List Int} {at_ at' : Nat} {bad bad' : Bool} (hr : W.heap.size ≤ r) (h : St W r xs at_ bad w) (h2 : Rdr w' r (left xs at' bad') bad') (hg : w.grownBy w' (some r)) : St W r xs at' bad' w' :=
  ⟨pw_below_grown h.1 (some r) h.1.size hg (fun k e => by cases e; exact hr), h2⟩
theorem numU_atU (xs : List Int) (a n : Nat) : numU 0 ((xs.drop a).take n) = atU xs a n := rfl
theorem end_st {W w : World} {r : Nat} {xs : List Int} {at_ : Nat} {bad : Bool} (h : St W r xs at_ bad w) (ha : at_ ≤ xs.length) : Calls Try.prog 15 #[.pointer (some ⟨r, 0, none⟩)] w fun e w' => e = .returned (.bool (!bad && ((at_ : Int) == (xs.length : Int)))) ∧ w = w' := by
  have C := end_walk r w _ _ h.2
  have e : (!bad && (left xs at_ bad).isEmpty) = (!bad && ((at_ : Int) == (xs.length : Int))) := by
    cases bad with
    | true => rfl
    | false =>
      simp only [left, Bool.false_eq_true, if_false, Bool.not_false, Bool.true_and]
      rw [Bool.eq_iff_iff]
      simp only [List.isEmpty_iff, List.drop_eq_nil_iff, beq_iff_eq]
      omega
  rw [e] at C
  exact C

theorem U8_st {W w : World} {r : Nat} {xs : List Int} {at_ : Nat} (hr : W.heap.size ≤ r) (h : St W r xs at_ false w) (ha : at_ + 1 ≤ xs.length) (hx : xs.length ≤ 1000000) : Calls Try.prog 10 #[.pointer (some ⟨r, 0, none⟩)] w fun e w' => e = .returned (.int .i64 (wrap64 (atU xs at_ 1))) ∧ St W r xs (at_ + 1) false w' := by
  have C := u8_of r w _ _ (number_ok r 1 _ w h.2 (by simp [left]; omega) (by simp [left]; omega))
  refine C.mono ?_
  rintro e w' ⟨rfl, h1, h2⟩
  refine ⟨rfl, h.grown hr ?_ h2⟩
  simpa [left, List.drop_drop] using h1
theorem U8_st0 {W w : World} {r : Nat} {xs : List Int} {at_ : Nat} {bad : Bool} (hr : W.heap.size ≤ r) (h : St W r xs at_ bad w) (ha : bad = true ∨ xs.length < at_ + 1) (hl : at_ ≤ xs.length) : Calls Try.prog 10 #[.pointer (some ⟨r, 0, none⟩)] w fun e w' => e = .returned (.int .i64 0) ∧ St W r xs at_ true w' := by
  have C := u8_of r w _ _ (number_bad r 1 _ bad w h.2 (by
    rcases ha with h1 | h1
    · exact .inl h1
    · cases bad with
      | true => exact .inl rfl
      | false => right; right; simp [left]; omega))
  refine C.mono ?_
  rintro e w' ⟨rfl, h1, h2⟩
  exact ⟨by rw [show wrap64 0 = 0 by decide +kernel], h.grown hr h1 h2⟩

theorem U16_st {W w : World} {r : Nat} {xs : List Int} {at_ : Nat} (hr : W.heap.size ≤ r) (h : St W r xs at_ false w) (ha : at_ + 2 ≤ xs.length) (hx : xs.length ≤ 1000000) : Calls Try.prog 11 #[.pointer (some ⟨r, 0, none⟩)] w fun e w' => e = .returned (.int .i64 (wrap64 (atU xs at_ 2))) ∧ St W r xs (at_ + 2) false w' := by
  have C := u16_of r w _ _ (number_ok r 2 _ w h.2 (by simp [left]; omega) (by simp [left]; omega))
  refine C.mono ?_
  rintro e w' ⟨rfl, h1, h2⟩
  refine ⟨rfl, h.grown hr ?_ h2⟩
  simpa [left, List.drop_drop] using h1
theorem U16_st0 {W w : World} {r : Nat} {xs : List Int} {at_ : Nat} {bad : Bool} (hr : W.heap.size ≤ r) (h : St W r xs at_ bad w) (ha : bad = true ∨ xs.length < at_ + 2) (hl : at_ ≤ xs.length) : Calls Try.prog 11 #[.pointer (some ⟨r, 0, none⟩)] w fun e w' => e = .returned (.int .i64 0) ∧ St W r xs at_ true w' := by
  have C := u16_of r w _ _ (number_bad r 2 _ bad w h.2 (by
    rcases ha with h1 | h1
    · exact .inl h1
    · cases bad with
      | true => exact .inl rfl
      | false => right; right; simp [left]; omega))
  refine C.mono ?_
  rintro e w' ⟨rfl, h1, h2⟩
  exact ⟨by rw [show wrap64 0 = 0 by decide +kernel], h.grown hr h1 h2⟩

theorem U32_st {W w : World} {r : Nat} {xs : List Int} {at_ : Nat} (hr : W.heap.size ≤ r) (h : St W r xs at_ false w) (ha : at_ + 4 ≤ xs.length) (hx : xs.length ≤ 1000000) : Calls Try.prog 12 #[.pointer (some ⟨r, 0, none⟩)] w fun e w' => e = .returned (.int .u32 (atU xs at_ 4 % 4294967296)) ∧ St W r xs (at_ + 4) false w' := by
  have C := u32_of r w _ _ (number_ok r 4 _ w h.2 (by simp [left]; omega) (by simp [left]; omega))
  refine C.mono ?_
  rintro e w' ⟨rfl, h1, h2⟩
  refine ⟨rfl, h.grown hr ?_ h2⟩
  simpa [left, List.drop_drop] using h1
theorem U32_st0 {W w : World} {r : Nat} {xs : List Int} {at_ : Nat} {bad : Bool} (hr : W.heap.size ≤ r) (h : St W r xs at_ bad w) (ha : bad = true ∨ xs.length < at_ + 4) (hl : at_ ≤ xs.length) : Calls Try.prog 12 #[.pointer (some ⟨r, 0, none⟩)] w fun e w' => e = .returned (.int .u32 0) ∧ St W r xs at_ true w' := by
  have C := u32_of r w _ _ (number_bad r 4 _ bad w h.2 (by
    rcases ha with h1 | h1
    · exact .inl h1
    · cases bad with
      | true => exact .inl rfl
      | false => right; right; simp [left]; omega))
  refine C.mono ?_
  rintro e w' ⟨rfl, h1, h2⟩
  exact ⟨by rfl, h.grown hr h1 h2⟩

theorem U64_st {W w : World} {r : Nat} {xs : List Int} {at_ : Nat} (hr : W.heap.size ≤ r) (h : St W r xs at_ false w) (ha : at_ + 8 ≤ xs.length) (hx : xs.length ≤ 1000000) : Calls Try.prog 13 #[.pointer (some ⟨r, 0, none⟩)] w fun e w' => e = .returned (.int .u64 (atU xs at_ 8)) ∧ St W r xs (at_ + 8) false w' := by
  have C := u64_of r w _ _ (number_ok r 8 _ w h.2 (by simp [left]; omega) (by simp [left]; omega))
  refine C.mono ?_
  rintro e w' ⟨rfl, h1, h2⟩
  refine ⟨rfl, h.grown hr ?_ h2⟩
  simpa [left, List.drop_drop] using h1
theorem U64_st0 {W w : World} {r : Nat} {xs : List Int} {at_ : Nat} {bad : Bool} (hr : W.heap.size ≤ r) (h : St W r xs at_ bad w) (ha : bad = true ∨ xs.length < at_ + 8) (hl : at_ ≤ xs.length) : Calls Try.prog 13 #[.pointer (some ⟨r, 0, none⟩)] w fun e w' => e = .returned (.int .u64 0) ∧ St W r xs at_ true w' := by
  have C := u64_of r w _ _ (number_bad r 8 _ bad w h.2 (by
    rcases ha with h1 | h1
    · exact .inl h1
    · cases bad with
      | true => exact .inl rfl
      | false => right; right; simp [left]; omega))
  refine C.mono ?_
  rintro e w' ⟨rfl, h1, h2⟩
  exact ⟨by rfl, h.grown hr h1 h2⟩

theorem bytes_st {W w : World} {r : Nat} {xs : List Int} {at_ n : Nat} (hr : W.heap.size ≤ r) (h : St W r xs at_ false w) (ha : at_ + n ≤ xs.length) (hx : xs.length ≤ 1000000) : Calls Try.prog 14 #[.pointer (some ⟨r, 0, none⟩), .int .i64 n] w fun e w' => ∃ A c, e = .returned (.slice A n c) ∧ ReadsInt w' .u8 A n ((xs.drop at_).take n) ∧ St W r xs (at_ + n) false w' := by
  have C := bytes_ok r n _ w h.2 (by simp [left]; omega) (by simp [left]; omega)
  refine C.mono ?_
  rintro e w' ⟨A, c, rfl, hown, h1, h2⟩
  refine ⟨A, c, rfl, by simpa [left] using (own_info hown).2.2.2.1, h.grown hr ?_ h2⟩
  simpa [left, List.drop_drop] using h1
theorem bytes_st0 {W w : World} {r : Nat} {xs : List Int} {at_ : Nat} {n : Int} {bad : Bool} (hr : W.heap.size ≤ r) (h : St W r xs at_ bad w) (ha : bad = true ∨ n < 0 ∨ (xs.length : Int) < at_ + n) (hl : at_ ≤ xs.length) : Calls Try.prog 14 #[.pointer (some ⟨r, 0, none⟩), .int .i64 n] w fun e w' => e = .returned (.slice none 0 0) ∧ St W r xs at_ true w' := by
  have C := bytes_bad r n _ bad w h.2 (by
    rcases ha with h1 | h1 | h1
    · exact .inl h1
    · exact .inr (.inl h1)
    · cases bad with
      | true => exact .inl rfl
      | false => right; right; simp [left]; omega)
  refine C.mono ?_
  rintro e w' ⟨rfl, h1, h2⟩
  exact ⟨rfl, h.grown hr h1 h2⟩
end Go.Proofs.Ytjclimelachagaa
