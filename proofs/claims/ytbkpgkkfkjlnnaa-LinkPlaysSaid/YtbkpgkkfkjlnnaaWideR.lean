/- slices.Clone of Wide numbers: a row of its own. -/
import Derived.Test.YtbkpgkkfkjlnnaaRows
import Derived.Test.YtbkpgkkfkjlnnaaK
import Derived.Test.YtbkpgkkfkjlnnaaMsgW
import Derived.Outline
import Derived.Maps.AppendAt
set_option linter.unusedVariables false
set_option linter.unusedSimpArgs false
namespace Go.Proofs.Ytbkpgkkfkjlnnaa
open Go.RowKit Go.Proofs.YtbkpgkkfkjlnnaaW.PrintWords Go.Proofs.Ytbkpgkkfkjlnnaa.K

theorem wide_empty {w : World} {base R : Nat} (h : w.heap[R]? = some (.cells #[] 79 (0, 0))) (hb : base ≤ R) : w.ownsRow base 79 2 (.slice (some ⟨R, 0, none⟩) 0 0) 0 [] :=
  ⟨rfl, .inr ⟨R, 0, #[], rfl, hb, h, Nat.le_refl _, by decide, rfl, rfl⟩⟩
theorem infoWd : ∃ i, Try.prog.info? 79 = some i ∧ i.zero = some (.agg #[.int .i64 0, .int .u64 0]) ∧ i.size = 2 ∧ i.bytes = 16 := by
  have h : (Try.prog.info? 79).map (fun i => (i.zero, i.size, i.bytes)) = some (some (.agg #[.int .i64 0, .int .u64 0]), 2, 16) := by kernel_rfl
  obtain ⟨i, hi, h⟩ := Option.map_eq_some_iff.1 h
  simp only [Prod.mk.injEq] at h
  exact ⟨i, hi, h.1, h.2.1, h.2.2⟩
theorem wides_news {w : World} {ad : Addr} {n : Nat} {l : List (Int × Int)} (h : WidesAt w (some ad) n l) : ∀ j u, (wides l)[j]? = some u → w.cell? (ad.add j) = some u := by
  intro j u hu
  have hj : j < l.length * 2 := by
    rw [← wides_len]; exact (List.getElem?_eq_some_iff.1 hu).1
  obtain ⟨ad', e, h1, h2⟩ := h.2.2 (j / 2) (by rw [← h.1]; omega)
  cases e
  have hw := wides_at l (j / 2) (by omega)
  rcases Nat.mod_two_eq_zero_or_one j with hm | hm
  · have e : j = j / 2 * 2 := by omega
    rw [e, hw.1] at hu
    injection hu with hu
    rw [e, h1, hu]
  · have e : j = j / 2 * 2 + 1 := by omega
    rw [e, hw.2] at hu
    injection hu with hu
    have h3 : ad.add (j / 2 * 2 + 1) = ⟨(ad.add (j / 2 * 2)).block, (ad.add (j / 2 * 2)).off + 1, none⟩ := by
      unfold Addr.add
      rw [if_neg (by omega)]
      by_cases h0 : j / 2 * 2 = 0
      · rw [if_pos h0, h0]
      · rw [if_neg h0]; simp [Nat.add_assoc]
    rw [e, h3, h2, hu]
theorem wclone_walk (A : Option Addr) (n c : Nat) (l : List (Int × Int)) (w : World) (h : WidesAt w A n l) (hn : n ≤ 1000000) (hA : A = none → n = 0 ∧ c = 0) :
    Calls Try.prog 38 #[.slice A n c] w fun e w' => ∃ A1 c1, e = .returned (.slice A1 n c1) ∧ w'.ownsRow w.heap.size 79 2 (.slice A1 n c1) n (wides l) ∧ Below w.heap.size w w' := by
  have HL := Lib.hid h
  rcases A with _ | ad
  · obtain ⟨rfl, rfl⟩ := hA rfl
    have hx : l = [] := List.eq_nil_of_length_eq_zero h.1
    subst hx
    clear h hA
    have e1 : ∀ W : World, (binOp .eql 30 (.slice none 0 0) (.slice none 0 0)).run Try.prog W = .ok (.bool true) W := fun W => by kernel_rfl
    go_enter Try.func38, Try.ntmps38
    go_wp2_with fail
    go_ret
    exact ⟨none, 0, rfl, ⟨rfl, .inl ⟨rfl, rfl⟩⟩, Below.refl _ _⟩
  · clear h hA
    have e1 : ∀ W : World, (binOp .eql 30 (.slice (some ad) n c) (.slice none 0 0)).run Try.prog W = .ok (.bool false) W := fun W => by kernel_rfl
    obtain ⟨w0, hw0⟩ : ∃ w0, w0 = w.alloc (.cells #[] 79) := ⟨_, rfl⟩
    have hb0 : Below w.heap.size w w0 := by rw [hw0]; exact (Below.refl _ _).alloc (Nat.le_refl _) _
    have ho0 : w0.ownsRow w.heap.size 79 2 (.slice (some ⟨w.heap.size, 0, none⟩) 0 0) 0 [] := wide_empty (by rw [hw0]; exact heap_alloc_new _ _) (Nat.le_refl _)
    have HB := Lib.hid hb0; have HO := Lib.hid ho0; have HW0 := Lib.hid hw0.symm
    obtain ⟨i0, hi0, hz0, hz1, hz2⟩ := infoWd
    have HI := Lib.hid (And.intro hi0 (And.intro hz0 (And.intro hz1 hz2)))
    clear hb0 ho0 hw0 hi0 hz0 hz1 hz2
    go_enter Try.func38, Try.ntmps38
    go_wp2_with (first | (at_builtin; (try rw [HW0.out]); refine wpList_append_own_at w0 rfl (.tmp 5) (.tmp 6) 30 rfl w.heap.size 79 i0 _ 2 16 Try.underlying30 HI.out.1 HI.out.2.1 HI.out.2.2.1 HI.out.2.2.2 rfl (by decide) _ 0 [] rfl HO.out ad n c (wides l) rfl (by rw [wides_len, HL.out.1]) (wides_news (HL.out.below HB.out)) (wides_one l) (by unfold maxLen; omega) (by omega) HB.out.size ?_; intro v1 w1 hown hg _ _; have HV := Lib.hid hown; have HG := Lib.hid hg; clear hown hg; obtain ⟨A1, c1, rfl⟩ := own_slice HV.out))
    go_ret
    exact ⟨A1, c1, rfl, by simpa using HV.out, pw_below_grown HB.out _ HB.out.size HG.out (own_base HO.out)⟩
end Go.Proofs.Ytbkpgkkfkjlnnaa
