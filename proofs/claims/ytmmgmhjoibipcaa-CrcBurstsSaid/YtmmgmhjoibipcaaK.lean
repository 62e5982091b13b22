/- Words of mine on readings: what an argument of a shape says of memory. No program. -/
import Derived.Test.YtmmgmhjoibipcaaWWords
import Derived.Deep.Slices
import Derived.ProofKit
import Derived.OpenShut
import Derived.Lib.Hide
set_option linter.unusedVariables false
set_option linter.unusedSimpArgs false
namespace Go.Proofs.Ytmmgmhjoibipcaa.K
open Go.RowKit Go.Proofs.YtmmgmhjoibipcaaW.PrintWords Go.ChangeShapes Go.WideShapes Go.Deep

theorem reads_nil (w : World) (k : IntKind) : ReadsInt w k none 0 [] := ⟨rfl, by decide, fun h => absurd h (by decide)⟩
theorem reads_lit (w : World) (k : IntKind) (xs : List Int) (e : TypeId) (fr : Nat × Nat) (n : Nat) (hn : xs.length = n) (hm : n ≤ 9223372036854775807) :
    ReadsInt (w.alloc (.cells (nums k xs).toArray e fr)) k (some ⟨w.heap.size, 0, none⟩) n xs := by
  refine ⟨hn, hm, fun _ => ⟨_, rfl, fun j hj => ?_⟩⟩
  rw [Go.Proofs.YtmmgmhjoibipcaaW.PrintWords.add_plain, World.cell?_alloc_mark]
  simp [nums, List.getElem?_eq_getElem (show j < xs.length by omega), List.getD_eq_getElem?_getD]
theorem reads_at {w : World} {k : IntKind} {A : Option Addr} {n : Nat} {xs : List Int} (h : ReadsInt w k A n xs) (i : Nat) (hi : i < n) : ∃ ad, A = some ad ∧ w.cell? (ad.add i) = some (.int k (xs.getD i 0)) := by
  obtain ⟨ad, e, hc⟩ := h.2.2 (by omega)
  exact ⟨ad, e, hc i hi⟩

section
variable {H : Type} {enc : TypeId × Value → H} {P : Program} {w : World} {base : Nat} {spare : Nat → Bool} {held : Bool}
/-- A slice of whole numbers, as an element of something. -/
theorem open_nums {e b : TypeId} {k : IntKind} {fuel : Nat} {v : Value} {x : DataW H × List MemPlace} (he : P.underlying e = some (.slice b)) (hb : P.underlying b = some (.int k)) (hc : P.cellsOf b = 1)
    (h : DataW.trod enc P w base spare held fuel e [v] = some x) : ∃ A n c zs, v = .slice A n c ∧ ReadsInt w k A n zs ∧ (∀ y ∈ zs, (Lit.int k y).wf = true) ∧ n ≤ c := by
  rcases open_ints he hb hc h with ⟨hcs, _⟩ | ⟨a, l, c, zs, hcs, _, hl, hm, hz, _, hcell, hwz⟩
  · simp only [List.cons.injEq, and_true] at hcs
    subst hcs
    exact ⟨none, 0, 0, [], rfl, reads_nil _ _, by simp, Nat.le_refl _⟩
  · simp only [List.cons.injEq, and_true] at hcs
    subst hcs
    have hle : l ≤ zs.length := by rw [hz]; split <;> omega
    simp only [maxLen] at hm
    refine ⟨_, _, _, zs.take l, rfl, ⟨by rw [List.length_take]; omega, by omega, fun _ => ⟨a, rfl, fun j hj => ?_⟩⟩, fun y hy => hwz y (List.mem_of_mem_take hy), hl⟩
    rw [hcell j (by omega)]
    simp [List.getD_eq_getElem?_getD, hj]
/-- A slice of such slices: at each index a slice of whole numbers. -/
def Rows (w : World) (k : IntKind) (A : Option Addr) (n : Nat) (R : Nat → List Int) : Prop :=
  n ≤ 9223372036854775807 ∧ ∀ i, i < n → ∃ ad B m c, A = some ad ∧ w.cell? (ad.add i) = some (.slice B m c) ∧ ReadsInt w k B m (R i) ∧ (∀ y ∈ R i, (Lit.int k y).wf = true) ∧ m ≤ c
theorem open_rows {t e b : TypeId} {k : IntKind} {v : Value} {d : DataW H} {ps : List MemPlace} (ht : P.underlying t = some (.slice e)) (he : P.underlying e = some (.slice b)) (hb : P.underlying b = some (.int k)) (hc1 : P.cellsOf e = 1) (hc2 : P.cellsOf b = 1)
    {r : Reach} {b0 : Nat} (hval : Value.okWide P w r b0 t v) (h : DataW.Trod enc P w base spare held t v d ps) : ∃ A n c R, v = .slice A n c ∧ Rows w k A n R ∧ n ≤ c := by
  obtain ⟨a, n, c, rfl⟩ := okWide_slice ht hval
  obtain ⟨fuel, hf⟩ := h
  rcases open_slice1 ht hc1 hf with ⟨hcs, _⟩ | ⟨ad, l, cap, m, f2, V, D, Pl, hcs, _, hl, hm, hmm, _, hx⟩
  · simp [Value.cells] at hcs
    obtain ⟨rfl, rfl, rfl⟩ := hcs
    exact ⟨none, 0, 0, fun _ => [], rfl, ⟨by decide, fun i hi => by omega⟩, Nat.le_refl _⟩
  · simp [Value.cells] at hcs
    obtain ⟨rfl, rfl, rfl⟩ := hcs
    simp only [maxLen] at hm
    have hlm : n ≤ m := by rw [hmm]; split <;> omega
    have key : ∀ i, ∃ zs : List Int, i < n → ∃ B mm cc, w.cell? (ad.add i) = some (.slice B mm cc) ∧ ReadsInt w k B mm zs ∧ (∀ y ∈ zs, (Lit.int k y).wf = true) ∧ mm ≤ cc := by
      intro i
      by_cases hi : i < n
      · obtain ⟨h1, h2⟩ := hx i (by omega)
        obtain ⟨B, mm, cc, zs, hv, h3, h4, h5⟩ := open_nums he hb hc2 h2
        exact ⟨zs, fun _ => ⟨B, mm, cc, by rw [h1, hv], h3, h4, h5⟩⟩
      · exact ⟨[], fun h => absurd h hi⟩
    classical
    refine ⟨some ad, n, c, fun i => Classical.choose (key i), rfl, ⟨by omega, fun i hi => ?_⟩, hl⟩
    obtain ⟨B, mm, cc, h1, h2⟩ := Classical.choose_spec (key i) hi
    exact ⟨ad, B, mm, cc, rfl, h1, h2⟩
/-- An array of whole numbers, by value. -/
theorem open_arr {t e : TypeId} {k : IntKind} {m : Nat} {v : Value} {d : DataW H} {ps : List MemPlace} (ht : P.underlying t = some (.array m e)) (he : P.underlying e = some (.int k)) (hc : P.cellsOf e = 1)
    {r : Reach} {b0 : Nat} (hval : Value.okWide P w r b0 t v) (h : DataW.Trod enc P w base spare held t v d ps) (hC : P.cellsOf t = m) : ∃ zs : List Int, v = .agg (nums k zs).toArray ∧ zs.length = m ∧ ∀ y ∈ zs, (Lit.int k y).wf = true := by
  simp only [Value.okWide, ht] at hval
  obtain ⟨cs, rfl, hsz, _⟩ := hval
  obtain ⟨fuel, hf⟩ := h
  obtain ⟨xs, f2, _, _, _, hl, hx⟩ := DataW.trod_array ht hf
  rw [hc] at hx
  have key : ∀ i, ∃ z : Int, i < m → cs[i]? = some (.int k z) ∧ (Lit.int k z).wf = true := by
    intro i
    by_cases hi : i < m
    · have h1 := hx i hi
      have hi2 : i < cs.size := by omega
      rw [Nat.mul_one, List.getElem?_eq_getElem (by omega)] at h1
      obtain ⟨z, h2, _, h3⟩ := DataW.trod_int he h1
      refine ⟨z, fun _ => ⟨?_, h3⟩⟩
      have e1 : ((Value.agg cs).cells.toList.drop i).take 1 = [cs[i]] := by
        simp only [Value.cells]
        rw [List.drop_eq_getElem_cons (by simpa using hi2)]
        simp
      rw [e1] at h2
      simp only [List.cons.injEq, and_true] at h2
      rw [Array.getElem?_eq_getElem hi2, h2]
    · exact ⟨0, fun h => absurd h hi⟩
  classical
  refine ⟨(List.range m).map fun i => Classical.choose (key i), ?_, by simp, ?_⟩
  · congr 1
    apply Array.ext'
    apply List.ext_getElem?
    intro i
    by_cases hi : i < m
    · have := (Classical.choose_spec (key i) hi).1
      rw [Array.getElem?_toList, this]
      simp [nums, hi]
    · rw [List.getElem?_eq_none (by simp; omega), List.getElem?_eq_none (by simp [nums]; omega)]
  · intro y hy
    obtain ⟨i, hi, rfl⟩ := List.mem_map.1 hy
    exact (Classical.choose_spec (key i) (List.mem_range.1 hi)).2
end
theorem Rows.below {w w1 : World} {k : IntKind} {A : Option Addr} {n : Nat} {R : Nat → List Int} (h : Rows w k A n R) (hb : Below w.heap.size w w1) : Rows w1 k A n R :=
  ⟨h.1, fun i hi => by
    obtain ⟨ad, B, m, c, h1, h2, h3, h4⟩ := h.2 i hi
    exact ⟨ad, B, m, c, h1, pw_cell_below hb h2, h3.below hb, h4⟩⟩
end Go.Proofs.Ytmmgmhjoibipcaa.K
