/- Ring: rows of zero numbers. -/
import Derived.Test.YtjidjbjbngbhpaaRingO
set_option linter.unusedVariables false
set_option linter.unusedSimpArgs false
namespace Go.Proofs.Ytjidjbjbngbhpaa
open Go.RowKit Go.Proofs.YtjidjbjbngbhpaaW.PrintWords Go.Proofs.Ytjidjbjbngbhpaa.K

theorem wides_rep (m : Nat) : (madeCells #[.int .i64 0, .int .u64 0] (m * 2)).toList = wides (List.replicate m (0, 0)) := by
  apply List.ext_getElem?
  intro i
  by_cases hi : i < m * 2
  · have hq : i / 2 < m := by omega
    have h := wides_at (List.replicate m ((0 : Int), (0 : Int))) (i / 2) (by simpa using hq)
    have e : (List.replicate m ((0 : Int), (0 : Int))).getD (i / 2) (0, 0) = (0, 0) := by simp [List.getD_eq_getElem?_getD, hq]
    rw [e] at h
    rcases Nat.mod_two_eq_zero_or_one i with h0 | h0
    · have e2 : i / 2 * 2 = i := by omega
      rw [e2] at h
      rw [h.1]
      simp [madeCells, hi, h0]
    · have e2 : i / 2 * 2 + 1 = i := by omega
      rw [e2] at h
      rw [h.2]
      simp [madeCells, hi, h0]
  · rw [List.getElem?_eq_none (by simp [size_madeCells]; omega), List.getElem?_eq_none (by rw [wides_len]; simp; omega)]
theorem made_wides (W : World) (m : Nat) (hm : m ≤ 100000) : WidesAt (W.alloc (.cells (madeCells #[.int .i64 0, .int .u64 0] (m * 2)) 33)) (some ⟨W.heap.size, 0, none⟩) m (List.replicate m (0, 0)) := by
  have h := wides_lit W (List.replicate m (0, 0)) 33 (0, 0) m (by simp) (by omega)
  rw [← wides_rep] at h
  simpa using h
theorem make_wides (m : Nat) (hm : m ≤ 100000) (W : World) : (Instr.makeSlice 25 (.int .i64 (m : Int)) (.int .i64 (m : Int))).run Try.prog W = .ok (.slice (some ⟨W.heap.size, 0, none⟩) m m) (W.alloc (.cells (madeCells #[.int .i64 0, .int .u64 0] (m * 2)) 33)) := by
  obtain ⟨i, hi, hz, hs, hb⟩ := infoWd
  have := run_make (P := Try.prog) W 25 33 i _ Try.underlying25 hi hz .i64 .i64 m m (by omega) (Int.le_refl _) (by rw [hb]; omega) (by omega)
  simp only [Int.toNat_natCast, hs] at this
  exact this
def objW (m : Nat) : Obj := .cells (madeCells #[.int .i64 0, .int .u64 0] (m * 2)) 33
theorem make_objW (m : Nat) (hm : m ≤ 100000) (W : World) : (Instr.makeSlice 25 (.int .i64 (m : Int)) (.int .i64 (m : Int))).run Try.prog W = .ok (.slice (some ⟨W.heap.size, 0, none⟩) m m) (W.alloc (objW m)) := make_wides m hm W
theorem made_objW (W : World) (m : Nat) (hm : m ≤ 100000) : WidesAt (W.alloc (objW m)) (some ⟨W.heap.size, 0, none⟩) m (List.replicate m (0, 0)) := made_wides W m hm
theorem rep_wf (m : Nat) : ∀ p ∈ List.replicate m ((0 : Int), (0 : Int)), WwfP p := fun p hp => by
  rw [List.eq_of_mem_replicate hp]
  exact ⟨by decide, by decide⟩
end Go.Proofs.Ytjidjbjbngbhpaa
