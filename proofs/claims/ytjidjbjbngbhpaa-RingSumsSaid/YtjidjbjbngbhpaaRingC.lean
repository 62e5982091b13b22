/- Walks of package ring: next. -/
import Derived.Test.YtjidjbjbngbhpaaRingB
set_option linter.unusedVariables false
set_option linter.unusedSimpArgs false
namespace Go.Proofs.Ytjidjbjbngbhpaa
open Go.RowKit Go.Proofs.YtjidjbjbngbhpaaW.PrintWords Go.Proofs.Ytjidjbjbngbhpaa.K

theorem frozr {w : World} {r : Nat} {cs : Array Value} {ty : TypeId} (h : w.heap[r]? = some (.cells cs ty (0, 0))) (j : Nat) : w.frozen? ⟨r, j, none⟩ = false := by simp [World.frozen?, h]
theorem next_no (w : World) (r : Nat) (place n : Int) (L C : Value) (round : Int) (told taken : Bool) (h : w.heap[r]? = some (.cells (rgC place n L C round told taken) 54 (0, 0))) (hb : (told && taken) = false) : Calls Try.prog 22 #[.pointer (some ⟨r, 0, none⟩)] w fun e w' => e = .returned (.tuple #[]) ∧ w = w' := by
  obtain ⟨c0, c1, c2, c3, c4, c5, c6⟩ := rgC_cells h
  clear h
  cases told with
  | false =>
    clear hb
    go_enter Try.func22, Try.ntmps22
    go_wp2
    go_end0
    exact ⟨rfl, rfl⟩
  | true =>
    cases taken with
    | true => cases hb
    | false =>
      clear hb
      go_enter Try.func22, Try.ntmps22
      go_wp2
      go_end0
      exact ⟨rfl, rfl⟩
theorem next_ok (w : World) (r : Nat) (place n : Int) (L C : Value) (round : Int) (h : w.heap[r]? = some (.cells (rgC place n L C round true true) 54 (0, 0))) (hr : 0 ≤ round ∧ round ≤ 1000) : Calls Try.prog 22 #[.pointer (some ⟨r, 0, none⟩)] w fun e w' => e = .returned (.tuple #[]) ∧ w'.heap[r]? = some (.cells (rgC place n L C (round + 1) false false) 54 (0, 0)) ∧ w.grownBy w' (some r) := by
  obtain ⟨c0, c1, c2, c3, c4, c5, c6⟩ := rgC_cells h
  have f4 := frozr h 4
  have f5 := frozr h 5
  have f6 := frozr h 6
  have H := Lib.hid h
  clear h
  go_enter Try.func22, Try.ntmps22
  go_wp2
  go_end0
  exact ⟨rfl, by rw [heap_set _ (heap_set _ (heap_set _ H.out))]; rfl, World.grownBy.trans (World.grownBy.trans (grown_set _) (grown_set _)) (grown_set _)⟩
end Go.Proofs.Ytjidjbjbngbhpaa
