/- Walks of package ring: Done, Round. -/
import Derived.Test.YtjidjbjbngbhpaaRingA
import Derived.Test.YtjidjbjbngbhpaaWideR
import Derived.Deep.QuietTactic
import Derived.BigQuiet
set_option linter.unusedVariables false
set_option linter.unusedSimpArgs false
namespace Go.Proofs.Ytjidjbjbngbhpaa
open Go.RowKit Go.Proofs.YtjidjbjbngbhpaaW.PrintWords Go.Proofs.Ytjidjbjbngbhpaa.K

abbrev rgC (place n : Int) (L C : Value) (round : Int) (told taken : Bool) : Array Value := #[.int .i64 place, .int .i64 n, L, C, .int .i64 round, .bool told, .bool taken]
theorem rgC_cells {w : World} {r : Nat} {place n : Int} {L C : Value} {round : Int} {told taken : Bool} {ty : TypeId} (h : w.heap[r]? = some (.cells (rgC place n L C round told taken) ty (0, 0))) :
    w.cell? ⟨r, 0, none⟩ = some (.int .i64 place) ∧ w.cell? ⟨r, 1, none⟩ = some (.int .i64 n) ∧ w.cell? ⟨r, 2, none⟩ = some L ∧ w.cell? ⟨r, 3, none⟩ = some C ∧ w.cell? ⟨r, 4, none⟩ = some (.int .i64 round) ∧ w.cell? ⟨r, 5, none⟩ = some (.bool told) ∧ w.cell? ⟨r, 6, none⟩ = some (.bool taken) := by
  simp [World.cell?, h]
theorem round_walk (w : World) (r : Nat) (place n : Int) (L C : Value) (round : Int) (told taken : Bool) (h : w.heap[r]? = some (.cells (rgC place n L C round told taken) 54 (0, 0))) : Calls Try.prog 15 #[.pointer (some ⟨r, 0, none⟩)] w fun e w' => e = .returned (.int .i64 round) ∧ w = w' := by
  obtain ⟨c0, c1, c2, c3, c4, c5, c6⟩ := rgC_cells h
  clear h
  go_enter Try.func15, Try.ntmps15
  go_wp2
  go_ret
  exact ⟨rfl, rfl⟩
set_option maxHeartbeats 1000000 in
theorem done_walk (w : World) (r : Nat) (place n : Int) (L C : Value) (round : Int) (told taken : Bool) (h : w.heap[r]? = some (.cells (rgC place n L C round told taken) 54 (0, 0))) (hn : 1 ≤ n ∧ n ≤ 16) : Calls Try.prog 13 #[.pointer (some ⟨r, 0, none⟩)] w fun e w' => e = .returned (.bool (decide (2 * n - 3 < round))) ∧ Below w.heap.size w w' := by
  obtain ⟨c0, c1, c2, c3, c4, c5, c6⟩ := rgC_cells h
  have h1 : IntKind.i64.wrap (2 * n) = 2 * n := by rw [IntKind.wrap_i64]; omega
  have h2 : IntKind.i64.wrap (2 * n - 3) = 2 * n - 3 := by rw [IntKind.wrap_i64]; omega
  clear h hn c0 c2 c3 c5 c6
  go_enter Try.func13, Try.ntmps13
  go_wp2_with fail
  go_quiet (fail)
  go_wp2_with fail
  go_ret
  exact ⟨by first | rfl | simp, pw_below_drewN (Below.refl _ _) _⟩
end Go.Proofs.Ytjidjbjbngbhpaa
