/- Walks of package net: New, Len. -/
import Derived.Test.YtenbjmgmgdkapaaRows
import Derived.Test.YtenbjmgmgdkapaaK
import Derived.Outline
import Derived.Maps.Own
import Derived.Carry
set_option linter.unusedVariables false
set_option linter.unusedSimpArgs false
namespace Go.Proofs.Ytenbjmgmgdkapaa
open Go.RowKit Go.Proofs.YtenbjmgmgdkapaaW.PrintWords Go.Proofs.Ytenbjmgmgdkapaa.K

set_option maxHeartbeats 1000000 in
theorem new_bad (room : Int) (w : World) (h : room < 1 ∨ 65536 < room) : Calls Try.prog 9 #[.int .i64 room] w fun e w' => e = .returned (.tuple #[.pointer none, .int .i64 1]) ∧ w = w' := by
  have HH := Lib.hid h; clear h
  by_cases h1 : room < 1
  · go_enter Try.func9, Try.ntmps9
    go_wp2
    go_ret2
    exact ⟨rfl, rfl⟩
  by_cases h2 : 65536 < room
  · go_enter Try.func9, Try.ntmps9
    go_wp2
    go_ret2
    exact ⟨rfl, rfl⟩
  exact absurd HH.out (by omega)
set_option maxHeartbeats 1000000 in
theorem new_ok (room : Int) (w : World) (h1 : 1 ≤ room) (h2 : room ≤ 65536) : Calls Try.prog 9 #[.int .i64 room] w fun e w' => e = .returned (.tuple #[.pointer (some ⟨w.heap.size + 1, 0, none⟩), .int .i64 0]) ∧ w' = (w.alloc (.map #[] 0)).alloc (.cells #[.int .i64 room, .slice none 0 0, .map (some w.heap.size)] 59) := by
  go_enter Try.func9, Try.ntmps9
  go_wp2_with (rw [run_makeMap])
  go_ret2
  exact ⟨rfl, rfl⟩
/-- The cells of a net. -/
def NetC (w : World) (r : Nat) (room : Int) (A : Option Addr) (k c mb : Nat) : Prop := w.heap[r]? = some (.cells #[.int .i64 room, .slice A k c, .map (some mb)] 59 (0, 0))
theorem len_walk (w : World) (r : Nat) (room : Int) (A : Option Addr) (k c mb : Nat) (h : NetC w r room A k c mb) : Calls Try.prog 12 #[.pointer (some ⟨r, 0, none⟩)] w fun e w' => e = .returned (.int .i64 k) ∧ w = w' := by
  have c0 : w.cell? ⟨r, 1, none⟩ = some (.slice A k c) := by unfold NetC at h; simp [World.cell?, h]
  clear h
  go_enter Try.func12, Try.ntmps12
  go_wp2
  go_ret
  exact ⟨rfl, rfl⟩
end Go.Proofs.Ytenbjmgmgdkapaa
