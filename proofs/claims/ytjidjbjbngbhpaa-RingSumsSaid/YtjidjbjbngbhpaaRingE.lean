/- Walks of package ring: New of what may not be. -/
import Derived.Test.YtjidjbjbngbhpaaRingD
set_option linter.unusedVariables false
set_option linter.unusedSimpArgs false
namespace Go.Proofs.Ytjidjbjbngbhpaa
open Go.RowKit Go.Proofs.YtjidjbjbngbhpaaW.PrintWords Go.Proofs.Ytjidjbjbngbhpaa.K

set_option maxHeartbeats 1000000 in
theorem new_bad (place n : Int) (A : Option Addr) (k c : Nat) (w : World) (hk : k ≤ 140737488351232) (h : ¬ ((1 ≤ n ∧ n ≤ 16) ∧ (0 ≤ place ∧ place < n) ∧ k ≤ 400)) :
    Calls Try.prog 7 #[.int .i64 place, .int .i64 n, .slice A k c] w fun e w' => e = .returned (.tuple #[.pointer none, .int .i64 1]) ∧ w = w' := by
  have HH := Lib.hid h; clear h
  by_cases h1 : n < 1
  · go_enter Try.func7, Try.ntmps7
    go_wp2
    go_ret2
    exact ⟨rfl, rfl⟩
  by_cases h2 : 16 < n
  · go_enter Try.func7, Try.ntmps7
    go_wp2
    go_ret2
    exact ⟨rfl, rfl⟩
  by_cases h3 : place < 0
  · go_enter Try.func7, Try.ntmps7
    go_wp2
    go_ret2
    exact ⟨rfl, rfl⟩
  by_cases h4 : n ≤ place
  · go_enter Try.func7, Try.ntmps7
    go_wp2
    go_ret2
    exact ⟨rfl, rfl⟩
  have h5 : 400 < k := by have := HH.out; omega
  go_enter Try.func7, Try.ntmps7
  go_wp2
  go_ret2
  exact ⟨rfl, rfl⟩
end Go.Proofs.Ytjidjbjbngbhpaa
