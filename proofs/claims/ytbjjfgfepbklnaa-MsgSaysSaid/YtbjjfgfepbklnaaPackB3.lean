/- Walks of package pack: is a reader at its end? -/
import Derived.Test.YtbjjfgfepbklnaaPackB
set_option linter.unusedVariables false
set_option linter.unusedSimpArgs false
namespace Go.Proofs.Ytbjjfgfepbklnaa
open Go.RowKit Go.Proofs.YtbjjfgfepbklnaaW.PrintWords Go.Proofs.Ytbjjfgfepbklnaa.K

set_option maxHeartbeats 400000 in
theorem end_walk (r : Nat) (w : World) (xs : List Int) (sp : Bool) (h : Rdr w r xs sp) :
    Calls Try.prog 25 #[.pointer (some ⟨r, 0, none⟩)] w fun e w' => e = .returned (.bool (!sp && xs.isEmpty)) ∧ w = w' := by
  obtain ⟨A, n, c, h1, h2, h3, h4⟩ := h
  obtain ⟨c0, c1, f0, f1⟩ := cells_2 h1
  have hl := Lib.hid h3.1
  clear h1 h3 h4
  have he : xs.isEmpty = ((n : Int) == 0) := by rw [← hl.out]; cases xs <;> simp; omega
  have HE := Lib.hid he; clear he
  cases sp with
  | true =>
    go_enter Try.func25, Try.ntmps25
    go_wp2
    go_ret
    exact ⟨rfl, rfl⟩
  | false =>
    go_enter Try.func25, Try.ntmps25
    go_wp2
    go_ret
    exact ⟨by rw [HE.out]; simp, rfl⟩
end Go.Proofs.Ytbjjfgfepbklnaa
