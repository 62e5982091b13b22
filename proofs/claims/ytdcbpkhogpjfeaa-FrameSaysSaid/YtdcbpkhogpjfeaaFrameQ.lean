/- FrameSays' walk, as its row asks it. -/
import Derived.Test.YtdcbpkhogpjfeaaFrameH
set_option linter.unusedVariables false
namespace Go.Proofs.Ytdcbpkhogpjfeaa
open Go.RowKit Go.Proofs.YtdcbpkhogpjfeaaW.PrintWords Go.Proofs.Ytdcbpkhogpjfeaa.K
theorem says_row (W : World) (A : Option Addr) (n c : Nat) (xs : List Int) (h : ReadsInt W .u8 A n xs) (hw : ∀ x ∈ xs, (Lit.int .u8 x).wf = true) (hc : n ≤ c) (hs : n * 1 ≤ 140737488351232) (v : Value) (o : ∃ y A n c, v = .agg (frC y.k y.f y.t y.v y.s (.slice A n c)) ∧ FrArg W y A n c) :
    Calls Try.prog 4 #[.slice A n c, v] W fun e w' => e = .returned (.bool true) ∧ Below W.heap.size W w' := by
  obtain ⟨y, A', n', c', rfl, hy⟩ := o
  exact says_walk W A n c xs h hw hc y A' n' c' hy
end Go.Proofs.Ytdcbpkhogpjfeaa
