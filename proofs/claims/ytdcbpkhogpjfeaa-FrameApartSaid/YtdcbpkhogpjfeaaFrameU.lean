/- FrameApart's walk, as its row asks it. -/
import Derived.Test.YtdcbpkhogpjfeaaFrameS
set_option linter.unusedVariables false
namespace Go.Proofs.Ytdcbpkhogpjfeaa
open Go.RowKit Go.Proofs.YtdcbpkhogpjfeaaW.PrintWords Go.Proofs.Ytdcbpkhogpjfeaa.K
theorem apart_row (W : World) (v : Value) (o : ∃ y A n c, v = .agg (frC y.k y.f y.t y.v y.s (.slice A n c)) ∧ FrArg W y A n c) (u : Value) (p : ∃ y A n c, u = .agg (frC y.k y.f y.t y.v y.s (.slice A n c)) ∧ FrArg W y A n c) :
    Calls Try.prog 7 #[v, u] W fun e w' => e = .returned (.bool true) ∧ Below W.heap.size W w' := by
  obtain ⟨y, A', n', c', rfl, hy⟩ := o
  obtain ⟨x, A, n, c, rfl, hx⟩ := p
  exact apart_walk W y A' n' c' hy x A n c hx
end Go.Proofs.Ytdcbpkhogpjfeaa
