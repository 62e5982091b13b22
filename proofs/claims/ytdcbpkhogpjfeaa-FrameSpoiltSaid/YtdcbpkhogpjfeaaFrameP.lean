/- FrameSpoilt's walk, as its row asks it. -/
import Derived.Test.YtdcbpkhogpjfeaaFrameI2
set_option linter.unusedVariables false
set_option linter.unusedSimpArgs false
namespace Go.Proofs.Ytdcbpkhogpjfeaa
open Go.RowKit Go.Proofs.YtdcbpkhogpjfeaaW.PrintWords Go.Proofs.Ytdcbpkhogpjfeaa.K

theorem spoilt_row (W : World) (v : Value) (o : ∃ y A n c, v = .agg (frC y.k y.f y.t y.v y.s (.slice A n c)) ∧ FrArg W y A n c) (a1 : Int) (w1 : (Lit.int .i64 a1).wf = true) (a2 : Int) (w2 : (Lit.int .u8 a2).wf = true) (a3 : Int) (w3 : (Lit.int .i64 a3).wf = true)
    (A : Option Addr) (n c : Nat) (xs : List Int) (h : ReadsInt W .u8 A n xs) (hw : ∀ x ∈ xs, (Lit.int .u8 x).wf = true) (hc : n ≤ c) (hs : n * 1 ≤ 140737488351232) :
    Calls Try.prog 6 #[v, .int .i64 a1, .int .u8 a2, .int .i64 a3, .slice A n c] W fun e w' => e = .returned (.bool true) ∧ Below W.heap.size W w' := by
  obtain ⟨y, A', n', c', rfl, hy⟩ := o
  exact spoilt_walk W y A' n' c' hy a1 a2 a3 w2 A n c xs h hw
end Go.Proofs.Ytdcbpkhogpjfeaa
