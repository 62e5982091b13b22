/- A frame as a law's argument: what the row's reading of it says. -/
import Derived.Test.YtdcbpkhogpjfeaaFrameG
set_option linter.unusedVariables false
set_option linter.unusedSimpArgs false
namespace Go.Proofs.Ytdcbpkhogpjfeaa
open Go.RowKit Go.Proofs.YtdcbpkhogpjfeaaW.PrintWords Go.Proofs.Ytdcbpkhogpjfeaa.K Go.ChangeShapes Go.WideShapes

/-- What a law's frame argument is. -/
structure FrArg (W : World) (y : Fr) (A : Option Addr) (n c : Nat) : Prop where
  rd : ReadsInt W .u8 A n y.b
  wf : y.wf
  le : n ≤ c
theorem u32_rng {x : Int} (h : (Lit.int .u32 x).wf = true) : 0 ≤ x ∧ x < 4294967296 := by
  simp [Lit.wf, IntKind.min, IntKind.max, IntKind.signed, IntKind.bits] at h; omega
theorem open_frame {H : Type} {enc : TypeId × Value → H} {w : World} {base : Nat} {spare : Nat → Bool} {held : Bool} {v : Value} {d : DataW H} {ps : List MemPlace} {r : Reach} {b0 : Nat}
    (hval : Value.okWide Try.prog w r b0 26 v) (h : DataW.Trod enc Try.prog w base spare held 26 v d ps) : ∃ y A n c, v = .agg (frC y.k y.f y.t y.v y.s (.slice A n c)) ∧ FrArg w y A n c := by
  obtain ⟨cs, rfl, hsz⟩ := okWide_struct Try.underlying26 hval
  have h6 : Try.prog.cellsOf 26 = 6 := by kernel_rfl
  have hi : Try.prog.cellsOf 3 = 1 := by kernel_rfl
  have hu : Try.prog.cellsOf 23 = 1 := by kernel_rfl
  have hs : Try.prog.cellsOf 24 = 1 := by kernel_rfl
  have hb : Try.prog.cellsOf 5 = 1 := by kernel_rfl
  rw [h6] at hsz
  obtain ⟨fuel, hf⟩ := h
  obtain ⟨xs, m, _, _, _, hlen, hx⟩ := DataW.trod_struct Try.underlying26 hf
  obtain ⟨l⟩ := cs
  match l, hsz with
  | [a0, a1, a2, a3, a4, a5], _ =>
    match xs, hlen with
    | [y0, y1, y2, y3, y4, y5], _ =>
      have q0 := hx 0 _ rfl
      have q1 := hx 1 _ rfl
      have q2 := hx 2 _ rfl
      have q3 := hx 3 _ rfl
      have q4 := hx 4 _ rfl
      have q5 := hx 5 _ rfl
      simp only [hi, hu, hs, Value.cells] at q0 q1 q2 q3 q4 q5
      obtain ⟨n0, e0, _, w0⟩ := DataW.trod_int Try.underlying3 q0
      obtain ⟨n1, e1, _, w1⟩ := DataW.trod_int Try.underlying3 q1
      obtain ⟨n2, e2, _, w2⟩ := DataW.trod_int Try.underlying3 q2
      obtain ⟨n3, e3, _, w3⟩ := DataW.trod_int Try.underlying23 q3
      obtain ⟨n4, e4, _, w4⟩ := DataW.trod_int Try.underlying23 q4
      have q5' : DataW.trod enc Try.prog w base spare held m 24 [a5] = some y5 := by
        have e : DataW.trod enc Try.prog w base spare held m 24 (List.take (Try.prog.cellsOf 24) [a5]) = some y5 := q5
        rw [hs] at e
        exact e
      obtain ⟨A, n, c, zs, e5, h3, h4, h5⟩ := open_nums (v := a5) Try.underlying24 Try.underlying5 hb q5'
      simp [hi, hu] at e0 e1 e2 e3 e4
      subst e0 e1 e2 e3 e4 e5
      exact ⟨⟨n0, n1, n2, n3, n4, zs⟩, A, n, c, rfl, h3, ⟨u32_rng w3, u32_rng w4, h4⟩, h5⟩
end Go.Proofs.Ytdcbpkhogpjfeaa
