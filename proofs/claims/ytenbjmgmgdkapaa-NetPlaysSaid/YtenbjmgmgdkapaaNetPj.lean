/- Calls as a law's argument. -/
import Derived.Test.YtenbjmgmgdkapaaNetPi
import Derived.Test.YtenbjmgmgdkapaaNetR
set_option linter.unusedVariables false
set_option linter.unusedSimpArgs false
namespace Go.Proofs.Ytenbjmgmgdkapaa
open Go.RowKit Go.Proofs.YtenbjmgmgdkapaaW.PrintWords Go.Proofs.Ytenbjmgmgdkapaa.K Go.ChangeShapes Go.WideShapes Go.Deep

structure AcI where
  op : Int
  f : Int
  t : Int
  k : Int
  a : Int
  b : Int
  A : Option Addr
  c : Nat
  xs : List Int
  l : Bool
def AcI.cells (x : AcI) : List Value := [.int .i64 x.op, .int .i64 x.f, .int .i64 x.t, .int .i64 x.k, .int .i64 x.a, .int .u8 x.b, .slice x.A x.xs.length x.c, .bool x.l]
/-- A call lies at an address. -/
structure ActAt (w : World) (ad : Addr) (x : AcI) : Prop where
  c0 : w.cell? ad = some (.int .i64 x.op)
  c1 : w.cell? ⟨ad.block, ad.off + 1, none⟩ = some (.int .i64 x.f)
  c2 : w.cell? ⟨ad.block, ad.off + 2, none⟩ = some (.int .i64 x.t)
  c3 : w.cell? ⟨ad.block, ad.off + 3, none⟩ = some (.int .i64 x.k)
  c4 : w.cell? ⟨ad.block, ad.off + 4, none⟩ = some (.int .i64 x.a)
  c5 : w.cell? ⟨ad.block, ad.off + 5, none⟩ = some (.int .u8 x.b)
  c6 : w.cell? ⟨ad.block, ad.off + 6, none⟩ = some (.slice x.A x.xs.length x.c)
  c7 : w.cell? ⟨ad.block, ad.off + 7, none⟩ = some (.bool x.l)
  rd : ReadsInt w .u8 x.A x.xs.length x.xs
  nz : x.A = none → x.c = 0
theorem ActAt.below {W w : World} {ad : Addr} {x : AcI} (h : ActAt W ad x) (hb : Below W.heap.size W w) : ActAt w ad x :=
  ⟨pw_cell_below hb h.c0, pw_cell_below hb h.c1, pw_cell_below hb h.c2, pw_cell_below hb h.c3, pw_cell_below hb h.c4, pw_cell_below hb h.c5, pw_cell_below hb h.c6, pw_cell_below hb h.c7, h.rd.below hb, h.nz⟩
def ActsAt (w : World) (A : Option Addr) (n : Nat) (X : Nat → AcI) : Prop := n ≤ 9223372036854775807 ∧ ∀ i, i < n → ∃ ad, A = some ad ∧ ActAt w (ad.add (i * 8)) (X i)
theorem one_cell {P : Program} {w : World} {base : Nat} {spare : Nat → Bool} {held : Bool} {H : Type} {enc : TypeId × Value → H} {n : Nat} {t : TypeId} {j : Nat} {cs : List Value} {x : DataW H × List MemPlace} {v : Value} (h : DataW.trod enc P w base spare held n t ((cs.drop j).take (P.cellsOf t)) = some x) (hc : P.cellsOf t = 1) (hv : cs[j]? = some v) : DataW.trod enc P w base spare held n t [v] = some x := by
  rw [hc] at h
  have : (cs.drop j).take 1 = [v] := by
    apply List.ext_getElem?
    intro i
    rw [List.getElem?_take, List.getElem?_drop]
    cases i with
    | zero => simpa using hv
    | succ i => simp
  rwa [this] at h
section
variable {H : Type} {enc : TypeId × Value → H} {w : World} {base : Nat} {spare : Nat → Bool} {held : Bool}
theorem open_acts {v : Value} {d : DataW H} {ps : List MemPlace} {r : Reach} {b0 : Nat} (hval : Value.okWide Try.prog w r b0 41 v) (h : DataW.Trod enc Try.prog w base spare held 41 v d ps) : ∃ A n c X, v = .slice A n c ∧ ActsAt w A n X ∧ n ≤ c := by
  obtain ⟨a, n, c, rfl⟩ := okWide_slice Try.underlying41 hval
  obtain ⟨fuel, hf⟩ := h
  have h8 : Try.prog.cellsOf 49 = 8 := by kernel_rfl
  have hi : Try.prog.cellsOf 3 = 1 := by kernel_rfl
  have hu : Try.prog.cellsOf 5 = 1 := by kernel_rfl
  have hs : Try.prog.cellsOf 28 = 1 := by kernel_rfl
  have hbo : Try.prog.cellsOf 4 = 1 := by kernel_rfl
  rcases open_slice Try.underlying41 hf with ⟨hcs, _⟩ | ⟨ad, l, cap, m, f2, D, Pl, hcs, _, hl, hm, hmm, _, hx⟩
  · simp [Value.cells] at hcs
    obtain ⟨rfl, rfl, rfl⟩ := hcs
    exact ⟨none, 0, 0, fun _ => ⟨0, 0, 0, 0, 0, 0, none, 0, [], false⟩, rfl, ⟨by decide, fun i hi => by omega⟩, Nat.le_refl _⟩
  · simp [Value.cells] at hcs
    obtain ⟨rfl, rfl, rfl⟩ := hcs
    simp only [maxLen] at hm
    have hlm : n ≤ m := by rw [hmm]; split <;> omega
    have key : ∀ i, ∃ x : AcI, i < n → ActAt w (ad.add (i * 8)) x := by
      intro i
      by_cases hin : i < n
      · obtain ⟨cs, h1, h2⟩ := hx i (by omega)
        rw [h8] at h1
        obtain ⟨_, hlen, hcell⟩ := World.cells?_some h1
        obtain ⟨xs, m2, _, _, _, hlen2, hx2⟩ := DataW.trod_struct Try.underlying49 h2
        match cs, hlen with
        | [a0, a1, a2, a3, a4, a5, a6, a7], _ =>
          match xs, hlen2 with
          | [y0, y1, y2, y3, y4, y5, y6, y7], _ =>
            have q0 := hx2 0 _ rfl
            have q1 := hx2 1 _ rfl
            have q2 := hx2 2 _ rfl
            have q3 := hx2 3 _ rfl
            have q4 := hx2 4 _ rfl
            have q5 := hx2 5 _ rfl
            have q6 := hx2 6 _ rfl
            have q7 := hx2 7 _ rfl
            obtain ⟨n0, e0, _, w0⟩ := DataW.trod_int Try.underlying3 (one_cell (j := 0) (v := a0) q0 hi rfl)
            obtain ⟨n1, e1, _, w1⟩ := DataW.trod_int Try.underlying3 (one_cell (j := 1) (v := a1) q1 hi rfl)
            obtain ⟨n2, e2, _, w2⟩ := DataW.trod_int Try.underlying3 (one_cell (j := 2) (v := a2) q2 hi rfl)
            obtain ⟨n3, e3, _, w3⟩ := DataW.trod_int Try.underlying3 (one_cell (j := 3) (v := a3) q3 hi rfl)
            obtain ⟨n4, e4, _, w4⟩ := DataW.trod_int Try.underlying3 (one_cell (j := 4) (v := a4) q4 hi rfl)
            obtain ⟨n5, e5, _, w5⟩ := DataW.trod_int Try.underlying5 (one_cell (j := 5) (v := a5) q5 hu rfl)
            obtain ⟨A, cA, zs, e6, h3, h4⟩ := open_numsz (v := a6) Try.underlying28 Try.underlying5 hu (one_cell (j := 6) (v := a6) q6 hs rfl)
            obtain ⟨b7, e7, _⟩ := DataW.trod_bool Try.underlying4 (one_cell (j := 7) (v := a7) q7 hbo rfl)
            simp only [List.cons.injEq, and_true] at e0 e1 e2 e3 e4 e5 e7
            subst e0 e1 e2 e3 e4 e5 e6 e7
            have e : ∀ j, 0 < j → ((ad.add (i * 8)).add j) = ⟨(ad.add (i * 8)).block, (ad.add (i * 8)).off + j, none⟩ := fun j hj => by
              have := add_field (ad.add (i * 8)) 0 j hj
              have e2 : (ad.add (i * 8)).add 0 = ad.add (i * 8) := by simp [Addr.add]
              rwa [e2, Nat.zero_add] at this
            have g : ∀ j, 0 < j → j < 8 → w.cell? ⟨(ad.add (i * 8)).block, (ad.add (i * 8)).off + j, none⟩ = [Value.int .i64 n0, .int .i64 n1, .int .i64 n2, .int .i64 n3, .int .i64 n4, .int .u8 n5, .slice A zs.length cA, .bool b7][j]? := fun j h0 hj => (congrArg w.cell? (e j h0)).symm.trans (hcell j hj)
            refine ⟨⟨n0, n1, n2, n3, n4, n5, A, cA, zs, b7⟩, fun _ => ⟨?_, g 1 (by decide) (by decide), g 2 (by decide) (by decide), g 3 (by decide) (by decide), g 4 (by decide) (by decide), g 5 (by decide) (by decide), g 6 (by decide) (by decide), g 7 (by decide) (by decide), h3, h4⟩⟩
            have := hcell 0 (by decide)
            simpa [Addr.add] using this
      · exact ⟨⟨0, 0, 0, 0, 0, 0, none, 0, [], false⟩, fun h => absurd h hin⟩
    classical
    refine ⟨some ad, n, c, fun i => Classical.choose (key i), rfl, ⟨by omega, fun i hi => ⟨ad, rfl, Classical.choose_spec (key i) hi⟩⟩, hl⟩
end
end Go.Proofs.Ytenbjmgmgdkapaa
