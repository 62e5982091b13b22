/- Messages, and calls of links, as a law's arguments. -/
import Derived.Test.YtbkpgkkfkjlnnaaLgX
set_option linter.unusedVariables false
set_option linter.unusedSimpArgs false
namespace Go.Proofs.Ytbkpgkkfkjlnnaa.G
open Go.RowKit Go.Proofs.YtbkpgkkfkjlnnaaW.PrintWords Go.Proofs.YtbkpgkkfkjlnnaaW.PrintLast Go.Proofs.Ytbkpgkkfkjlnnaa.K Go.Proofs.Ytbkpgkkfkjlnnaa.Row Go.Proofs.Ytbkpgkkfkjlnnaa Go.ChangeShapes Go.WideShapes Go.Deep

/-- The rows of a message in memory. -/
structure MsR (w : World) (A : Option Addr) (n c : Nat) (xs : List Int) (B : Option Addr) (m d : Nat) (ys : List (Int × Int)) : Prop where
  rd : ReadsInt w .i64 A n xs
  wd : WidesAt w B m ys
  az : A = none → c = 0
  bz : B = none → m = 0 ∧ d = 0
  le : n ≤ c
  ld : m ≤ d
theorem MsR.below {W w : World} {A : Option Addr} {n c : Nat} {xs : List Int} {B : Option Addr} {m d : Nat} {ys : List (Int × Int)} (h : MsR W A n c xs B m d ys) (hb : Below W.heap.size W w) : MsR w A n c xs B m d ys := ⟨h.rd.below hb, h.wd.below hb, h.az, h.bz, h.le, h.ld⟩
/-- A call lies at an address. -/
structure LAc where
  op : Int
  fit : Bool
  k : Int
  f : Int
  t : Int
  v : Int
  s : Int
  A : Option Addr
  n : Nat
  c : Nat
  xs : List Int
  B : Option Addr
  m : Nat
  d : Nat
  ys : List (Int × Int)
  now : Int
structure LAt (w : World) (ad : Addr) (x : LAc) : Prop where
  c0 : w.cell? ad = some (.int .i64 x.op)
  c1 : w.cell? ⟨ad.block, ad.off + 1, none⟩ = some (.bool x.fit)
  c2 : w.cell? ⟨ad.block, ad.off + 2, none⟩ = some (.int .i64 x.k)
  c3 : w.cell? ⟨ad.block, ad.off + 3, none⟩ = some (.int .i64 x.f)
  c4 : w.cell? ⟨ad.block, ad.off + 4, none⟩ = some (.int .i64 x.t)
  c5 : w.cell? ⟨ad.block, ad.off + 5, none⟩ = some (.int .u32 x.v)
  c6 : w.cell? ⟨ad.block, ad.off + 6, none⟩ = some (.int .u32 x.s)
  c7 : w.cell? ⟨ad.block, ad.off + 7, none⟩ = some (.slice x.A x.n x.c)
  c8 : w.cell? ⟨ad.block, ad.off + 8, none⟩ = some (.slice x.B x.m x.d)
  c9 : w.cell? ⟨ad.block, ad.off + 9, none⟩ = some (.int .i64 x.now)
  r : MsR w x.A x.n x.c x.xs x.B x.m x.d x.ys
  vr : 0 ≤ x.v ∧ x.v < 4294967296
  sr : 0 ≤ x.s ∧ x.s < 4294967296
  nr : -9223372036854775808 ≤ x.now ∧ x.now ≤ 9223372036854775807
theorem LAt.below {W w : World} {ad : Addr} {x : LAc} (h : LAt W ad x) (hb : Below W.heap.size W w) : LAt w ad x :=
  ⟨pw_cell_below hb h.c0, pw_cell_below hb h.c1, pw_cell_below hb h.c2, pw_cell_below hb h.c3, pw_cell_below hb h.c4, pw_cell_below hb h.c5, pw_cell_below hb h.c6, pw_cell_below hb h.c7, pw_cell_below hb h.c8, pw_cell_below hb h.c9, h.r.below hb, h.vr, h.sr, h.nr⟩
def LAts (w : World) (A : Option Addr) (n : Nat) (X : Nat → LAc) : Prop := n ≤ 9223372036854775807 ∧ ∀ i, i < n → ∃ ad, A = some ad ∧ LAt w (ad.add (i * 10)) (X i)
theorem u32_rng {x : Int} (h : (Lit.int .u32 x).wf = true) : 0 ≤ x ∧ x < 4294967296 := by
  simp [Lit.wf, IntKind.min, IntKind.max, IntKind.signed, IntKind.bits] at h; omega
theorem i64_rng {x : Int} (h : (Lit.int .i64 x).wf = true) : -9223372036854775808 ≤ x ∧ x ≤ 9223372036854775807 := by
  simp [Lit.wf, IntKind.min, IntKind.max, IntKind.signed, IntKind.bits] at h; omega
theorem one_cell {P : Program} {w : World} {base : Nat} {spare : Nat → Bool} {held : Bool} {H : Type} {enc : TypeId × Value → H} {n : Nat} {t : TypeId} {j : Nat} {cs : List Value} {x : DataW H × List MemPlace} {v : Value} (h : DataW.trod enc P w base spare held n t ((cs.drop j).take (P.cellsOf t)) = some x) (hc : P.cellsOf t = 1) (hv : cs[j]? = some v) : DataW.trod enc P w base spare held n t [v] = some x := by
  rw [hc] at h
  have : (cs.drop j).take 1 = [v] := by
    apply List.ext_getElem?
    intro i
    rw [List.getElem?_take, List.getElem?_drop]
    cases i with
    | zero => simpa using hv
    | succ i => simp
  rwa [this] at h
section
variable {H : Type} {enc : TypeId × Value → H} {w : World} {base : Nat} {spare : Nat → Bool} {held : Bool}
theorem nil_slice {P : Program} {e b : TypeId} {fuel n c : Nat} {A : Option Addr} {x : DataW H × List MemPlace} (he : P.underlying e = some (.slice b)) (h : DataW.trod enc P w base spare held fuel e [.slice A n c] = some x) : A = none → n = 0 ∧ c = 0 := by
  rcases open_slice he h with ⟨hcs, _⟩ | ⟨a, l, c', m, n', D, Pl, hcs, _⟩
  · simp at hcs; exact fun _ => ⟨hcs.2.1, hcs.2.2⟩
  · simp at hcs; intro h; rw [h] at hcs; exact absurd hcs.1 (by simp)
/-- The seven cells of a message. -/
theorem trod_msg {fuel : Nat} {cs : List Value} {x : DataW H × List MemPlace} (hl : cs.length = 7) (hf : DataW.trod enc Try.prog w base spare held fuel 32 cs = some x) :
    ∃ k f t v s A n c xs B m d ys, cs = [.int .i64 k, .int .i64 f, .int .i64 t, .int .u32 v, .int .u32 s, .slice A n c, .slice B m d] ∧ MsR w A n c xs B m d ys ∧ (0 ≤ v ∧ v < 4294967296) ∧ (0 ≤ s ∧ s < 4294967296) := by
  have hi : Try.prog.cellsOf 3 = 1 := by kernel_rfl
  have hu : Try.prog.cellsOf 27 = 1 := by kernel_rfl
  have hs : Try.prog.cellsOf 29 = 1 := by kernel_rfl
  have ht : Try.prog.cellsOf 30 = 1 := by kernel_rfl
  have hb : Try.prog.cellsOf 2 = 1 := by kernel_rfl
  have hw : Try.prog.cellsOf 79 = 2 := by kernel_rfl
  have hq : Try.prog.cellsOf 77 = 1 := by kernel_rfl
  obtain ⟨xs, m, _, _, _, hlen, hx⟩ := DataW.trod_struct Try.underlying32 hf
  match cs, hl with
  | [a0, a1, a2, a3, a4, a5, a6], _ =>
    match xs, hlen with
    | [y0, y1, y2, y3, y4, y5, y6], _ =>
      obtain ⟨n0, e0, _, w0⟩ := DataW.trod_int Try.underlying3 (one_cell (j := 0) (v := a0) (hx 0 _ rfl) hi rfl)
      obtain ⟨n1, e1, _, w1⟩ := DataW.trod_int Try.underlying3 (one_cell (j := 1) (v := a1) (hx 1 _ rfl) hi rfl)
      obtain ⟨n2, e2, _, w2⟩ := DataW.trod_int Try.underlying3 (one_cell (j := 2) (v := a2) (hx 2 _ rfl) hi rfl)
      obtain ⟨n3, e3, _, w3⟩ := DataW.trod_int Try.underlying27 (one_cell (j := 3) (v := a3) (hx 3 _ rfl) hu rfl)
      obtain ⟨n4, e4, _, w4⟩ := DataW.trod_int Try.underlying27 (one_cell (j := 4) (v := a4) (hx 4 _ rfl) hu rfl)
      have q5 := one_cell (j := 5) (v := a5) (hx 5 _ rfl) hs rfl
      have q6 := one_cell (j := 6) (v := a6) (hx 6 _ rfl) ht rfl
      obtain ⟨A, n, c, zs, e5, h3, h4, h5⟩ := open_nums (v := a5) Try.underlying29 Try.underlying2 hb q5
      obtain ⟨B, n', c', ws, e6, g3, g4, g5⟩ := open_wides (v := a6) Try.underlying30 Try.underlying79 hw rfl rfl Try.underlying2 Try.underlying77 hb hq q6
      simp only [List.cons.injEq, and_true] at e0 e1 e2 e3 e4
      subst e0 e1 e2 e3 e4 e5 e6
      exact ⟨n0, n1, n2, n3, n4, A, n, c, zs, B, n', c', ws, rfl, ⟨h3, g3, fun h => (nil_slice Try.underlying29 q5 h).2, nil_slice Try.underlying30 q6, h5, g5⟩, u32_rng w3, u32_rng w4⟩
theorem open_lmsg {v : Value} {d : DataW H} {ps : List MemPlace} {r : Reach} {b0 : Nat}
    (hval : Value.okWide Try.prog w r b0 32 v) (h : DataW.Trod enc Try.prog w base spare held 32 v d ps) : ∃ k f t vi s A n c xs B m d ys, v = .agg (msC k f t vi s (.slice A n c) (.slice B m d)) ∧ MsR w A n c xs B m d ys ∧ (0 ≤ vi ∧ vi < 4294967296) ∧ (0 ≤ s ∧ s < 4294967296) := by
  obtain ⟨cs, rfl, hsz⟩ := okWide_struct Try.underlying32 hval
  have h6 : Try.prog.cellsOf 32 = 7 := by kernel_rfl
  rw [h6] at hsz
  obtain ⟨fuel, hf⟩ := h
  obtain ⟨l⟩ := cs
  obtain ⟨k, f, t, v, s, A, n, c, xs, B, m, d, ys, e, h1, h2, h3⟩ := trod_msg (show (⟨l⟩ : Array Value).toList.length = 7 from hsz) hf
  simp only [Value.cells] at e
  subst e
  exact ⟨k, f, t, v, s, A, n, c, xs, B, m, d, ys, rfl, h1, h2, h3⟩
theorem open_lacts {v : Value} {d : DataW H} {ps : List MemPlace} {r : Reach} {b0 : Nat} (hval : Value.okWide Try.prog w r b0 41 v) (h : DataW.Trod enc Try.prog w base spare held 41 v d ps) : ∃ A n c X, v = .slice A n c ∧ LAts w A n X ∧ n ≤ c := by
  obtain ⟨a, n, c, rfl⟩ := okWide_slice Try.underlying41 hval
  obtain ⟨fuel, hf⟩ := h
  have h8 : Try.prog.cellsOf 49 = 10 := by kernel_rfl
  have hi : Try.prog.cellsOf 3 = 1 := by kernel_rfl
  have hq : Try.prog.cellsOf 2 = 1 := by kernel_rfl
  have hm7 : Try.prog.cellsOf 32 = 7 := by kernel_rfl
  have hbo : Try.prog.cellsOf 4 = 1 := by kernel_rfl
  rcases open_slice Try.underlying41 hf with ⟨hcs, _⟩ | ⟨ad, l, cap, m, f2, D, Pl, hcs, _, hl, hm, hmm, _, hx⟩
  · simp [Value.cells] at hcs
    obtain ⟨rfl, rfl, rfl⟩ := hcs
    exact ⟨none, 0, 0, fun _ => ⟨0, false, 0, 0, 0, 0, 0, none, 0, 0, [], none, 0, 0, [], 0⟩, rfl, ⟨by decide, fun i hi => by omega⟩, Nat.le_refl _⟩
  · simp [Value.cells] at hcs
    obtain ⟨rfl, rfl, rfl⟩ := hcs
    simp only [maxLen] at hm
    have hlm : n ≤ m := by rw [hmm]; split <;> omega
    have key : ∀ i, ∃ x : LAc, i < n → LAt w (ad.add (i * 10)) x := by
      intro i
      by_cases hin : i < n
      · obtain ⟨cs, h1, h2⟩ := hx i (by omega)
        rw [h8] at h1
        obtain ⟨_, hlen, hcell⟩ := World.cells?_some h1
        obtain ⟨xs, m2, _, _, _, hlen2, hx2⟩ := DataW.trod_struct Try.underlying49 h2
        match cs, hlen with
        | [a0, a1, a2, a3, a4, a5, a6, a7, a8, a9], _ =>
          match xs, hlen2 with
          | [y0, y1, y2, y3], _ =>
            have q0 := hx2 0 _ rfl
            have q1 := hx2 1 _ rfl
            have q2 := hx2 2 _ rfl
            have q3 := hx2 3 _ rfl
            obtain ⟨n0, e0, _, w0⟩ := DataW.trod_int Try.underlying3 (one_cell (j := 0) (v := a0) q0 hi rfl)
            obtain ⟨b1, e1, _⟩ := DataW.trod_bool Try.underlying4 (one_cell (j := 1) (v := a1) q1 hbo rfl)
            obtain ⟨n9, e9, _, w9⟩ := DataW.trod_int Try.underlying2 (one_cell (j := 9) (v := a9) q3 hq rfl)
            have q2' : DataW.trod enc Try.prog w base spare held m2 32 [a2, a3, a4, a5, a6, a7, a8] = some y2 := by
              have e : DataW.trod enc Try.prog w base spare held m2 32 (([a0, a1, a2, a3, a4, a5, a6, a7, a8, a9].drop 2).take (Try.prog.cellsOf 32)) = some y2 := q2
              rw [hm7] at e
              exact e
            obtain ⟨k, f, t, v, s, A, n', c', zs, B, m', d', ys, e2, hr, hv, hs⟩ := trod_msg rfl q2'
            simp only [List.cons.injEq, and_true] at e0 e1 e2 e9
            obtain ⟨rfl, rfl, rfl, rfl, rfl, rfl, rfl⟩ := e2
            subst e0 e1 e9
            have e : ∀ j, 0 < j → ((ad.add (i * 10)).add j) = ⟨(ad.add (i * 10)).block, (ad.add (i * 10)).off + j, none⟩ := fun j hj => by
              have := add_field (ad.add (i * 10)) 0 j hj
              have e2 : (ad.add (i * 10)).add 0 = ad.add (i * 10) := by simp [Addr.add]
              rwa [e2, Nat.zero_add] at this
            have g : ∀ j, 0 < j → j < 10 → w.cell? ⟨(ad.add (i * 10)).block, (ad.add (i * 10)).off + j, none⟩ = [Value.int .i64 n0, .bool b1, .int .i64 k, .int .i64 f, .int .i64 t, .int .u32 v, .int .u32 s, .slice A n' c', .slice B m' d', .int .i64 n9][j]? := fun j h0 hj => (congrArg w.cell? (e j h0)).symm.trans (hcell j hj)
            refine ⟨⟨n0, b1, k, f, t, v, s, A, n', c', zs, B, m', d', ys, n9⟩, fun _ => ⟨?_, g 1 (by decide) (by decide), g 2 (by decide) (by decide), g 3 (by decide) (by decide), g 4 (by decide) (by decide), g 5 (by decide) (by decide), g 6 (by decide) (by decide), g 7 (by decide) (by decide), g 8 (by decide) (by decide), g 9 (by decide) (by decide), hr, hv, hs, i64_rng w9⟩⟩
            have := hcell 0 (by decide)
            simpa [Addr.add] using this
      · exact ⟨⟨0, false, 0, 0, 0, 0, 0, none, 0, 0, [], none, 0, 0, [], 0⟩, fun h => absurd h hin⟩
    classical
    refine ⟨some ad, n, c, fun i => Classical.choose (key i), rfl, ⟨by omega, fun i hi => ⟨ad, rfl, Classical.choose_spec (key i) hi⟩⟩, hl⟩
end
end Go.Proofs.Ytbkpgkkfkjlnnaa.G
