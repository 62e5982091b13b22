/- A message as a law's argument; rows made of noughts; Get behind Put. -/
import Derived.Test.YtbjjfgfepbklnaaMsgI
set_option linter.unusedVariables false
set_option linter.unusedSimpArgs false
namespace Go.Proofs.Ytbjjfgfepbklnaa
open Go.RowKit Go.Proofs.YtbjjfgfepbklnaaW.PrintWords Go.Proofs.Ytbjjfgfepbklnaa.K Go.ChangeShapes Go.WideShapes

/-- What a law's message argument is. -/
structure MsArg (W : World) (x : Ms) (A : Option Addr) (n c : Nat) (B : Option Addr) (m d : Nat) : Prop where
  rd : ReadsInt W .i64 A n x.n
  wd : WidesAt W B m x.w
  wf : x.wf
  le : n ≤ c
  ld : m ≤ d
theorem MsArg.below {W w : World} {x : Ms} {A : Option Addr} {n c : Nat} {B : Option Addr} {m d : Nat} (h : MsArg W x A n c B m d) (hb : Below W.heap.size W w) : MsArg w x A n c B m d := ⟨h.rd.below hb, h.wd.below hb, h.wf, h.le, h.ld⟩
theorem u32_rng {x : Int} (h : (Lit.int .u32 x).wf = true) : 0 ≤ x ∧ x < 4294967296 := by
  simp [Lit.wf, IntKind.min, IntKind.max, IntKind.signed, IntKind.bits] at h; omega
theorem open_msg {H : Type} {enc : TypeId × Value → H} {w : World} {base : Nat} {spare : Nat → Bool} {held : Bool} {v : Value} {d : DataW H} {ps : List MemPlace} {r : Reach} {b0 : Nat}
    (hval : Value.okWide Try.prog w r b0 27 v) (h : DataW.Trod enc Try.prog w base spare held 27 v d ps) : ∃ x A n c B m d, v = .agg (msC x.k x.f x.t x.v x.s (.slice A n c) (.slice B m d)) ∧ MsArg w x A n c B m d := by
  obtain ⟨cs, rfl, hsz⟩ := okWide_struct Try.underlying27 hval
  have h6 : Try.prog.cellsOf 27 = 7 := by kernel_rfl
  have hi : Try.prog.cellsOf 3 = 1 := by kernel_rfl
  have hu : Try.prog.cellsOf 23 = 1 := by kernel_rfl
  have hs : Try.prog.cellsOf 24 = 1 := by kernel_rfl
  have ht : Try.prog.cellsOf 25 = 1 := by kernel_rfl
  have hb : Try.prog.cellsOf 2 = 1 := by kernel_rfl
  have hw : Try.prog.cellsOf 47 = 2 := by kernel_rfl
  have hq : Try.prog.cellsOf 45 = 1 := by kernel_rfl
  rw [h6] at hsz
  obtain ⟨fuel, hf⟩ := h
  obtain ⟨xs, m, _, _, _, hlen, hx⟩ := DataW.trod_struct Try.underlying27 hf
  obtain ⟨l⟩ := cs
  match l, hsz with
  | [a0, a1, a2, a3, a4, a5, a6], _ =>
    match xs, hlen with
    | [y0, y1, y2, y3, y4, y5, y6], _ =>
      have q0 := hx 0 _ rfl
      have q1 := hx 1 _ rfl
      have q2 := hx 2 _ rfl
      have q3 := hx 3 _ rfl
      have q4 := hx 4 _ rfl
      have q5 := hx 5 _ rfl
      have q6 := hx 6 _ rfl
      simp only [hi, hu, hs, ht, Value.cells] at q0 q1 q2 q3 q4 q5 q6
      obtain ⟨n0, e0, _, w0⟩ := DataW.trod_int Try.underlying3 q0
      obtain ⟨n1, e1, _, w1⟩ := DataW.trod_int Try.underlying3 q1
      obtain ⟨n2, e2, _, w2⟩ := DataW.trod_int Try.underlying3 q2
      obtain ⟨n3, e3, _, w3⟩ := DataW.trod_int Try.underlying23 q3
      obtain ⟨n4, e4, _, w4⟩ := DataW.trod_int Try.underlying23 q4
      have q5' : DataW.trod enc Try.prog w base spare held m 24 [a5] = some y5 := by
        have e : DataW.trod enc Try.prog w base spare held m 24 (List.take (Try.prog.cellsOf 24) [a5]) = some y5 := q5
        rw [hs] at e
        exact e
      have q6' : DataW.trod enc Try.prog w base spare held m 25 [a6] = some y6 := by
        have e : DataW.trod enc Try.prog w base spare held m 25 (List.take (Try.prog.cellsOf 25) [a6]) = some y6 := q6
        rw [ht] at e
        exact e
      obtain ⟨A, n, c, zs, e5, h3, h4, h5⟩ := open_nums (v := a5) Try.underlying24 Try.underlying2 hb q5'
      obtain ⟨B, n', c', ws, e6, g3, g4, g5⟩ := open_wides (v := a6) Try.underlying25 Try.underlying47 hw rfl rfl Try.underlying2 Try.underlying45 hb hq q6'
      simp [hi, hu] at e0 e1 e2 e3 e4
      subst e0 e1 e2 e3 e4 e5 e6
      exact ⟨⟨n0, n1, n2, n3, n4, zs, ws⟩, A, n, c, B, n', c', rfl, h3, g3, ⟨u32_rng w3, u32_rng w4, h4, g4⟩, h5, g5⟩
/-- make([]int64, n), make([]api.Wide, n). -/
theorem made_nums (W : World) (m : Nat) (hm : m ≤ 100000) : ReadsInt (W.alloc (.cells (madeCells #[.int .i64 0] m) 2)) .i64 (some ⟨W.heap.size, 0, none⟩) m (List.replicate m 0) :=
  (own_info (own_made W W.heap.size 2 .i64 m (Nat.le_refl _) (by omega))).2.2.2.1
theorem wides_rep (m : Nat) : (madeCells #[.int .i64 0, .int .u64 0] (m * 2)).toList = wides (List.replicate m (0, 0)) := by
  apply List.ext_getElem?
  intro i
  by_cases hi : i < m * 2
  · have hq : i / 2 < m := by omega
    have h := wides_at (List.replicate m ((0 : Int), (0 : Int))) (i / 2) (by simpa using hq)
    have e : (List.replicate m ((0 : Int), (0 : Int))).getD (i / 2) (0, 0) = (0, 0) := by simp [List.getD_eq_getElem?_getD, hq]
    rw [e] at h
    rcases Nat.mod_two_eq_zero_or_one i with h0 | h0
    · have e2 : i / 2 * 2 = i := by omega
      rw [e2] at h
      rw [h.1]
      simp [madeCells, hi, h0]
    · have e2 : i / 2 * 2 + 1 = i := by omega
      rw [e2] at h
      rw [h.2]
      simp [madeCells, hi, h0]
  · rw [List.getElem?_eq_none (by simp [size_madeCells]; omega), List.getElem?_eq_none (by rw [wides_len]; simp; omega)]
theorem made_wides (W : World) (m : Nat) (hm : m ≤ 100000) : WidesAt (W.alloc (.cells (madeCells #[.int .i64 0, .int .u64 0] (m * 2)) 47)) (some ⟨W.heap.size, 0, none⟩) m (List.replicate m (0, 0)) := by
  have h := wides_lit W (List.replicate m (0, 0)) 47 (0, 0) m (by simp) (by omega)
  rw [← wides_rep] at h
  simpa using h
theorem infoW : ∃ i, Try.prog.info? 47 = some i ∧ i.zero = some (.agg #[.int .i64 0, .int .u64 0]) ∧ i.size = 2 ∧ i.bytes = 16 := by
  have h : (Try.prog.info? 47).map (fun i => (i.zero, i.size, i.bytes)) = some (some (.agg #[.int .i64 0, .int .u64 0]), 2, 16) := by kernel_rfl
  obtain ⟨i, hi, h⟩ := Option.map_eq_some_iff.1 h
  simp only [Prod.mk.injEq] at h
  exact ⟨i, hi, h.1, h.2.1, h.2.2⟩
theorem make_nums (m : Nat) (hm : m ≤ 100000) (W : World) : (Instr.makeSlice 24 (.int .i64 (m : Int)) (.int .i64 (m : Int))).run Try.prog W = .ok (.slice (some ⟨W.heap.size, 0, none⟩) m m) (W.alloc (.cells (madeCells #[.int .i64 0] m) 2)) :=
  print_make 24 2 .i64 8 Try.underlying24 (by kernel_rfl) (by decide) m (by omega) W
theorem make_wides (m : Nat) (hm : m ≤ 100000) (W : World) : (Instr.makeSlice 25 (.int .i64 (m : Int)) (.int .i64 (m : Int))).run Try.prog W = .ok (.slice (some ⟨W.heap.size, 0, none⟩) m m) (W.alloc (.cells (madeCells #[.int .i64 0, .int .u64 0] (m * 2)) 47)) := by
  obtain ⟨i, hi, hz, hs, hb⟩ := infoW
  have := run_make (P := Try.prog) W 25 47 i _ Try.underlying25 hi hz .i64 .i64 m m (by omega) (Int.le_refl _) (by rw [hb]; omega) (by omega)
  simp only [Int.toNat_natCast, hs] at this
  exact this
/-- Get behind Put. -/
theorem mget_back (x : Ms) (hg : x.good) (hx : x.wf) (A : Option Addr) (n c : Nat) (W : World) (h : ReadsInt W .u8 A n (menc x)) :
    Calls Try.prog 9 #[.slice A n c] W fun e w' => ∃ A1 n1 c1 B1 m1 d1, e = .returned (.tuple #[.agg (msC x.k x.f x.t x.v x.s (.slice A1 n1 c1) (.slice B1 m1 d1)), .int .i64 0]) ∧ ReadsInt w' .i64 A1 n1 x.n ∧ WidesAt w' B1 m1 x.w ∧ Below W.heap.size W w' := by
  refine (mget_walk A n c (menc x) W h (menc_wf hg hx)).mono ?_
  rintro e w' ⟨hD, hb⟩
  rcases hD with ⟨y, hy, A1, n1, c1, B1, m1, d1, he, h1, h2⟩ | ⟨hno, _⟩
  · obtain rfl := menc_inj hy.1 hg hy.2.1 hx hy.2.2
    exact ⟨A1, n1, c1, B1, m1, d1, he, h1, h2, hb⟩
  · exact absurd ⟨x, hg, hx, rfl⟩ hno
/-- Put, whether the message may be or not. -/
def putL (x : Ms) : List Int := if msB x.k x.f x.t x.n.length x.w.length = true then menc x else []
theorem mput_any (x : Ms) (hx : x.wf) (A B : Option Addr) (n c m d : Nat) (W : World) (hr : ReadsInt W .i64 A n x.n) (hwd : WidesAt W B m x.w) (hn : n ≤ 100000) (hm : m ≤ 100000) :
    Calls Try.prog 10 #[.agg (msC x.k x.f x.t x.v x.s (.slice A n c) (.slice B m d))] W fun e w' => ∃ A1 n1 c1, e = .returned (.slice A1 n1 c1) ∧ w'.ownsRow W.heap.size 5 1 (.slice A1 n1 c1) n1 (nums .u8 (putL x)) ∧ Below W.heap.size W w' := by
  by_cases hg : x.good
  · have e : putL x = menc x := by unfold putL; rw [if_pos ((msB_iff x).2 hg)]
    rw [e]
    refine (mput_walk x hg hx A B n c m d W hr hwd).mono ?_
    rintro e w' ⟨A1, c1, he, ho, hb⟩
    exact ⟨A1, _, c1, he, ho, hb⟩
  · have e : putL x = [] := by unfold putL; rw [if_neg (fun h => hg ((msB_iff x).1 h))]
    rw [e]
    refine (mput_bad x hg A B n c m d W (by omega) (by omega) hr.1 hwd.1).mono ?_
    rintro e w' ⟨he, hb⟩
    exact ⟨none, 0, 0, he, ⟨rfl, .inl ⟨rfl, rfl⟩⟩, hb⟩
end Go.Proofs.Ytbjjfgfepbklnaa
