/- Messages as lists of bytes: what is written, that it is read back. No program. -/
import Derived.Test.YtbjjfgfepbklnaaFrameE
import Derived.Test.YtbjjfgfepbklnaaMsgW
set_option linter.unusedVariables false
set_option linter.unusedSimpArgs false
namespace Go.Proofs.Ytbjjfgfepbklnaa
open Go.RowKit Go.Proofs.YtbjjfgfepbklnaaW.PrintWords Go.Proofs.Ytbjjfgfepbklnaa.K

structure Ms where
  k : Int
  f : Int
  t : Int
  v : Int
  s : Int
  n : List Int
  w : List (Int × Int)
def Ms.good (x : Ms) : Prop := (1 ≤ x.k ∧ x.k ≤ 20) ∧ (0 ≤ x.f ∧ x.f < 16) ∧ (0 ≤ x.t ∧ x.t < 16) ∧ x.n.length ≤ 500 ∧ x.w.length ≤ 500
def wfN (n : List Int) : Prop := ∀ y ∈ n, (Lit.int .i64 y).wf = true
def wfW (w : List (Int × Int)) : Prop := ∀ y ∈ w, (Lit.int .i64 y.1).wf = true ∧ (Lit.int .u64 y.2).wf = true
def Ms.wf (x : Ms) : Prop := (0 ≤ x.v ∧ x.v < 4294967296) ∧ (0 ≤ x.s ∧ x.s < 4294967296) ∧ wfN x.n ∧ wfW x.w
theorem wf_i64 {x : Int} (h : (Lit.int .i64 x).wf = true) : -9223372036854775808 ≤ x ∧ x ≤ 9223372036854775807 := by
  simp [Lit.wf, IntKind.min, IntKind.max, IntKind.signed, IntKind.bits] at h; omega
theorem wf_u64 {x : Int} (h : (Lit.int .u64 x).wf = true) : 0 ≤ x ∧ x < 18446744073709551616 := by
  simp [Lit.wf, IntKind.min, IntKind.max, IntKind.signed, IntKind.bits] at h; omega
theorem mk_i64 {x : Int} (h0 : -9223372036854775808 ≤ x) (h1 : x ≤ 9223372036854775807) : (Lit.int .i64 x).wf = true := by
  simp [Lit.wf, IntKind.min, IntKind.max, IntKind.signed, IntKind.bits]; omega
theorem mk_u64 {x : Int} (h0 : 0 ≤ x) (h1 : x < 18446744073709551616) : (Lit.int .u64 x).wf = true := by
  simp [Lit.wf, IntKind.min, IntKind.max, IntKind.signed, IntKind.bits]; omega
/-- The bytes of a whole number; of a wide one. -/
def n8 (x : Int) : List Int := bes (x % 18446744073709551616) 8 8
def w16 (p : Int × Int) : List Int := n8 p.1 ++ bes p.2 8 8
def nB (n : List Int) : List Int := n.flatMap n8
def wB (w : List (Int × Int)) : List Int := w.flatMap w16
def n2 (n : Nat) : List Int := bes (n : Int) 2 2
def mbody (x : Ms) : List Int := n2 x.n.length ++ nB x.n ++ n2 x.w.length ++ wB x.w
def mfr (x : Ms) : Fr := ⟨x.k, x.f, x.t, x.v, x.s, mbody x⟩
def menc (x : Ms) : List Int := enc (mfr x)
theorem n8_len (x : Int) : (n8 x).length = 8 := by simp [n8, bes_len]
theorem w16_len (p : Int × Int) : (w16 p).length = 16 := by simp [w16, n8, bes_len]
theorem n2_len (n : Nat) : (n2 n).length = 2 := by simp [n2, bes_len]
theorem nB_len (n : List Int) : (nB n).length = 8 * n.length := by
  induction n with
  | nil => rfl
  | cons a l ih => simp only [nB, List.flatMap_cons, List.length_append, n8_len, List.length_cons] at ih ⊢; omega
theorem wB_len (n : List (Int × Int)) : (wB n).length = 16 * n.length := by
  induction n with
  | nil => rfl
  | cons a l ih => simp only [wB, List.flatMap_cons, List.length_append, w16_len, List.length_cons] at ih ⊢; omega
theorem mbody_len (x : Ms) : (mbody x).length = 4 + 8 * x.n.length + 16 * x.w.length := by
  simp only [mbody, List.length_append, n2_len, nB_len, wB_len]; omega
theorem nB_take {n : List Int} {k : Nat} (hk : k < n.length) : nB (n.take (k + 1)) = nB (n.take k) ++ n8 (n.getD k 0) := by
  unfold nB
  rw [List.take_succ_eq_append_getElem hk, List.flatMap_append, show n.getD k 0 = n[k] by simp [List.getD_eq_getElem?_getD, hk]]
  simp only [List.flatMap_cons, List.flatMap_nil, List.append_nil]
theorem wB_take {n : List (Int × Int)} {k : Nat} (hk : k < n.length) : wB (n.take (k + 1)) = wB (n.take k) ++ w16 (n.getD k (0, 0)) := by
  unfold wB
  rw [List.take_succ_eq_append_getElem hk, List.flatMap_append, show n.getD k (0, 0) = n[k] by simp [List.getD_eq_getElem?_getD, hk]]
  simp only [List.flatMap_cons, List.flatMap_nil, List.append_nil]
theorem n8_wf (x : Int) : ∀ y ∈ n8 x, (Lit.int .u8 y).wf = true := bes_wf _ _ _
theorem w16_wf (p : Int × Int) : ∀ y ∈ w16 p, (Lit.int .u8 y).wf = true := by
  intro y hy
  rcases List.mem_append.1 hy with h | h
  · exact n8_wf _ y h
  · exact bes_wf _ _ _ y h
theorem mbody_wf (x : Ms) : ∀ y ∈ mbody x, (Lit.int .u8 y).wf = true := by
  intro y hy
  simp only [mbody, List.mem_append] at hy
  rcases hy with ((h | h) | h) | h
  · exact bes_wf _ _ _ y h
  · obtain ⟨a, _, h⟩ := List.mem_flatMap.1 h; exact n8_wf _ y h
  · exact bes_wf _ _ _ y h
  · obtain ⟨a, _, h⟩ := List.mem_flatMap.1 h; exact w16_wf _ y h
theorem mfr_good {x : Ms} (h : x.good) : (mfr x).good := ⟨h.1, h.2.1, h.2.2.1, by show (mbody x).length ≤ 16384; rw [mbody_len]; have := h.2.2.2; omega⟩
theorem mfr_wf {x : Ms} (h : x.wf) : (mfr x).wf := ⟨h.1, h.2.1, mbody_wf x⟩
theorem menc_len (x : Ms) : (menc x).length = 23 + 8 * x.n.length + 16 * x.w.length := by
  unfold menc; rw [enc_len]; show 19 + (mbody x).length = _; rw [mbody_len]; omega
/-- What is read at a place of a body. -/
theorem w64_n8 {x : Int} (h : (Lit.int .i64 x).wf = true) : wrap64 (x % 18446744073709551616) = x := by
  have := wf_i64 h; unfold wrap64; omega
theorem atU_n2 (p q : List Int) (n a : Nat) (hn : n < 65536) (ha : p.length = a) : atU (p ++ (n2 n ++ q)) a 2 = (n : Int) := by
  unfold n2
  rw [atU_mid p q (n : Int) 2 a (by decide) (by omega) ha]
  omega
theorem atU_n8 (p q : List Int) (x : Int) (a : Nat) (ha : p.length = a) : atU (p ++ (n8 x ++ q)) a 8 = x % 18446744073709551616 := by
  unfold n8
  rw [atU_mid p q _ 8 a (by decide) (by omega) ha]
  omega
theorem atU_u8 (p q : List Int) (x : Int) (a : Nat) (hx : 0 ≤ x ∧ x < 18446744073709551616) (ha : p.length = a) : atU (p ++ (bes x 8 8 ++ q)) a 8 = x := by
  rw [atU_mid p q _ 8 a (by decide) hx.1 ha]
  omega
theorem nB_split (n : List Int) (i : Nat) (h : i < n.length) : nB n = nB (n.take i) ++ (n8 (n.getD i 0) ++ nB (n.drop (i + 1))) := by
  have e : n = n.take i ++ (n.getD i 0 :: n.drop (i + 1)) := by
    rw [show n.getD i 0 = n[i] by simp [List.getD_eq_getElem?_getD, h], ← List.drop_eq_getElem_cons h, List.take_append_drop]
  conv => lhs; rw [e]
  simp [nB]
theorem wB_split (n : List (Int × Int)) (i : Nat) (h : i < n.length) : wB n = wB (n.take i) ++ (w16 (n.getD i (0, 0)) ++ wB (n.drop (i + 1))) := by
  have e : n = n.take i ++ (n.getD i (0, 0) :: n.drop (i + 1)) := by
    rw [show n.getD i (0, 0) = n[i] by simp [List.getD_eq_getElem?_getD, h], ← List.drop_eq_getElem_cons h, List.take_append_drop]
  conv => lhs; rw [e]
  simp [wB]
section
variable {x : Ms} (hg : x.good) (hw : x.wf)
include hg
theorem read_cn : atU (mbody x) 0 2 = (x.n.length : Int) := by
  have := atU_n2 [] (nB x.n ++ n2 x.w.length ++ wB x.w) x.n.length 0 (by have := hg.2.2.2; omega) rfl
  simpa [mbody] using this
theorem read_cw : atU (mbody x) (2 + 8 * x.n.length) 2 = (x.w.length : Int) := by
  have := atU_n2 (n2 x.n.length ++ nB x.n) (wB x.w) x.w.length (2 + 8 * x.n.length) (by have := hg.2.2.2; omega) (by rw [List.length_append, n2_len, nB_len])
  simpa [mbody] using this
omit hg
include hw
theorem read_ni (i : Nat) (h : i < x.n.length) : wrap64 (atU (mbody x) (2 + 8 * i) 8) = x.n.getD i 0 := by
  have e : mbody x = (n2 x.n.length ++ nB (x.n.take i)) ++ (n8 (x.n.getD i 0) ++ (nB (x.n.drop (i + 1)) ++ n2 x.w.length ++ wB x.w)) := by
    unfold mbody; conv => lhs; rw [nB_split x.n i h]
    simp
  rw [e, atU_n8 _ _ _ _ (by rw [List.length_append, n2_len, nB_len, List.length_take]; omega)]
  exact w64_n8 (hw.2.2.1 _ (by simp [List.getD_eq_getElem?_getD, h]))
theorem read_wi (i : Nat) (h : i < x.w.length) : wrap64 (atU (mbody x) (2 + 8 * x.n.length + 2 + 16 * i) 8) = (x.w.getD i (0, 0)).1 ∧ atU (mbody x) (2 + 8 * x.n.length + 2 + 16 * i + 8) 8 = (x.w.getD i (0, 0)).2 := by
  have hm : x.w.getD i (0, 0) ∈ x.w := by simp [List.getD_eq_getElem?_getD, h]
  have hwf := hw.2.2.2 _ hm
  have e : mbody x = (n2 x.n.length ++ nB x.n ++ n2 x.w.length ++ wB (x.w.take i)) ++ (n8 (x.w.getD i (0, 0)).1 ++ (bes (x.w.getD i (0, 0)).2 8 8 ++ wB (x.w.drop (i + 1)))) := by
    unfold mbody; conv => lhs; rw [wB_split x.w i h]
    simp [w16]
  have e2 : mbody x = (n2 x.n.length ++ nB x.n ++ n2 x.w.length ++ wB (x.w.take i) ++ n8 (x.w.getD i (0, 0)).1) ++ (bes (x.w.getD i (0, 0)).2 8 8 ++ wB (x.w.drop (i + 1))) := by rw [e]; simp
  refine ⟨?_, ?_⟩
  · rw [e, atU_n8 _ _ _ _ (by simp only [List.length_append, n2_len, nB_len, wB_len, List.length_take]; omega)]
    exact w64_n8 hwf.1
  · rw [e2, atU_u8 _ _ _ _ (wf_u64 hwf.2) (by simp only [List.length_append, n2_len, nB_len, wB_len, n8_len, List.length_take]; omega)]
end
/-- What a frame's body is read as. -/
def pN (xs : List Int) (c : Nat) : List Int := (List.range c).map fun i => wrap64 (atU xs (2 + 8 * i) 8)
def pW (xs : List Int) (a c : Nat) : List (Int × Int) := (List.range c).map fun i => (wrap64 (atU xs (a + 16 * i) 8), atU xs (a + 16 * i + 8) 8)
def pcn (xs : List Int) : Nat := (atU xs 0 2).toNat
def pcw (xs : List Int) : Nat := (atU xs (2 + 8 * pcn xs) 2).toNat
def pM (y : Fr) : Ms := ⟨y.k, y.f, y.t, y.v, y.s, pN y.b (pcn y.b), pW y.b (2 + 8 * pcn y.b + 2) (pcw y.b)⟩
theorem list_eq {α : Type} {l m : List α} (d : α) (h : l.length = m.length) (hi : ∀ i, i < l.length → l.getD i d = m.getD i d) : l = m :=
  List.ext_getElem h fun i h1 h2 => by simpa [List.getD_eq_getElem?_getD, h1, h2] using hi i h1
theorem pcn_eq {x : Ms} (hg : x.good) : pcn (mbody x) = x.n.length := by unfold pcn; rw [read_cn hg]; simp
theorem pcw_eq {x : Ms} (hg : x.good) : pcw (mbody x) = x.w.length := by unfold pcw; rw [pcn_eq hg, read_cw hg]; simp
theorem pM_mfr {x : Ms} (hg : x.good) (hw : x.wf) : pM (mfr x) = x := by
  have h1 := pcn_eq hg
  have h2 := pcw_eq hg
  unfold pM
  rw [show (mfr x).b = mbody x from rfl, h1, h2]
  have e1 : pN (mbody x) x.n.length = x.n := list_eq 0 (by simp [pN]) (fun i hi => by
    have hi' : i < x.n.length := by simpa [pN] using hi
    rw [← read_ni hw i hi']; simp [pN, List.getD_eq_getElem?_getD, hi'])
  have e2 : pW (mbody x) (2 + 8 * x.n.length + 2) x.w.length = x.w := list_eq (0, 0) (by simp [pW]) (fun i hi => by
    have hi' : i < x.w.length := by simpa [pW] using hi
    have := read_wi hw i hi'
    refine Prod.ext ?_ ?_
    · rw [← this.1]; simp [pW, List.getD_eq_getElem?_getD, hi']
    · rw [← this.2]; simp [pW, List.getD_eq_getElem?_getD, hi'])
  rw [e1, e2]; rfl
/-- These bytes are that message's. -/
def MIs (xs : List Int) (x : Ms) : Prop := x.good ∧ x.wf ∧ menc x = xs
theorem menc_inj {x y : Ms} (gx : x.good) (gy : y.good) (wx : x.wf) (wy : y.wf) (h : menc x = menc y) : x = y := by
  have := enc_inj (mfr_good gx) (mfr_good gy) (mfr_wf wx) (mfr_wf wy) h
  rw [← pM_mfr gx wx, ← pM_mfr gy wy, this]
theorem menc_wf {x : Ms} (gx : x.good) (wx : x.wf) : ∀ y ∈ menc x, (Lit.int .u8 y).wf = true := enc_wf (mfr_good gx) (mfr_wf wx)
theorem MIs.is {xs : List Int} {x : Ms} (h : MIs xs x) : Is xs (mfr x) := ⟨mfr_good h.1, mfr_wf h.2.1, h.2.2⟩
theorem Is.eq {xs : List Int} {x y : Fr} (h : Is xs x) (h' : Is xs y) : x = y := enc_inj h.1 h'.1 h.2.1 h'.2.1 (h.2.2.trans h'.2.2.symm)
end Go.Proofs.Ytbjjfgfepbklnaa
