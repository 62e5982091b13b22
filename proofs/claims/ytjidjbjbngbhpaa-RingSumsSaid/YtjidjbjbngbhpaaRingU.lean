/- Rows of rings and of parts: appended to, read; what stays. -/
import Derived.Test.YtjidjbjbngbhpaaRingT
set_option linter.unusedVariables false
set_option linter.unusedSimpArgs false
namespace Go.Proofs.Ytjidjbjbngbhpaa
open Go.RowKit Go.Proofs.YtjidjbjbngbhpaaW.PrintWords Go.Proofs.Ytjidjbjbngbhpaa.K

theorem grown_ne {w w1 : World} {b : Nat} {e : TypeId} {sz m : Nat} {v : Value} {xs : List Value} (hv : w.ownsRow b e sz v m xs) (hg : w.grownBy w1 v.ownBlock) {k : Nat} {t : TypeId} {cs : Array Value} (hk : w.heap[k]? = some (.cells cs t (0, 0))) (hne : e ≠ t) : w1.heap[k]? = some (.cells cs t (0, 0)) :=
  (hg.block k (lt_of_heap hk) (own_ne hv hk hne)).trans hk
theorem own_grownT {w w1 : World} {b b' : Nat} {e e' : TypeId} {sz m sz' m' : Nat} {v v' : Value} {xs xs' : List Value} (hv : w.ownsRow b e sz v m xs) (hg : w.grownBy w1 v.ownBlock) (ho : w.ownsRow b' e' sz' v' m' xs') (hne : e' ≠ e) : w1.ownsRow b' e' sz' v' m' xs' :=
  own_other ho hg (own_type_ne ho hv hne)
theorem RgS.grownT {w w1 : World} {id : RgId} {place : Int} {n k : Nat} {l : List (Int × Int)} {round : Int} {told taken : Bool} (h : RgS w id place n k l round told taken) {b : Nat} {e : TypeId} {sz m : Nat} {v : Value} {xs : List Value} (hv : w.ownsRow b e sz v m xs) (hg : w.grownBy w1 v.ownBlock) (h1 : e ≠ 54) (h2 : 33 ≠ e) (h3 : 63 ≠ e) : RgS w1 id place n k l round told taken :=
  ⟨grown_ne hv hg h.obj h1, own_grownT hv hg h.row h2, own_grownT hv hg h.chs h3, h.lo, h.ok⟩
theorem Rings.grownT {base top : Nat} {w w1 : World} {ids : List RgId} {m n k : Nat} {R : Nat → List (Int × Int)} {o g : Nat → Nat} (h : Rings base top w ids m n k R o g) {b : Nat} {e : TypeId} {sz j : Nat} {v : Value} {xs : List Value} (hv : w.ownsRow b e sz v j xs) (hg : w.grownBy w1 v.ownBlock) (h1 : e ≠ 54) (h2 : 33 ≠ e) (h3 : 63 ≠ e) : Rings base top w1 ids m n k R o g :=
  ⟨h.len, fun i hi => (h.st i hi).grownT hv hg h1 h2 h3, h.ap, h.inn, Nat.le_trans h.tw hg.size, h.bt⟩
/-! Pointers to rings -/
def ptrs (ids : List RgId) : List Value := ids.map fun id => .pointer (some ⟨id.r, 0, none⟩)
theorem ptrs_at {ids : List RgId} {i : Nat} (h : i < ids.length) : (ptrs ids)[i]? = some (.pointer (some ⟨(idn ids i).r, 0, none⟩)) := by
  unfold ptrs idn
  rw [List.getElem?_map, List.getD_eq_getElem?_getD, List.getElem?_eq_getElem h]
  rfl
def PtrRow (w : World) (b : Nat) (A : Option Addr) (c : Nat) (ids : List RgId) : Prop := w.ownsRow b 27 1 (.slice A ids.length c) ids.length (ptrs ids)
theorem PtrRow.at {w : World} {b c : Nat} {A : Option Addr} {ids : List RgId} (h : PtrRow w b A c ids) {i : Nat} (hi : i < ids.length) : ∃ g, A = some ⟨g, 0, none⟩ ∧ w.cell? ⟨g, i, none⟩ = some (.pointer (some ⟨(idn ids i).r, 0, none⟩)) := by
  rcases h.2 with ⟨h1, h2⟩ | ⟨g, cap, cur, h1, _⟩
  · omega
  · injection h1 with h3 h4 h5
    refine ⟨g, h3, ?_⟩
    have := World.ownsRow.cells h (g := g) (by rw [h3]; rfl) i _ (ptrs_at hi)
    rwa [Go.Proofs.YtjidjbjbngbhpaaW.PrintWords.add_plain] at this
theorem PtrRow.cell {w : World} {b c g : Nat} {ids : List RgId} (h : PtrRow w b (some ⟨g, 0, none⟩) c ids) {i : Nat} (hi : i < ids.length) : w.cell? ⟨g, i, none⟩ = some (.pointer (some ⟨(idn ids i).r, 0, none⟩)) := by
  obtain ⟨g', e, h1⟩ := h.at hi
  cases e
  exact h1
theorem PtrRow.raw {w : World} {b c m : Nat} {A : Option Addr} {ids : List RgId} (h : PtrRow w b A c ids) (e : ids.length = m) : w.ownsRow b 27 1 (.slice A m c) m (ptrs ids) := by subst e; exact h
theorem PtrRow.mk' {w : World} {b c m : Nat} {A : Option Addr} {ids : List RgId} {id : RgId} (e : ids.length = m) (h : w.ownsRow b 27 1 (.slice A (m + 1) c) (m + 1) (ptrs ids ++ [.pointer (some ⟨id.r, 0, none⟩)])) : PtrRow w b A c (ids ++ [id]) := by
  have h1 : (ids ++ [id]).length = m + 1 := by simp [e]
  unfold PtrRow
  rw [h1]
  have h2 : ptrs (ids ++ [id]) = ptrs ids ++ [.pointer (some ⟨id.r, 0, none⟩)] := by simp [ptrs]
  rw [h2]
  exact h
section
variable {P : Program} {ops : Array Oper} {rest : List Oper} {o : Oper} {a : Act} {Q : Exit → Act → World → Prop}
theorem app_ptr {w0 W : World} (base : Nat) (hgd : o.guard = none) (s x : Operand) (t e : TypeId)
    (ho : o.op = .call { callee := .builtin .append, args := #[s, x], argTypes := #[t, t] })
    (ht : P.underlying t = some (.slice e)) (hinfo : (P.info? e).map (fun i => (i.zero, i.size, i.bytes)) = some (some (.pointer none), 1, 8))
    (v : Value) (xs : List Value) (p : Addr) (n : Nat) (hs : a.eval s = v) (hx : a.eval x = .slice (some ⟨W.heap.size, 0, none⟩) 1 1)
    (HO : W.ownsRow base e 1 v n xs) (HB : Below base w0 W) (hbase : base ≤ W.heap.size) (hl : n ≤ 1000000)
    (h : ∀ A1 c1 w1, w1.ownsRow base e 1 (.slice A1 (n + 1) c1) (n + 1) (xs ++ [.pointer (some p)]) → Below base w0 w1 → W.grownBy w1 v.ownBlock → wpList P ops Q rest (a.put o.dst (.slice A1 (n + 1) c1)) w1) :
    wpList P ops Q (o :: rest) a (W.alloc (.cells #[.pointer (some p)] e)) := by
  refine print_append_cells (P := P) base hgd s x t e (.pointer none) 1 8 ho ht hinfo rfl (by decide) (by decide) v n xs [.pointer (some p)] hs hx rfl (by intro u hu; simp only [List.mem_cons, List.not_mem_nil, or_false] at hu; subst hu; rfl) HO HB hbase (by omega) ?_
  intro v1 w1 hown hB hg _
  obtain ⟨A1, c1, rfl⟩ := own_slice hown
  exact h A1 c1 w1 hown hB hg
theorem app_part {w0 W : World} (base : Nat) (hgd : o.guard = none) (s x : Operand) (t e : TypeId)
    (ho : o.op = .call { callee := .builtin .append, args := #[s, x], argTypes := #[t, t] })
    (ht : P.underlying t = some (.slice e)) (hinfo : (P.info? e).map (fun i => (i.zero, i.size, i.bytes)) = some (some (.agg #[.int .i64 0, .int .i64 0, .slice none 0 0]), 3, 40))
    (v : Value) (xs : List Value) (p q : Int) (A : Option Addr) (m c : Nat) (n : Nat) (hs : a.eval s = v) (hx : a.eval x = .slice (some ⟨W.heap.size, 0, none⟩) 1 1)
    (HO : W.ownsRow base e 3 v n xs) (HB : Below base w0 W) (hbase : base ≤ W.heap.size) (hl : n ≤ 1000000)
    (h : ∀ A1 c1 w1, w1.ownsRow base e 3 (.slice A1 (n + 1) c1) (n + 1) (xs ++ [.int .i64 p, .int .i64 q, .slice A m c]) → Below base w0 w1 → W.grownBy w1 v.ownBlock → wpList P ops Q rest (a.put o.dst (.slice A1 (n + 1) c1)) w1) :
    wpList P ops Q (o :: rest) a (W.alloc (.cells #[.int .i64 p, .int .i64 q, .slice A m c] e)) := by
  refine print_append_cells (P := P) base hgd s x t e (.agg #[.int .i64 0, .int .i64 0, .slice none 0 0]) 3 40 ho ht hinfo rfl (by decide) (by decide) v n xs [.int .i64 p, .int .i64 q, .slice A m c] hs hx rfl (by intro u hu; simp only [List.mem_cons, List.not_mem_nil, or_false] at hu; rcases hu with rfl | rfl | rfl <;> rfl) HO HB hbase (by omega) ?_
  intro v1 w1 hown hB hg _
  obtain ⟨A1, c1, rfl⟩ := own_slice hown
  exact h A1 c1 w1 hown hB hg
end
/-! Parts in a row: who sent it, in which round, and where it lies -/
structure Pt where
  t : Nat
  p : Nat
  A : Option Addr
  c : Nat
def Pt.cells (R : Nat → List (Int × Int)) (k n : Nat) (x : Pt) : List Value := [.int .i64 (x.t : Int), .int .i64 (csn n x.p x.t : Int), .slice x.A (Vs R k n x.t x.p).length x.c]
def ptCells (R : Nat → List (Int × Int)) (k n : Nat) (L : List Pt) : List Value := L.flatMap (Pt.cells R k n)
def dPt : Pt := ⟨0, 0, none, 0⟩
def PtRow (w : World) (b : Nat) (R : Nat → List (Int × Int)) (k n : Nat) (A : Option Addr) (c : Nat) (L : List Pt) : Prop := w.ownsRow b 37 3 (.slice A L.length c) L.length (ptCells R k n L)
theorem ptCells_at (R : Nat → List (Int × Int)) (k n : Nat) : ∀ (L : List Pt) (i : Nat), i < L.length → (ptCells R k n L)[i * 3]? = some (.int .i64 ((L.getD i dPt).t : Int)) ∧ (ptCells R k n L)[i * 3 + 1]? = some (.int .i64 (csn n (L.getD i dPt).p (L.getD i dPt).t : Int)) ∧ (ptCells R k n L)[i * 3 + 2]? = some (.slice (L.getD i dPt).A (Vs R k n (L.getD i dPt).t (L.getD i dPt).p).length (L.getD i dPt).c)
  | [], i, h => by simp at h
  | x :: L, 0, _ => by simp [ptCells, Pt.cells]
  | x :: L, i + 1, h => by
    have ih := ptCells_at R k n L i (by simpa using h)
    have e : ptCells R k n (x :: L) = Pt.cells R k n x ++ ptCells R k n L := rfl
    have hl : (Pt.cells R k n x).length = 3 := rfl
    rw [e, show (i + 1) * 3 = i * 3 + 3 by omega, show i * 3 + 3 + 1 = i * 3 + 1 + 3 by omega, show i * 3 + 3 + 2 = i * 3 + 2 + 3 by omega, List.getElem?_append_right (by omega), List.getElem?_append_right (by omega), List.getElem?_append_right (by omega), hl]
    simpa using ih
theorem PtRow.at {w : World} {b c k n : Nat} {R : Nat → List (Int × Int)} {A : Option Addr} {L : List Pt} (h : PtRow w b R k n A c L) {i : Nat} (hi : i < L.length) : ∃ g, A = some ⟨g, 0, none⟩ ∧ w.cell? ⟨g, i * 3, none⟩ = some (.int .i64 ((L.getD i dPt).t : Int)) ∧ w.cell? ⟨g, i * 3 + 1, none⟩ = some (.int .i64 (csn n (L.getD i dPt).p (L.getD i dPt).t : Int)) ∧ w.cell? ⟨g, i * 3 + 2, none⟩ = some (.slice (L.getD i dPt).A (Vs R k n (L.getD i dPt).t (L.getD i dPt).p).length (L.getD i dPt).c) := by
  rcases h.2 with ⟨h1, h2⟩ | ⟨g, cap, cur, h1, _⟩
  · omega
  · injection h1 with h3 h4 h5
    obtain ⟨e1, e2, e3⟩ := ptCells_at R k n L i hi
    refine ⟨g, h3, ?_, ?_, ?_⟩
    · have := World.ownsRow.cells h (g := g) (by rw [h3]; rfl) _ _ e1
      rwa [Go.Proofs.YtjidjbjbngbhpaaW.PrintWords.add_plain] at this
    · have := World.ownsRow.cells h (g := g) (by rw [h3]; rfl) _ _ e2
      rwa [Go.Proofs.YtjidjbjbngbhpaaW.PrintWords.add_plain] at this
    · have := World.ownsRow.cells h (g := g) (by rw [h3]; rfl) _ _ e3
      rwa [Go.Proofs.YtjidjbjbngbhpaaW.PrintWords.add_plain] at this
theorem ptCells_snoc (R : Nat → List (Int × Int)) (k n : Nat) (L : List Pt) (x : Pt) : ptCells R k n (L ++ [x]) = ptCells R k n L ++ Pt.cells R k n x := by simp [ptCells]
theorem PtRow.snoc {w : World} {b c k n j : Nat} {R : Nat → List (Int × Int)} {A : Option Addr} {L : List Pt} {x : Pt} (e : L.length = j) (h : w.ownsRow b 37 3 (.slice A (j + 1) c) (j + 1) (ptCells R k n L ++ x.cells R k n)) : PtRow w b R k n A c (L ++ [x]) := by
  have h1 : (L ++ [x]).length = j + 1 := by simp [e]
  unfold PtRow
  rw [h1, ptCells_snoc]
  exact h
theorem Rings.congr {base top : Nat} {w : World} {ids : List RgId} {m n k : Nat} {R : Nat → List (Int × Int)} {o g o' g' : Nat → Nat} (h : Rings base top w ids m n k R o g) (ho : ∀ i, i < m → o' i = o i) (hg : ∀ i, i < m → g' i = g i) : Rings base top w ids m n k R o' g' :=
  ⟨h.len, fun i hi => by rw [ho i hi, hg i hi]; exact h.st i hi, h.ap, h.inn, h.tw, h.bt⟩
theorem step_fun (t i j : Nat) : (if i < j + 1 then t + 1 else t) = upd (fun i => if i < j then t + 1 else t) j (t + 1) i := by
  unfold upd
  by_cases h : i = j
  · rw [if_pos h, if_pos (by omega)]
  · rw [if_neg h]
    show _ = if i < j then t + 1 else t
    by_cases h2 : i < j
    · rw [if_pos h2, if_pos (by omega)]
    · rw [if_neg h2, if_neg (by omega)]
theorem alloc_below (w : World) (o : Obj) : Below w.heap.size w (w.alloc o) := (Below.refl _ _).alloc (Nat.le_refl _) o
end Go.Proofs.Ytjidjbjbngbhpaa
