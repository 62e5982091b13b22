/- A link's state: what waits to be acknowledged. -/
import Derived.Test.YtbkpgkkfkjlnnaaLinkA
set_option linter.unusedVariables false
set_option linter.unusedSimpArgs false
namespace Go.Proofs.Ytbkpgkkfkjlnnaa
open Go.RowKit Go.Proofs.YtbkpgkkfkjlnnaaW.PrintWords Go.Proofs.YtbkpgkkfkjlnnaaW.PrintLast Go.Proofs.Ytbkpgkkfkjlnnaa.K

theorem infoS : (Try.prog.info? 65).map (fun i => (i.zero.map (·.cells.size), i.size, i.bytes)) = some (some 9, 9, 96) := by kernel_rfl
theorem sInfo : ∃ i z, Try.prog.info? 65 = some i ∧ i.zero = some z ∧ i.size = 9 ∧ i.bytes = 96 ∧ z.cells.size = 9 := by
  obtain ⟨i, hi, h⟩ := Option.map_eq_some_iff.1 infoS
  simp only [Prod.mk.injEq] at h
  obtain ⟨hz, h1, h2⟩ := h
  obtain ⟨z, hz1, hz2⟩ := Option.map_eq_some_iff.1 hz
  exact ⟨i, z, hi, hz1, h1, h2, hz2⟩
theorem infoM : (Try.prog.info? 32).map (fun i => (i.zero.map (·.cells.size), i.size, i.bytes)) = some (some 7, 7, 80) := by kernel_rfl
theorem mInfo : ∃ i z, Try.prog.info? 32 = some i ∧ i.zero = some z ∧ i.size = 7 ∧ i.bytes = 80 ∧ z.cells.size = 7 := by
  obtain ⟨i, hi, h⟩ := Option.map_eq_some_iff.1 infoM
  simp only [Prod.mk.injEq] at h
  obtain ⟨hz, h1, h2⟩ := h
  obtain ⟨z, hz1, hz2⟩ := Option.map_eq_some_iff.1 hz
  exact ⟨i, z, hi, hz1, h1, h2, hz2⟩
/-- A message that waits. -/
structure Sd where
  k : Int
  s : Int
  A : Option Addr
  c : Nat
  xs : List Int
  sent : Bool
  at_ : Int
def Sd.val (p : Sd) : Value := .slice p.A p.xs.length p.c
def Sd.cells (own peer view : Int) (p : Sd) : List Value := [.int .i64 p.k, .int .i64 own, .int .i64 peer, .int .u32 view, .int .u32 p.s, p.val, .slice none 0 0, .bool p.sent, .int .i64 p.at_]
def sdCells (own peer view : Int) (L : List Sd) : List Value := L.flatMap (Sd.cells own peer view)
theorem sdCells_len (own peer view : Int) (L : List Sd) : (sdCells own peer view L).length = L.length * 9 := by
  induction L with
  | nil => rfl
  | cons p r ih => simp only [sdCells, List.flatMap_cons, List.length_append] at ih ⊢; rw [ih]; simp [Sd.cells]; omega
theorem sdCells_add (own peer view : Int) (L : List Sd) (p : Sd) : sdCells own peer view (L ++ [p]) = sdCells own peer view L ++ p.cells own peer view := by simp [sdCells]
structure LkS (w : World) (base r : Nat) (own peer view now pushed told next : Int) (L : List Sd) : Prop where
  cl : ∃ A c, w.heap[r]? = some (.cells (lkC own peer view now (.slice A L.length c) pushed told next (.slice none 0 0)) 61 (0, 0)) ∧ w.ownsRow base 65 9 (.slice A L.length c) L.length (sdCells own peer view L)
  bd : ∀ p ∈ L, w.ownsRow base 2 1 p.val p.xs.length (nums .i64 p.xs)
  br : base ≤ r
  bw : base ≤ w.heap.size
section
variable {w w' : World} {base r : Nat} {own peer view now pushed told next : Int} {L : List Sd}
theorem lk_made (w : World) (base : Nat) (own peer view : Int) (hb : base ≤ w.heap.size) : LkS (w.alloc (.cells (lkC own peer view 0 (.slice none 0 0) 0 0 1 (.slice none 0 0)) 61)) base w.heap.size own peer view 0 0 0 1 [] :=
  ⟨⟨none, 0, heap_alloc_new _ _, ⟨rfl, .inl ⟨rfl, rfl⟩⟩⟩, (fun p hp => by cases hp), hb, by simp; omega⟩
theorem LkS.below (h : LkS w base r own peer view now pushed told next L) (hb : Below w.heap.size w w') : LkS w' base r own peer view now pushed told next L := by
  obtain ⟨A, c, h1, h2⟩ := h.cl
  exact ⟨⟨A, c, heap_keep' hb h1, pw_own_below h2 hb⟩, fun p hp => pw_own_below (h.bd p hp) hb, h.br, Nat.le_trans h.bw hb.size⟩
/-- A store into a block of another type. -/
theorem LkS.other {b : Nat} {cs : Array Value} {ty : TypeId} (h : LkS w base r own peer view now pushed told next L) (hN : w.heap[b]? = some (.cells cs ty (0, 0))) (h1 : ty ≠ 61) (h2 : ty ≠ 65) (h3 : ty ≠ 2) (hg : w.grownBy w' (some b)) : LkS w' base r own peer view now pushed told next L := by
  obtain ⟨A, c, g1, g2⟩ := h.cl
  refine ⟨⟨A, c, ?_, own_other g2 hg (own_ne hN g2 (fun e => h2 e.symm))⟩, fun p hp => own_other (h.bd p hp) hg (own_ne hN (h.bd p hp) (fun e => h3 e.symm)), h.br, Nat.le_trans h.bw hg.size⟩
  refine (hg.block r (lt_of_heap g1) (fun e => ?_)).trans g1
  injection e with e
  rw [e, hN] at g1; injection g1 with g1; injection g1 with _ g1; exact h1 g1
/-- A store into the link's own block. -/
theorem LkS.upd {now' pushed' told' : Int} (h : LkS w base r own peer view now pushed told next L) (hg : w.grownBy w' (some r))
    (hc : ∀ A c, w.heap[r]? = some (.cells (lkC own peer view now (.slice A L.length c) pushed told next (.slice none 0 0)) 61 (0, 0)) → w'.heap[r]? = some (.cells (lkC own peer view now' (.slice A L.length c) pushed' told' next (.slice none 0 0)) 61 (0, 0))) : LkS w' base r own peer view now' pushed' told' next L := by
  obtain ⟨A, c, g1, g2⟩ := h.cl
  exact ⟨⟨A, c, hc A c g1, own_other g2 hg (own_ne g1 g2 (by decide))⟩, fun p hp => own_other (h.bd p hp) hg (own_ne g1 (h.bd p hp) (by decide)), h.br, Nat.le_trans h.bw hg.size⟩
/-- One more waits. -/
theorem LkS.push {A : Option Addr} {c g cap : Nat} (h : LkS w base r own peer view now pushed told next L) (p : Sd) (hc : w.heap[r]? = some (.cells (lkC own peer view now (.slice A L.length c) pushed told next (.slice none 0 0)) 61 (0, 0))) (ho : w.ownsRow base 65 9 (.slice A L.length c) L.length (sdCells own peer view L))
    (hown : w'.ownsRow base 65 9 (.slice (some ⟨g, 0, none⟩) (L.length + 1) cap) (L.length + 1) (sdCells own peer view L ++ p.cells own peer view)) (hg : w.grownBy w' (Value.slice A L.length c).ownBlock) (hp : w.ownsRow base 2 1 p.val p.xs.length (nums .i64 p.xs)) :
    LkS (w'.setCell ⟨r, 4, none⟩ (.slice (some ⟨g, 0, none⟩) (L.length + 1) cap)) base r own peer view now pushed told next (L ++ [p]) ∧ ∀ W, Below base W w → Below base W (w'.setCell ⟨r, 4, none⟩ (.slice (some ⟨g, 0, none⟩) (L.length + 1) cap)) := by
  have hr : w'.heap[r]? = some (.cells (lkC own peer view now (.slice A L.length c) pushed told next (.slice none 0 0)) 61 (0, 0)) := by
    refine (hg.block r (lt_of_heap hc) (fun e => ?_)).trans hc
    rcases own_ne hc ho (by decide) with h1 | h1
    · rw [h1] at e; cases e
    · exact h1 e.symm
  have gs := grown_set (w := w') (r := r) (j := 4) (.slice (some ⟨g, 0, none⟩) (L.length + 1) cap)
  have up : ∀ {V : Value} {k : Nat} {M : List Value}, w.ownsRow base 2 1 V k M → (w'.setCell ⟨r, 4, none⟩ (.slice (some ⟨g, 0, none⟩) (L.length + 1) cap)).ownsRow base 2 1 V k M := fun hV => by
    have h1 := own_other hV hg (own_type_ne hV ho (by decide))
    exact own_other h1 gs (own_ne hr h1 (by decide))
  refine ⟨⟨⟨some ⟨g, 0, none⟩, cap, ?_, ?_⟩, ?_, h.br, Nat.le_trans h.bw (Nat.le_trans hg.size gs.size)⟩, fun W hW => ?_⟩
  · rw [heap_set _ hr, List.length_append]; rfl
  · rw [sdCells_add, List.length_append]
    exact own_other hown gs (own_ne hr hown (by decide))
  · intro q hq
    rcases List.mem_append.1 hq with hq | hq
    · exact up (h.bd q hq)
    · obtain rfl := List.mem_singleton.1 hq
      exact up hp
  · have h4 := pw_below_grown hW (Value.slice A L.length c).ownBlock h.bw hg (own_base ho)
    exact bset' h4 h.br (Nat.le_trans h.bw hg.size)
end
end Go.Proofs.Ytbkpgkkfkjlnnaa
