/- Walks of package net: a net's state; Send. -/
import Derived.Test.YtenbjmgmgdkapaaNetD
set_option linter.unusedVariables false
set_option linter.unusedSimpArgs false
namespace Go.Proofs.Ytenbjmgmgdkapaa
open Go.RowKit Go.Proofs.YtenbjmgmgdkapaaW.PrintWords Go.Proofs.Ytenbjmgmgdkapaa.K

theorem infoH : (Try.prog.info? 63).map (fun i => (i.zero.map (·.cells.size), i.size, i.bytes)) = some (some 4, 4, 48) := by kernel_rfl
theorem heldInfo : ∃ i z, Try.prog.info? 63 = some i ∧ i.zero = some z ∧ i.size = 4 ∧ i.bytes = 48 ∧ z.cells.size = 4 := by
  obtain ⟨i, hi, h⟩ := Option.map_eq_some_iff.1 infoH
  simp only [Prod.mk.injEq] at h
  obtain ⟨hz, h1, h2⟩ := h
  obtain ⟨z, hz1, hz2⟩ := Option.map_eq_some_iff.1 hz
  exact ⟨i, z, hi, hz1, h1, h2, hz2⟩
/-- A net in block r: its room, what waits, which ways are cut. -/
structure NetS (w : World) (base r mb : Nat) (room : Int) (n : Nat) (f : Nat → Nat → Bool) (L : List Pk) : Prop where
  cl : ∃ A c, NetC w r room A L.length c mb ∧ w.ownsRow base 63 4 (.slice A L.length c) L.length (pkCells L)
  bd : ∀ p ∈ L, w.ownsRow base 5 1 p.val p.b.length (nums .u8 p.b)
  ap : L.Pairwise (fun p q => p.val.ownBlock = none ∨ p.val.ownBlock ≠ q.val.ownBlock)
  cu : CutM w mb n f
  br : base ≤ r
  bm : base ≤ mb
  ne : r ≠ mb
  bw : base ≤ w.heap.size
theorem NetC.lt {w : World} {r : Nat} {room : Int} {A : Option Addr} {k c mb : Nat} (h : NetC w r room A k c mb) : r < w.heap.size := by unfold NetC at h; exact lt_of_heap h
theorem CutM.lt {w : World} {mb n : Nat} {f : Nat → Nat → Bool} (h : CutM w mb n f) : mb < w.heap.size := by obtain ⟨D, h1, _⟩ := h; exact h1.lt
theorem NetS.below {w w' : World} {base r mb : Nat} {room : Int} {n : Nat} {f : Nat → Nat → Bool} {L : List Pk} (h : NetS w base r mb room n f L) (hb : Below w.heap.size w w') : NetS w' base r mb room n f L := by
  obtain ⟨A, c, h1, h2⟩ := h.cl
  refine ⟨⟨A, c, ?_, pw_own_below h2 hb⟩, fun p hp => pw_own_below (h.bd p hp) hb, h.ap, ?_, h.br, h.bm, h.ne, Nat.le_trans h.bw hb.size⟩
  · unfold NetC at h1 ⊢; exact heap_keep hb h1
  · obtain ⟨D, g1, g2, g3⟩ := h.cu
    obtain ⟨es, clock, e1, e2⟩ := g1
    exact ⟨D, ⟨es, clock, heap_keep hb e1, e2⟩, g2, g3⟩
theorem net_made (w : World) (base : Nat) (room : Int) (hb : base ≤ w.heap.size) : NetS ((w.alloc (.map #[] 0)).alloc (.cells #[.int .i64 room, .slice none 0 0, .map (some w.heap.size)] 59)) base (w.heap.size + 1) w.heap.size room 0 (fun _ _ => false) [] := by
  refine ⟨⟨none, 0, ?_, ⟨rfl, .inl ⟨rfl, rfl⟩⟩⟩, (fun p hp => by cases hp), List.Pairwise.nil, ?_, by omega, hb, by omega, ?_⟩
  · unfold NetC; simp only [hal]; exact hpush2 _ _ _
  · exact (cut_made w).kept (World.grownBy_alloc _ _ none) (by simp)
  · simp; omega

theorem CutM.below {w w' : World} {mb n : Nat} {f : Nat → Nat → Bool} (h : CutM w mb n f) (hb : Below w.heap.size w w') : CutM w' mb n f := by
  obtain ⟨D, g1, g2, g3⟩ := h
  obtain ⟨es, clock, e1, e2⟩ := g1
  exact ⟨D, ⟨es, clock, heap_keep hb e1, e2⟩, g2, g3⟩
theorem net_cells {w : World} {r : Nat} {room : Int} {A : Option Addr} {k c mb : Nat} (h : NetC w r room A k c mb) :
    w.cell? ⟨r, 0, none⟩ = some (.int .i64 room) ∧ w.cell? ⟨r, 1, none⟩ = some (.slice A k c) ∧ w.cell? ⟨r, 2, none⟩ = some (.map (some mb)) := by
  unfold NetC at h; simp [World.cell?, h]
end Go.Proofs.Ytenbjmgmgdkapaa
