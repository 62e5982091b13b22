/- Ring: a number put into a ring's row; sums of 128 bits. -/
import Derived.Test.YtjidjbjbngbhpaaRingI
set_option linter.unusedVariables false
set_option linter.unusedSimpArgs false
namespace Go.Proofs.Ytjidjbjbngbhpaa
open Go.RowKit Go.Proofs.YtjidjbjbngbhpaaW.PrintWords Go.Proofs.Ytjidjbjbngbhpaa.K

/-- A sum of 128 bits. -/
def wsum (a b : Int × Int) : Int × Int := (wrap64 ((IntKind.u64.wrap a.1 + IntKind.u64.wrap b.1 + (a.2 + b.2) / 18446744073709551616) % 18446744073709551616), (a.2 + b.2) % 18446744073709551616)
def gotV (add : Bool) (a b : Int × Int) : Int × Int := if add then wsum a b else b
def WwfP (p : Int × Int) : Prop := (Lit.int .i64 p.1).wf = true ∧ (Lit.int .u64 p.2).wf = true
theorem wwf_iff (p : Int × Int) : WwfP p ↔ (-9223372036854775808 ≤ p.1 ∧ p.1 < 9223372036854775808) ∧ 0 ≤ p.2 ∧ p.2 < 18446744073709551616 := by
  unfold WwfP
  simp only [Lit.wf, IntKind.min, IntKind.max, IntKind.signed, IntKind.bits, Bool.and_eq_true, decide_eq_true_eq, if_true]
  simp
  omega
theorem wsum_wf (a b : Int × Int) : WwfP (wsum a b) := by
  rw [wwf_iff]
  unfold wsum
  simp only []
  refine ⟨?_, Int.emod_nonneg _ (by decide), Int.emod_lt_of_pos _ (by decide)⟩
  unfold wrap64
  generalize (IntKind.u64.wrap a.fst + IntKind.u64.wrap b.fst + (a.snd + b.snd) / 18446744073709551616) % 18446744073709551616 = z
  omega
theorem gotV_wf (add : Bool) {a b : Int × Int} (h : WwfP b) : WwfP (gotV add a b) := by
  unfold gotV
  split
  · exact wsum_wf a b
  · exact h
/-- The row behind the first j numbers of a part. -/
def gotL (l : List (Int × Int)) (lo : Nat) (add : Bool) (M : List (Int × Int)) : Nat → List (Int × Int)
  | 0 => l
  | j + 1 => (gotL l lo add M j).set (lo + j) (gotV add (l.getD (lo + j) (0, 0)) (M.getD j (0, 0)))
theorem gotL_len (l : List (Int × Int)) (lo : Nat) (add : Bool) (M : List (Int × Int)) : ∀ j, (gotL l lo add M j).length = l.length
  | 0 => rfl
  | j + 1 => by rw [gotL, List.length_set, gotL_len l lo add M j]
theorem gotL_later (l : List (Int × Int)) (lo : Nat) (add : Bool) (M : List (Int × Int)) (i : Nat) : ∀ j, lo + j ≤ i → (gotL l lo add M j).getD i (0, 0) = l.getD i (0, 0)
  | 0, _ => rfl
  | j + 1, h => by
    rw [gotL, List.getD_eq_getElem?_getD, List.getElem?_set_ne (by omega), ← List.getD_eq_getElem?_getD]
    exact gotL_later l lo add M i j (by omega)
theorem wides_set : ∀ (l : List (Int × Int)) (q : Nat) (x : Int × Int), wides (l.set q x) = ((wides l).set (q * 2) (.int .i64 x.1)).set (q * 2 + 1) (.int .u64 x.2)
  | [], q, x => by simp [wides]
  | p :: l, 0, x => by simp [wides]
  | p :: l, q + 1, x => by
    have ih := wides_set l q x
    have e : ∀ (p : Int × Int) (l : List (Int × Int)), wides (p :: l) = .int .i64 p.1 :: .int .u64 p.2 :: wides l := fun p l => rfl
    rw [List.set_cons_succ, e, e, show (q + 1) * 2 = q * 2 + 1 + 1 by omega, show q * 2 + 1 + 1 + 1 = q * 2 + 1 + 1 + 1 by rfl, List.set_cons_succ, List.set_cons_succ, List.set_cons_succ, List.set_cons_succ, ih]
theorem own_put2 {w : World} {base g k c q : Nat} {e : TypeId} {l : List (Int × Int)} {x : Int × Int} (h : w.ownsRow base e 2 (.slice (some ⟨g, 0, none⟩) k c) k (wides l)) (hq : q < k) :
    ((w.setCell ⟨g, q * 2, none⟩ (.int .i64 x.1)).setCell ⟨g, q * 2 + 1, none⟩ (.int .u64 x.2)).ownsRow base e 2 (.slice (some ⟨g, 0, none⟩) k c) k (wides (l.set q x)) := by
  refine ⟨by rw [wides_set]; simpa using h.1, ?_⟩
  rcases h.2 with ⟨h1, _⟩ | ⟨g', cap, cur, h1, hb, hh, hr1, hr2, hr3, hr4⟩
  · cases h1
  · injection h1 with h3 h4 h5
    injection h3 with h3
    injection h3 with h3
    subst h3 h5
    refine .inr ⟨g, c, (cur.setIfInBounds (q * 2) (.int .i64 x.1)).setIfInBounds (q * 2 + 1) (.int .u64 x.2), rfl, hb, heap_set _ (heap_set _ hh), hr1, hr2, by simpa using hr3, ?_⟩
    rw [wides_set, ← hr4]
    simp only [Array.toList_setIfInBounds, List.take_set]
theorem RgS.put {w : World} {id : RgId} {place : Int} {n k : Nat} {l : List (Int × Int)} {round : Int} {told taken : Bool} (h : RgS w id place n k l round told taken) {g q : Nat} (hA : id.A = some ⟨g, 0, none⟩) (hq : q < k) {x : Int × Int} (hx : WwfP x) :
    RgS ((w.setCell ⟨g, q * 2, none⟩ (.int .i64 x.1)).setCell ⟨g, q * 2 + 1, none⟩ (.int .u64 x.2)) id place n k (l.set q x) round told taken := by
  have hr := h.row
  rw [hA] at hr
  obtain ⟨_, _, cs, hg⟩ := ownA hr rfl
  simp only [] at hg
  refine ⟨?_, ?_, ?_, h.lo, ?_⟩
  · exact blk_far (p := ⟨g, q * 2 + 1, none⟩) (blk_far (p := ⟨g, q * 2, none⟩) h.obj (blk_ne h.obj hg (by decide)) _) (blk_ne h.obj hg (by decide)) _
  · rw [hA]; exact own_put2 hr hq
  · exact own_setCell (own_setCell h.chs (own_ne h.chs hg (by decide)) _) (own_ne h.chs hg (by decide)) _
  · obtain ⟨a1, a2, a3, a4, a5, a6, a7, a8⟩ := h.ok
    refine ⟨a1, a2, a3, a4, a5, a6, a7, fun p hp => ?_⟩
    rcases List.mem_or_eq_of_mem_set hp with h1 | h1
    · exact a8 p h1
    · rw [h1]; exact hx
theorem RgF.put {w : World} {id : RgId} {g i j : Nat} (hA : id.A = some ⟨g, 0, none⟩) (u v : Value) : RgF w ((w.setCell ⟨g, i, none⟩ u).setCell ⟨g, j, none⟩ v) id :=
  ⟨rfl, rfl, rfl, by simp [World.setCell], fun k hk h1 h2 => by
    have : k ≠ g := h2 _ hA
    rw [Below.heap_setCell _ _ _ _ (by exact this), Below.heap_setCell _ _ _ _ (by exact this)]⟩
theorem wides_far {w w' : World} {A : Option Addr} {n : Nat} {l : List (Int × Int)} (h : WidesAt w A n l) (hb : ∀ ad, A = some ad → w'.heap[ad.block]? = w.heap[ad.block]?) : WidesAt w' A n l :=
  ⟨h.1, h.2.1, fun i hi => by
    obtain ⟨ad, e, h1, h2⟩ := h.2.2 i hi
    have hbk : (ad.add (i * 2)).block = ad.block := by unfold Addr.add; split <;> rfl
    refine ⟨ad, e, (World.cell?_of_block (by rw [hbk]; exact hb ad e)).trans h1, (World.cell?_of_block (by show w'.heap[(ad.add (i * 2)).block]? = _; rw [hbk]; exact hb ad e)).trans h2⟩⟩
theorem wides_frame {w w' : World} {A : Option Addr} {n : Nat} {l : List (Int × Int)} {id : RgId} (h : WidesAt w A n l) (hf : RgF w w' id) (hap : ∀ ad, A = some ad → ad.block ≠ id.r ∧ ∀ ad', id.A = some ad' → ad.block ≠ ad'.block) : WidesAt w' A n l := by
  rcases Nat.eq_zero_or_pos n with h0 | h0
  · subst h0; exact ⟨h.1, h.2.1, fun i hi => absurd hi (Nat.not_lt_zero _)⟩
  · refine wides_far h fun ad e => hf.block _ ?_ (hap ad e).1 (hap ad e).2
    obtain ⟨ad', e', h1, _⟩ := h.2.2 0 h0
    rw [e] at e'
    injection e' with e'
    subst e'
    have := World.block_lt_of_cell? w _ h1
    have hbk : (ad.add (0 * 2)).block = ad.block := by unfold Addr.add; split <;> rfl
    rw [hbk] at this
    exact this
end Go.Proofs.Ytjidjbjbngbhpaa
