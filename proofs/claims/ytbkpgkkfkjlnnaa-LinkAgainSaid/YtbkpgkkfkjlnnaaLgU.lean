/- LinkAgain: the plain law of what waits. -/
import Derived.Test.YtbkpgkkfkjlnnaaLgT
set_option linter.unusedVariables false
set_option linter.unusedSimpArgs false
namespace Go.Proofs.Ytbkpgkkfkjlnnaa.G
open Go.RowKit Go.Proofs.YtbkpgkkfkjlnnaaW.PrintWords Go.Proofs.YtbkpgkkfkjlnnaaW.PrintLast Go.Proofs.Ytbkpgkkfkjlnnaa.K Go.Proofs.Ytbkpgkkfkjlnnaa.Row Go.Proofs.Ytbkpgkkfkjlnnaa

/-- n messages wait, numbered from one; each says its place; b: whether they were sent, a: when. -/
structure AgL (n : Nat) (b : Bool) (a : Int) (L : List Sn) : Prop where
  len : L.length = n
  each : ∀ (i : Nat) (p : Sn), L[i]? = some p → p.sent = b ∧ p.at_ = a ∧ p.m.s = (i : Int) + 1 ∧ p.m.xs = [(i : Int)] ∧ p.m.ys = []
theorem AgL.mem {n : Nat} {b : Bool} {a : Int} {L : List Sn} (h : AgL n b a L) {p : Sn} (hp : p ∈ L) : p.sent = b ∧ p.at_ = a ∧ (1 ≤ p.m.s ∧ p.m.s ≤ n) ∧ p.m.xs.length = 1 ∧ p.m.ys = [] := by
  obtain ⟨i, hi⟩ := List.mem_iff_getElem?.1 hp
  have hl := (List.getElem?_eq_some_iff.1 hi).1
  have := h.len
  obtain ⟨h1, h2, h3, h4, h5⟩ := h.each i p hi
  exact ⟨h1, h2, by omega, by rw [h4]; rfl, h5⟩
theorem AgL.push {n : Nat} {L : List Sn} (h : AgL n false 0 L) {y : Hd} (hs : y.s = (n : Int) + 1) (hx : y.xs = [(n : Int)]) (hy : y.ys = []) : AgL (n + 1) false 0 (L ++ [⟨y, false, 0⟩]) := by
  refine ⟨by simp [h.len], fun i p hp => ?_⟩
  rcases Nat.lt_or_ge i n with hi | hi
  · rw [List.getElem?_append_left (by rw [h.len]; exact hi)] at hp
    exact h.each i p hp
  · have hl := (List.getElem?_eq_some_iff.1 hp).1
    have := h.len
    simp at hl
    obtain rfl : i = n := by omega
    rw [List.getElem?_append_right (by omega), h.len, Nat.sub_self] at hp
    simp at hp
    subst hp
    exact ⟨rfl, rfl, hs, hx, hy⟩
/-- A tick at which all is sent (again). -/
theorem AgL.again {n : Nat} {b : Bool} {a t : Int} {L : List Sn} (h : AgL n b a L) (hd : b = false ∨ 8 ≤ t - a) : dueL t n L = L ∧ AgL n true t (tickL t n L) := by
  have hdu : ∀ p ∈ L, due t p = true := fun p hp => by
    obtain ⟨h1, h2, _⟩ := h.mem hp
    unfold due
    rw [h1, h2]
    rcases hd with hd | hd
    · rw [hd]; rfl
    · rw [decide_eq_false (by omega)]; simp
  have ht : L.take n = L := List.take_of_length_le (by rw [h.len]; exact Nat.le_refl _)
  refine ⟨by unfold dueL; rw [ht, List.filter_eq_self]; exact hdu, ⟨by rw [tickL_len]; exact h.len, fun i p hp => ?_⟩⟩
  have hdr : L.drop n = [] := List.drop_of_length_le (by rw [h.len]; exact Nat.le_refl _)
  unfold tickL at hp
  rw [ht, hdr, List.append_nil, List.getElem?_map] at hp
  obtain ⟨q, hq, rfl⟩ := Option.map_eq_some_iff.1 hp
  have hdq := hdu q (List.mem_of_getElem? hq)
  have := h.each i q hq
  unfold tick1
  rw [if_pos hdq]
  exact ⟨rfl, rfl, this.2.2.1, this.2.2.2.1, this.2.2.2.2⟩
/-- A tick at which nothing is due. -/
theorem AgL.rest {n : Nat} {a t : Int} {L : List Sn} (h : AgL n true a L) (hd : t - a < 8) : dueL t n L = [] ∧ tickL t n L = L := by
  have hdu : ∀ p ∈ L, due t p = false := fun p hp => by
    obtain ⟨h1, h2, _⟩ := h.mem hp
    unfold due
    rw [h1, h2, decide_eq_true hd]; rfl
  have ht : L.take n = L := List.take_of_length_le (by rw [h.len]; exact Nat.le_refl _)
  have hdr : L.drop n = [] := List.drop_of_length_le (by rw [h.len]; exact Nat.le_refl _)
  refine ⟨by unfold dueL; rw [ht, List.filter_eq_nil_iff]; intro p hp; rw [hdu p hp]; decide, ?_⟩
  unfold tickL
  rw [ht, hdr, List.append_nil]
  conv => rhs; rw [← List.map_id L]
  apply List.map_congr_left
  intro p hp
  unfold tick1; rw [if_neg (by rw [hdu p hp]; decide)]; rfl
/-- All of them are acknowledged. -/
theorem AgL.acked {n : Nat} {b : Bool} {a : Int} {L : List Sn} (h : AgL n b a L) : L.filter (nak (n : Int)) = [] := by
  rw [List.filter_eq_nil_iff]
  intro p hp
  have := (h.mem hp).2.2.1
  simp [nak, ackd]; omega
end Go.Proofs.Ytbkpgkkfkjlnnaa.G
