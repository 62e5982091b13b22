/- Words on rows of wide numbers (struct of int64 and uint64): owned, appended to, read; an argument's reading. -/
import Derived.Test.YtbkpgkkfkjlnnaaK
set_option linter.unusedVariables false
set_option linter.unusedSimpArgs false
namespace Go.Proofs.Ytbkpgkkfkjlnnaa.K
open Go.RowKit Go.Proofs.YtbkpgkkfkjlnnaaW.PrintWords Go.ChangeShapes Go.WideShapes Go.Deep

def wides (l : List (Int × Int)) : List Value := l.flatMap fun p => [.int .i64 p.1, .int .u64 p.2]
theorem wides_len (l : List (Int × Int)) : (wides l).length = l.length * 2 := by
  induction l with
  | nil => rfl
  | cons p l ih => simp only [wides, List.flatMap_cons, List.length_append, List.length_cons, List.length_nil] at ih ⊢; omega
theorem wides_append (l m : List (Int × Int)) : wides (l ++ m) = wides l ++ wides m := by simp [wides]
theorem wides_at : ∀ (l : List (Int × Int)) (i : Nat), i < l.length → (wides l)[i * 2]? = some (.int .i64 (l.getD i (0, 0)).1) ∧ (wides l)[i * 2 + 1]? = some (.int .u64 (l.getD i (0, 0)).2)
  | [], i, h => by simp at h
  | p :: l, 0, _ => by simp [wides]
  | p :: l, i + 1, h => by
    have ih := wides_at l i (by simpa using h)
    have e : wides (p :: l) = [.int .i64 p.1, .int .u64 p.2] ++ wides l := rfl
    rw [e, show (i + 1) * 2 = i * 2 + 2 by omega, show i * 2 + 2 + 1 = i * 2 + 1 + 2 by omega, List.getElem?_append_right (by simp), List.getElem?_append_right (by simp)]
    simpa using ih
theorem wides_one (l : List (Int × Int)) : ∀ u ∈ wides l, u.oneCell' = true := by
  intro u hu
  simp only [wides, List.mem_flatMap] at hu
  obtain ⟨p, _, hp⟩ := hu
  simp only [List.mem_cons, List.not_mem_nil, or_false] at hp
  rcases hp with rfl | rfl <;> rfl
/-- A row of wide numbers that is read. -/
def WidesAt (w : World) (A : Option Addr) (n : Nat) (l : List (Int × Int)) : Prop :=
  l.length = n ∧ n ≤ 9223372036854775807 ∧ ∀ i, i < n → ∃ ad, A = some ad ∧ w.cell? (ad.add (i * 2)) = some (.int .i64 (l.getD i (0, 0)).1) ∧ w.cell? ⟨(ad.add (i * 2)).block, (ad.add (i * 2)).off + 1, none⟩ = some (.int .u64 (l.getD i (0, 0)).2)
theorem WidesAt.below {w w1 : World} {A : Option Addr} {n : Nat} {l : List (Int × Int)} (h : WidesAt w A n l) (hb : Below w.heap.size w w1) : WidesAt w1 A n l :=
  ⟨h.1, h.2.1, fun i hi => by
    obtain ⟨ad, e, h1, h2⟩ := h.2.2 i hi
    exact ⟨ad, e, pw_cell_below hb h1, pw_cell_below hb h2⟩⟩
theorem wides_nil (w : World) : WidesAt w none 0 [] := ⟨rfl, by decide, fun i hi => by omega⟩
theorem wides_own {w : World} {base n : Nat} {e : TypeId} {A : Option Addr} {m c : Nat} {l : List (Int × Int)} (h : w.ownsRow base e 2 (.slice A m c) n (wides l)) (hn : n ≤ 1000000) : m = n ∧ n ≤ c ∧ WidesAt w A n l := by
  have hl : l.length = n := by have := h.1; rw [wides_len] at this; omega
  rcases h.2 with ⟨h1, h2⟩ | ⟨g, cap, cur, h1, hb, hh, hr, _⟩
  · injection h1 with h3 h4 h5
    exact ⟨by omega, by omega, hl, by omega, fun i hi => by omega⟩
  · injection h1 with h3 h4 h5
    subst h3 h4 h5
    refine ⟨rfl, hr, hl, by omega, fun i hi => ⟨_, rfl, ?_, ?_⟩⟩
    · exact h.cells (g := g) rfl (i * 2) _ (wides_at l i (by omega)).1
    · have := h.cells (g := g) rfl (i * 2 + 1) _ (wides_at l i (by omega)).2
      rw [Go.Proofs.YtbkpgkkfkjlnnaaW.PrintWords.add_plain] at this ⊢
      exact this
theorem wides_lit (W : World) (l : List (Int × Int)) (e : TypeId) (fr : Nat × Nat) (n : Nat) (hn : l.length = n) (hm : n ≤ 1000000) : WidesAt (W.alloc (.cells (wides l).toArray e fr)) (some ⟨W.heap.size, 0, none⟩) n l := by
  refine ⟨hn, by omega, fun i hi => ⟨_, rfl, ?_, ?_⟩⟩
  · rw [Go.Proofs.YtbkpgkkfkjlnnaaW.PrintWords.add_plain, World.cell?_alloc_mark]
    have := (wides_at l i (by omega)).1
    simpa using this
  · rw [Go.Proofs.YtbkpgkkfkjlnnaaW.PrintWords.add_plain, World.cell?_alloc_mark]
    have := (wides_at l i (by omega)).2
    simpa using this
section
variable {P : Program} {ops : Array Oper} {rest : List Oper} {o : Oper} {a : Act} {Q : Exit → Act → World → Prop}
/-- append(v, w), w a wide number. -/
theorem app_wide {w0 W : World} (base : Nat) (hgd : o.guard = none) (s x : Operand) (t e : TypeId)
    (ho : o.op = .call { callee := .builtin .append, args := #[s, x], argTypes := #[t, t] })
    (ht : P.underlying t = some (.slice e)) (hinfo : (P.info? e).map (fun i => (i.zero, i.size, i.bytes)) = some (some (.agg #[.int .i64 0, .int .u64 0]), 2, 16))
    (v : Value) (l : List (Int × Int)) (p q : Int) (n : Nat) (hs : a.eval s = v) (hx : a.eval x = .slice (some ⟨W.heap.size, 0, none⟩) 1 1)
    (HO : W.ownsRow base e 2 v n (wides l)) (HB : Below base w0 W) (hbase : base ≤ W.heap.size) (hl : n ≤ 1000000)
    (h : ∀ A1 c1 w1, w1.ownsRow base e 2 (.slice A1 (n + 1) c1) (n + 1) (wides (l ++ [(p, q)])) → Below base w0 w1 → W.grownBy w1 v.ownBlock → ((Value.slice A1 (n + 1) c1).ownBlock = v.ownBlock ∨ ∃ b, (Value.slice A1 (n + 1) c1).ownBlock = some b ∧ W.heap.size ≤ b) → wpList P ops Q rest (a.put o.dst (.slice A1 (n + 1) c1)) w1) :
    wpList P ops Q (o :: rest) a (W.alloc (.cells #[.int .i64 p, .int .u64 q] e)) := by
  refine print_append_cells (P := P) base hgd s x t e (.agg #[.int .i64 0, .int .u64 0]) 2 16 ho ht hinfo rfl (by decide) (by decide) v n (wides l) [.int .i64 p, .int .u64 q] hs hx rfl (by intro u hu; simp only [List.mem_cons, List.not_mem_nil, or_false] at hu; rcases hu with rfl | rfl <;> rfl) HO HB hbase (by omega) ?_
  intro v1 w1 hown hB hg hq
  obtain ⟨A1, c1, rfl⟩ := own_slice hown
  exact h A1 c1 w1 (by rw [wides_append]; simpa [wides] using hown) hB hg hq
end
section
variable {H : Type} {enc : TypeId × Value → H} {P : Program} {w : World} {base : Nat} {spare : Nat → Bool} {held : Bool}
/-- A slice of wide numbers, as an element of something. -/
theorem open_wides {e b : TypeId} {f0 f1 : Field} {fuel : Nat} {v : Value} {x : DataW H × List MemPlace} (he : P.underlying e = some (.slice b)) (hb : P.underlying b = some (.struct #[f0, f1])) (hc : P.cellsOf b = 2) (o0 : f0.offset = 0) (o1 : f1.offset = 1) (hi : P.underlying f0.type = some (.int .i64)) (hu : P.underlying f1.type = some (.int .u64)) (hci : P.cellsOf f0.type = 1) (hcu : P.cellsOf f1.type = 1)
    (h : DataW.trod enc P w base spare held fuel e [v] = some x) : ∃ A n c zs, v = .slice A n c ∧ WidesAt w A n zs ∧ (∀ y ∈ zs, (Lit.int .i64 y.1).wf = true ∧ (Lit.int .u64 y.2).wf = true) ∧ n ≤ c := by
  rcases open_slice he h with ⟨hcs, _⟩ | ⟨a, l, c, m, n, D, Pl, hcs, _, hl, hm, hmm, _, hx⟩
  · simp only [List.cons.injEq, and_true] at hcs
    subst hcs
    exact ⟨none, 0, 0, [], rfl, wides_nil _, by simp, Nat.le_refl _⟩
  · simp only [List.cons.injEq, and_true] at hcs
    subst hcs
    have hlm : l ≤ m := by rw [hmm]; split <;> omega
    simp only [maxLen] at hm
    have key : ∀ i, ∃ p : Int × Int, i < l → w.cell? (a.add (i * 2)) = some (.int .i64 p.1) ∧ w.cell? ⟨(a.add (i * 2)).block, (a.add (i * 2)).off + 1, none⟩ = some (.int .u64 p.2) ∧ (Lit.int .i64 p.1).wf = true ∧ (Lit.int .u64 p.2).wf = true := by
      intro i
      by_cases hil : i < l
      · obtain ⟨cs', h1, h2⟩ := hx i (by omega)
        rw [hc] at h1
        obtain ⟨_, hlen, hcell⟩ := World.cells?_some h1
        obtain ⟨y0, y1, n', _, _, q0, q1⟩ := trod_struct2 hb h2
        rw [o0, hci] at q0
        rw [o1, hcu] at q1
        match cs', hlen with
        | [u0, u1], _ =>
          obtain ⟨z0, e0, _, w0⟩ := DataW.trod_int hi q0
          obtain ⟨z1, e1, _, w1⟩ := DataW.trod_int hu q1
          simp at e0 e1
          subst e0 e1
          have c0 := hcell 0 (by decide)
          have c1 := hcell 1 (by decide)
          refine ⟨(z0, z1), fun _ => ⟨?_, ?_, w0, w1⟩⟩
          · simpa [Addr.add] using c0
          · have e := add_field (a.add (i * 2)) 0 1 (by decide)
            have e2 : (a.add (i * 2)).add 0 = a.add (i * 2) := by simp [Addr.add]
            rw [e2] at e
            rw [← e]
            simpa using c1
      · exact ⟨(0, 0), fun h => absurd h hil⟩
    classical
    refine ⟨some a, l, c, (List.range l).map fun i => Classical.choose (key i), rfl, ⟨by simp, by omega, fun i hi => ⟨a, rfl, ?_⟩⟩, fun y hy => ?_, hl⟩
    · have := Classical.choose_spec (key i) hi
      have e : ((List.range l).map fun i => Classical.choose (key i)).getD i (0, 0) = Classical.choose (key i) := by simp [List.getD_eq_getElem?_getD, hi]
      rw [e]
      exact ⟨this.1, this.2.1⟩
    · obtain ⟨i, hi, rfl⟩ := List.mem_map.1 hy
      have := Classical.choose_spec (key i) (List.mem_range.1 hi)
      exact this.2.2
end
end Go.Proofs.Ytbkpgkkfkjlnnaa.K
