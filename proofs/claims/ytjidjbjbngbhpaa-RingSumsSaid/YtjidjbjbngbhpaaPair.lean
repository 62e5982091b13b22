/- Words on rows of pairs ([2]int): owned, appended to, read. No program. -/
import Derived.Test.YtjidjbjbngbhpaaK
set_option linter.unusedVariables false
set_option linter.unusedSimpArgs false
namespace Go.Proofs.Ytjidjbjbngbhpaa.K
open Go.RowKit Go.Proofs.YtjidjbjbngbhpaaW.PrintWords

def pairs (l : List (Int × Int)) : List Value := l.flatMap fun p => [.int .i64 p.1, .int .i64 p.2]
theorem pairs_len (l : List (Int × Int)) : (pairs l).length = l.length * 2 := by
  induction l with
  | nil => rfl
  | cons p l ih => simp only [pairs, List.flatMap_cons, List.length_append, List.length_cons, List.length_nil] at ih ⊢; omega
theorem pairs_append (l m : List (Int × Int)) : pairs (l ++ m) = pairs l ++ pairs m := by simp [pairs]
theorem pairs_at : ∀ (l : List (Int × Int)) (i : Nat), i < l.length → (pairs l)[i * 2]? = some (.int .i64 (l.getD i (0, 0)).1) ∧ (pairs l)[i * 2 + 1]? = some (.int .i64 (l.getD i (0, 0)).2)
  | [], i, h => by simp at h
  | p :: l, 0, _ => by simp [pairs]
  | p :: l, i + 1, h => by
    have ih := pairs_at l i (by simpa using h)
    have e : pairs (p :: l) = [.int .i64 p.1, .int .i64 p.2] ++ pairs l := rfl
    rw [e, show (i + 1) * 2 = i * 2 + 2 by omega, show i * 2 + 2 + 1 = i * 2 + 1 + 2 by omega, List.getElem?_append_right (by simp), List.getElem?_append_right (by simp)]
    simpa using ih
/-- A row of pairs that is read. -/
def PairsAt (w : World) (A : Option Addr) (n : Nat) (l : List (Int × Int)) : Prop :=
  l.length = n ∧ n ≤ 1000000 ∧ ∀ i, i < n → ∃ g, A = some ⟨g, 0, none⟩ ∧ w.cell? ⟨g, i * 2, none⟩ = some (.int .i64 (l.getD i (0, 0)).1) ∧ w.cell? ⟨g, i * 2 + 1, none⟩ = some (.int .i64 (l.getD i (0, 0)).2)
theorem PairsAt.below {w w1 : World} {A : Option Addr} {n : Nat} {l : List (Int × Int)} (h : PairsAt w A n l) (hb : Below w.heap.size w w1) : PairsAt w1 A n l :=
  ⟨h.1, h.2.1, fun i hi => by
    obtain ⟨ad, e, h1, h2⟩ := h.2.2 i hi
    exact ⟨ad, e, pw_cell_below hb h1, pw_cell_below hb h2⟩⟩
theorem pairs_own {w : World} {base n : Nat} {e : TypeId} {A : Option Addr} {m c : Nat} {l : List (Int × Int)} (h : w.ownsRow base e 2 (.slice A m c) n (pairs l)) (hn : n ≤ 1000000) : m = n ∧ PairsAt w A n l := by
  have hl : l.length = n := by have := h.1; rw [pairs_len] at this; omega
  rcases h.2 with ⟨h1, h2⟩ | ⟨g, cap, cur, h1, hb, hh, hr⟩
  · injection h1 with h3 h4 h5
    exact ⟨by omega, hl, hn, fun i hi => by omega⟩
  · injection h1 with h3 h4 h5
    subst h3 h4 h5
    refine ⟨rfl, hl, hn, fun i hi => ⟨_, rfl, ?_, ?_⟩⟩
    · have := h.cells (g := g) rfl (i * 2) _ (pairs_at l i (by omega)).1
      rwa [Go.Proofs.YtjidjbjbngbhpaaW.PrintWords.add_plain] at this
    · have := h.cells (g := g) rfl (i * 2 + 1) _ (pairs_at l i (by omega)).2
      rwa [Go.Proofs.YtjidjbjbngbhpaaW.PrintWords.add_plain] at this
theorem pairs_lit (W : World) (l : List (Int × Int)) (e : TypeId) (fr : Nat × Nat) (n : Nat) (hn : l.length = n) (hm : n ≤ 1000000) : PairsAt (W.alloc (.cells (pairs l).toArray e fr)) (some ⟨W.heap.size, 0, none⟩) n l := by
  refine ⟨hn, hm, fun i hi => ⟨_, rfl, ?_, ?_⟩⟩
  · rw [World.cell?_alloc_mark]
    have := (pairs_at l i (by omega)).1
    simpa using this
  · rw [World.cell?_alloc_mark]
    have := (pairs_at l i (by omega)).2
    simpa using this
theorem PairsAt.drewN {w : World} {A : Option Addr} {n : Nat} {l : List (Int × Int)} (h : PairsAt w A n l) (m : Nat) : PairsAt (w.drewN m) A n l := h
section
variable {P : Program} {ops : Array Oper} {rest : List Oper} {o : Oper} {a : Act} {Q : Exit → Act → World → Prop}
/-- append(v, [2]int{x, y}). -/
theorem app_pair {w0 W : World} (base : Nat) (hgd : o.guard = none) (s x : Operand) (t e : TypeId)
    (ho : o.op = .call { callee := .builtin .append, args := #[s, x], argTypes := #[t, t] })
    (ht : P.underlying t = some (.slice e)) (hinfo : (P.info? e).map (fun i => (i.zero, i.size, i.bytes)) = some (some (.agg #[.int .i64 0, .int .i64 0]), 2, 16))
    (v : Value) (l : List (Int × Int)) (p q : Int) (n : Nat) (hs : a.eval s = v) (hx : a.eval x = .slice (some ⟨W.heap.size, 0, none⟩) 1 1)
    (HO : W.ownsRow base e 2 v n (pairs l)) (HB : Below base w0 W) (hbase : base ≤ W.heap.size) (hl : n ≤ 1000000)
    (h : ∀ A1 c1 w1, w1.ownsRow base e 2 (.slice A1 (n + 1) c1) (n + 1) (pairs (l ++ [(p, q)])) → Below base w0 w1 → wpList P ops Q rest (a.put o.dst (.slice A1 (n + 1) c1)) w1) :
    wpList P ops Q (o :: rest) a (W.alloc (.cells #[.int .i64 p, .int .i64 q] e)) := by
  obtain ⟨i0, hi, hzz⟩ := Option.map_eq_some_iff.1 hinfo
  simp only [Prod.mk.injEq] at hzz
  obtain ⟨hz0, hz1, hz2⟩ := hzz
  refine wpList_append_own_at (W.alloc (.cells #[.int .i64 p, .int .i64 q] e)) hgd s x t ho base e i0 (.agg #[.int .i64 0, .int .i64 0]) 2 16 ht hi hz0 hz1 hz2 rfl (by omega) v n (pairs l) hs (HO.alloc _) ⟨W.heap.size, 0, none⟩ 1 1 [.int .i64 p, .int .i64 q] hx rfl
    (World.news_of_block (cs := #[.int .i64 p, .int .i64 q]) (t := e) (fr := (0, 0)) (heap_alloc_new W _)) (by intro u hu; simp only [List.mem_cons, List.not_mem_nil, or_false] at hu; rcases hu with rfl | rfl <;> rfl) (by simp only [maxLen]; omega) (by omega) (by simp; omega) ?_
  intro v1 w1 hown hg _ hat
  obtain ⟨A1, c1, rfl⟩ := own_slice hown
  refine h A1 c1 w1 (by rw [pairs_append]; simpa [pairs] using hown) ((HB.alloc hbase _).grown hg (by simp; omega) (own_base HO))
end
end Go.Proofs.Ytjidjbjbngbhpaa.K
