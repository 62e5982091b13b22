/- What Tick does to what waits; a row of messages that grows. -/
import Derived.Test.YtbkpgkkfkjlnnaaLinkC
import Derived.Test.YtbkpgkkfkjlnnaaWMore
set_option linter.unusedVariables false
set_option linter.unusedSimpArgs false
namespace Go.Proofs.Ytbkpgkkfkjlnnaa
open Go.RowKit Go.Proofs.YtbkpgkkfkjlnnaaW.PrintWords Go.Proofs.YtbkpgkkfkjlnnaaW.PrintLast Go.Proofs.Ytbkpgkkfkjlnnaa.K

def due (now : Int) (p : Sd) : Bool := !(p.sent && decide (now - p.at_ < 8))
def Sd.touch (now : Int) (p : Sd) : Sd := { p with sent := true, at_ := now }
def tick1 (now : Int) (p : Sd) : Sd := if due now p = true then p.touch now else p
def tickL (now : Int) (i : Nat) (L : List Sd) : List Sd := (L.take i).map (tick1 now) ++ L.drop i
def dueL (now : Int) (i : Nat) (L : List Sd) : List Sd := (L.take i).filter (due now)
def told1 (now : Int) (t : Int) (p : Sd) : Int := if due now p = true then max t p.s else t
def toldL (now : Int) (t : Int) (i : Nat) (L : List Sd) : Int := (L.take i).foldl (told1 now) t
theorem tickL_len (now : Int) (i : Nat) (L : List Sd) : (tickL now i L).length = L.length := by
  simp [tickL]; omega
theorem tickL_get {now : Int} {i : Nat} {L : List Sd} {p : Sd} (h : L[i]? = some p) : (tickL now i L)[i]? = some p := by
  have hi := (List.getElem?_eq_some_iff.1 h).1
  have hl : ((L.take i).map (tick1 now)).length = i := by simp; omega
  unfold tickL
  rw [List.getElem?_append_right (by rw [hl]; exact Nat.le_refl _), hl, Nat.sub_self, List.getElem?_drop]
  exact h
theorem tickL_succ {now : Int} {i : Nat} {L : List Sd} {p : Sd} (h : L[i]? = some p) : tickL now (i + 1) L = (tickL now i L).set i (tick1 now p) := by
  have hi := (List.getElem?_eq_some_iff.1 h).1
  have hp : L[i] = p := (List.getElem?_eq_some_iff.1 h).2
  have hl : ((L.take i).map (tick1 now)).length = i := by simp; omega
  unfold tickL
  rw [List.take_succ_eq_append_getElem hi, List.map_append, List.set_append_right _ _ (by rw [hl]; exact Nat.le_refl _), hl, Nat.sub_self, hp]
  rw [List.drop_eq_getElem_cons hi, List.set_cons_zero, List.append_assoc]
  rfl
theorem dueL_succ {now : Int} {i : Nat} {L : List Sd} {p : Sd} (h : L[i]? = some p) : dueL now (i + 1) L = dueL now i L ++ (if due now p = true then [p] else []) := by
  have hi := (List.getElem?_eq_some_iff.1 h).1
  have hp : L[i] = p := (List.getElem?_eq_some_iff.1 h).2
  unfold dueL
  rw [List.take_succ_eq_append_getElem hi, List.filter_append, hp]
  by_cases hd : due now p = true
  · rw [if_pos hd]; simp [hd]
  · rw [if_neg hd]; simp [hd]
theorem toldL_succ {now t : Int} {i : Nat} {L : List Sd} {p : Sd} (h : L[i]? = some p) : toldL now t (i + 1) L = told1 now (toldL now t i L) p := by
  have hi := (List.getElem?_eq_some_iff.1 h).1
  have hp : L[i] = p := (List.getElem?_eq_some_iff.1 h).2
  unfold toldL
  rw [List.take_succ_eq_append_getElem hi, List.foldl_append, hp]; rfl
theorem sd_get (own peer view : Int) (L : List Sd) (k : Nat) (p : Sd) (h : L[k]? = some p) (j : Nat) (hj : j < 9) : (sdCells own peer view L)[k * 9 + j]? = (p.cells own peer view)[j]? := by
  induction L generalizing k with
  | nil => simp at h
  | cons q l ih =>
    have hq : (q.cells own peer view).length = 9 := rfl
    cases k with
    | zero =>
      simp at h; subst h
      show (q.cells own peer view ++ sdCells own peer view l)[0 * 9 + j]? = _
      rw [List.getElem?_append_left (by rw [hq]; omega)]; simp
    | succ k =>
      show (q.cells own peer view ++ sdCells own peer view l)[(k + 1) * 9 + j]? = _
      rw [List.getElem?_append_right (by rw [hq]; omega), hq, show (k + 1) * 9 + j - 9 = k * 9 + j by omega]
      exact ih k (by simpa using h)
theorem sd_set (own peer view now : Int) (L : List Sd) (k : Nat) (p : Sd) (h : L[k]? = some p) : sdCells own peer view (L.set k (p.touch now)) = ((sdCells own peer view L).set (k * 9 + 7) (.bool true)).set (k * 9 + 8) (.int .i64 now) := by
  induction L generalizing k with
  | nil => simp at h
  | cons a l ih =>
    have ha : (a.cells own peer view).length = 9 := rfl
    cases k with
    | zero =>
      simp at h; subst h
      show (a.touch now).cells own peer view ++ sdCells own peer view l = ((a.cells own peer view ++ sdCells own peer view l).set (0 * 9 + 7) _).set (0 * 9 + 8) _
      rw [List.set_append_left _ _ (by rw [ha]; decide), List.set_append_left _ _ (by rw [List.length_set, ha]; decide)]
      rfl
    | succ k =>
      show a.cells own peer view ++ sdCells own peer view (l.set k (p.touch now)) = ((a.cells own peer view ++ sdCells own peer view l).set ((k + 1) * 9 + 7) _).set ((k + 1) * 9 + 8) _
      rw [List.set_append_right _ _ (by rw [ha]; omega), List.set_append_right _ _ (by rw [ha]; omega), ha, show (k + 1) * 9 + 7 - 9 = k * 9 + 7 by omega, show (k + 1) * 9 + 8 - 9 = k * 9 + 8 by omega, ih k (by simpa using h)]
section
variable {w w' : World} {base r : Nat} {own peer view now pushed told next : Int} {L : List Sd}
/-- One of what waits was sent now. -/
theorem LkS.touch {g c : Nat} {k : Nat} {p : Sd} {n' : Int} (h : LkS w base r own peer view now pushed told next L) (hp : L[k]? = some p)
    (hc : w.heap[r]? = some (.cells (lkC own peer view now (.slice (some ⟨g, 0, none⟩) L.length c) pushed told next (.slice none 0 0)) 61 (0, 0))) (ho : w.ownsRow base 65 9 (.slice (some ⟨g, 0, none⟩) L.length c) L.length (sdCells own peer view L)) :
    LkS ((w.setCell ⟨g, k * 9 + 7, none⟩ (.bool true)).setCell ⟨g, k * 9 + 8, none⟩ (.int .i64 n')) base r own peer view now pushed told next (L.set k (p.touch n')) ∧ ∀ W, Below base W w → Below base W ((w.setCell ⟨g, k * 9 + 7, none⟩ (.bool true)).setCell ⟨g, k * 9 + 8, none⟩ (.int .i64 n')) := by
  have hg : w.grownBy ((w.setCell ⟨g, k * 9 + 7, none⟩ (.bool true)).setCell ⟨g, k * 9 + 8, none⟩ (.int .i64 n')) (some g) := World.grownBy.trans (grown_set _) (grown_set _)
  have o1 := (ho.stored (k * 9 + 7) (.bool true)).1
  have o2 := (o1.stored (k * 9 + 8) (.int .i64 n')).1
  have hrg : r ≠ g := fun e => by
    rcases own_ne hc ho (by decide) with h1 | h1
    · simp [Value.ownBlock] at h1
    · rw [e] at h1; exact h1 rfl
  have gb : base ≤ g := own_base ho g rfl
  refine ⟨⟨⟨some ⟨g, 0, none⟩, c, ?_, ?_⟩, ?_, h.br, Nat.le_trans h.bw hg.size⟩, fun W hW => pw_below_grown hW (some g) h.bw hg (fun k e => by cases e; exact gb)⟩
  · rw [List.length_set]; exact (hg.block r (lt_of_heap hc) (fun e => hrg (by injection e))).trans hc
  · rw [List.length_set, sd_set own peer view n' L k p hp]; exact o2
  · intro q hq
    have up : ∀ q ∈ L, ((w.setCell ⟨g, k * 9 + 7, none⟩ (.bool true)).setCell ⟨g, k * 9 + 8, none⟩ (.int .i64 n')).ownsRow base 2 1 q.val q.xs.length (nums .i64 q.xs) := fun q hq => own_other (h.bd q hq) hg (by
      rcases own_type_ne (h.bd q hq) ho (by decide) with h1 | h1
      · exact .inl h1
      · exact .inr h1)
    obtain ⟨j, hj⟩ := List.mem_iff_getElem?.1 hq
    by_cases hjk : j = k
    · subst hjk
      rw [List.getElem?_set_self (List.getElem?_eq_some_iff.1 hp).1] at hj
      injection hj with hj
      subst hj
      exact up p (List.mem_of_getElem? hp)
    · rw [List.getElem?_set_ne (fun e => hjk e.symm)] at hj
      exact up q (List.mem_of_getElem? hj)
end
/-- The messages that Tick tells: copies with rows of their own. -/
def omCells (own peer view : Int) (M : List Sd) : List Value := M.flatMap fun p => [.int .i64 p.k, .int .i64 own, .int .i64 peer, .int .u32 view, .int .u32 p.s, p.val, .slice none 0 0]
structure OutS (w : World) (base : Nat) (own peer view : Int) (V : Value) (n : Nat) (M : List Sd) : Prop where
  o : w.ownsRow base 32 7 V n (omCells own peer view M)
  l : M.length = n
  b : ∀ p ∈ M, w.ownsRow base 2 1 p.val p.xs.length (nums .i64 p.xs)
theorem OutS.below {w w' : World} {base : Nat} {own peer view : Int} {V : Value} {n : Nat} {M : List Sd} (h : OutS w base own peer view V n M) (hb : Below w.heap.size w w') : OutS w' base own peer view V n M :=
  ⟨pw_own_below h.o hb, h.l, fun p hp => pw_own_below (h.b p hp) hb⟩
theorem OutS.other {w w' : World} {base : Nat} {own peer view : Int} {V : Value} {n : Nat} {M : List Sd} {b : Nat} {cs : Array Value} {ty : TypeId} (h : OutS w base own peer view V n M) (hN : w.heap[b]? = some (.cells cs ty (0, 0))) (h1 : ty ≠ 32) (h3 : ty ≠ 2) (hg : w.grownBy w' (some b)) : OutS w' base own peer view V n M :=
  ⟨own_other h.o hg (own_ne hN h.o (fun e => h1 e.symm)), h.l, fun p hp => own_other (h.b p hp) hg (own_ne hN (h.b p hp) (fun e => h3 e.symm))⟩
section
variable {P : Program} {ops : Array Oper} {Q : Exit → Act → World → Prop} {rest : List Oper} {a : Act} {o : Oper}
theorem app_cells7 {w0 W : World} (base : Nat) (hgd : o.guard = none) (s x : Operand) (t e : TypeId)
    (ho : o.op = .call { callee := .builtin .append, args := #[s, x], argTypes := #[t, t] })
    (ht : P.underlying t = some (.slice e)) (hinfo : (P.info? e).map (fun i => (i.zero, i.size, i.bytes)) = some (some (.agg #[.int .i64 0, .int .i64 0, .int .i64 0, .int .u32 0, .int .u32 0, .slice none 0 0, .slice none 0 0]), 7, 80))
    (v : Value) (xs news : List Value) (n : Nat) (hnl : news.length = 7) (hone : ∀ u ∈ news, u.oneCell' = true) (hs : a.eval s = v) (hx : a.eval x = .slice (some ⟨W.heap.size, 0, none⟩) 1 1)
    (HO : W.ownsRow base e 7 v n xs) (HB : Below base w0 W) (hbase : base ≤ W.heap.size) (hl : n ≤ 1000000)
    (h : ∀ A1 c1 w1, w1.ownsRow base e 7 (.slice A1 (n + 1) c1) (n + 1) (xs ++ news) → Below base w0 w1 → W.grownBy w1 v.ownBlock → wpList P ops Q rest (a.put o.dst (.slice A1 (n + 1) c1)) w1) :
    wpList P ops Q (o :: rest) a (W.alloc (.cells news.toArray e)) := by
  refine print_append_cells (P := P) base hgd s x t e (.agg #[.int .i64 0, .int .i64 0, .int .i64 0, .int .u32 0, .int .u32 0, .slice none 0 0, .slice none 0 0]) 7 80 ho ht hinfo rfl (by decide) (by decide) v n xs news hs hx hnl hone HO HB hbase (by omega) ?_
  intro v1 w1 hown hB hg hq
  obtain ⟨A1, c1, rfl⟩ := own_slice hown
  exact h A1 c1 w1 hown hB hg
end
end Go.Proofs.Ytbkpgkkfkjlnnaa
