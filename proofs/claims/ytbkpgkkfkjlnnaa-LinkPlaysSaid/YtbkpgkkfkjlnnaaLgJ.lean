/- Links of any messages: ready. -/
import Derived.Test.YtbkpgkkfkjlnnaaLgI
import Derived.Deep.LoopGhost
set_option linter.unusedVariables false
set_option linter.unusedSimpArgs false
namespace Go.Proofs.Ytbkpgkkfkjlnnaa.G
open Go.RowKit Go.Proofs.YtbkpgkkfkjlnnaaW.PrintWords Go.Proofs.YtbkpgkkfkjlnnaaW.PrintLast Go.Proofs.Ytbkpgkkfkjlnnaa.K Go.Proofs.Ytbkpgkkfkjlnnaa.Row Go.Proofs.Ytbkpgkkfkjlnnaa

theorem LkG.newHeld {w w3 : World} {S S' : Nat → Prop} {r : Nat} {x : LSt} {held : List Hd} {B' : Option Addr} {d' : Nat} {T : Nat → Prop} (h : LkG w S r x) (hc : Chg T w w3) (hT : ∀ b, T b → ∃ cs, w.heap[b]? = some (.cells cs 32 (0, 0))) (hS : ∀ b, S b → S' b) (hS' : ∀ b, S' b → b < w3.heap.size)
    (ho : Own w3 S' 32 7 (.slice B' held.length d') held.length (hdC held)) (hin : ∀ p ∈ held, p ∈ x.held ∨ HdIn w3 S' p) :
    LkG (w3.setCell ⟨r, 8, none⟩ (.slice B' held.length d')) S' r { x with held := held } := by
  obtain ⟨A, c, B, d, h1, h2, h3⟩ := h.cl
  have hr3 : w3.heap[r]? = _ := hc.keep h1 (fun ht => by
    obtain ⟨cs, hcs⟩ := hT r ht
    exact ty_ne hcs h1 (by decide) rfl)
  have gs := grown_set (w := w3) (r := r) (j := 8) (.slice B' held.length d')
  have up : ∀ {sz n : Nat} {e : TypeId} {V : Value} {M : List Value}, Own w3 S' e sz V n M → e ≠ 61 → Own (w3.setCell ⟨r, 8, none⟩ (.slice B' held.length d')) S' e sz V n M := fun hV he => ⟨own_other hV.1 gs (Go.Proofs.Ytbkpgkkfkjlnnaa.own_ne hr3 hV.1 he), hV.2⟩
  have old : ∀ {sz n : Nat} {e : TypeId} {V : Value} {M : List Value}, Own w S e sz V n M → e ≠ 32 → Own w3 S' e sz V n M := fun hV he => ⟨hc.own hV.1 (fun g hg ht => by
    obtain ⟨cs, hcs⟩ := hT g ht
    obtain ⟨cs', hcs'⟩ := own_typed hV.1 g hg
    exact ty_ne hcs' hcs he rfl), fun b hb => hS b (hV.2 b hb)⟩
  have oldH : ∀ {h : Hd}, HdIn w S h → HdIn (w3.setCell ⟨r, 8, none⟩ (.slice B' held.length d')) S' h := fun hh => ⟨up (old hh.n (by decide)) (by decide), up (old hh.w (by decide)) (by decide)⟩
  refine ⟨fun b hb => by have := hS' b hb; rw [show (w3.setCell ⟨r, 8, none⟩ (.slice B' held.length d')).heap.size = w3.heap.size by simp [World.setCell]]; exact this, hS r h.hr, ⟨A, c, B', d', lkC_put8 hr3, up (old h2 (by decide)) (by decide), up ho (by decide)⟩, fun p hp => oldH (h.bo p hp), fun p hp => ?_⟩
  rcases hin p hp with h' | h'
  · exact oldH (h.bh p h')
  · exact ⟨up h'.n (by decide), up h'.w (by decide)⟩
/-- A store of a number in the link's own block. -/
theorem LkG.num {w w' : World} {S : Nat → Prop} {r : Nat} {x x' : LSt} (h : LkG w S r x) (hg : w.grownBy w' (some r)) (hs : w'.heap.size = w.heap.size) (ho : x'.out = x.out) (hh : x'.held = x.held)
    (hc : ∀ O H, w.heap[r]? = some (.cells (lkC x.own x.peer x.view x.now O x.pushed x.told x.next H) 61 (0, 0)) → w'.heap[r]? = some (.cells (lkC x'.own x'.peer x'.view x'.now O x'.pushed x'.told x'.next H) 61 (0, 0))) : LkG w' S r x' := by
  obtain ⟨A, c, B, d, h1, h2, h3⟩ := h.cl
  have up : ∀ {sz n : Nat} {e : TypeId} {V : Value} {M : List Value}, Own w S e sz V n M → e ≠ 61 → Own w' S e sz V n M := fun hV he => ⟨own_other hV.1 hg (Go.Proofs.Ytbkpgkkfkjlnnaa.own_ne h1 hV.1 he), hV.2⟩
  refine ⟨fun b hb => by rw [hs]; exact h.inn b hb, h.hr, ⟨A, c, B, d, by rw [ho, hh]; exact hc _ _ h1, by rw [ho]; exact up h2 (by decide), by rw [hh]; exact up h3 (by decide)⟩, fun p hp => ?_, fun p hp => ?_⟩
  · rw [ho] at hp; exact ⟨up (h.bo p hp).n (by decide), up (h.bo p hp).w (by decide)⟩
  · rw [hh] at hp; exact ⟨up (h.bh p hp).n (by decide), up (h.bh p hp).w (by decide)⟩
section
variable {P : Program} {ops : Array Oper} {Q : Exit → Act → World → Prop} {rest : List Oper} {a : Act} {o : Oper}
theorem app_cells7 {w0 W : World} (base : Nat) (hgd : o.guard = none) (s x : Operand) (t e : TypeId)
    (ho : o.op = .call { callee := .builtin .append, args := #[s, x], argTypes := #[t, t] })
    (ht : P.underlying t = some (.slice e)) (hinfo : (P.info? e).map (fun i => (i.zero, i.size, i.bytes)) = some (some (.agg #[.int .i64 0, .int .i64 0, .int .i64 0, .int .u32 0, .int .u32 0, .slice none 0 0, .slice none 0 0]), 7, 80))
    (v : Value) (xs news : List Value) (n : Nat) (hnl : news.length = 7) (hone : ∀ u ∈ news, u.oneCell' = true) (hs : a.eval s = v) (hx : a.eval x = .slice (some ⟨W.heap.size, 0, none⟩) 1 1)
    (HO : W.ownsRow base e 7 v n xs) (HB : Below base w0 W) (hbase : base ≤ W.heap.size) (hl : n ≤ 1000000)
    (h : ∀ A1 c1 w1, w1.ownsRow base e 7 (.slice A1 (n + 1) c1) (n + 1) (xs ++ news) → Below base w0 w1 → W.grownBy w1 v.ownBlock → wpList P ops Q rest (a.put o.dst (.slice A1 (n + 1) c1)) w1) :
    wpList P ops Q (o :: rest) a (W.alloc (.cells news.toArray e)) := by
  refine print_append_cells (P := P) base hgd s x t e (.agg #[.int .i64 0, .int .i64 0, .int .i64 0, .int .u32 0, .int .u32 0, .slice none 0 0, .slice none 0 0]) 7 80 ho ht hinfo rfl (by decide) (by decide) v n xs news hs hx hnl hone HO HB hbase (by omega) ?_
  intro v1 w1 hown hB hg hq
  obtain ⟨A1, c1, rfl⟩ := own_slice hown
  exact h A1 c1 w1 hown hB hg
end
/-- The messages whose turn it is: (they, the next number, what stays). -/
def rdy : Nat → Int → List Hd → List Hd → List Hd × Int × List Hd
  | 0, nx, held, out => (out, nx, held)
  | m + 1, nx, held, out => match held[held.findIdx (fun h => h.s == nx)]? with
    | some x => rdy m (nx + 1) (held.eraseIdx (held.findIdx (fun h => h.s == nx))) (out ++ [x])
    | none => (out, nx, held)
theorem fIx_cases (L : List Hd) (q : Int) : (fIx L q = -1 ∧ L[L.findIdx (fun h => h.s == q)]? = none) ∨ ∃ x, fIx L q = ((L.findIdx (fun h => h.s == q) : Nat) : Int) ∧ L[L.findIdx (fun h => h.s == q)]? = some x ∧ L.findIdx (fun h => h.s == q) < L.length ∧ x.s = q := by
  by_cases h : L.findIdx (fun h => h.s == q) < L.length
  · right
    refine ⟨L[L.findIdx (fun h => h.s == q)], by unfold fIx; rw [if_pos h], List.getElem?_eq_getElem h, h, ?_⟩
    have := List.findIdx_getElem (xs := L) (p := fun h => h.s == q) (w := h)
    simpa using this
  · left
    exact ⟨by unfold fIx; rw [if_neg h], List.getElem?_eq_none (by omega)⟩
theorem rdy_none {m : Nat} {nx : Int} {held out : List Hd} (h : held[held.findIdx (fun h => h.s == nx)]? = none) : rdy m nx held out = (out, nx, held) := by
  cases m with
  | zero => rfl
  | succ m => simp only [rdy, h]
end Go.Proofs.Ytbkpgkkfkjlnnaa.G
