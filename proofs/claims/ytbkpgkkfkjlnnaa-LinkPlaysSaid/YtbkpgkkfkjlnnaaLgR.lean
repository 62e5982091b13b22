/- Links of any messages: what Tick does to what waits. -/
import Derived.Test.YtbkpgkkfkjlnnaaLgQ
set_option linter.unusedVariables false
set_option linter.unusedSimpArgs false
namespace Go.Proofs.Ytbkpgkkfkjlnnaa.G
open Go.RowKit Go.Proofs.YtbkpgkkfkjlnnaaW.PrintWords Go.Proofs.YtbkpgkkfkjlnnaaW.PrintLast Go.Proofs.Ytbkpgkkfkjlnnaa.K Go.Proofs.Ytbkpgkkfkjlnnaa.Row Go.Proofs.Ytbkpgkkfkjlnnaa

def due (now : Int) (p : Sn) : Bool := !(p.sent && decide (now - p.at_ < 8))
def Sn.touch (now : Int) (p : Sn) : Sn := { p with sent := true, at_ := now }
def tick1 (now : Int) (p : Sn) : Sn := if due now p = true then p.touch now else p
def tickL (now : Int) (i : Nat) (L : List Sn) : List Sn := (L.take i).map (tick1 now) ++ L.drop i
def dueL (now : Int) (i : Nat) (L : List Sn) : List Sn := (L.take i).filter (due now)
def told1 (now : Int) (t : Int) (p : Sn) : Int := if due now p = true then max t p.m.s else t
def toldL (now : Int) (t : Int) (i : Nat) (L : List Sn) : Int := (L.take i).foldl (told1 now) t
theorem tickL_len (now : Int) (i : Nat) (L : List Sn) : (tickL now i L).length = L.length := by
  simp [tickL]; omega
theorem tickL_get {now : Int} {i : Nat} {L : List Sn} {p : Sn} (h : L[i]? = some p) : (tickL now i L)[i]? = some p := by
  have hi := (List.getElem?_eq_some_iff.1 h).1
  have hl : ((L.take i).map (tick1 now)).length = i := by simp; omega
  unfold tickL
  rw [List.getElem?_append_right (by rw [hl]; exact Nat.le_refl _), hl, Nat.sub_self, List.getElem?_drop]
  exact h
theorem tickL_succ {now : Int} {i : Nat} {L : List Sn} {p : Sn} (h : L[i]? = some p) : tickL now (i + 1) L = (tickL now i L).set i (tick1 now p) := by
  have hi := (List.getElem?_eq_some_iff.1 h).1
  have hp : L[i] = p := (List.getElem?_eq_some_iff.1 h).2
  have hl : ((L.take i).map (tick1 now)).length = i := by simp; omega
  unfold tickL
  rw [List.take_succ_eq_append_getElem hi, List.map_append, List.set_append_right _ _ (by rw [hl]; exact Nat.le_refl _), hl, Nat.sub_self, hp]
  rw [List.drop_eq_getElem_cons hi, List.set_cons_zero, List.append_assoc]
  rfl
theorem dueL_succ {now : Int} {i : Nat} {L : List Sn} {p : Sn} (h : L[i]? = some p) : dueL now (i + 1) L = dueL now i L ++ (if due now p = true then [p] else []) := by
  have hi := (List.getElem?_eq_some_iff.1 h).1
  have hp : L[i] = p := (List.getElem?_eq_some_iff.1 h).2
  unfold dueL
  rw [List.take_succ_eq_append_getElem hi, List.filter_append, hp]
  by_cases hd : due now p = true
  · rw [if_pos hd]; simp [hd]
  · rw [if_neg hd]; simp [hd]
theorem toldL_succ {now t : Int} {i : Nat} {L : List Sn} {p : Sn} (h : L[i]? = some p) : toldL now t (i + 1) L = told1 now (toldL now t i L) p := by
  have hi := (List.getElem?_eq_some_iff.1 h).1
  have hp : L[i] = p := (List.getElem?_eq_some_iff.1 h).2
  unfold toldL
  rw [List.take_succ_eq_append_getElem hi, List.foldl_append, hp]; rfl
theorem sn_touch (now : Int) (L : List Sn) (k : Nat) (p : Sn) (h : L[k]? = some p) : snC (L.set k (p.touch now)) = ((snC L).set (k * 9 + 7) (.bool true)).set (k * 9 + 8) (.int .i64 now) := by
  induction L generalizing k with
  | nil => simp at h
  | cons a l ih =>
    have ha : a.cells.length = 9 := rfl
    cases k with
    | zero =>
      simp at h; subst h
      show (a.touch now).cells ++ snC l = ((a.cells ++ snC l).set (0 * 9 + 7) _).set (0 * 9 + 8) _
      rw [List.set_append_left _ _ (by rw [ha]; decide), List.set_append_left _ _ (by rw [List.length_set, ha]; decide)]
      rfl
    | succ k =>
      show a.cells ++ snC (l.set k (p.touch now)) = ((a.cells ++ snC l).set ((k + 1) * 9 + 7) _).set ((k + 1) * 9 + 8) _
      rw [List.set_append_right _ _ (by rw [ha]; omega), List.set_append_right _ _ (by rw [ha]; omega), ha, show (k + 1) * 9 + 7 - 9 = k * 9 + 7 by omega, show (k + 1) * 9 + 8 - 9 = k * 9 + 8 by omega, ih k (by simpa using h)]
/-- One of what waits was sent now. -/
theorem LkG.touch {w : World} {S : Nat → Prop} {r : Nat} {x : LSt} {g c k : Nat} {p : Sn} {n' : Int} {B : Value} (h : LkG w S r x) (hp : x.out[k]? = some p)
    (hc : w.heap[r]? = some (.cells (lkC x.own x.peer x.view x.now (.slice (some ⟨g, 0, none⟩) x.out.length c) x.pushed x.told x.next B) 61 (0, 0))) (ho : Own w S 65 9 (.slice (some ⟨g, 0, none⟩) x.out.length c) x.out.length (snC x.out)) :
    LkG ((w.setCell ⟨g, k * 9 + 7, none⟩ (.bool true)).setCell ⟨g, k * 9 + 8, none⟩ (.int .i64 n')) S r ⟨x.own, x.peer, x.view, x.now, x.pushed, x.told, x.next, x.out.set k (p.touch n'), x.held⟩ ∧ Chg S w ((w.setCell ⟨g, k * 9 + 7, none⟩ (.bool true)).setCell ⟨g, k * 9 + 8, none⟩ (.int .i64 n')) ∧
      ((w.setCell ⟨g, k * 9 + 7, none⟩ (.bool true)).setCell ⟨g, k * 9 + 8, none⟩ (.int .i64 n')).heap[r]? = some (.cells (lkC x.own x.peer x.view x.now (.slice (some ⟨g, 0, none⟩) x.out.length c) x.pushed x.told x.next B) 61 (0, 0)) ∧
      Own ((w.setCell ⟨g, k * 9 + 7, none⟩ (.bool true)).setCell ⟨g, k * 9 + 8, none⟩ (.int .i64 n')) S 65 9 (.slice (some ⟨g, 0, none⟩) x.out.length c) x.out.length (snC (x.out.set k (p.touch n'))) := by
  have hg : w.grownBy ((w.setCell ⟨g, k * 9 + 7, none⟩ (.bool true)).setCell ⟨g, k * 9 + 8, none⟩ (.int .i64 n')) (some g) := World.grownBy.trans (grown_set _) (grown_set _)
  have hsz : ((w.setCell ⟨g, k * 9 + 7, none⟩ (.bool true)).setCell ⟨g, k * 9 + 8, none⟩ (.int .i64 n')).heap.size = w.heap.size := by simp [World.setCell]
  have o2 := ((ho.1.stored (k * 9 + 7) (.bool true)).1.stored (k * 9 + 8) (.int .i64 n')).1
  obtain ⟨csg, hcsg⟩ := own_typed ho.1 g rfl
  have hrg : r ≠ g := ty_ne hc hcsg (by decide)
  have hcg : Chg (fun b => b = g) w _ := Chg.ofGrown hg (fun k e => by injection e with e; exact e.symm)
  have hr2 := (hg.block r (lt_of_heap hc) (fun e => hrg (by injection e))).trans hc
  have hown : Own ((w.setCell ⟨g, k * 9 + 7, none⟩ (.bool true)).setCell ⟨g, k * 9 + 8, none⟩ (.int .i64 n')) S 65 9 (.slice (some ⟨g, 0, none⟩) x.out.length c) x.out.length (snC (x.out.set k (p.touch n'))) := ⟨by rw [sn_touch n' x.out k p hp]; exact o2, ho.2⟩
  have up : ∀ {h : Hd}, HdIn w S h → HdIn ((w.setCell ⟨g, k * 9 + 7, none⟩ (.bool true)).setCell ⟨g, k * 9 + 8, none⟩ (.int .i64 n')) S h := fun hh => hh.chgTy hcg (fun b cs ty h1 h2 e => by
    subst e; rw [hcsg] at h1; injection h1 with h1; injection h1 with _ h1; subst h1
    rcases h2 with h2 | h2 <;> exact absurd h2 (by decide))
  obtain ⟨A0, c0, B0, d0, g1, g2, g3⟩ := h.cl
  have e0 := hc.symm.trans g1
  injection e0 with e0; injection e0 with e0 _
  simp only [lkC, Array.mk.injEq, List.cons.injEq, Value.slice.injEq, true_and, and_true] at e0
  refine ⟨⟨fun b hb => by rw [hsz]; exact h.inn b hb, h.hr, ⟨some ⟨g, 0, none⟩, c, B0, d0, by rw [List.length_set, ← e0.2]; exact hr2, by rw [List.length_set]; exact hown, ⟨hcg.own g3.1 (fun b hb e => by
    subst e
    obtain ⟨cs', h'⟩ := own_typed g3.1 b hb
    exact ty_ne hcsg h' (by decide) rfl), g3.2⟩⟩, fun q hq => ?_, fun q hq => up (h.bh q hq)⟩, hcg.mono (fun b _ e => by rw [e]; exact ho.2 g rfl), hr2, hown⟩
  obtain ⟨j, hj⟩ := List.mem_iff_getElem?.1 hq
  by_cases hjk : j = k
  · subst hjk
    rw [List.getElem?_set_self (List.getElem?_eq_some_iff.1 hp).1] at hj
    injection hj with hj
    subst hj
    exact up (h.bo p (List.mem_of_getElem? hp))
  · rw [List.getElem?_set_ne (fun e => hjk e.symm)] at hj
    exact up (h.bo q (List.mem_of_getElem? hj))
/-- Tick on its way. -/
structure TickG (w wr : World) (S : Nat → Prop) (r : Nat) (x : LSt) (nw : Int) (i : Nat) (A : Option Addr) (k c : Nat) (M : List Hd) : Prop where
  G : LkG wr S r ⟨x.own, x.peer, x.view, nw, x.pushed, toldL nw x.told i x.out, x.next, tickL nw i x.out, x.held⟩
  o : wr.ownsRow w.heap.size 32 7 (.slice A k c) k (hdC M)
  om : M.length = k
  ob : ∀ h ∈ M, HdIn wr (fun b => w.heap.size ≤ b) h
  e : M.map Hd.dt = (dueL nw i x.out).map (fun p => p.m.dt)
  C : Chg S w wr
  lt : ∀ b, S b → b < w.heap.size
section
variable {w wr wx : World} {S : Nat → Prop} {r : Nat} {x : LSt} {nw : Int} {i : Nat} {A : Option Addr} {k c : Nat} {M : List Hd}
theorem TickG.below (h : TickG w wr S r x nw i A k c M) (hb : Below wr.heap.size wr wx) : TickG w wx S r x nw i A k c M :=
  ⟨h.G.below hb, pw_own_below h.o hb, h.om, fun p hp => (h.ob p hp).chg (T := fun _ => False) (Chg.ofBelow hb) (fun _ _ h => h), h.e, h.C.trans (Chg.ofBelow (S := fun _ => False) hb) (fun _ _ h => h.elim), h.lt⟩
theorem TickG.skip {p : Sn} (h : TickG w wr S r x nw i A k c M) (hp : x.out[i]? = some p) (hd : due nw p = false) : TickG w wr S r x nw (i + 1) A k c M := by
  have e1 : tick1 nw p = p := by unfold tick1; rw [if_neg (by rw [hd]; decide)]
  have e2 : tickL nw (i + 1) x.out = tickL nw i x.out := by
    rw [tickL_succ hp, e1]
    have := tickL_get (now := nw) hp
    apply List.ext_getElem?
    intro j
    by_cases hj : i = j
    · subst hj; rw [List.getElem?_set_self (List.getElem?_eq_some_iff.1 this).1, this]
    · rw [List.getElem?_set_ne hj]
  have e3 : toldL nw x.told (i + 1) x.out = toldL nw x.told i x.out := by rw [toldL_succ hp]; unfold told1; rw [if_neg (by rw [hd]; decide)]
  have e4 : dueL nw (i + 1) x.out = dueL nw i x.out := by rw [dueL_succ hp, if_neg (by rw [hd]; decide), List.append_nil]
  exact ⟨by rw [e2, e3]; exact h.G, h.o, h.om, h.ob, by rw [e4]; exact h.e, h.C, h.lt⟩
end
end Go.Proofs.Ytbkpgkkfkjlnnaa.G
