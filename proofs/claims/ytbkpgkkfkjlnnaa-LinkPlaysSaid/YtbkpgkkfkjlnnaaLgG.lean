/- Links of any messages: confirm that strikes. -/
import Derived.Test.YtbkpgkkfkjlnnaaLgF
set_option linter.unusedVariables false
set_option linter.unusedSimpArgs false
namespace Go.Proofs.Ytbkpgkkfkjlnnaa.G
open Go.RowKit Go.Proofs.YtbkpgkkfkjlnnaaW.PrintWords Go.Proofs.YtbkpgkkfkjlnnaaW.PrintLast Go.Proofs.Ytbkpgkkfkjlnnaa.K Go.Proofs.Ytbkpgkkfkjlnnaa.Row Go.Proofs.Ytbkpgkkfkjlnnaa

theorem lkC_put4 {w : World} {r : Nat} {own peer view now : Int} {O O' : Value} {pushed told next : Int} {H : Value} {ty : TypeId} (h : w.heap[r]? = some (.cells (lkC own peer view now O pushed told next H) ty (0, 0))) : (w.setCell ⟨r, 4, none⟩ O').heap[r]? = some (.cells (lkC own peer view now O' pushed told next H) ty (0, 0)) := by
  rw [heap_set _ h]; rfl
theorem lkC_put8 {w : World} {r : Nat} {own peer view now : Int} {O : Value} {pushed told next : Int} {H H' : Value} {ty : TypeId} (h : w.heap[r]? = some (.cells (lkC own peer view now O pushed told next H) ty (0, 0))) : (w.setCell ⟨r, 8, none⟩ H').heap[r]? = some (.cells (lkC own peer view now O pushed told next H') ty (0, 0)) := by
  rw [heap_set _ h]; rfl
theorem ty_ne {w : World} {a b : Nat} {ca cb : Array Value} {ta tb : TypeId} (h1 : w.heap[a]? = some (.cells ca ta (0, 0))) (h2 : w.heap[b]? = some (.cells cb tb (0, 0))) (hne : ta ≠ tb) : a ≠ b := fun e => by
  rw [e, h2] at h1; injection h1 with h1; injection h1 with _ h1; exact hne h1.symm
/-- A link with another row of what waits. -/
theorem LkG.newOut {w w3 : World} {S S' : Nat → Prop} {r : Nat} {x : LSt} {out : List Sn} {A' : Option Addr} {c' : Nat} {T : Nat → Prop} (h : LkG w S r x) (hc : Chg T w w3) (hT : ∀ b, T b → ∃ cs, w.heap[b]? = some (.cells cs 65 (0, 0))) (hS : ∀ b, S b → S' b) (hS' : ∀ b, S' b → b < w3.heap.size)
    (ho : Own w3 S' 65 9 (.slice A' out.length c') out.length (snC out)) (hin : ∀ p ∈ out, p ∈ x.out ∨ HdIn w3 S' p.m) :
    LkG (w3.setCell ⟨r, 4, none⟩ (.slice A' out.length c')) S' r { x with out := out } := by
  obtain ⟨A, c, B, d, h1, h2, h3⟩ := h.cl
  have hr3 : w3.heap[r]? = _ := hc.keep h1 (fun ht => by
    obtain ⟨cs, hcs⟩ := hT r ht
    exact ty_ne hcs h1 (by decide) rfl)
  have gs := grown_set (w := w3) (r := r) (j := 4) (.slice A' out.length c')
  have up : ∀ {sz n : Nat} {e : TypeId} {V : Value} {M : List Value}, Own w3 S' e sz V n M → e ≠ 61 → Own (w3.setCell ⟨r, 4, none⟩ (.slice A' out.length c')) S' e sz V n M := fun hV he => ⟨own_other hV.1 gs (Go.Proofs.Ytbkpgkkfkjlnnaa.own_ne hr3 hV.1 he), hV.2⟩
  have old : ∀ {sz n : Nat} {e : TypeId} {V : Value} {M : List Value}, Own w S e sz V n M → e ≠ 65 → Own w3 S' e sz V n M := fun hV he => ⟨hc.own hV.1 (fun g hg ht => by
    obtain ⟨cs, hcs⟩ := hT g ht
    obtain ⟨cs', hcs'⟩ := own_typed hV.1 g hg
    exact ty_ne hcs' hcs he rfl), fun b hb => hS b (hV.2 b hb)⟩
  have oldH : ∀ {h : Hd}, HdIn w S h → HdIn (w3.setCell ⟨r, 4, none⟩ (.slice A' out.length c')) S' h := fun hh => ⟨up (old hh.n (by decide)) (by decide), up (old hh.w (by decide)) (by decide)⟩
  refine ⟨fun b hb => by have := hS' b hb; rw [show (w3.setCell ⟨r, 4, none⟩ (.slice A' out.length c')).heap.size = w3.heap.size by simp [World.setCell]]; exact this, hS r h.hr, ⟨A', c', B, d, lkC_put4 hr3, up ho (by decide), up (old h3 (by decide)) (by decide)⟩, fun p hp => ?_, fun p hp => oldH (h.bh p hp)⟩
  rcases hin p hp with h' | h'
  · exact oldH (h.bo p h')
  · exact ⟨up h'.n (by decide), up h'.w (by decide)⟩
section
variable (w : World) (S : Nat → Prop) (r : Nat) (x : LSt) (k f t v : Int) (ad : Addr) (B : Option Addr) (c d : Nat) (q : Int)
set_option maxRecDepth 100000 in
set_option maxHeartbeats 4000000 in
theorem confirm_ok (h : LkG w S r x) (hr : ReadsInt w .i64 (some ad) 1 [q]) (had : ¬ S ad.block) (ht : 0 ≤ x.told ∧ x.told < 4294967296) (hq : 0 ≤ q ∧ q ≤ x.told) (hs : ∀ p ∈ x.out, 0 ≤ p.m.s ∧ p.m.s < 4294967296) (hn : x.out.length ≤ 100000) :
    Calls Try.prog 28 #[.pointer (some ⟨r, 0, none⟩), .agg (msC k f t v 0 (.slice (some ad) 1 c) (.slice B 0 d))] w fun e w' => e = .returned (.int .i64 0) ∧ LkG w' S r { x with out := x.out.filter (nak q) } ∧ Stp w w' S S := by
  obtain ⟨A1, c1, B1, d1, h1, h2, h3⟩ := h.cl
  obtain ⟨w1, hw1⟩ : ∃ w1, w1 = w.alloc (.cells (msC k f t v 0 (.slice (some ad) 1 c) (.slice B 0 d)) 32) := ⟨_, rfl⟩
  have hb1 : Below w.heap.size w w1 := by rw [hw1]; exact alloc_back _
  have q1 : w1.heap[w.heap.size]? = some (.cells (msC k f t v 0 (.slice (some ad) 1 c) (.slice B 0 d)) 32 (0, 0)) := by rw [hw1]; exact heap_alloc_new _ _
  obtain ⟨z0, z1, z2, z3, z4, z5, z6⟩ := msC_cells q1
  have h11 := heap_keep hb1 h1
  obtain ⟨c0, c1', c2, c3, c4, c5, c6, c7, c8⟩ := lkC_cells h11
  obtain ⟨_, hA, hcell⟩ := (hr.below hb1).2.2 (by decide)
  have hc0 := hcell 0 (by decide)
  injection hA with hA
  subst hA
  have e0 : ad.add 0 = ad := by simp [Addr.add]
  rw [e0] at hc0
  simp only [List.getD_cons_zero] at hc0
  have y0 : (0 : Int) < ((1 : Nat) : Int) := by decide
  have y1 : 0 < 1 := by decide
  have hq0 : decide (q < 0) = false := decide_eq_false (by omega)
  have hq2 : decide (x.told < q) = false := decide_eq_false (by omega)
  have ew : IntKind.i64.wrap x.told = x.told := by rw [IntKind.wrap_i64]; omega
  have hSgm : ¬ S w.heap.size := fun hh => by have := h.inn _ hh; omega
  have HDW := Lib.hid (fun (u : World) (hu : Below w1.heap.size w1 u) => delf_walk S A1 x.out.length c1 x.out w.heap.size ad c q u ⟨pw_own_below (pw_own_below h2.1 hb1) hu, h2.2⟩ hn ⟨pw_cell_below hu z5, pw_cell_below hu hc0⟩ hSgm had hs)
  have hmf := make_f
  have HW1 := Lib.hid hw1; have HB1 := Lib.hid hb1; have HG := Lib.hid h; have H11 := Lib.hid h11; have H2 := Lib.hid h2
  clear hw1 hb1 q1 h1 h hr hcell h11 h2 h3 c0 c1' c2 c3 c5 c7 c8 z0 z1 z2 z3 hs
  go_enter Try.func28, Try.ntmps28
  go_wp2_with fail
  rw [← HW1.out]
  go_quiet (fail)
  clear ew
  obtain ⟨w2, hw2⟩ : ∃ w2, w2 = w1.drewN nq := ⟨_, rfl⟩
  have hb2 : Below w1.heap.size w1 w2 := by rw [hw2]; exact pw_below_drewN (Below.refl _ _) _
  have d4 := pw_cell_below hb2 c4
  rw [← hw2]
  have HB2 := Lib.hid hb2
  clear hw2 hb2 c4 c6 z4 z5 z6 hc0
  go_wp2_with fail
  refine (HDW.out w2 HB2.out).mono ?_
  rintro e w3 ⟨rfl, ho3, hc3⟩
  have hbw : Below w.heap.size w w2 := below_then HB1.out HB1.out.size HB2.out
  have hc : Chg (fun b => ∃ g, A1 = some ⟨g, 0, none⟩ ∧ b = g) w w3 := (Chg.ofBelow hbw).trans hc3 (fun k _ h => h)
  have hTy : ∀ b, (∃ g, A1 = some ⟨g, 0, none⟩ ∧ b = g) → ∃ cs, w.heap[b]? = some (.cells cs 65 (0, 0)) := fun b ⟨g, hA, hb⟩ => by
    subst hb
    exact own_typed H2.out.1 b (by rw [hA]; rfl)
  have hL := HG.out.newOut (S' := S) hc hTy (fun _ h => h) (fun b hb => Nat.lt_of_lt_of_le (HG.out.inn b hb) hc.size) ho3 (fun p hp => .inl (List.mem_filter.1 hp).1)
  have hr3 : w3.heap[r]? = _ := hc3.keep (heap_keep HB2.out H11.out) (fun ⟨g, hA, hb⟩ => by
    subst hb
    obtain ⟨cs, hcs⟩ := hTy r ⟨r, hA, rfl⟩
    have := heap_keep HB1.out hcs
    rw [H11.out] at this; injection this with this; injection this with _ this; exact absurd this (by decide))
  have p4 := (lkC_cells hr3).2.2.2.2.1
  have f4 := froz hr3 4
  have hst : Stp w (w3.setCell ⟨r, 4, none⟩ (.slice A1 (x.out.filter (nak q)).length c1)) S S := ⟨(hc.mono (fun k _ ⟨g, hA, hb⟩ => H2.out.2 k (by rw [hA, hb]; rfl))).trans (Chg.ofGrown (S := fun b => b = r) (grown_set _) (fun k e => by injection e with e; exact e.symm)) (fun k _ e => by rw [e]; exact HG.out.hr), fun b hb => .inl hb⟩
  have HL := Lib.hid hL; have HST := Lib.hid hst
  clear hL hst hr3 hTy hc hbw ho3 hc3 d4
  go_wp2_with fail
  go_ret
  exact ⟨rfl, HL.out, HST.out⟩
end
end Go.Proofs.Ytbkpgkkfkjlnnaa.G
