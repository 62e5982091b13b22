/- Two links side by side. -/
import Derived.Test.YtbkpgkkfkjlnnaaLgY
import Derived.Test.YtbkpgkkfkjlnnaaLinkF
set_option linter.unusedVariables false
set_option linter.unusedSimpArgs false
namespace Go.Proofs.Ytbkpgkkfkjlnnaa.G
open Go.RowKit Go.Proofs.YtbkpgkkfkjlnnaaW.PrintWords Go.Proofs.YtbkpgkkfkjlnnaaW.PrintLast Go.Proofs.Ytbkpgkkfkjlnnaa.K Go.Proofs.Ytbkpgkkfkjlnnaa.Row Go.Proofs.Ytbkpgkkfkjlnnaa

/-- Links a and b, apart, behind W; beside them a block q that neither has. -/
structure TwoX (W w : World) (ra rb : Nat) (da db : DS) (N q : Nat) (o : Obj) : Prop where
  ex : ∃ xa xb Sa Sb, LkG w Sa ra xa ∧ LkG w Sb rb xb ∧ (∀ b, Sa b → ¬ Sb b) ∧ (∀ b, Sa b → W.heap.size ≤ b ∧ b ≠ q) ∧ (∀ b, Sb b → W.heap.size ≤ b ∧ b ≠ q) ∧ xa.ds = da ∧ xb.ds = db
  ia : Inv da N
  ib : Inv db N
  hq : w.heap[q]? = some o
  B : Below W.heap.size W w
theorem TwoX.swap {W w : World} {ra rb N q : Nat} {da db : DS} {o : Obj} (h : TwoX W w ra rb da db N q o) : TwoX W w rb ra db da N q o := by
  obtain ⟨xa, xb, Sa, Sb, h1, h2, h3, h4, h5, h6, h7⟩ := h.ex
  exact ⟨⟨xb, xa, Sb, Sa, h2, h1, fun b hb ha => h3 b ha hb, h5, h4, h7, h6⟩, h.ib, h.ia, h.hq, h.B⟩
theorem TwoX.more {W w : World} {ra rb N M q : Nat} {da db : DS} {o : Obj} (h : TwoX W w ra rb da db N q o) (hm : N ≤ M) : TwoX W w ra rb da db M q o := ⟨h.ex, h.ia.more hm, h.ib.more hm, h.hq, h.B⟩
theorem TwoX.below {W w w' : World} {ra rb N q : Nat} {da db : DS} {o : Obj} (h : TwoX W w ra rb da db N q o) (hb : Below w.heap.size w w') : TwoX W w' ra rb da db N q o := by
  obtain ⟨xa, xb, Sa, Sb, h1, h2, h3, h4, h5, h6, h7⟩ := h.ex
  exact ⟨⟨xa, xb, Sa, Sb, h1.below hb, h2.below hb, h3, h4, h5, h6, h7⟩, h.ia, h.ib, heap_keep hb h.hq, below_then h.B h.B.size hb⟩
/-- Another block beside them: one that was just made. -/
theorem TwoX.box {W w : World} {ra rb N q : Nat} {da db : DS} {o o' : Obj} (h : TwoX W w ra rb da db N q o) : TwoX W (w.alloc o') ra rb da db N w.heap.size o' := by
  have hb := alloc_back (W := w) o'
  obtain ⟨xa, xb, Sa, Sb, h1, h2, h3, h4, h5, h6, h7⟩ := h.ex
  exact ⟨⟨xa, xb, Sa, Sb, h1.below hb, h2.below hb, h3, fun b hs => ⟨(h4 b hs).1, fun e => by have := h1.inn b hs; omega⟩, fun b hs => ⟨(h5 b hs).1, fun e => by have := h2.inn b hs; omega⟩, h6, h7⟩, h.ia, h.ib, heap_alloc_new _ _, below_then h.B h.B.size hb⟩
/-- A store to that block. -/
theorem TwoX.set {W w w' : World} {ra rb N q : Nat} {da db : DS} {o o' : Obj} (h : TwoX W w ra rb da db N q o) (hq : W.heap.size ≤ q) (hg : w.grownBy w' (some q)) (ho : w'.heap[q]? = some o') : TwoX W w' ra rb da db N q o' := by
  obtain ⟨xa, xb, Sa, Sb, h1, h2, h3, h4, h5, h6, h7⟩ := h.ex
  have hc : Chg (fun b => b = q) w w' := Chg.ofGrown hg (fun k e => by injection e with e; exact e.symm)
  exact ⟨⟨xa, xb, Sa, Sb, h1.chg hc (fun b hb e => (h4 b hb).2 e), h2.chg hc (fun b hb e => (h5 b hb).2 e), h3, h4, h5, h6, h7⟩, h.ia, h.ib, ho, hc.on h.B h.B.size (fun k e => by rw [e]; exact hq)⟩
theorem TwoX.made {W w : World} {q : Nat} {o : Obj} (own peer view : Int) (h1 : 0 ≤ own ∧ own < 16) (h2 : 0 ≤ peer ∧ peer < 16) (hB : Below W.heap.size W w) (hq : w.heap[q]? = some o) (hqW : q < W.heap.size) :
    TwoX W ((w.alloc (.cells (lkC own peer view 0 (.slice none 0 0) 0 0 1 (.slice none 0 0)) 61)).alloc (.cells (lkC own peer view 0 (.slice none 0 0) 0 0 1 (.slice none 0 0)) 61)) w.heap.size (w.heap.size + 1) (⟨own, peer, view, 0, 0, 0, 1, [], []⟩ : LSt).ds (⟨own, peer, view, 0, 0, 0, 1, [], []⟩ : LSt).ds 0 q o := by
  have hb1 := alloc_back (W := w) (.cells (lkC own peer view 0 (.slice none 0 0) 0 0 1 (.slice none 0 0)) 61)
  have hb2 := alloc_back (W := w.alloc (.cells (lkC own peer view 0 (.slice none 0 0) 0 0 1 (.slice none 0 0)) 61)) (.cells (lkC own peer view 0 (.slice none 0 0) 0 0 1 (.slice none 0 0)) 61)
  have g2 := lk_made (w.alloc (.cells (lkC own peer view 0 (.slice none 0 0) 0 0 1 (.slice none 0 0)) 61)) own peer view
  rw [World.size_alloc] at g2
  have := hB.size
  refine ⟨⟨_, _, _, _, (lk_made w own peer view).below hb2, g2, fun b e1 e2 => by omega, fun b e => ⟨by omega, by omega⟩, fun b e => ⟨by omega, by omega⟩, rfl, rfl⟩, inv_new h1 h2, inv_new h1 h2, heap_keep hb2 (heap_keep hb1 hq), below_then hB this (below_then hb1 hb1.size hb2)⟩
theorem two_step {W w w' : World} {ra rb N M q : Nat} {da' db : DS} {o : Obj} {xa xb xa' : LSt} {Sa Sb Sa' : Nat → Prop} (h1 : LkG w Sa ra xa) (h2 : LkG w Sb rb xb) (h3 : ∀ b, Sa b → ¬ Sb b) (h4 : ∀ b, Sa b → W.heap.size ≤ b ∧ b ≠ q) (h5 : ∀ b, Sb b → W.heap.size ≤ b ∧ b ≠ q) (h7 : xb.ds = db)
    (hG : LkG w' Sa' ra xa') (hd : xa'.ds = da') (hs : Stp w w' Sa Sa') (hm : N ≤ M) (hi : Inv da' M) (ib : Inv db N) (hq : w.heap[q]? = some o) (B : Below W.heap.size W w) : TwoX W w' ra rb da' db M q o := by
  have hql : q < w.heap.size := lt_of_heap hq
  refine ⟨⟨xa', xb, Sa', Sb, hG, h2.chg hs.chg (fun b hb ha => h3 b ha hb), fun b ha hb => ?_, fun b ha => ?_, h5, hd, h7⟩, hi, ib.more hm, hs.chg.keep hq (fun ha => (h4 q ha).2 rfl), hs.chg.on B B.size (fun k hk => (h4 k hk).1)⟩
  · rcases hs.inc b ha with ha | ha
    · exact h3 b ha hb
    · have := h2.inn b hb; omega
  · rcases hs.inc b ha with ha | ha
    · exact h4 b ha
    · exact ⟨Nat.le_trans B.size ha, fun e => by omega⟩
theorem dPush_id (d : DS) (m : Dt) : (dPush d m).2.own = d.own ∧ (dPush d m).2.peer = d.peer ∧ (dPush d m).2.view = d.view := by
  unfold dPush; split <;> exact ⟨rfl, rfl, rfl⟩
theorem dTick_id (d : DS) (t : Int) : (dTick d t).2.own = d.own ∧ (dTick d t).2.peer = d.peer ∧ (dTick d t).2.view = d.view := ⟨rfl, rfl, rfl⟩
theorem dGet_id (d : DS) (m : Dt) : (dGet d m).2.own = d.own ∧ (dGet d m).2.peer = d.peer ∧ (dGet d m).2.view = d.view := by
  unfold dGet; repeat' split
  all_goals exact ⟨rfl, rfl, rfl⟩
theorem dGet_bad (d : DS) (m : Dt) (h : ¬ (m.f = d.peer ∧ m.t = d.own ∧ m.v = d.view)) : ∃ E, dGet d m = (([], [], E), d) ∧ (E = 1 ∨ E = 8) := by
  unfold dGet
  by_cases h1 : m.f = d.peer ∧ m.t = d.own
  · rw [if_neg (fun h' => h' h1), if_pos (fun h2 => h ⟨h1.1, h1.2, h2⟩)]; exact ⟨8, rfl, .inr rfl⟩
  · rw [if_pos h1]; exact ⟨1, rfl, .inl rfl⟩
theorem reads_old {W : World} {A : Option Addr} {xs : List Int} (hr : ReadsInt W .i64 A 1 xs) {ad : Addr} (hA : A = some ad) : ad.block < W.heap.size := by
  obtain ⟨_, _, h3⟩ := hr
  obtain ⟨ad', e, hc⟩ := h3 (by decide)
  rw [hA] at e; injection e with e
  subst e
  have := hc 0 (by decide)
  unfold World.cell? at this
  simp only [Addr.add] at this
  rcases Nat.lt_or_ge ad.block W.heap.size with h | h
  · exact h
  · rw [Array.getElem?_eq_none (by simpa using h)] at this
    simp at this
section
variable {W w : World} {ra rb N q : Nat} {da db : DS} {o : Obj} (h : TwoX W w ra rb da db N q o)
include h
theorem TwoX.push (k f t v s : Int) (A B : Option Addr) (n c m d : Nat) (xs : List Int) (ys : List (Int × Int)) (hN : N ≤ 700) (hr : MsR W A n c xs B m d ys) (hn : n ≤ 10) (hm : m ≤ 10) :
    Calls Try.prog 10 #[.pointer (some ⟨ra, 0, none⟩), .agg (msC k f t v s (.slice A n c) (.slice B m d))] w fun e w' => e = .returned (.int .i64 (dPush da ⟨k, f, t, v, s, xs, ys⟩).1) ∧ TwoX W w' ra rb (dPush da ⟨k, f, t, v, s, xs, ys⟩).2 db (N + 1) q o := by
  obtain ⟨xa, xb, Sa, Sb, h1, h2, h3, h4, h5, rfl, h7⟩ := h.ex
  have hb := hr.below h.B
  refine (push_any w Sa ra xa k f t v s A B n c m d xs ys h1 h.ia (by omega) hb.rd hb.wd hr.az hr.bz (by omega) (by omega)).mono ?_
  rintro e w' ⟨Sa', xa', rfl, hd, hG, hs⟩
  exact ⟨rfl, two_step h1 h2 h3 h4 h5 h7 hG hd hs (Nat.le_succ _) (h.ia.push _ (by rw [hr.rd.1]; omega) (by rw [hr.wd.1]; omega)) h.ib h.hq h.B⟩
theorem TwoX.tick (t : Int) (hN : N ≤ 700) (ht : -9223372036854775808 ≤ t ∧ t ≤ 9223372036854775807) :
    Calls Try.prog 11 #[.pointer (some ⟨ra, 0, none⟩), .int .i64 t] w fun e w' => (∃ A c, e = .returned (.slice A (dTick da t).1.length c)) ∧ TwoX W w' ra rb (dTick da t).2 db (N + 1) q o := by
  obtain ⟨xa, xb, Sa, Sb, h1, h2, h3, h4, h5, rfl, h7⟩ := h.ex
  refine (tick_all w Sa ra xa h1 h.ia (by omega) t ht).mono ?_
  rintro e w' ⟨Sa', xa', V, rfl, ⟨A, c, L, rfl, _, _⟩, hd, hG, hs⟩
  exact ⟨⟨A, c, rfl⟩, two_step h1 h2 h3 h4 h5 h7 hG hd hs (Nat.le_succ _) (h.ia.tick t ht.2) h.ib h.hq h.B⟩
theorem TwoX.get (k f t v s : Int) (A B : Option Addr) (n c m d : Nat) (xs : List Int) (ys : List (Int × Int)) (hN : N ≤ 700) (hr : MsR W A n c xs B m d ys) (hn : n ≤ 10) (hm : m ≤ 10) (hs0 : 0 ≤ s ∧ s < 4294967296) :
    Calls Try.prog 13 #[.pointer (some ⟨ra, 0, none⟩), .agg (msC k f t v s (.slice A n c) (.slice B m d))] w fun e w' => (∃ A1 c1 A2 c2, e = .returned (.tuple #[.slice A1 (dGet da ⟨k, f, t, v, s, xs, ys⟩).1.1.length c1, .slice A2 (dGet da ⟨k, f, t, v, s, xs, ys⟩).1.2.1.length c2, .int .i64 (dGet da ⟨k, f, t, v, s, xs, ys⟩).1.2.2])) ∧ TwoX W w' ra rb (dGet da ⟨k, f, t, v, s, xs, ys⟩).2 db (N + 1) q o := by
  obtain ⟨xa, xb, Sa, Sb, h1, h2, h3, h4, h5, rfl, h7⟩ := h.ex
  have hb := hr.below h.B
  refine (get_any w Sa ra xa k f t v s A B n c m d xs ys h1 h.ia (by omega) hb.rd hb.wd hr.az hr.bz (by omega) (by omega) hs0 (fun ad hA hn1 hS => by subst hn1; have := reads_old hr.rd hA; have := (h4 _ hS).1; omega)).mono ?_
  rintro e w' ⟨Sa', xa', V1, V2, rfl, ⟨A1, c1, L1, rfl, _, _⟩, ⟨A2, c2, L2, rfl, _, _⟩, hd, hG, hs⟩
  exact ⟨⟨A1, c1, A2, c2, rfl⟩, two_step h1 h2 h3 h4 h5 h7 hG hd hs (Nat.le_succ _) (h.ia.get _) h.ib h.hq h.B⟩
theorem TwoX.getBad (k f t v s : Int) (A B : Option Addr) (n c m d : Nat) (xs : List Int) (ys : List (Int × Int)) (hN : N ≤ 700) (hr : MsR W A n c xs B m d ys) (hn : n ≤ 10) (hm : m ≤ 10) (hs0 : 0 ≤ s ∧ s < 4294967296) (hno : ¬ (f = da.peer ∧ t = da.own ∧ v = da.view)) :
    Calls Try.prog 13 #[.pointer (some ⟨ra, 0, none⟩), .agg (msC k f t v s (.slice A n c) (.slice B m d))] w fun e w' => (∃ A1 c1 A2 c2 E, e = .returned (.tuple #[.slice A1 0 c1, .slice A2 0 c2, .int .i64 E]) ∧ (E == 0) = false) ∧ TwoX W w' ra rb da db (N + 1) q o := by
  obtain ⟨E, hE, hE2⟩ := dGet_bad da ⟨k, f, t, v, s, xs, ys⟩ hno
  have := h.get k f t v s A B n c m d xs ys hN hr hn hm hs0
  rw [hE] at this
  refine this.mono ?_
  rintro e w' ⟨⟨A1, c1, A2, c2, rfl⟩, h2⟩
  exact ⟨⟨A1, c1, A2, c2, E, rfl, by rcases hE2 with rfl | rfl <;> rfl⟩, h2⟩
theorem TwoX.wait : Calls Try.prog 12 #[.pointer (some ⟨ra, 0, none⟩)] w fun e w' => e = .returned (.int .i64 (da.out.length : Int)) ∧ w = w' := by
  obtain ⟨xa, xb, Sa, Sb, h1, h2, h3, h4, h5, rfl, h7⟩ := h.ex
  have := waiting_any h1
  simpa [LSt.ds] using this
theorem TwoX.ahead : Calls Try.prog 14 #[.pointer (some ⟨ra, 0, none⟩)] w fun e w' => e = .returned (.int .i64 (da.held.length : Int)) ∧ w = w' := by
  obtain ⟨xa, xb, Sa, Sb, h1, h2, h3, h4, h5, rfl, h7⟩ := h.ex
  have := ahead_any h1
  simpa [LSt.ds] using this
theorem TwoX.nxt : Calls Try.prog 15 #[.pointer (some ⟨ra, 0, none⟩)] w fun e w' => e = .returned (.int .u32 da.next) ∧ w = w' := by
  obtain ⟨xa, xb, Sa, Sb, h1, h2, h3, h4, h5, rfl, h7⟩ := h.ex
  exact next_any h1
end
end Go.Proofs.Ytbkpgkkfkjlnnaa.G
