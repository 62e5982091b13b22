/- Links of any messages: Push (printed by a program of mine, mklgp.py). -/
import Derived.Test.YtbkpgkkfkjlnnaaLgO
import Derived.Deep.DeepCutAuto
set_option linter.unusedVariables false
set_option linter.unusedSimpArgs false
namespace Go.Proofs.Ytbkpgkkfkjlnnaa.G
open Go.RowKit Go.Proofs.YtbkpgkkfkjlnnaaW.PrintWords Go.Proofs.YtbkpgkkfkjlnnaaW.PrintLast Go.Proofs.Ytbkpgkkfkjlnnaa.K Go.Proofs.Ytbkpgkkfkjlnnaa.Row Go.Proofs.Ytbkpgkkfkjlnnaa

theorem mset3 {w : World} {r : Nat} {k f t v s f' t' v' : Int} {A B : Value} {ty : TypeId} (h : w.heap[r]? = some (.cells (msC k f t v s A B) ty (0, 0))) :
    (((w.setCell ⟨r, 1, none⟩ (.int .i64 f')).setCell ⟨r, 2, none⟩ (.int .i64 t')).setCell ⟨r, 3, none⟩ (.int .u32 v')).heap[r]? = some (.cells (msC k f' t' v' s A B) ty (0, 0)) := by
  rw [heap_set _ (heap_set _ (heap_set _ h))]; rfl
theorem far_set {w : World} {b j r i : Nat} {v x : Value} (hne : r ≠ b) (h : w.cell? ⟨r, i, none⟩ = some x) : (w.setCell ⟨b, j, none⟩ v).cell? ⟨r, i, none⟩ = some x := by
  rw [World.cell?_of_block ((grown_set (w := w) (r := b) (j := j) v).block r (World.block_lt_of_cell? w _ h) (fun e => hne (by injection e)))]
  exact h
/-- What Push knows of the worlds on its way. -/
structure MidG (w wx : World) (S : Nat → Prop) (r : Nat) (x : LSt) (k f t v s : Int) (A1 : Option Addr) (n c1 : Nat) (xs : List Int) (B1 : Option Addr) (m d1 : Nat) (ys : List (Int × Int)) : Prop where
  q : wx.heap[w.heap.size]? = some (.cells (msC k f t v s (.slice A1 n c1) (.slice B1 m d1)) 32 (0, 0))
  G : LkG wx S r x
  o : wx.ownsRow w.heap.size 2 1 (.slice A1 n c1) n (nums .i64 xs)
  o2 : wx.ownsRow w.heap.size 79 2 (.slice B1 m d1) m (wides ys)
  C : Chg S w wx
  lt : ∀ b, S b → b < w.heap.size
section
variable {w w3 w4 : World} {S : Nat → Prop} {r : Nat} {x : LSt} {k f t v s : Int} {A1 B1 : Option Addr} {n c1 m d1 : Nat} {xs : List Int} {ys : List (Int × Int)}
theorem MidG.below (h : MidG w w3 S r x k f t v s A1 n c1 xs B1 m d1 ys) (hb : Below w3.heap.size w3 w4) : MidG w w4 S r x k f t v s A1 n c1 xs B1 m d1 ys :=
  ⟨heap_keep hb h.q, h.G.below hb, pw_own_below h.o hb, pw_own_below h.o2 hb, h.C.trans (Chg.ofBelow (S := fun _ => False) hb) (fun _ _ h => h.elim), h.lt⟩
theorem MidG.box {k' f' t' v' s' : Int} (h : MidG w w3 S r x k f t v s A1 n c1 xs B1 m d1 ys) (hg : w3.grownBy w4 (some w.heap.size)) (hq : w4.heap[w.heap.size]? = some (.cells (msC k' f' t' v' s' (.slice A1 n c1) (.slice B1 m d1)) 32 (0, 0))) : MidG w w4 S r x k' f' t' v' s' A1 n c1 xs B1 m d1 ys :=
  ⟨hq, h.G.chg (T := fun b => b = w.heap.size) (Chg.ofGrown hg (fun k e => by injection e with e; exact e.symm)) (fun b hb e => by have := h.lt b hb; omega), own_other h.o hg (own_ne h.q h.o (by decide)), own_other h.o2 hg (own_ne h.q h.o2 (by decide)), h.C.trans (Chg.ofGrown (S := fun b => b = w.heap.size) hg (fun k e => by injection e with e; exact e.symm)) (fun k hk e => by omega), h.lt⟩
theorem MidG.ne (h : MidG w w3 S r x k f t v s A1 n c1 xs B1 m d1 ys) : r ≠ w.heap.size := fun e => by have := h.lt r h.G.hr; omega
theorem MidG.pushes {p' : Int} (h : MidG w w3 S r x k f t v s A1 n c1 xs B1 m d1 ys) : MidG w (w3.setCell ⟨r, 5, none⟩ (.int .u32 p')) S r ⟨x.own, x.peer, x.view, x.now, p', x.told, x.next, x.out, x.held⟩ k f t v s A1 n c1 xs B1 m d1 ys := by
  have hg := grown_set (w := w3) (r := r) (j := 5) (.int .u32 p')
  obtain ⟨A, c, B, d, g1, _⟩ := h.G.cl
  exact ⟨(hg.block _ (lt_of_heap h.q) (fun e => h.ne (by injection e with e; exact e.symm))).trans h.q, h.G.num hg (by simp [World.setCell]) rfl rfl (fun O H hh => by rw [heap_set _ hh]; rfl), own_other h.o hg (own_ne g1 h.o (by decide)), own_other h.o2 hg (own_ne g1 h.o2 (by decide)), h.C.trans (Chg.ofGrown (S := fun b => b = r) hg (fun k e => by injection e with e; exact e.symm)) (fun k _ e => by rw [e]; exact h.G.hr), h.lt⟩
end
/-- What a Push that lands leaves. -/
def Pushed (w w' : World) (S : Nat → Prop) (r : Nat) (x : LSt) (dt : Dt) (e : Ending) : Prop :=
  ∃ y S', e = .returned (.int .i64 0) ∧ y.dt = dt ∧ LkG w' S' r ⟨x.own, x.peer, x.view, x.now, x.pushed + 1, x.told, x.next, x.out ++ [⟨y, false, 0⟩], x.held⟩ ∧ Stp w w' S S'
/-- One more waits. -/
theorem push_fin {w w7 w8 w9 : World} {S : Nat → Prop} {r : Nat} {x : LSt} {y : Hd} {Al A8 : Option Addr} {cl c8 : Nat} {o : Obj} (h : LkG w7 S r x) (hlt : ∀ b, S b → b < w.heap.size) (hsz : w.heap.size ≤ w7.heap.size) (ho : w7.ownsRow 0 65 9 (.slice Al x.out.length cl) x.out.length (snC x.out) ∧ ∀ b, (Value.slice Al x.out.length cl).ownBlock = some b → S b)
    (hyn : w7.ownsRow w.heap.size 2 1 y.nv y.xs.length (nums .i64 y.xs)) (hyw : w7.ownsRow w.heap.size 79 2 y.wv y.ys.length (wides y.ys))
    (ho8 : w8.ownsRow 0 65 9 (.slice A8 (x.out.length + 1) c8) (x.out.length + 1) (snC x.out ++ (⟨y, false, 0⟩ : Sn).cells)) (hg8 : (w7.drew.alloc o).grownBy w8 (Value.slice Al x.out.length cl).ownBlock) (ha8 : (Value.slice A8 (x.out.length + 1) c8).ownBlock = (Value.slice Al x.out.length cl).ownBlock ∨ (Value.slice A8 (x.out.length + 1) c8).ownBlock = some (w7.drew.alloc o).heap.size)
    (hw9 : w9 = w8.setCell ⟨r, 4, none⟩ (.slice A8 (x.out.length + 1) c8)) :
    LkG w9 (fun b => S b ∨ (w.heap.size ≤ b ∧ b < w8.heap.size)) r ⟨x.own, x.peer, x.view, x.now, x.pushed, x.told, x.next, x.out ++ [⟨y, false, 0⟩], x.held⟩ ∧ Chg S w7 w9 := by
  have hb : Below w7.heap.size w7 (w7.drew.alloc o) := (below_drew (Below.refl _ _)).alloc (Nat.le_refl _) o
  have hc : Chg (fun b => (Value.slice Al x.out.length cl).ownBlock = some b) w7 w8 := (Chg.ofBelow hb).trans (Chg.ofGrown (S := fun b => (Value.slice Al x.out.length cl).ownBlock = some b) hg8 (fun k e => e)) (fun k _ e => e)
  have hT : ∀ b, (Value.slice Al x.out.length cl).ownBlock = some b → ∃ cs, w7.heap[b]? = some (.cells cs 65 (0, 0)) := fun b hb => own_typed ho.1 b hb
  have hl : (x.out ++ [(⟨y, false, 0⟩ : Sn)]).length = x.out.length + 1 := by simp
  have hcat : snC (x.out ++ [(⟨y, false, 0⟩ : Sn)]) = snC x.out ++ (⟨y, false, 0⟩ : Sn).cells := by simp [snC]
  have hrow : Own w8 (fun b => S b ∨ (w.heap.size ≤ b ∧ b < w8.heap.size)) 65 9 (.slice A8 (x.out ++ [(⟨y, false, 0⟩ : Sn)]).length c8) (x.out ++ [(⟨y, false, 0⟩ : Sn)]).length (snC (x.out ++ [(⟨y, false, 0⟩ : Sn)])) := by
    rw [hl, hcat]
    refine ⟨ho8, fun b hb8 => ?_⟩
    rcases ha8 with h1 | h1
    · exact .inl (ho.2 b (h1 ▸ hb8))
    · rw [h1] at hb8; injection hb8 with hb8
      exact .inr ⟨by rw [← hb8]; exact Nat.le_trans hsz hb.size, own_lt ho8 b (by rw [h1, hb8])⟩
  have upy : ∀ {e : TypeId} {sz n : Nat} {V : Value} {M : List Value}, w7.ownsRow w.heap.size e sz V n M → Own w8 (fun b => S b ∨ (w.heap.size ≤ b ∧ b < w8.heap.size)) e sz V n M := fun hV => by
    have h2 := hc.own hV (fun g hg e => by
      have h3 := own_base hV g hg
      have h4 := hlt g (ho.2 g e)
      omega)
    exact ⟨own_base_le h2 (Nat.zero_le _), fun b hb' => .inr ⟨own_base h2 b hb', own_lt h2 b hb'⟩⟩
  have hL := h.newOut (S' := fun b => S b ∨ (w.heap.size ≤ b ∧ b < w8.heap.size)) (out := x.out ++ [(⟨y, false, 0⟩ : Sn)]) (A' := A8) (c' := c8) hc hT (fun _ h => .inl h) (fun b hb' => by
    rcases hb' with h1 | h1
    · exact Nat.lt_of_lt_of_le (h.inn b h1) hc.size
    · exact h1.2) hrow (fun p hp => by
    rcases List.mem_append.1 hp with hp | hp
    · exact .inl hp
    · obtain rfl := List.mem_singleton.1 hp
      exact .inr ⟨upy hyn, upy hyw⟩)
  rw [hl, ← hw9] at hL
  exact ⟨hL, (hc.mono (fun k _ e => ho.2 k e)).trans (w2 := w9) (T := fun b => b = r) (by rw [hw9]; exact Chg.ofGrown (grown_set _) (fun k e => by injection e with e; exact e.symm)) (fun k _ e => by rw [e]; exact h.hr)⟩
section
variable (w : World) (S : Nat → Prop) (r : Nat) (x : LSt) (k f t v s : Int) (A B : Option Addr) (n c m d : Nat) (xs : List Int) (ys : List (Int × Int))
set_option maxRecDepth 100000 in
set_option maxHeartbeats 8000000 in
theorem push_ok (h : LkG w S r x) (hr : ReadsInt w .i64 A n xs) (hwd : WidesAt w B m ys) (hA : A = none → c = 0) (hBn : B = none → m = 0 ∧ d = 0) (hn : n ≤ 500) (hm : m ≤ 500) (ho1 : 0 ≤ x.own ∧ x.own < 16) (hp1 : 0 ≤ x.peer ∧ x.peer < 16) (hk : 2 ≤ k ∧ k ≤ 20) (hl : x.out.length < 1024) (hps : 0 ≤ x.pushed ∧ x.pushed < 4294967295) :
    Calls Try.prog 10 #[.pointer (some ⟨r, 0, none⟩), .agg (msC k f t v s (.slice A n c) (.slice B m d))] w fun e w' => Pushed w w' S r x ⟨k, x.own, x.peer, x.view, x.pushed + 1, xs, ys⟩ e := by
  obtain ⟨w1, hw1⟩ : ∃ w1, w1 = w.alloc (.cells (msC k f t v s (.slice A n c) (.slice B m d)) 32) := ⟨_, rfl⟩
  have hb1 : Below w.heap.size w w1 := by rw [hw1]; exact alloc_back _
  have q1 : w1.heap[w.heap.size]? = some (.cells (msC k f t v s (.slice A n c) (.slice B m d)) 32 (0, 0)) := by rw [hw1]; exact heap_alloc_new _ _
  have HW1 := Lib.hid hw1; have HB1 := Lib.hid hb1; have Q1 := Lib.hid q1
  have S1 := Lib.hid (h.below hb1)
  have HLT := Lib.hid h.inn
  have CC := Lib.hid (copied_any k f t v s A B n c m d xs ys w1 (hr.below hb1) (hwd.below hb1) (by omega) (by omega) hA hBn)
  have HXL := Lib.hid (And.intro hr.1 hwd.1)
  obtain ⟨x0, x1, x2, x3, x4, x5, x6⟩ := msC_cells q1
  clear hw1 hb1 q1 h hr hwd hA hBn
  go_enter Try.func10, Try.ntmps10
  go_wp2_with fail
  rw [← HW1.out]
  go_wp2_with fail
  refine CC.out.mono ?_
  rintro e w2 ⟨A1, c1, B1, d1, rfl, ho2, hwo2, hb2⟩
  have S2 := Lib.hid (S1.out.below hb2); have Q2 := Lib.hid (heap_keep hb2 Q1.out)
  have HO2 := Lib.hid (And.intro (own_base_le ho2 HB1.out.size) (own_base_le hwo2 HB1.out.size))
  have HB2 := Lib.hid (below_then HB1.out HB1.out.size hb2)
  clear ho2 hwo2 hb2 CC x0 x1 x2 x3 x4 x5 x6
  have f0 := froz Q2.out 0
  have f1 := froz Q2.out 1
  have f2 := froz Q2.out 2
  have f3 := froz Q2.out 3
  have f4 := froz Q2.out 4
  have f5 := froz Q2.out 5
  have f6 := froz Q2.out 6
  obtain ⟨x0, x1, x2, x3, x4, x5, x6⟩ := msC_cells Q2.out
  obtain ⟨w3, hw3⟩ : ∃ w3, w3 = ((((((w2.setCell ⟨w.heap.size, 0, none⟩ (.int .i64 k)).setCell ⟨w.heap.size, 1, none⟩ (.int .i64 f)).setCell ⟨w.heap.size, 2, none⟩ (.int .i64 t)).setCell ⟨w.heap.size, 3, none⟩ (.int .u32 v)).setCell ⟨w.heap.size, 4, none⟩ (.int .u32 s)).setCell ⟨w.heap.size, 5, none⟩ (.slice A1 n c1)).setCell ⟨w.heap.size, 6, none⟩ (.slice B1 m d1) := ⟨_, rfl⟩
  have hg3 : w2.grownBy w3 (some w.heap.size) := by rw [hw3]; exact mgrown7 _ _ _ _ _ _ _ _ _
  have q3 : w3.heap[w.heap.size]? = some (.cells (msC k f t v s (.slice A1 n c1) (.slice B1 m d1)) 32 (0, 0)) := by rw [hw3]; exact mset7 Q2.out
  have c23 : Chg (fun b => b = w.heap.size) w2 w3 := Chg.ofGrown hg3 (fun k e => by injection e with e; exact e.symm)
  have M3 := Lib.hid (show MidG w w3 S r x k f t v s A1 n c1 xs B1 m d1 ys from ⟨q3, S2.out.chg c23 (fun b hb e => by have := HLT.out b hb; omega), own_other HO2.out.1 hg3 (own_ne Q2.out HO2.out.1 (by decide)), own_other HO2.out.2 hg3 (own_ne Q2.out HO2.out.2 (by decide)), (Chg.ofBelow HB2.out).trans c23 (fun k hk e => by omega), HLT.out⟩)
  have HW3 := Lib.hid hw3.symm
  clear hg3 q3 hw3 c23
  obtain ⟨Al, cl, Bl, dl, hc3, ho3, _⟩ := M3.out.G.cl
  obtain ⟨l0, l1, l2, l3, l4, l5, l6, l7, l8⟩ := lkC_cells hc3
  clear hc3 ho3 l3 l4 l5 l6 l7 l8
  go_wp2_with fail
  rw [HW3.out]
  clear f0 f1 f2 f3 f4 f5 f6 x0 x1 x2 x3 x4 x5 x6
  have HNE := Lib.hid M3.out.ne
  have HMID := Lib.hid ((M3.out.box (w4 := ((w3.setCell ⟨w.heap.size, 1, none⟩ (.int .i64 x.own)).setCell ⟨w.heap.size, 2, none⟩ (.int .i64 x.peer)).setCell ⟨w.heap.size, 3, none⟩ (.int .u32 x.view)) (World.grownBy.trans (World.grownBy.trans (grown_set _) (grown_set _)) (grown_set _)) (mset3 M3.out.q)).below (below_drew (Below.refl _ _)))
  clear Q2 S2 HO2 Q1 S1 HW1 HW3 HB1
  go_cut [10] (fun s10 wx => s10 = .int .i64 x.own ∧ Aside0 (MidG w wx S r x k x.own x.peer x.view s A1 n c1 xs B1 m d1 ys))
  case first =>
    obtain ⟨Al, cl, Bl, dl, hc3, ho3, _⟩ := M3.out.G.cl
    obtain ⟨l0, l1, l2, l3, l4, l5, l6, l7, l8⟩ := lkC_cells hc3
    clear hc3 ho3 l3 l4 l5 l6 l7 l8
    have g1 := froz M3.out.q 1
    have g2 := froz M3.out.q 2
    have g3 := froz M3.out.q 3
    obtain ⟨z0, z1, z2, z3, z4, z5, z6⟩ := msC_cells M3.out.q
    refine start_ (n := 18) (S := fun w' => w'.cell? ⟨r, 0, none⟩ = some (.int .i64 x.own) ∧ w'.cell? ⟨r, 1, none⟩ = some (.int .i64 x.peer) ∧ w'.cell? ⟨r, 2, none⟩ = some (.int .u32 x.view)) (ds := [17]) #[false, false, false, false, false, false, false, false, false, false, false, false, false, false, false, false, false, false] (by kernel_rfl) rfl rfl (⟨l0, l1, l2⟩) (fun hHeld => ?_)
    refine pure_ (i := 0) (N := some 7) (v := ?_) (a' := ?_) #[true, false, false, false, false, false, false, false, false, false, false, false, false, false, false, false, false, false] rfl rfl (by kernel_rfl) (fun _ _ _ h => h) (Or.inl ⟨by rfl, ?_⟩) ?_ ?_
    rotate_left
    · intro w'
      go_simp
      (try with_reducible rfl)
    rotate_left
    · simp only [Act.put, List.setIfInBounds_toArray, List.set_cons_zero, List.set_cons_succ]
      rfl
    refine pure_ (i := 1) (N := some 8) (v := ?_) (a' := ?_) #[true, true, false, false, false, false, false, false, false, false, false, false, false, false, false, false, false, false] rfl rfl (by kernel_rfl) (fun _ _ _ h => h) (Or.inl ⟨by rfl, ?_⟩) ?_ ?_
    rotate_left
    · intro w'
      go_simp
      (try with_reducible rfl)
    rotate_left
    · simp only [Act.put, List.setIfInBounds_toArray, List.set_cons_zero, List.set_cons_succ]
      rfl
    refine pure_ (i := 2) (N := some 9) (v := ?_) (a' := ?_) #[true, true, true, false, false, false, false, false, false, false, false, false, false, false, false, false, false, false] rfl rfl (by kernel_rfl) (fun _ _ _ h => h) (Or.inl ⟨by rfl, ?_⟩) ?_ ?_
    rotate_left
    · intro w'
      go_simp
      (try with_reducible rfl)
    rotate_left
    · simp only [Act.put, List.setIfInBounds_toArray, List.set_cons_zero, List.set_cons_succ]
      rfl
    refine take_ (i := 3) (N := some 10) (v := ?_) (a' := ?_) #[true, true, true, true, false, false, false, false, false, false, false, false, false, false, false, false, false, false] rfl rfl (by kernel_rfl) (fun _ _ _ h => h) (Or.inl ⟨by rfl, ?_⟩) hHeld ?_ ?_
    rotate_left
    · rintro w' ⟨s0, s1, s2⟩
      go_simp
      (try with_reducible rfl)
    rotate_left
    · simp only [Act.put, List.setIfInBounds_toArray, List.set_cons_zero, List.set_cons_succ]
      rfl
    refine pure_ (i := 4) (N := some 11) (v := ?_) (a' := ?_) #[true, true, true, true, true, false, false, false, false, false, false, false, false, false, false, false, false, false] rfl rfl (by kernel_rfl) (fun _ _ _ h => h) (Or.inl ⟨by rfl, ?_⟩) ?_ ?_
    rotate_left
    · intro w'
      go_simp
      (try with_reducible rfl)
    rotate_left
    · simp only [Act.put, List.setIfInBounds_toArray, List.set_cons_zero, List.set_cons_succ]
      rfl
    refine pure_ (i := 5) (N := some 12) (v := ?_) (a' := ?_) #[true, true, true, true, true, true, false, false, false, false, false, false, false, false, false, false, false, false] rfl rfl (by kernel_rfl) (fun _ _ _ h => h) (Or.inl ⟨by rfl, ?_⟩) ?_ ?_
    rotate_left
    · intro w'
      go_simp
      (try with_reducible rfl)
    rotate_left
    · simp only [Act.put, List.setIfInBounds_toArray, List.set_cons_zero, List.set_cons_succ]
      rfl
    refine pure_ (i := 6) (N := some 13) (v := ?_) (a' := ?_) #[true, true, true, true, true, true, true, false, false, false, false, false, false, false, false, false, false, false] rfl rfl (by kernel_rfl) (fun _ _ _ h => h) (Or.inl ⟨by rfl, ?_⟩) ?_ ?_
    rotate_left
    · intro w'
      go_simp
      (try with_reducible rfl)
    rotate_left
    · simp only [Act.put, List.setIfInBounds_toArray, List.set_cons_zero, List.set_cons_succ]
      rfl
    refine pure_ (i := 8) (N := some 15) (v := ?_) (a' := ?_) #[true, true, true, true, true, true, true, false, true, false, false, false, false, false, false, false, false, false] rfl rfl (by kernel_rfl) (fun _ _ _ h => h) (Or.inl ⟨by rfl, ?_⟩) ?_ ?_
    rotate_left
    · intro w'
      go_simp
      (try with_reducible rfl)
    rotate_left
    · simp only [Act.put, List.setIfInBounds_toArray, List.set_cons_zero, List.set_cons_succ]
      rfl
    refine pure_ (i := 9) (N := some 16) (v := ?_) (a' := ?_) #[true, true, true, true, true, true, true, false, true, true, false, false, false, false, false, false, false, false] rfl rfl (by kernel_rfl) (fun _ _ _ h => h) (Or.inl ⟨by rfl, ?_⟩) ?_ ?_
    rotate_left
    · intro w'
      go_simp
      (try with_reducible rfl)
    rotate_left
    · simp only [Act.put, List.setIfInBounds_toArray, List.set_cons_zero, List.set_cons_succ]
      rfl
    refine pure_ (i := 10) (N := some 17) (v := ?_) (a' := ?_) #[true, true, true, true, true, true, true, false, true, true, true, false, false, false, false, false, false, false] rfl rfl (by kernel_rfl) (fun _ _ _ h => h) (Or.inl ⟨by rfl, ?_⟩) ?_ ?_
    rotate_left
    · intro w'
      go_simp
      (try with_reducible rfl)
    rotate_left
    · simp only [Act.put, List.setIfInBounds_toArray, List.set_cons_zero, List.set_cons_succ]
      rfl
    refine pure_ (i := 12) (N := some 19) (v := ?_) (a' := ?_) #[true, true, true, true, true, true, true, false, true, true, true, false, true, false, false, false, false, false] rfl rfl (by kernel_rfl) (fun _ _ _ h => h) (Or.inl ⟨by rfl, ?_⟩) ?_ ?_
    rotate_left
    · intro w'
      go_simp
      (try with_reducible rfl)
    rotate_left
    · simp only [Act.put, List.setIfInBounds_toArray, List.set_cons_zero, List.set_cons_succ]
      rfl
    refine three_ (i := 7) (j := 11) (k := 13) (Ni := some 14) (Nj := some 18) (Nk := none) #[true, true, true, true, true, true, true, true, true, true, true, false, true, false, false, false, false, false] #[true, true, true, true, true, true, true, false, true, true, true, true, true, false, false, false, false, false] #[true, true, true, true, true, true, true, false, true, true, true, false, true, true, false, false, false, false] rfl rfl rfl rfl rfl rfl (by kernel_rfl) (by decide) (by decide) (by decide) (fun K hK => ?_) (fun K hK => ?_) (fun K hK => ?_)
    · skip
      go_simp
      refine hK.out _ _ ?_ (fun hHeld2 => ?_)
      · (try dsimp only)
        first | exact hHeld | exact ⟨far_set HNE.out hHeld.1, far_set HNE.out hHeld.2.1, far_set HNE.out hHeld.2.2⟩
      clear hHeld hK K
      have hHeld := hHeld2
      clear hHeld2
      try simp only [Act.put, List.setIfInBounds_toArray, List.set_cons_zero, List.set_cons_succ]
      refine two_ (i := 11) (j := 13) (Ni := some 18) (Nj := none) #[true, true, true, true, true, true, true, true, true, true, true, true, true, false, false, false, false, false] #[true, true, true, true, true, true, true, true, true, true, true, false, true, true, false, false, false, false] rfl rfl rfl rfl (by kernel_rfl) (by decide) (by decide) (fun K hK => ?_) (fun K hK => ?_)
      · skip
        go_simp
        refine hK.out _ _ ?_ (fun hHeld2 => ?_)
        · (try dsimp only)
          first | exact hHeld | exact ⟨far_set HNE.out hHeld.1, far_set HNE.out hHeld.2.1, far_set HNE.out hHeld.2.2⟩
        clear hHeld hK K
        have hHeld := hHeld2
        clear hHeld2
        try simp only [Act.put, List.setIfInBounds_toArray, List.set_cons_zero, List.set_cons_succ]
        refine one_ (i := 13) (N := none) #[true, true, true, true, true, true, true, true, true, true, true, true, true, true, false, false, false, false] rfl rfl (by kernel_rfl) (by decide) (fun K hK => ?_)
        go_simp
        refine hK.out _ _ ?_ (fun hHeld2 => ?_)
        · (try dsimp only)
          first | exact hHeld | exact ⟨far_set HNE.out hHeld.1, far_set HNE.out hHeld.2.1, far_set HNE.out hHeld.2.2⟩
        clear hHeld hK K
        have hHeld := hHeld2
        clear hHeld2
        try simp only [Act.put, List.setIfInBounds_toArray, List.set_cons_zero, List.set_cons_succ]
        refine pure_ (i := 14) (N := some 20) (v := ?_) (a' := ?_) #[true, true, true, true, true, true, true, true, true, true, true, true, true, true, true, false, false, false] rfl rfl (by kernel_rfl) (fun _ _ _ h => h) (Or.inl ⟨by rfl, ?_⟩) ?_ ?_
        rotate_left
        · intro w'
          go_simp
          (try with_reducible rfl)
        rotate_left
        · simp only [Act.put, List.setIfInBounds_toArray, List.set_cons_zero, List.set_cons_succ]
          rfl
        refine one_ (i := 15) (N := none) #[true, true, true, true, true, true, true, true, true, true, true, true, true, true, true, true, false, false] rfl rfl (by kernel_rfl) (by decide) (fun K hK => ?_)
        go_simp
        refine hK.out _ _ ?_ (fun hHeld2 => ?_)
        · (try dsimp only)
          first | exact hHeld | exact ⟨far_set HNE.out hHeld.1, far_set HNE.out hHeld.2.1, far_set HNE.out hHeld.2.2⟩
        clear hHeld hK K
        have hHeld := hHeld2
        clear hHeld2
        try simp only [Act.put, List.setIfInBounds_toArray, List.set_cons_zero, List.set_cons_succ]
        refine pure_ (i := 16) (N := some 21) (v := ?_) (a' := ?_) #[true, true, true, true, true, true, true, true, true, true, true, true, true, true, true, true, true, false] rfl rfl (by kernel_rfl) (fun _ _ _ h => h) (Or.inl ⟨by rfl, ?_⟩) ?_ ?_
        rotate_left
        · intro w'
          go_simp
          (try with_reducible rfl)
        rotate_left
        · simp only [Act.put, List.setIfInBounds_toArray, List.set_cons_zero, List.set_cons_succ]
          rfl
        refine last_ (i := 17) (N := none) #[true, true, true, true, true, true, true, true, true, true, true, true, true, true, true, true, true, true] rfl rfl (by kernel_rfl) (by decide) (fun K hK => ?_)
        go_simp
        refine hK.out _ _ ?_
        (try clear hHeld)
        clear hK K
        try simp only [Act.put, List.setIfInBounds_toArray, List.set_cons_zero, List.set_cons_succ]
        refine wpAnyLast_done (by kernel_rfl) ?_ _
        go_wp2_with fail
        go_meet
        exact ⟨rfl, ⟨HMID.out⟩⟩
      go_simp
      refine hK.out _ _ ?_ (fun hHeld2 => ?_)
      · (try dsimp only)
        first | exact hHeld | exact ⟨far_set HNE.out hHeld.1, far_set HNE.out hHeld.2.1, far_set HNE.out hHeld.2.2⟩
      clear hHeld hK K
      have hHeld := hHeld2
      clear hHeld2
      try simp only [Act.put, List.setIfInBounds_toArray, List.set_cons_zero, List.set_cons_succ]
      refine pure_ (i := 14) (N := some 20) (v := ?_) (a' := ?_) #[true, true, true, true, true, true, true, true, true, true, true, false, true, true, true, false, false, false] rfl rfl (by kernel_rfl) (fun _ _ _ h => h) (Or.inl ⟨by rfl, ?_⟩) ?_ ?_
      rotate_left
      · intro w'
        go_simp
        (try with_reducible rfl)
      rotate_left
      · simp only [Act.put, List.setIfInBounds_toArray, List.set_cons_zero, List.set_cons_succ]
        rfl
      refine two_ (i := 11) (j := 15) (Ni := some 18) (Nj := none) #[true, true, true, true, true, true, true, true, true, true, true, true, true, true, true, false, false, false] #[true, true, true, true, true, true, true, true, true, true, true, false, true, true, true, true, false, false] rfl rfl rfl rfl (by kernel_rfl) (by decide) (by decide) (fun K hK => ?_) (fun K hK => ?_)
      · skip
        go_simp
        refine hK.out _ _ ?_ (fun hHeld2 => ?_)
        · (try dsimp only)
          first | exact hHeld | exact ⟨far_set HNE.out hHeld.1, far_set HNE.out hHeld.2.1, far_set HNE.out hHeld.2.2⟩
        clear hHeld hK K
        have hHeld := hHeld2
        clear hHeld2
        try simp only [Act.put, List.setIfInBounds_toArray, List.set_cons_zero, List.set_cons_succ]
        refine one_ (i := 15) (N := none) #[true, true, true, true, true, true, true, true, true, true, true, true, true, true, true, true, false, false] rfl rfl (by kernel_rfl) (by decide) (fun K hK => ?_)
        go_simp
        refine hK.out _ _ ?_ (fun hHeld2 => ?_)
        · (try dsimp only)
          first | exact hHeld | exact ⟨far_set HNE.out hHeld.1, far_set HNE.out hHeld.2.1, far_set HNE.out hHeld.2.2⟩
        clear hHeld hK K
        have hHeld := hHeld2
        clear hHeld2
        try simp only [Act.put, List.setIfInBounds_toArray, List.set_cons_zero, List.set_cons_succ]
        refine pure_ (i := 16) (N := some 21) (v := ?_) (a' := ?_) #[true, true, true, true, true, true, true, true, true, true, true, true, true, true, true, true, true, false] rfl rfl (by kernel_rfl) (fun _ _ _ h => h) (Or.inl ⟨by rfl, ?_⟩) ?_ ?_
        rotate_left
        · intro w'
          go_simp
          (try with_reducible rfl)
        rotate_left
        · simp only [Act.put, List.setIfInBounds_toArray, List.set_cons_zero, List.set_cons_succ]
          rfl
        refine last_ (i := 17) (N := none) #[true, true, true, true, true, true, true, true, true, true, true, true, true, true, true, true, true, true] rfl rfl (by kernel_rfl) (by decide) (fun K hK => ?_)
        go_simp
        refine hK.out _ _ ?_
        (try clear hHeld)
        clear hK K
        try simp only [Act.put, List.setIfInBounds_toArray, List.set_cons_zero, List.set_cons_succ]
        refine wpAnyLast_done (by kernel_rfl) ?_ _
        go_wp2_with fail
        go_meet
        exact ⟨rfl, ⟨HMID.out⟩⟩
      go_simp
      refine hK.out _ _ ?_ (fun hHeld2 => ?_)
      · (try dsimp only)
        first | exact hHeld | exact ⟨far_set HNE.out hHeld.1, far_set HNE.out hHeld.2.1, far_set HNE.out hHeld.2.2⟩
      clear hHeld hK K
      have hHeld := hHeld2
      clear hHeld2
      try simp only [Act.put, List.setIfInBounds_toArray, List.set_cons_zero, List.set_cons_succ]
      refine one_ (i := 11) (N := some 18) #[true, true, true, true, true, true, true, true, true, true, true, true, true, true, true, true, false, false] rfl rfl (by kernel_rfl) (by decide) (fun K hK => ?_)
      go_simp
      refine hK.out _ _ ?_ (fun hHeld2 => ?_)
      · (try dsimp only)
        first | exact hHeld | exact ⟨far_set HNE.out hHeld.1, far_set HNE.out hHeld.2.1, far_set HNE.out hHeld.2.2⟩
      clear hHeld hK K
      have hHeld := hHeld2
      clear hHeld2
      try simp only [Act.put, List.setIfInBounds_toArray, List.set_cons_zero, List.set_cons_succ]
      refine pure_ (i := 16) (N := some 21) (v := ?_) (a' := ?_) #[true, true, true, true, true, true, true, true, true, true, true, true, true, true, true, true, true, false] rfl rfl (by kernel_rfl) (fun _ _ _ h => h) (Or.inl ⟨by rfl, ?_⟩) ?_ ?_
      rotate_left
      · intro w'
        go_simp
        (try with_reducible rfl)
      rotate_left
      · simp only [Act.put, List.setIfInBounds_toArray, List.set_cons_zero, List.set_cons_succ]
        rfl
      refine last_ (i := 17) (N := none) #[true, true, true, true, true, true, true, true, true, true, true, true, true, true, true, true, true, true] rfl rfl (by kernel_rfl) (by decide) (fun K hK => ?_)
      go_simp
      refine hK.out _ _ ?_
      (try clear hHeld)
      clear hK K
      try simp only [Act.put, List.setIfInBounds_toArray, List.set_cons_zero, List.set_cons_succ]
      refine wpAnyLast_done (by kernel_rfl) ?_ _
      go_wp2_with fail
      go_meet
      exact ⟨rfl, ⟨HMID.out⟩⟩
    · skip
      go_simp
      refine hK.out _ _ ?_ (fun hHeld2 => ?_)
      · (try dsimp only)
        first | exact hHeld | exact ⟨far_set HNE.out hHeld.1, far_set HNE.out hHeld.2.1, far_set HNE.out hHeld.2.2⟩
      clear hHeld hK K
      have hHeld := hHeld2
      clear hHeld2
      try simp only [Act.put, List.setIfInBounds_toArray, List.set_cons_zero, List.set_cons_succ]
      refine two_ (i := 7) (j := 13) (Ni := some 14) (Nj := none) #[true, true, true, true, true, true, true, true, true, true, true, true, true, false, false, false, false, false] #[true, true, true, true, true, true, true, false, true, true, true, true, true, true, false, false, false, false] rfl rfl rfl rfl (by kernel_rfl) (by decide) (by decide) (fun K hK => ?_) (fun K hK => ?_)
      · skip
        go_simp
        refine hK.out _ _ ?_ (fun hHeld2 => ?_)
        · (try dsimp only)
          first | exact hHeld | exact ⟨far_set HNE.out hHeld.1, far_set HNE.out hHeld.2.1, far_set HNE.out hHeld.2.2⟩
        clear hHeld hK K
        have hHeld := hHeld2
        clear hHeld2
        try simp only [Act.put, List.setIfInBounds_toArray, List.set_cons_zero, List.set_cons_succ]
        refine one_ (i := 13) (N := none) #[true, true, true, true, true, true, true, true, true, true, true, true, true, true, false, false, false, false] rfl rfl (by kernel_rfl) (by decide) (fun K hK => ?_)
        go_simp
        refine hK.out _ _ ?_ (fun hHeld2 => ?_)
        · (try dsimp only)
          first | exact hHeld | exact ⟨far_set HNE.out hHeld.1, far_set HNE.out hHeld.2.1, far_set HNE.out hHeld.2.2⟩
        clear hHeld hK K
        have hHeld := hHeld2
        clear hHeld2
        try simp only [Act.put, List.setIfInBounds_toArray, List.set_cons_zero, List.set_cons_succ]
        refine pure_ (i := 14) (N := some 20) (v := ?_) (a' := ?_) #[true, true, true, true, true, true, true, true, true, true, true, true, true, true, true, false, false, false] rfl rfl (by kernel_rfl) (fun _ _ _ h => h) (Or.inl ⟨by rfl, ?_⟩) ?_ ?_
        rotate_left
        · intro w'
          go_simp
          (try with_reducible rfl)
        rotate_left
        · simp only [Act.put, List.setIfInBounds_toArray, List.set_cons_zero, List.set_cons_succ]
          rfl
        refine one_ (i := 15) (N := none) #[true, true, true, true, true, true, true, true, true, true, true, true, true, true, true, true, false, false] rfl rfl (by kernel_rfl) (by decide) (fun K hK => ?_)
        go_simp
        refine hK.out _ _ ?_ (fun hHeld2 => ?_)
        · (try dsimp only)
          first | exact hHeld | exact ⟨far_set HNE.out hHeld.1, far_set HNE.out hHeld.2.1, far_set HNE.out hHeld.2.2⟩
        clear hHeld hK K
        have hHeld := hHeld2
        clear hHeld2
        try simp only [Act.put, List.setIfInBounds_toArray, List.set_cons_zero, List.set_cons_succ]
        refine pure_ (i := 16) (N := some 21) (v := ?_) (a' := ?_) #[true, true, true, true, true, true, true, true, true, true, true, true, true, true, true, true, true, false] rfl rfl (by kernel_rfl) (fun _ _ _ h => h) (Or.inl ⟨by rfl, ?_⟩) ?_ ?_
        rotate_left
        · intro w'
          go_simp
          (try with_reducible rfl)
        rotate_left
        · simp only [Act.put, List.setIfInBounds_toArray, List.set_cons_zero, List.set_cons_succ]
          rfl
        refine last_ (i := 17) (N := none) #[true, true, true, true, true, true, true, true, true, true, true, true, true, true, true, true, true, true] rfl rfl (by kernel_rfl) (by decide) (fun K hK => ?_)
        go_simp
        refine hK.out _ _ ?_
        (try clear hHeld)
        clear hK K
        try simp only [Act.put, List.setIfInBounds_toArray, List.set_cons_zero, List.set_cons_succ]
        refine wpAnyLast_done (by kernel_rfl) ?_ _
        go_wp2_with fail
        go_meet
        exact ⟨rfl, ⟨HMID.out⟩⟩
      go_simp
      refine hK.out _ _ ?_ (fun hHeld2 => ?_)
      · (try dsimp only)
        first | exact hHeld | exact ⟨far_set HNE.out hHeld.1, far_set HNE.out hHeld.2.1, far_set HNE.out hHeld.2.2⟩
      clear hHeld hK K
      have hHeld := hHeld2
      clear hHeld2
      try simp only [Act.put, List.setIfInBounds_toArray, List.set_cons_zero, List.set_cons_succ]
      refine one_ (i := 7) (N := some 14) #[true, true, true, true, true, true, true, true, true, true, true, true, true, true, false, false, false, false] rfl rfl (by kernel_rfl) (by decide) (fun K hK => ?_)
      go_simp
      refine hK.out _ _ ?_ (fun hHeld2 => ?_)
      · (try dsimp only)
        first | exact hHeld | exact ⟨far_set HNE.out hHeld.1, far_set HNE.out hHeld.2.1, far_set HNE.out hHeld.2.2⟩
      clear hHeld hK K
      have hHeld := hHeld2
      clear hHeld2
      try simp only [Act.put, List.setIfInBounds_toArray, List.set_cons_zero, List.set_cons_succ]
      refine pure_ (i := 14) (N := some 20) (v := ?_) (a' := ?_) #[true, true, true, true, true, true, true, true, true, true, true, true, true, true, true, false, false, false] rfl rfl (by kernel_rfl) (fun _ _ _ h => h) (Or.inl ⟨by rfl, ?_⟩) ?_ ?_
      rotate_left
      · intro w'
        go_simp
        (try with_reducible rfl)
      rotate_left
      · simp only [Act.put, List.setIfInBounds_toArray, List.set_cons_zero, List.set_cons_succ]
        rfl
      refine one_ (i := 15) (N := none) #[true, true, true, true, true, true, true, true, true, true, true, true, true, true, true, true, false, false] rfl rfl (by kernel_rfl) (by decide) (fun K hK => ?_)
      go_simp
      refine hK.out _ _ ?_ (fun hHeld2 => ?_)
      · (try dsimp only)
        first | exact hHeld | exact ⟨far_set HNE.out hHeld.1, far_set HNE.out hHeld.2.1, far_set HNE.out hHeld.2.2⟩
      clear hHeld hK K
      have hHeld := hHeld2
      clear hHeld2
      try simp only [Act.put, List.setIfInBounds_toArray, List.set_cons_zero, List.set_cons_succ]
      refine pure_ (i := 16) (N := some 21) (v := ?_) (a' := ?_) #[true, true, true, true, true, true, true, true, true, true, true, true, true, true, true, true, true, false] rfl rfl (by kernel_rfl) (fun _ _ _ h => h) (Or.inl ⟨by rfl, ?_⟩) ?_ ?_
      rotate_left
      · intro w'
        go_simp
        (try with_reducible rfl)
      rotate_left
      · simp only [Act.put, List.setIfInBounds_toArray, List.set_cons_zero, List.set_cons_succ]
        rfl
      refine last_ (i := 17) (N := none) #[true, true, true, true, true, true, true, true, true, true, true, true, true, true, true, true, true, true] rfl rfl (by kernel_rfl) (by decide) (fun K hK => ?_)
      go_simp
      refine hK.out _ _ ?_
      (try clear hHeld)
      clear hK K
      try simp only [Act.put, List.setIfInBounds_toArray, List.set_cons_zero, List.set_cons_succ]
      refine wpAnyLast_done (by kernel_rfl) ?_ _
      go_wp2_with fail
      go_meet
      exact ⟨rfl, ⟨HMID.out⟩⟩
    go_simp
    refine hK.out _ _ ?_ (fun hHeld2 => ?_)
    · (try dsimp only)
      first | exact hHeld | exact ⟨far_set HNE.out hHeld.1, far_set HNE.out hHeld.2.1, far_set HNE.out hHeld.2.2⟩
    clear hHeld hK K
    have hHeld := hHeld2
    clear hHeld2
    try simp only [Act.put, List.setIfInBounds_toArray, List.set_cons_zero, List.set_cons_succ]
    refine two_ (i := 7) (j := 11) (Ni := some 14) (Nj := some 18) #[true, true, true, true, true, true, true, true, true, true, true, false, true, true, false, false, false, false] #[true, true, true, true, true, true, true, false, true, true, true, true, true, true, false, false, false, false] rfl rfl rfl rfl (by kernel_rfl) (by decide) (by decide) (fun K hK => ?_) (fun K hK => ?_)
    · skip
      go_simp
      refine hK.out _ _ ?_ (fun hHeld2 => ?_)
      · (try dsimp only)
        first | exact hHeld | exact ⟨far_set HNE.out hHeld.1, far_set HNE.out hHeld.2.1, far_set HNE.out hHeld.2.2⟩
      clear hHeld hK K
      have hHeld := hHeld2
      clear hHeld2
      try simp only [Act.put, List.setIfInBounds_toArray, List.set_cons_zero, List.set_cons_succ]
      refine pure_ (i := 14) (N := some 20) (v := ?_) (a' := ?_) #[true, true, true, true, true, true, true, true, true, true, true, false, true, true, true, false, false, false] rfl rfl (by kernel_rfl) (fun _ _ _ h => h) (Or.inl ⟨by rfl, ?_⟩) ?_ ?_
      rotate_left
      · intro w'
        go_simp
        (try with_reducible rfl)
      rotate_left
      · simp only [Act.put, List.setIfInBounds_toArray, List.set_cons_zero, List.set_cons_succ]
        rfl
      refine two_ (i := 11) (j := 15) (Ni := some 18) (Nj := none) #[true, true, true, true, true, true, true, true, true, true, true, true, true, true, true, false, false, false] #[true, true, true, true, true, true, true, true, true, true, true, false, true, true, true, true, false, false] rfl rfl rfl rfl (by kernel_rfl) (by decide) (by decide) (fun K hK => ?_) (fun K hK => ?_)
      · skip
        go_simp
        refine hK.out _ _ ?_ (fun hHeld2 => ?_)
        · (try dsimp only)
          first | exact hHeld | exact ⟨far_set HNE.out hHeld.1, far_set HNE.out hHeld.2.1, far_set HNE.out hHeld.2.2⟩
        clear hHeld hK K
        have hHeld := hHeld2
        clear hHeld2
        try simp only [Act.put, List.setIfInBounds_toArray, List.set_cons_zero, List.set_cons_succ]
        refine one_ (i := 15) (N := none) #[true, true, true, true, true, true, true, true, true, true, true, true, true, true, true, true, false, false] rfl rfl (by kernel_rfl) (by decide) (fun K hK => ?_)
        go_simp
        refine hK.out _ _ ?_ (fun hHeld2 => ?_)
        · (try dsimp only)
          first | exact hHeld | exact ⟨far_set HNE.out hHeld.1, far_set HNE.out hHeld.2.1, far_set HNE.out hHeld.2.2⟩
        clear hHeld hK K
        have hHeld := hHeld2
        clear hHeld2
        try simp only [Act.put, List.setIfInBounds_toArray, List.set_cons_zero, List.set_cons_succ]
        refine pure_ (i := 16) (N := some 21) (v := ?_) (a' := ?_) #[true, true, true, true, true, true, true, true, true, true, true, true, true, true, true, true, true, false] rfl rfl (by kernel_rfl) (fun _ _ _ h => h) (Or.inl ⟨by rfl, ?_⟩) ?_ ?_
        rotate_left
        · intro w'
          go_simp
          (try with_reducible rfl)
        rotate_left
        · simp only [Act.put, List.setIfInBounds_toArray, List.set_cons_zero, List.set_cons_succ]
          rfl
        refine last_ (i := 17) (N := none) #[true, true, true, true, true, true, true, true, true, true, true, true, true, true, true, true, true, true] rfl rfl (by kernel_rfl) (by decide) (fun K hK => ?_)
        go_simp
        refine hK.out _ _ ?_
        (try clear hHeld)
        clear hK K
        try simp only [Act.put, List.setIfInBounds_toArray, List.set_cons_zero, List.set_cons_succ]
        refine wpAnyLast_done (by kernel_rfl) ?_ _
        go_wp2_with fail
        go_meet
        exact ⟨rfl, ⟨HMID.out⟩⟩
      go_simp
      refine hK.out _ _ ?_ (fun hHeld2 => ?_)
      · (try dsimp only)
        first | exact hHeld | exact ⟨far_set HNE.out hHeld.1, far_set HNE.out hHeld.2.1, far_set HNE.out hHeld.2.2⟩
      clear hHeld hK K
      have hHeld := hHeld2
      clear hHeld2
      try simp only [Act.put, List.setIfInBounds_toArray, List.set_cons_zero, List.set_cons_succ]
      refine one_ (i := 11) (N := some 18) #[true, true, true, true, true, true, true, true, true, true, true, true, true, true, true, true, false, false] rfl rfl (by kernel_rfl) (by decide) (fun K hK => ?_)
      go_simp
      refine hK.out _ _ ?_ (fun hHeld2 => ?_)
      · (try dsimp only)
        first | exact hHeld | exact ⟨far_set HNE.out hHeld.1, far_set HNE.out hHeld.2.1, far_set HNE.out hHeld.2.2⟩
      clear hHeld hK K
      have hHeld := hHeld2
      clear hHeld2
      try simp only [Act.put, List.setIfInBounds_toArray, List.set_cons_zero, List.set_cons_succ]
      refine pure_ (i := 16) (N := some 21) (v := ?_) (a' := ?_) #[true, true, true, true, true, true, true, true, true, true, true, true, true, true, true, true, true, false] rfl rfl (by kernel_rfl) (fun _ _ _ h => h) (Or.inl ⟨by rfl, ?_⟩) ?_ ?_
      rotate_left
      · intro w'
        go_simp
        (try with_reducible rfl)
      rotate_left
      · simp only [Act.put, List.setIfInBounds_toArray, List.set_cons_zero, List.set_cons_succ]
        rfl
      refine last_ (i := 17) (N := none) #[true, true, true, true, true, true, true, true, true, true, true, true, true, true, true, true, true, true] rfl rfl (by kernel_rfl) (by decide) (fun K hK => ?_)
      go_simp
      refine hK.out _ _ ?_
      (try clear hHeld)
      clear hK K
      try simp only [Act.put, List.setIfInBounds_toArray, List.set_cons_zero, List.set_cons_succ]
      refine wpAnyLast_done (by kernel_rfl) ?_ _
      go_wp2_with fail
      go_meet
      exact ⟨rfl, ⟨HMID.out⟩⟩
    go_simp
    refine hK.out _ _ ?_ (fun hHeld2 => ?_)
    · (try dsimp only)
      first | exact hHeld | exact ⟨far_set HNE.out hHeld.1, far_set HNE.out hHeld.2.1, far_set HNE.out hHeld.2.2⟩
    clear hHeld hK K
    have hHeld := hHeld2
    clear hHeld2
    try simp only [Act.put, List.setIfInBounds_toArray, List.set_cons_zero, List.set_cons_succ]
    refine one_ (i := 7) (N := some 14) #[true, true, true, true, true, true, true, true, true, true, true, true, true, true, false, false, false, false] rfl rfl (by kernel_rfl) (by decide) (fun K hK => ?_)
    go_simp
    refine hK.out _ _ ?_ (fun hHeld2 => ?_)
    · (try dsimp only)
      first | exact hHeld | exact ⟨far_set HNE.out hHeld.1, far_set HNE.out hHeld.2.1, far_set HNE.out hHeld.2.2⟩
    clear hHeld hK K
    have hHeld := hHeld2
    clear hHeld2
    try simp only [Act.put, List.setIfInBounds_toArray, List.set_cons_zero, List.set_cons_succ]
    refine pure_ (i := 14) (N := some 20) (v := ?_) (a' := ?_) #[true, true, true, true, true, true, true, true, true, true, true, true, true, true, true, false, false, false] rfl rfl (by kernel_rfl) (fun _ _ _ h => h) (Or.inl ⟨by rfl, ?_⟩) ?_ ?_
    rotate_left
    · intro w'
      go_simp
      (try with_reducible rfl)
    rotate_left
    · simp only [Act.put, List.setIfInBounds_toArray, List.set_cons_zero, List.set_cons_succ]
      rfl
    refine one_ (i := 15) (N := none) #[true, true, true, true, true, true, true, true, true, true, true, true, true, true, true, true, false, false] rfl rfl (by kernel_rfl) (by decide) (fun K hK => ?_)
    go_simp
    refine hK.out _ _ ?_ (fun hHeld2 => ?_)
    · (try dsimp only)
      first | exact hHeld | exact ⟨far_set HNE.out hHeld.1, far_set HNE.out hHeld.2.1, far_set HNE.out hHeld.2.2⟩
    clear hHeld hK K
    have hHeld := hHeld2
    clear hHeld2
    try simp only [Act.put, List.setIfInBounds_toArray, List.set_cons_zero, List.set_cons_succ]
    refine pure_ (i := 16) (N := some 21) (v := ?_) (a' := ?_) #[true, true, true, true, true, true, true, true, true, true, true, true, true, true, true, true, true, false] rfl rfl (by kernel_rfl) (fun _ _ _ h => h) (Or.inl ⟨by rfl, ?_⟩) ?_ ?_
    rotate_left
    · intro w'
      go_simp
      (try with_reducible rfl)
    rotate_left
    · simp only [Act.put, List.setIfInBounds_toArray, List.set_cons_zero, List.set_cons_succ]
      rfl
    refine last_ (i := 17) (N := none) #[true, true, true, true, true, true, true, true, true, true, true, true, true, true, true, true, true, true] rfl rfl (by kernel_rfl) (by decide) (fun K hK => ?_)
    go_simp
    refine hK.out _ _ ?_
    (try clear hHeld)
    clear hK K
    try simp only [Act.put, List.setIfInBounds_toArray, List.set_cons_zero, List.set_cons_succ]
    refine wpAnyLast_done (by kernel_rfl) ?_ _
    go_wp2_with fail
    go_meet
    exact ⟨rfl, ⟨HMID.out⟩⟩
  case rest =>
    obtain ⟨rfl, HK⟩ := hcut
    have M4 := Lib.hid HK.out
    obtain ⟨z0, z1, z2, z3, z4, z5, z6⟩ := msC_cells M4.out.q
    clear HK M3 HMID
    go_wp2_with fail
    refine (mgood_walk k x.own x.peer x.view s A1 B1 n c1 m d1 (by omega) (by omega) wc).mono ?_
    rintro e w5 ⟨rfl, hb5⟩
    rw [show msB k x.own x.peer n m = true by unfold msB goodB; simp; omega]
    have M5 := Lib.hid (M4.out.below hb5)
    clear hb5 z0 z1 z2 z3 z4 z5 z6
    obtain ⟨Al, cl, Bl, dl, hc5, ho5, _⟩ := M5.out.G.cl
    obtain ⟨on, hon⟩ : ∃ on, on = x.out.length := ⟨_, rfl⟩
    rw [← hon] at hc5 ho5
    obtain ⟨l0, l1, l2, l3, l4, l5, l6, l7, l8⟩ := lkC_cells hc5
    obtain ⟨z0, z1, z2, z3, z4, z5, z6⟩ := msC_cells M5.out.q
    have onb : on < 1024 := by omega
    have HON := Lib.hid hon
    have g5 := froz hc5 5
    have g4 := froz M5.out.q 4
    have n1 : ¬ (1024 : Int) ≤ (on : Int) := by omega
    have n2 : ¬ k = 1 := by omega
    have n3 : ¬ x.pushed = 4294967295 := by omega
    have n3b : (x.pushed == 4294967295) = false := beq_eq_false_iff_ne.2 n3
    have n4 : IntKind.u32.wrap (x.pushed + 1) = x.pushed + 1 := by rw [IntKind.wrap_u32]; omega
    clear hc5 ho5 hon
    go_wp2_with fail
    obtain ⟨w7, hw7⟩ : ∃ w7, w7 = (w5.setCell ⟨r, 5, none⟩ (.int .u32 (x.pushed + 1))).setCell ⟨w.heap.size, 4, none⟩ (.int .u32 (x.pushed + 1)) := ⟨_, rfl⟩
    have M7 := Lib.hid (show MidG w w7 S r ⟨x.own, x.peer, x.view, x.now, x.pushed + 1, x.told, x.next, x.out, x.held⟩ k x.own x.peer x.view (x.pushed + 1) A1 n c1 xs B1 m d1 ys by rw [hw7]; exact (M5.out.pushes (p' := x.pushed + 1)).box (grown_set _) (by rw [heap_set _ M5.out.pushes.q]; rfl))
    rw [← hw7]
    clear hw7 l0 l1 l2 l3 l4 l5 l6 l7 l8 z0 z1 z2 z3 z4 z5 z6 g5 g4 n1 n2 n3 n3b n4 M4 M5
    obtain ⟨Al, cl, Bl, dl, hc7, ho7, _⟩ := M7.out.G.cl
    dsimp only at hc7 ho7
    rw [← HON.out] at hc7 ho7
    obtain ⟨l0, l1, l2, l3, l4, l5, l6, l7, l8⟩ := lkC_cells hc7
    obtain ⟨z0, z1, z2, z3, z4, z5, z6⟩ := msC_cells M7.out.q
    have HC7 := Lib.hid hc7; have HO7 := Lib.hid ho7.1; have HOS := Lib.hid ho7.2
    obtain ⟨i0, z0', hi0, hz0, hz1, hz2, hz3⟩ := sInfo
    have HI := Lib.hid (And.intro hi0 (And.intro hz0 (And.intro hz1 (And.intro hz2 hz3))))
    have BD := Lib.hid (fun o : Obj => ((below_drew (Below.refl _ _)).alloc (Nat.le_refl _) o : Below w7.heap.size w7 (w7.drew.alloc o)))
    have HSZ := Lib.hid M7.out.C.size
    clear hc7 ho7 l0 l1 l2 l3 l5 l6 l7 l8 hi0 hz0 hz1 hz2 hz3
    refine start_ (n := 12) (S := fun w' => w'.cell? ⟨r, 4, none⟩ = some (.slice Al on cl) ∧ w'.cell? ⟨w.heap.size, 0, none⟩ = some (.int .i64 k) ∧ w'.cell? ⟨w.heap.size, 1, none⟩ = some (.int .i64 x.own) ∧ w'.cell? ⟨w.heap.size, 2, none⟩ = some (.int .i64 x.peer) ∧ w'.cell? ⟨w.heap.size, 3, none⟩ = some (.int .u32 x.view) ∧ w'.cell? ⟨w.heap.size, 4, none⟩ = some (.int .u32 (x.pushed + 1)) ∧ w'.cell? ⟨w.heap.size, 5, none⟩ = some (.slice A1 n c1) ∧ w'.cell? ⟨w.heap.size, 6, none⟩ = some (.slice B1 m d1)) (ds := [11]) #[false, false, false, false, false, false, false, false, false, false, false, false] (by kernel_rfl) rfl rfl (⟨l4, z0, z1, z2, z3, z4, z5, z6⟩) (fun hHeld => ?_)
    refine pure_ (i := 0) (N := some 57) (v := ?_) (a' := ?_) #[true, false, false, false, false, false, false, false, false, false, false, false] rfl rfl (by kernel_rfl) (fun _ _ _ h => h) (Or.inl ⟨by rfl, ?_⟩) ?_ ?_
    rotate_left
    · intro w'
      go_simp
      (try with_reducible rfl)
    rotate_left
    · simp only [Act.put, List.setIfInBounds_toArray, List.set_cons_zero, List.set_cons_succ]
      rfl
    refine pure_ (i := 1) (N := some 58) (v := ?_) (a' := ?_) #[true, true, false, false, false, false, false, false, false, false, false, false] rfl rfl (by kernel_rfl) (fun _ _ _ h => h) (Or.inl ⟨by rfl, ?_⟩) ?_ ?_
    rotate_left
    · intro w'
      go_simp
      (try with_reducible rfl)
    rotate_left
    · simp only [Act.put, List.setIfInBounds_toArray, List.set_cons_zero, List.set_cons_succ]
      rfl
    refine pure_ (i := 2) (N := some 59) (v := ?_) (a' := ?_) #[true, true, true, false, false, false, false, false, false, false, false, false] rfl rfl (by kernel_rfl) (fun _ _ _ h => h) (Or.inl ⟨by rfl, ?_⟩) ?_ ?_
    rotate_left
    · intro w'
      go_simp
      (try with_reducible rfl)
    rotate_left
    · simp only [Act.put, List.setIfInBounds_toArray, List.set_cons_zero, List.set_cons_succ]
      rfl
    refine pure_ (i := 3) (N := some 60) (v := ?_) (a' := ?_) #[true, true, true, true, false, false, false, false, false, false, false, false] rfl rfl (by kernel_rfl) (fun _ _ _ h => h) (Or.inl ⟨by rfl, ?_⟩) ?_ ?_
    rotate_left
    · intro w'
      go_simp
      (try with_reducible rfl)
    rotate_left
    · simp only [Act.put, List.setIfInBounds_toArray, List.set_cons_zero, List.set_cons_succ]
      rfl
    refine take_ (i := 4) (N := some 61) (v := ?_) (a' := ?_) #[true, true, true, true, true, false, false, false, false, false, false, false] rfl rfl (by kernel_rfl) (fun _ _ _ h => h) (Or.inl ⟨by rfl, ?_⟩) hHeld ?_ ?_
    rotate_left
    · rintro w' ⟨s0, s1, s2, s3, s4, s5, s6, s7⟩
      go_simp
      (try with_reducible rfl)
    rotate_left
    · simp only [Act.put, List.setIfInBounds_toArray, List.set_cons_zero, List.set_cons_succ]
      rfl
    refine take_ (i := 5) (N := some 62) (v := ?_) (a' := ?_) #[true, true, true, true, true, true, false, false, false, false, false, false] rfl rfl (by kernel_rfl) (fun _ _ _ h => h) (Or.inl ⟨by rfl, ?_⟩) hHeld ?_ ?_
    rotate_left
    · rintro w' ⟨s0, s1, s2, s3, s4, s5, s6, s7⟩
      go_simp
      (try with_reducible rfl)
    rotate_left
    · simp only [Act.put, List.setIfInBounds_toArray, List.set_cons_zero, List.set_cons_succ]
      rfl
    refine pure_ (i := 6) (N := some 63) (v := ?_) (a' := ?_) #[true, true, true, true, true, true, true, false, false, false, false, false] rfl rfl (by kernel_rfl) (fun _ _ _ h => h) (Or.inl ⟨by rfl, ?_⟩) ?_ ?_
    rotate_left
    · intro w'
      go_simp
      (try with_reducible rfl)
    rotate_left
    · simp only [Act.put, List.setIfInBounds_toArray, List.set_cons_zero, List.set_cons_succ]
      rfl
    refine one_ (i := 7) (N := some 64) #[true, true, true, true, true, true, true, true, false, false, false, false] rfl rfl (by kernel_rfl) (by decide) (fun K hK => ?_)
    go_simp
    refine hK.out _ _ ?_ (fun hHeld2 => ?_)
    · (try dsimp only)
      exact ⟨pw_cell_below (by first | exact alloc_back _ | exact (below_drew (Below.refl _ _)).alloc (Nat.le_refl _) _) l4, pw_cell_below (by first | exact alloc_back _ | exact (below_drew (Below.refl _ _)).alloc (Nat.le_refl _) _) z0, pw_cell_below (by first | exact alloc_back _ | exact (below_drew (Below.refl _ _)).alloc (Nat.le_refl _) _) z1, pw_cell_below (by first | exact alloc_back _ | exact (below_drew (Below.refl _ _)).alloc (Nat.le_refl _) _) z2, pw_cell_below (by first | exact alloc_back _ | exact (below_drew (Below.refl _ _)).alloc (Nat.le_refl _) _) z3, pw_cell_below (by first | exact alloc_back _ | exact (below_drew (Below.refl _ _)).alloc (Nat.le_refl _) _) z4, pw_cell_below (by first | exact alloc_back _ | exact (below_drew (Below.refl _ _)).alloc (Nat.le_refl _) _) z5, pw_cell_below (by first | exact alloc_back _ | exact (below_drew (Below.refl _ _)).alloc (Nat.le_refl _) _) z6⟩
    clear hHeld hK K
    have hHeld := hHeld2
    clear hHeld2
    try simp only [Act.put, List.setIfInBounds_toArray, List.set_cons_zero, List.set_cons_succ]
    refine one_ (i := 8) (N := some 65) #[true, true, true, true, true, true, true, true, true, false, false, false] rfl rfl (by kernel_rfl) (by decide) (fun K hK => ?_)
    refine step_app_cells (w0 := w7.drew.alloc (.cells #[.int .i64 k, .int .i64 x.own, .int .i64 x.peer, .int .u32 x.view, .int .u32 (x.pushed + 1), .slice A1 n c1, .slice B1 m d1, .bool false, .int .i64 0] 65)) 0 (by rfl) _ _ 59 65 i0 z0' 9 96 (by rfl) Try.underlying59 HI.out.1 HI.out.2.1 HI.out.2.2.1 HI.out.2.2.2.1 HI.out.2.2.2.2 (by decide) (by decide) (.slice Al on cl) on (snC x.out) [.int .i64 k, .int .i64 x.own, .int .i64 x.peer, .int .u32 x.view, .int .u32 (x.pushed + 1), .slice A1 n c1, .slice B1 m d1, .bool false, .int .i64 0] (some ⟨w7.heap.size, 0, none⟩) 1 1 (by rfl) (by rfl) (pw_own_below HO7.out (BD.out (.cells #[.int .i64 k, .int .i64 x.own, .int .i64 x.peer, .int .u32 x.view, .int .u32 (x.pushed + 1), .slice A1 n c1, .slice B1 m d1, .bool false, .int .i64 0] 65))) (lit1_reads w7.drew [.int .i64 k, .int .i64 x.own, .int .i64 x.peer, .int .u32 x.view, .int .u32 (x.pushed + 1), .slice A1 n c1, .slice B1 m d1, .bool false, .int .i64 0] 65 9 rfl (by simp [Value.oneCell'])) (Below.refl _ _) (Nat.zero_le _) (by omega) (on + 1) rfl ?_
    intro A8 c8 w8 ho8 hB8 hgrow ha8
    have HF8 := Lib.hid (And.intro ho8 (And.intro hgrow ha8))
    have hc8 := heap_keep (BD.out (.cells #[.int .i64 k, .int .i64 x.own, .int .i64 x.peer, .int .u32 x.view, .int .u32 (x.pushed + 1), .slice A1 n c1, .slice B1 m d1, .bool false, .int .i64 0] 65)) HC7.out
    have ho8' := pw_own_below HO7.out (BD.out (.cells #[.int .i64 k, .int .i64 x.own, .int .i64 x.peer, .int .u32 x.view, .int .u32 (x.pushed + 1), .slice A1 n c1, .slice B1 m d1, .bool false, .int .i64 0] 65))
    have hr8 := (hgrow.block r (lt_of_heap hc8) (fun e => absurd rfl (ty_ne (own_typed ho8' r e.symm).choose_spec hc8 (by decide)))).trans hc8
    obtain ⟨v0, v1, v2, v3, v4, v5, v6, v7, v8⟩ := lkC_cells hr8
    have f4 := froz hr8 4
    have hb8 := heap_keep (BD.out (.cells #[.int .i64 k, .int .i64 x.own, .int .i64 x.peer, .int .u32 x.view, .int .u32 (x.pushed + 1), .slice A1 n c1, .slice B1 m d1, .bool false, .int .i64 0] 65)) M7.out.q
    obtain ⟨y0, y1, y2, y3, y4, y5, y6⟩ := msC_cells ((hgrow.block _ (lt_of_heap hb8) (fun e => absurd rfl (ty_ne (own_typed ho8' _ e.symm).choose_spec hb8 (by decide)))).trans hb8)
    clear ho8 hB8 hgrow ha8 hc8 ho8' hr8 hb8 v0 v1 v2 v3 v5 v6 v7 v8
    refine hK.out _ _ ?_ (fun hHeld2 => ?_)
    · (try dsimp only)
      exact ⟨v4, y0, y1, y2, y3, y4, y5, y6⟩
    clear hHeld hK K
    have hHeld := hHeld2
    clear hHeld2
    try simp only [Act.put, List.setIfInBounds_toArray, List.set_cons_zero, List.set_cons_succ]
    refine pure_ (i := 9) (N := some 66) (v := ?_) (a' := ?_) #[true, true, true, true, true, true, true, true, true, true, false, false] rfl rfl (by kernel_rfl) (fun _ _ _ h => h) (Or.inl ⟨by rfl, ?_⟩) ?_ ?_
    rotate_left
    · intro w'
      go_simp
      (try with_reducible rfl)
    rotate_left
    · simp only [Act.put, List.setIfInBounds_toArray, List.set_cons_zero, List.set_cons_succ]
      rfl
    refine pure_ (i := 10) (N := some 67) (v := ?_) (a' := ?_) #[true, true, true, true, true, true, true, true, true, true, true, false] rfl rfl (by kernel_rfl) (fun _ _ _ h => h) (Or.inl ⟨by rfl, ?_⟩) ?_ ?_
    rotate_left
    · intro w'
      go_simp
      (try with_reducible rfl)
    rotate_left
    · simp only [Act.put, List.setIfInBounds_toArray, List.set_cons_zero, List.set_cons_succ]
      rfl
    refine last_ (i := 11) (N := none) #[true, true, true, true, true, true, true, true, true, true, true, true] rfl rfl (by kernel_rfl) (by decide) (fun K hK => ?_)
    go_simp
    refine hK.out _ _ ?_
    (try clear hHeld)
    clear hK K
    try simp only [Act.put, List.setIfInBounds_toArray, List.set_cons_zero, List.set_cons_succ]
    refine wpAnyLast_done (by kernel_rfl) ?_ _
    obtain ⟨w9, hw9⟩ : ∃ w9, w9 = w8.setCell ⟨r, 4, none⟩ (.slice A8 (on + 1) c8) := ⟨_, rfl⟩
    rw [← hw9]
    have hF := push_fin (w := w) (w9 := w9) (y := ⟨k, x.own, x.peer, x.view, x.pushed + 1, A1, c1, xs, B1, d1, ys⟩) M7.out.G M7.out.lt HSZ.out (by dsimp only; rw [← HON.out]; exact ⟨HO7.out, HOS.out⟩) (by have h := M7.out.o; rw [← HXL.out.1] at h; exact h) (by have h := M7.out.o2; rw [← HXL.out.2] at h; exact h) (by dsimp only; rw [← HON.out]; have h := HF8.out.1; simp only [Sn.cells, Hd.cells, Hd.nv, Hd.wv, HXL.out.1, HXL.out.2, List.cons_append, List.nil_append]; exact h) (by dsimp only; rw [← HON.out]; exact HF8.out.2.1) (by dsimp only; rw [← HON.out]; exact HF8.out.2.2) (by dsimp only; rw [← HON.out]; exact hw9)
    have HF := Lib.hid hF
    clear hF hw9 f4 v4 y0 y1 y2 y3 y4 y5 y6
    go_wp2_with fail
    go_ret
    exact ⟨⟨k, x.own, x.peer, x.view, x.pushed + 1, A1, c1, xs, B1, d1, ys⟩, _, rfl, rfl, HF.out.1, ⟨M7.out.C.trans HF.out.2 (fun k _ h => h), fun b hb => hb.elim .inl (fun h => .inr h.1)⟩⟩
set_option maxRecDepth 100000 in
set_option maxHeartbeats 8000000 in
theorem push_full (h : LkG w S r x) (hr : ReadsInt w .i64 A n xs) (hwd : WidesAt w B m ys) (hA : A = none → c = 0) (hBn : B = none → m = 0 ∧ d = 0) (hn : n ≤ 500) (hm : m ≤ 500) (ho1 : 0 ≤ x.own ∧ x.own < 16) (hp1 : 0 ≤ x.peer ∧ x.peer < 16) (hk : 2 ≤ k ∧ k ≤ 20) (hl : 1024 ≤ x.out.length) :
    Calls Try.prog 10 #[.pointer (some ⟨r, 0, none⟩), .agg (msC k f t v s (.slice A n c) (.slice B m d))] w fun e w' => e = .returned (.int .i64 6) ∧ LkG w' S r x ∧ Stp w w' S S := by
  obtain ⟨w1, hw1⟩ : ∃ w1, w1 = w.alloc (.cells (msC k f t v s (.slice A n c) (.slice B m d)) 32) := ⟨_, rfl⟩
  have hb1 : Below w.heap.size w w1 := by rw [hw1]; exact alloc_back _
  have q1 : w1.heap[w.heap.size]? = some (.cells (msC k f t v s (.slice A n c) (.slice B m d)) 32 (0, 0)) := by rw [hw1]; exact heap_alloc_new _ _
  have HW1 := Lib.hid hw1; have HB1 := Lib.hid hb1; have Q1 := Lib.hid q1
  have S1 := Lib.hid (h.below hb1)
  have HLT := Lib.hid h.inn
  have CC := Lib.hid (copied_any k f t v s A B n c m d xs ys w1 (hr.below hb1) (hwd.below hb1) (by omega) (by omega) hA hBn)
  have HXL := Lib.hid (And.intro hr.1 hwd.1)
  obtain ⟨x0, x1, x2, x3, x4, x5, x6⟩ := msC_cells q1
  clear hw1 hb1 q1 h hr hwd hA hBn
  go_enter Try.func10, Try.ntmps10
  go_wp2_with fail
  rw [← HW1.out]
  go_wp2_with fail
  refine CC.out.mono ?_
  rintro e w2 ⟨A1, c1, B1, d1, rfl, ho2, hwo2, hb2⟩
  have S2 := Lib.hid (S1.out.below hb2); have Q2 := Lib.hid (heap_keep hb2 Q1.out)
  have HO2 := Lib.hid (And.intro (own_base_le ho2 HB1.out.size) (own_base_le hwo2 HB1.out.size))
  have HB2 := Lib.hid (below_then HB1.out HB1.out.size hb2)
  clear ho2 hwo2 hb2 CC x0 x1 x2 x3 x4 x5 x6
  have f0 := froz Q2.out 0
  have f1 := froz Q2.out 1
  have f2 := froz Q2.out 2
  have f3 := froz Q2.out 3
  have f4 := froz Q2.out 4
  have f5 := froz Q2.out 5
  have f6 := froz Q2.out 6
  obtain ⟨x0, x1, x2, x3, x4, x5, x6⟩ := msC_cells Q2.out
  obtain ⟨w3, hw3⟩ : ∃ w3, w3 = ((((((w2.setCell ⟨w.heap.size, 0, none⟩ (.int .i64 k)).setCell ⟨w.heap.size, 1, none⟩ (.int .i64 f)).setCell ⟨w.heap.size, 2, none⟩ (.int .i64 t)).setCell ⟨w.heap.size, 3, none⟩ (.int .u32 v)).setCell ⟨w.heap.size, 4, none⟩ (.int .u32 s)).setCell ⟨w.heap.size, 5, none⟩ (.slice A1 n c1)).setCell ⟨w.heap.size, 6, none⟩ (.slice B1 m d1) := ⟨_, rfl⟩
  have hg3 : w2.grownBy w3 (some w.heap.size) := by rw [hw3]; exact mgrown7 _ _ _ _ _ _ _ _ _
  have q3 : w3.heap[w.heap.size]? = some (.cells (msC k f t v s (.slice A1 n c1) (.slice B1 m d1)) 32 (0, 0)) := by rw [hw3]; exact mset7 Q2.out
  have c23 : Chg (fun b => b = w.heap.size) w2 w3 := Chg.ofGrown hg3 (fun k e => by injection e with e; exact e.symm)
  have M3 := Lib.hid (show MidG w w3 S r x k f t v s A1 n c1 xs B1 m d1 ys from ⟨q3, S2.out.chg c23 (fun b hb e => by have := HLT.out b hb; omega), own_other HO2.out.1 hg3 (own_ne Q2.out HO2.out.1 (by decide)), own_other HO2.out.2 hg3 (own_ne Q2.out HO2.out.2 (by decide)), (Chg.ofBelow HB2.out).trans c23 (fun k hk e => by omega), HLT.out⟩)
  have HW3 := Lib.hid hw3.symm
  clear hg3 q3 hw3 c23
  obtain ⟨Al, cl, Bl, dl, hc3, ho3, _⟩ := M3.out.G.cl
  obtain ⟨l0, l1, l2, l3, l4, l5, l6, l7, l8⟩ := lkC_cells hc3
  clear hc3 ho3 l3 l4 l5 l6 l7 l8
  go_wp2_with fail
  rw [HW3.out]
  clear f0 f1 f2 f3 f4 f5 f6 x0 x1 x2 x3 x4 x5 x6
  have HNE := Lib.hid M3.out.ne
  have HMID := Lib.hid ((M3.out.box (w4 := ((w3.setCell ⟨w.heap.size, 1, none⟩ (.int .i64 x.own)).setCell ⟨w.heap.size, 2, none⟩ (.int .i64 x.peer)).setCell ⟨w.heap.size, 3, none⟩ (.int .u32 x.view)) (World.grownBy.trans (World.grownBy.trans (grown_set _) (grown_set _)) (grown_set _)) (mset3 M3.out.q)).below (below_drew (Below.refl _ _)))
  clear Q2 S2 HO2 Q1 S1 HW1 HW3 HB1
  go_cut [10] (fun s10 wx => s10 = .int .i64 x.own ∧ Aside0 (MidG w wx S r x k x.own x.peer x.view s A1 n c1 xs B1 m d1 ys))
  case first =>
    obtain ⟨Al, cl, Bl, dl, hc3, ho3, _⟩ := M3.out.G.cl
    obtain ⟨l0, l1, l2, l3, l4, l5, l6, l7, l8⟩ := lkC_cells hc3
    clear hc3 ho3 l3 l4 l5 l6 l7 l8
    have g1 := froz M3.out.q 1
    have g2 := froz M3.out.q 2
    have g3 := froz M3.out.q 3
    obtain ⟨z0, z1, z2, z3, z4, z5, z6⟩ := msC_cells M3.out.q
    refine start_ (n := 18) (S := fun w' => w'.cell? ⟨r, 0, none⟩ = some (.int .i64 x.own) ∧ w'.cell? ⟨r, 1, none⟩ = some (.int .i64 x.peer) ∧ w'.cell? ⟨r, 2, none⟩ = some (.int .u32 x.view)) (ds := [17]) #[false, false, false, false, false, false, false, false, false, false, false, false, false, false, false, false, false, false] (by kernel_rfl) rfl rfl (⟨l0, l1, l2⟩) (fun hHeld => ?_)
    refine pure_ (i := 0) (N := some 7) (v := ?_) (a' := ?_) #[true, false, false, false, false, false, false, false, false, false, false, false, false, false, false, false, false, false] rfl rfl (by kernel_rfl) (fun _ _ _ h => h) (Or.inl ⟨by rfl, ?_⟩) ?_ ?_
    rotate_left
    · intro w'
      go_simp
      (try with_reducible rfl)
    rotate_left
    · simp only [Act.put, List.setIfInBounds_toArray, List.set_cons_zero, List.set_cons_succ]
      rfl
    refine pure_ (i := 1) (N := some 8) (v := ?_) (a' := ?_) #[true, true, false, false, false, false, false, false, false, false, false, false, false, false, false, false, false, false] rfl rfl (by kernel_rfl) (fun _ _ _ h => h) (Or.inl ⟨by rfl, ?_⟩) ?_ ?_
    rotate_left
    · intro w'
      go_simp
      (try with_reducible rfl)
    rotate_left
    · simp only [Act.put, List.setIfInBounds_toArray, List.set_cons_zero, List.set_cons_succ]
      rfl
    refine pure_ (i := 2) (N := some 9) (v := ?_) (a' := ?_) #[true, true, true, false, false, false, false, false, false, false, false, false, false, false, false, false, false, false] rfl rfl (by kernel_rfl) (fun _ _ _ h => h) (Or.inl ⟨by rfl, ?_⟩) ?_ ?_
    rotate_left
    · intro w'
      go_simp
      (try with_reducible rfl)
    rotate_left
    · simp only [Act.put, List.setIfInBounds_toArray, List.set_cons_zero, List.set_cons_succ]
      rfl
    refine take_ (i := 3) (N := some 10) (v := ?_) (a' := ?_) #[true, true, true, true, false, false, false, false, false, false, false, false, false, false, false, false, false, false] rfl rfl (by kernel_rfl) (fun _ _ _ h => h) (Or.inl ⟨by rfl, ?_⟩) hHeld ?_ ?_
    rotate_left
    · rintro w' ⟨s0, s1, s2⟩
      go_simp
      (try with_reducible rfl)
    rotate_left
    · simp only [Act.put, List.setIfInBounds_toArray, List.set_cons_zero, List.set_cons_succ]
      rfl
    refine pure_ (i := 4) (N := some 11) (v := ?_) (a' := ?_) #[true, true, true, true, true, false, false, false, false, false, false, false, false, false, false, false, false, false] rfl rfl (by kernel_rfl) (fun _ _ _ h => h) (Or.inl ⟨by rfl, ?_⟩) ?_ ?_
    rotate_left
    · intro w'
      go_simp
      (try with_reducible rfl)
    rotate_left
    · simp only [Act.put, List.setIfInBounds_toArray, List.set_cons_zero, List.set_cons_succ]
      rfl
    refine pure_ (i := 5) (N := some 12) (v := ?_) (a' := ?_) #[true, true, true, true, true, true, false, false, false, false, false, false, false, false, false, false, false, false] rfl rfl (by kernel_rfl) (fun _ _ _ h => h) (Or.inl ⟨by rfl, ?_⟩) ?_ ?_
    rotate_left
    · intro w'
      go_simp
      (try with_reducible rfl)
    rotate_left
    · simp only [Act.put, List.setIfInBounds_toArray, List.set_cons_zero, List.set_cons_succ]
      rfl
    refine pure_ (i := 6) (N := some 13) (v := ?_) (a' := ?_) #[true, true, true, true, true, true, true, false, false, false, false, false, false, false, false, false, false, false] rfl rfl (by kernel_rfl) (fun _ _ _ h => h) (Or.inl ⟨by rfl, ?_⟩) ?_ ?_
    rotate_left
    · intro w'
      go_simp
      (try with_reducible rfl)
    rotate_left
    · simp only [Act.put, List.setIfInBounds_toArray, List.set_cons_zero, List.set_cons_succ]
      rfl
    refine pure_ (i := 8) (N := some 15) (v := ?_) (a' := ?_) #[true, true, true, true, true, true, true, false, true, false, false, false, false, false, false, false, false, false] rfl rfl (by kernel_rfl) (fun _ _ _ h => h) (Or.inl ⟨by rfl, ?_⟩) ?_ ?_
    rotate_left
    · intro w'
      go_simp
      (try with_reducible rfl)
    rotate_left
    · simp only [Act.put, List.setIfInBounds_toArray, List.set_cons_zero, List.set_cons_succ]
      rfl
    refine pure_ (i := 9) (N := some 16) (v := ?_) (a' := ?_) #[true, true, true, true, true, true, true, false, true, true, false, false, false, false, false, false, false, false] rfl rfl (by kernel_rfl) (fun _ _ _ h => h) (Or.inl ⟨by rfl, ?_⟩) ?_ ?_
    rotate_left
    · intro w'
      go_simp
      (try with_reducible rfl)
    rotate_left
    · simp only [Act.put, List.setIfInBounds_toArray, List.set_cons_zero, List.set_cons_succ]
      rfl
    refine pure_ (i := 10) (N := some 17) (v := ?_) (a' := ?_) #[true, true, true, true, true, true, true, false, true, true, true, false, false, false, false, false, false, false] rfl rfl (by kernel_rfl) (fun _ _ _ h => h) (Or.inl ⟨by rfl, ?_⟩) ?_ ?_
    rotate_left
    · intro w'
      go_simp
      (try with_reducible rfl)
    rotate_left
    · simp only [Act.put, List.setIfInBounds_toArray, List.set_cons_zero, List.set_cons_succ]
      rfl
    refine pure_ (i := 12) (N := some 19) (v := ?_) (a' := ?_) #[true, true, true, true, true, true, true, false, true, true, true, false, true, false, false, false, false, false] rfl rfl (by kernel_rfl) (fun _ _ _ h => h) (Or.inl ⟨by rfl, ?_⟩) ?_ ?_
    rotate_left
    · intro w'
      go_simp
      (try with_reducible rfl)
    rotate_left
    · simp only [Act.put, List.setIfInBounds_toArray, List.set_cons_zero, List.set_cons_succ]
      rfl
    refine three_ (i := 7) (j := 11) (k := 13) (Ni := some 14) (Nj := some 18) (Nk := none) #[true, true, true, true, true, true, true, true, true, true, true, false, true, false, false, false, false, false] #[true, true, true, true, true, true, true, false, true, true, true, true, true, false, false, false, false, false] #[true, true, true, true, true, true, true, false, true, true, true, false, true, true, false, false, false, false] rfl rfl rfl rfl rfl rfl (by kernel_rfl) (by decide) (by decide) (by decide) (fun K hK => ?_) (fun K hK => ?_) (fun K hK => ?_)
    · skip
      go_simp
      refine hK.out _ _ ?_ (fun hHeld2 => ?_)
      · (try dsimp only)
        first | exact hHeld | exact ⟨far_set HNE.out hHeld.1, far_set HNE.out hHeld.2.1, far_set HNE.out hHeld.2.2⟩
      clear hHeld hK K
      have hHeld := hHeld2
      clear hHeld2
      try simp only [Act.put, List.setIfInBounds_toArray, List.set_cons_zero, List.set_cons_succ]
      refine two_ (i := 11) (j := 13) (Ni := some 18) (Nj := none) #[true, true, true, true, true, true, true, true, true, true, true, true, true, false, false, false, false, false] #[true, true, true, true, true, true, true, true, true, true, true, false, true, true, false, false, false, false] rfl rfl rfl rfl (by kernel_rfl) (by decide) (by decide) (fun K hK => ?_) (fun K hK => ?_)
      · skip
        go_simp
        refine hK.out _ _ ?_ (fun hHeld2 => ?_)
        · (try dsimp only)
          first | exact hHeld | exact ⟨far_set HNE.out hHeld.1, far_set HNE.out hHeld.2.1, far_set HNE.out hHeld.2.2⟩
        clear hHeld hK K
        have hHeld := hHeld2
        clear hHeld2
        try simp only [Act.put, List.setIfInBounds_toArray, List.set_cons_zero, List.set_cons_succ]
        refine one_ (i := 13) (N := none) #[true, true, true, true, true, true, true, true, true, true, true, true, true, true, false, false, false, false] rfl rfl (by kernel_rfl) (by decide) (fun K hK => ?_)
        go_simp
        refine hK.out _ _ ?_ (fun hHeld2 => ?_)
        · (try dsimp only)
          first | exact hHeld | exact ⟨far_set HNE.out hHeld.1, far_set HNE.out hHeld.2.1, far_set HNE.out hHeld.2.2⟩
        clear hHeld hK K
        have hHeld := hHeld2
        clear hHeld2
        try simp only [Act.put, List.setIfInBounds_toArray, List.set_cons_zero, List.set_cons_succ]
        refine pure_ (i := 14) (N := some 20) (v := ?_) (a' := ?_) #[true, true, true, true, true, true, true, true, true, true, true, true, true, true, true, false, false, false] rfl rfl (by kernel_rfl) (fun _ _ _ h => h) (Or.inl ⟨by rfl, ?_⟩) ?_ ?_
        rotate_left
        · intro w'
          go_simp
          (try with_reducible rfl)
        rotate_left
        · simp only [Act.put, List.setIfInBounds_toArray, List.set_cons_zero, List.set_cons_succ]
          rfl
        refine one_ (i := 15) (N := none) #[true, true, true, true, true, true, true, true, true, true, true, true, true, true, true, true, false, false] rfl rfl (by kernel_rfl) (by decide) (fun K hK => ?_)
        go_simp
        refine hK.out _ _ ?_ (fun hHeld2 => ?_)
        · (try dsimp only)
          first | exact hHeld | exact ⟨far_set HNE.out hHeld.1, far_set HNE.out hHeld.2.1, far_set HNE.out hHeld.2.2⟩
        clear hHeld hK K
        have hHeld := hHeld2
        clear hHeld2
        try simp only [Act.put, List.setIfInBounds_toArray, List.set_cons_zero, List.set_cons_succ]
        refine pure_ (i := 16) (N := some 21) (v := ?_) (a' := ?_) #[true, true, true, true, true, true, true, true, true, true, true, true, true, true, true, true, true, false] rfl rfl (by kernel_rfl) (fun _ _ _ h => h) (Or.inl ⟨by rfl, ?_⟩) ?_ ?_
        rotate_left
        · intro w'
          go_simp
          (try with_reducible rfl)
        rotate_left
        · simp only [Act.put, List.setIfInBounds_toArray, List.set_cons_zero, List.set_cons_succ]
          rfl
        refine last_ (i := 17) (N := none) #[true, true, true, true, true, true, true, true, true, true, true, true, true, true, true, true, true, true] rfl rfl (by kernel_rfl) (by decide) (fun K hK => ?_)
        go_simp
        refine hK.out _ _ ?_
        (try clear hHeld)
        clear hK K
        try simp only [Act.put, List.setIfInBounds_toArray, List.set_cons_zero, List.set_cons_succ]
        refine wpAnyLast_done (by kernel_rfl) ?_ _
        go_wp2_with fail
        go_meet
        exact ⟨rfl, ⟨HMID.out⟩⟩
      go_simp
      refine hK.out _ _ ?_ (fun hHeld2 => ?_)
      · (try dsimp only)
        first | exact hHeld | exact ⟨far_set HNE.out hHeld.1, far_set HNE.out hHeld.2.1, far_set HNE.out hHeld.2.2⟩
      clear hHeld hK K
      have hHeld := hHeld2
      clear hHeld2
      try simp only [Act.put, List.setIfInBounds_toArray, List.set_cons_zero, List.set_cons_succ]
      refine pure_ (i := 14) (N := some 20) (v := ?_) (a' := ?_) #[true, true, true, true, true, true, true, true, true, true, true, false, true, true, true, false, false, false] rfl rfl (by kernel_rfl) (fun _ _ _ h => h) (Or.inl ⟨by rfl, ?_⟩) ?_ ?_
      rotate_left
      · intro w'
        go_simp
        (try with_reducible rfl)
      rotate_left
      · simp only [Act.put, List.setIfInBounds_toArray, List.set_cons_zero, List.set_cons_succ]
        rfl
      refine two_ (i := 11) (j := 15) (Ni := some 18) (Nj := none) #[true, true, true, true, true, true, true, true, true, true, true, true, true, true, true, false, false, false] #[true, true, true, true, true, true, true, true, true, true, true, false, true, true, true, true, false, false] rfl rfl rfl rfl (by kernel_rfl) (by decide) (by decide) (fun K hK => ?_) (fun K hK => ?_)
      · skip
        go_simp
        refine hK.out _ _ ?_ (fun hHeld2 => ?_)
        · (try dsimp only)
          first | exact hHeld | exact ⟨far_set HNE.out hHeld.1, far_set HNE.out hHeld.2.1, far_set HNE.out hHeld.2.2⟩
        clear hHeld hK K
        have hHeld := hHeld2
        clear hHeld2
        try simp only [Act.put, List.setIfInBounds_toArray, List.set_cons_zero, List.set_cons_succ]
        refine one_ (i := 15) (N := none) #[true, true, true, true, true, true, true, true, true, true, true, true, true, true, true, true, false, false] rfl rfl (by kernel_rfl) (by decide) (fun K hK => ?_)
        go_simp
        refine hK.out _ _ ?_ (fun hHeld2 => ?_)
        · (try dsimp only)
          first | exact hHeld | exact ⟨far_set HNE.out hHeld.1, far_set HNE.out hHeld.2.1, far_set HNE.out hHeld.2.2⟩
        clear hHeld hK K
        have hHeld := hHeld2
        clear hHeld2
        try simp only [Act.put, List.setIfInBounds_toArray, List.set_cons_zero, List.set_cons_succ]
        refine pure_ (i := 16) (N := some 21) (v := ?_) (a' := ?_) #[true, true, true, true, true, true, true, true, true, true, true, true, true, true, true, true, true, false] rfl rfl (by kernel_rfl) (fun _ _ _ h => h) (Or.inl ⟨by rfl, ?_⟩) ?_ ?_
        rotate_left
        · intro w'
          go_simp
          (try with_reducible rfl)
        rotate_left
        · simp only [Act.put, List.setIfInBounds_toArray, List.set_cons_zero, List.set_cons_succ]
          rfl
        refine last_ (i := 17) (N := none) #[true, true, true, true, true, true, true, true, true, true, true, true, true, true, true, true, true, true] rfl rfl (by kernel_rfl) (by decide) (fun K hK => ?_)
        go_simp
        refine hK.out _ _ ?_
        (try clear hHeld)
        clear hK K
        try simp only [Act.put, List.setIfInBounds_toArray, List.set_cons_zero, List.set_cons_succ]
        refine wpAnyLast_done (by kernel_rfl) ?_ _
        go_wp2_with fail
        go_meet
        exact ⟨rfl, ⟨HMID.out⟩⟩
      go_simp
      refine hK.out _ _ ?_ (fun hHeld2 => ?_)
      · (try dsimp only)
        first | exact hHeld | exact ⟨far_set HNE.out hHeld.1, far_set HNE.out hHeld.2.1, far_set HNE.out hHeld.2.2⟩
      clear hHeld hK K
      have hHeld := hHeld2
      clear hHeld2
      try simp only [Act.put, List.setIfInBounds_toArray, List.set_cons_zero, List.set_cons_succ]
      refine one_ (i := 11) (N := some 18) #[true, true, true, true, true, true, true, true, true, true, true, true, true, true, true, true, false, false] rfl rfl (by kernel_rfl) (by decide) (fun K hK => ?_)
      go_simp
      refine hK.out _ _ ?_ (fun hHeld2 => ?_)
      · (try dsimp only)
        first | exact hHeld | exact ⟨far_set HNE.out hHeld.1, far_set HNE.out hHeld.2.1, far_set HNE.out hHeld.2.2⟩
      clear hHeld hK K
      have hHeld := hHeld2
      clear hHeld2
      try simp only [Act.put, List.setIfInBounds_toArray, List.set_cons_zero, List.set_cons_succ]
      refine pure_ (i := 16) (N := some 21) (v := ?_) (a' := ?_) #[true, true, true, true, true, true, true, true, true, true, true, true, true, true, true, true, true, false] rfl rfl (by kernel_rfl) (fun _ _ _ h => h) (Or.inl ⟨by rfl, ?_⟩) ?_ ?_
      rotate_left
      · intro w'
        go_simp
        (try with_reducible rfl)
      rotate_left
      · simp only [Act.put, List.setIfInBounds_toArray, List.set_cons_zero, List.set_cons_succ]
        rfl
      refine last_ (i := 17) (N := none) #[true, true, true, true, true, true, true, true, true, true, true, true, true, true, true, true, true, true] rfl rfl (by kernel_rfl) (by decide) (fun K hK => ?_)
      go_simp
      refine hK.out _ _ ?_
      (try clear hHeld)
      clear hK K
      try simp only [Act.put, List.setIfInBounds_toArray, List.set_cons_zero, List.set_cons_succ]
      refine wpAnyLast_done (by kernel_rfl) ?_ _
      go_wp2_with fail
      go_meet
      exact ⟨rfl, ⟨HMID.out⟩⟩
    · skip
      go_simp
      refine hK.out _ _ ?_ (fun hHeld2 => ?_)
      · (try dsimp only)
        first | exact hHeld | exact ⟨far_set HNE.out hHeld.1, far_set HNE.out hHeld.2.1, far_set HNE.out hHeld.2.2⟩
      clear hHeld hK K
      have hHeld := hHeld2
      clear hHeld2
      try simp only [Act.put, List.setIfInBounds_toArray, List.set_cons_zero, List.set_cons_succ]
      refine two_ (i := 7) (j := 13) (Ni := some 14) (Nj := none) #[true, true, true, true, true, true, true, true, true, true, true, true, true, false, false, false, false, false] #[true, true, true, true, true, true, true, false, true, true, true, true, true, true, false, false, false, false] rfl rfl rfl rfl (by kernel_rfl) (by decide) (by decide) (fun K hK => ?_) (fun K hK => ?_)
      · skip
        go_simp
        refine hK.out _ _ ?_ (fun hHeld2 => ?_)
        · (try dsimp only)
          first | exact hHeld | exact ⟨far_set HNE.out hHeld.1, far_set HNE.out hHeld.2.1, far_set HNE.out hHeld.2.2⟩
        clear hHeld hK K
        have hHeld := hHeld2
        clear hHeld2
        try simp only [Act.put, List.setIfInBounds_toArray, List.set_cons_zero, List.set_cons_succ]
        refine one_ (i := 13) (N := none) #[true, true, true, true, true, true, true, true, true, true, true, true, true, true, false, false, false, false] rfl rfl (by kernel_rfl) (by decide) (fun K hK => ?_)
        go_simp
        refine hK.out _ _ ?_ (fun hHeld2 => ?_)
        · (try dsimp only)
          first | exact hHeld | exact ⟨far_set HNE.out hHeld.1, far_set HNE.out hHeld.2.1, far_set HNE.out hHeld.2.2⟩
        clear hHeld hK K
        have hHeld := hHeld2
        clear hHeld2
        try simp only [Act.put, List.setIfInBounds_toArray, List.set_cons_zero, List.set_cons_succ]
        refine pure_ (i := 14) (N := some 20) (v := ?_) (a' := ?_) #[true, true, true, true, true, true, true, true, true, true, true, true, true, true, true, false, false, false] rfl rfl (by kernel_rfl) (fun _ _ _ h => h) (Or.inl ⟨by rfl, ?_⟩) ?_ ?_
        rotate_left
        · intro w'
          go_simp
          (try with_reducible rfl)
        rotate_left
        · simp only [Act.put, List.setIfInBounds_toArray, List.set_cons_zero, List.set_cons_succ]
          rfl
        refine one_ (i := 15) (N := none) #[true, true, true, true, true, true, true, true, true, true, true, true, true, true, true, true, false, false] rfl rfl (by kernel_rfl) (by decide) (fun K hK => ?_)
        go_simp
        refine hK.out _ _ ?_ (fun hHeld2 => ?_)
        · (try dsimp only)
          first | exact hHeld | exact ⟨far_set HNE.out hHeld.1, far_set HNE.out hHeld.2.1, far_set HNE.out hHeld.2.2⟩
        clear hHeld hK K
        have hHeld := hHeld2
        clear hHeld2
        try simp only [Act.put, List.setIfInBounds_toArray, List.set_cons_zero, List.set_cons_succ]
        refine pure_ (i := 16) (N := some 21) (v := ?_) (a' := ?_) #[true, true, true, true, true, true, true, true, true, true, true, true, true, true, true, true, true, false] rfl rfl (by kernel_rfl) (fun _ _ _ h => h) (Or.inl ⟨by rfl, ?_⟩) ?_ ?_
        rotate_left
        · intro w'
          go_simp
          (try with_reducible rfl)
        rotate_left
        · simp only [Act.put, List.setIfInBounds_toArray, List.set_cons_zero, List.set_cons_succ]
          rfl
        refine last_ (i := 17) (N := none) #[true, true, true, true, true, true, true, true, true, true, true, true, true, true, true, true, true, true] rfl rfl (by kernel_rfl) (by decide) (fun K hK => ?_)
        go_simp
        refine hK.out _ _ ?_
        (try clear hHeld)
        clear hK K
        try simp only [Act.put, List.setIfInBounds_toArray, List.set_cons_zero, List.set_cons_succ]
        refine wpAnyLast_done (by kernel_rfl) ?_ _
        go_wp2_with fail
        go_meet
        exact ⟨rfl, ⟨HMID.out⟩⟩
      go_simp
      refine hK.out _ _ ?_ (fun hHeld2 => ?_)
      · (try dsimp only)
        first | exact hHeld | exact ⟨far_set HNE.out hHeld.1, far_set HNE.out hHeld.2.1, far_set HNE.out hHeld.2.2⟩
      clear hHeld hK K
      have hHeld := hHeld2
      clear hHeld2
      try simp only [Act.put, List.setIfInBounds_toArray, List.set_cons_zero, List.set_cons_succ]
      refine one_ (i := 7) (N := some 14) #[true, true, true, true, true, true, true, true, true, true, true, true, true, true, false, false, false, false] rfl rfl (by kernel_rfl) (by decide) (fun K hK => ?_)
      go_simp
      refine hK.out _ _ ?_ (fun hHeld2 => ?_)
      · (try dsimp only)
        first | exact hHeld | exact ⟨far_set HNE.out hHeld.1, far_set HNE.out hHeld.2.1, far_set HNE.out hHeld.2.2⟩
      clear hHeld hK K
      have hHeld := hHeld2
      clear hHeld2
      try simp only [Act.put, List.setIfInBounds_toArray, List.set_cons_zero, List.set_cons_succ]
      refine pure_ (i := 14) (N := some 20) (v := ?_) (a' := ?_) #[true, true, true, true, true, true, true, true, true, true, true, true, true, true, true, false, false, false] rfl rfl (by kernel_rfl) (fun _ _ _ h => h) (Or.inl ⟨by rfl, ?_⟩) ?_ ?_
      rotate_left
      · intro w'
        go_simp
        (try with_reducible rfl)
      rotate_left
      · simp only [Act.put, List.setIfInBounds_toArray, List.set_cons_zero, List.set_cons_succ]
        rfl
      refine one_ (i := 15) (N := none) #[true, true, true, true, true, true, true, true, true, true, true, true, true, true, true, true, false, false] rfl rfl (by kernel_rfl) (by decide) (fun K hK => ?_)
      go_simp
      refine hK.out _ _ ?_ (fun hHeld2 => ?_)
      · (try dsimp only)
        first | exact hHeld | exact ⟨far_set HNE.out hHeld.1, far_set HNE.out hHeld.2.1, far_set HNE.out hHeld.2.2⟩
      clear hHeld hK K
      have hHeld := hHeld2
      clear hHeld2
      try simp only [Act.put, List.setIfInBounds_toArray, List.set_cons_zero, List.set_cons_succ]
      refine pure_ (i := 16) (N := some 21) (v := ?_) (a' := ?_) #[true, true, true, true, true, true, true, true, true, true, true, true, true, true, true, true, true, false] rfl rfl (by kernel_rfl) (fun _ _ _ h => h) (Or.inl ⟨by rfl, ?_⟩) ?_ ?_
      rotate_left
      · intro w'
        go_simp
        (try with_reducible rfl)
      rotate_left
      · simp only [Act.put, List.setIfInBounds_toArray, List.set_cons_zero, List.set_cons_succ]
        rfl
      refine last_ (i := 17) (N := none) #[true, true, true, true, true, true, true, true, true, true, true, true, true, true, true, true, true, true] rfl rfl (by kernel_rfl) (by decide) (fun K hK => ?_)
      go_simp
      refine hK.out _ _ ?_
      (try clear hHeld)
      clear hK K
      try simp only [Act.put, List.setIfInBounds_toArray, List.set_cons_zero, List.set_cons_succ]
      refine wpAnyLast_done (by kernel_rfl) ?_ _
      go_wp2_with fail
      go_meet
      exact ⟨rfl, ⟨HMID.out⟩⟩
    go_simp
    refine hK.out _ _ ?_ (fun hHeld2 => ?_)
    · (try dsimp only)
      first | exact hHeld | exact ⟨far_set HNE.out hHeld.1, far_set HNE.out hHeld.2.1, far_set HNE.out hHeld.2.2⟩
    clear hHeld hK K
    have hHeld := hHeld2
    clear hHeld2
    try simp only [Act.put, List.setIfInBounds_toArray, List.set_cons_zero, List.set_cons_succ]
    refine two_ (i := 7) (j := 11) (Ni := some 14) (Nj := some 18) #[true, true, true, true, true, true, true, true, true, true, true, false, true, true, false, false, false, false] #[true, true, true, true, true, true, true, false, true, true, true, true, true, true, false, false, false, false] rfl rfl rfl rfl (by kernel_rfl) (by decide) (by decide) (fun K hK => ?_) (fun K hK => ?_)
    · skip
      go_simp
      refine hK.out _ _ ?_ (fun hHeld2 => ?_)
      · (try dsimp only)
        first | exact hHeld | exact ⟨far_set HNE.out hHeld.1, far_set HNE.out hHeld.2.1, far_set HNE.out hHeld.2.2⟩
      clear hHeld hK K
      have hHeld := hHeld2
      clear hHeld2
      try simp only [Act.put, List.setIfInBounds_toArray, List.set_cons_zero, List.set_cons_succ]
      refine pure_ (i := 14) (N := some 20) (v := ?_) (a' := ?_) #[true, true, true, true, true, true, true, true, true, true, true, false, true, true, true, false, false, false] rfl rfl (by kernel_rfl) (fun _ _ _ h => h) (Or.inl ⟨by rfl, ?_⟩) ?_ ?_
      rotate_left
      · intro w'
        go_simp
        (try with_reducible rfl)
      rotate_left
      · simp only [Act.put, List.setIfInBounds_toArray, List.set_cons_zero, List.set_cons_succ]
        rfl
      refine two_ (i := 11) (j := 15) (Ni := some 18) (Nj := none) #[true, true, true, true, true, true, true, true, true, true, true, true, true, true, true, false, false, false] #[true, true, true, true, true, true, true, true, true, true, true, false, true, true, true, true, false, false] rfl rfl rfl rfl (by kernel_rfl) (by decide) (by decide) (fun K hK => ?_) (fun K hK => ?_)
      · skip
        go_simp
        refine hK.out _ _ ?_ (fun hHeld2 => ?_)
        · (try dsimp only)
          first | exact hHeld | exact ⟨far_set HNE.out hHeld.1, far_set HNE.out hHeld.2.1, far_set HNE.out hHeld.2.2⟩
        clear hHeld hK K
        have hHeld := hHeld2
        clear hHeld2
        try simp only [Act.put, List.setIfInBounds_toArray, List.set_cons_zero, List.set_cons_succ]
        refine one_ (i := 15) (N := none) #[true, true, true, true, true, true, true, true, true, true, true, true, true, true, true, true, false, false] rfl rfl (by kernel_rfl) (by decide) (fun K hK => ?_)
        go_simp
        refine hK.out _ _ ?_ (fun hHeld2 => ?_)
        · (try dsimp only)
          first | exact hHeld | exact ⟨far_set HNE.out hHeld.1, far_set HNE.out hHeld.2.1, far_set HNE.out hHeld.2.2⟩
        clear hHeld hK K
        have hHeld := hHeld2
        clear hHeld2
        try simp only [Act.put, List.setIfInBounds_toArray, List.set_cons_zero, List.set_cons_succ]
        refine pure_ (i := 16) (N := some 21) (v := ?_) (a' := ?_) #[true, true, true, true, true, true, true, true, true, true, true, true, true, true, true, true, true, false] rfl rfl (by kernel_rfl) (fun _ _ _ h => h) (Or.inl ⟨by rfl, ?_⟩) ?_ ?_
        rotate_left
        · intro w'
          go_simp
          (try with_reducible rfl)
        rotate_left
        · simp only [Act.put, List.setIfInBounds_toArray, List.set_cons_zero, List.set_cons_succ]
          rfl
        refine last_ (i := 17) (N := none) #[true, true, true, true, true, true, true, true, true, true, true, true, true, true, true, true, true, true] rfl rfl (by kernel_rfl) (by decide) (fun K hK => ?_)
        go_simp
        refine hK.out _ _ ?_
        (try clear hHeld)
        clear hK K
        try simp only [Act.put, List.setIfInBounds_toArray, List.set_cons_zero, List.set_cons_succ]
        refine wpAnyLast_done (by kernel_rfl) ?_ _
        go_wp2_with fail
        go_meet
        exact ⟨rfl, ⟨HMID.out⟩⟩
      go_simp
      refine hK.out _ _ ?_ (fun hHeld2 => ?_)
      · (try dsimp only)
        first | exact hHeld | exact ⟨far_set HNE.out hHeld.1, far_set HNE.out hHeld.2.1, far_set HNE.out hHeld.2.2⟩
      clear hHeld hK K
      have hHeld := hHeld2
      clear hHeld2
      try simp only [Act.put, List.setIfInBounds_toArray, List.set_cons_zero, List.set_cons_succ]
      refine one_ (i := 11) (N := some 18) #[true, true, true, true, true, true, true, true, true, true, true, true, true, true, true, true, false, false] rfl rfl (by kernel_rfl) (by decide) (fun K hK => ?_)
      go_simp
      refine hK.out _ _ ?_ (fun hHeld2 => ?_)
      · (try dsimp only)
        first | exact hHeld | exact ⟨far_set HNE.out hHeld.1, far_set HNE.out hHeld.2.1, far_set HNE.out hHeld.2.2⟩
      clear hHeld hK K
      have hHeld := hHeld2
      clear hHeld2
      try simp only [Act.put, List.setIfInBounds_toArray, List.set_cons_zero, List.set_cons_succ]
      refine pure_ (i := 16) (N := some 21) (v := ?_) (a' := ?_) #[true, true, true, true, true, true, true, true, true, true, true, true, true, true, true, true, true, false] rfl rfl (by kernel_rfl) (fun _ _ _ h => h) (Or.inl ⟨by rfl, ?_⟩) ?_ ?_
      rotate_left
      · intro w'
        go_simp
        (try with_reducible rfl)
      rotate_left
      · simp only [Act.put, List.setIfInBounds_toArray, List.set_cons_zero, List.set_cons_succ]
        rfl
      refine last_ (i := 17) (N := none) #[true, true, true, true, true, true, true, true, true, true, true, true, true, true, true, true, true, true] rfl rfl (by kernel_rfl) (by decide) (fun K hK => ?_)
      go_simp
      refine hK.out _ _ ?_
      (try clear hHeld)
      clear hK K
      try simp only [Act.put, List.setIfInBounds_toArray, List.set_cons_zero, List.set_cons_succ]
      refine wpAnyLast_done (by kernel_rfl) ?_ _
      go_wp2_with fail
      go_meet
      exact ⟨rfl, ⟨HMID.out⟩⟩
    go_simp
    refine hK.out _ _ ?_ (fun hHeld2 => ?_)
    · (try dsimp only)
      first | exact hHeld | exact ⟨far_set HNE.out hHeld.1, far_set HNE.out hHeld.2.1, far_set HNE.out hHeld.2.2⟩
    clear hHeld hK K
    have hHeld := hHeld2
    clear hHeld2
    try simp only [Act.put, List.setIfInBounds_toArray, List.set_cons_zero, List.set_cons_succ]
    refine one_ (i := 7) (N := some 14) #[true, true, true, true, true, true, true, true, true, true, true, true, true, true, false, false, false, false] rfl rfl (by kernel_rfl) (by decide) (fun K hK => ?_)
    go_simp
    refine hK.out _ _ ?_ (fun hHeld2 => ?_)
    · (try dsimp only)
      first | exact hHeld | exact ⟨far_set HNE.out hHeld.1, far_set HNE.out hHeld.2.1, far_set HNE.out hHeld.2.2⟩
    clear hHeld hK K
    have hHeld := hHeld2
    clear hHeld2
    try simp only [Act.put, List.setIfInBounds_toArray, List.set_cons_zero, List.set_cons_succ]
    refine pure_ (i := 14) (N := some 20) (v := ?_) (a' := ?_) #[true, true, true, true, true, true, true, true, true, true, true, true, true, true, true, false, false, false] rfl rfl (by kernel_rfl) (fun _ _ _ h => h) (Or.inl ⟨by rfl, ?_⟩) ?_ ?_
    rotate_left
    · intro w'
      go_simp
      (try with_reducible rfl)
    rotate_left
    · simp only [Act.put, List.setIfInBounds_toArray, List.set_cons_zero, List.set_cons_succ]
      rfl
    refine one_ (i := 15) (N := none) #[true, true, true, true, true, true, true, true, true, true, true, true, true, true, true, true, false, false] rfl rfl (by kernel_rfl) (by decide) (fun K hK => ?_)
    go_simp
    refine hK.out _ _ ?_ (fun hHeld2 => ?_)
    · (try dsimp only)
      first | exact hHeld | exact ⟨far_set HNE.out hHeld.1, far_set HNE.out hHeld.2.1, far_set HNE.out hHeld.2.2⟩
    clear hHeld hK K
    have hHeld := hHeld2
    clear hHeld2
    try simp only [Act.put, List.setIfInBounds_toArray, List.set_cons_zero, List.set_cons_succ]
    refine pure_ (i := 16) (N := some 21) (v := ?_) (a' := ?_) #[true, true, true, true, true, true, true, true, true, true, true, true, true, true, true, true, true, false] rfl rfl (by kernel_rfl) (fun _ _ _ h => h) (Or.inl ⟨by rfl, ?_⟩) ?_ ?_
    rotate_left
    · intro w'
      go_simp
      (try with_reducible rfl)
    rotate_left
    · simp only [Act.put, List.setIfInBounds_toArray, List.set_cons_zero, List.set_cons_succ]
      rfl
    refine last_ (i := 17) (N := none) #[true, true, true, true, true, true, true, true, true, true, true, true, true, true, true, true, true, true] rfl rfl (by kernel_rfl) (by decide) (fun K hK => ?_)
    go_simp
    refine hK.out _ _ ?_
    (try clear hHeld)
    clear hK K
    try simp only [Act.put, List.setIfInBounds_toArray, List.set_cons_zero, List.set_cons_succ]
    refine wpAnyLast_done (by kernel_rfl) ?_ _
    go_wp2_with fail
    go_meet
    exact ⟨rfl, ⟨HMID.out⟩⟩
  case rest =>
    obtain ⟨rfl, HK⟩ := hcut
    have M4 := Lib.hid HK.out
    obtain ⟨z0, z1, z2, z3, z4, z5, z6⟩ := msC_cells M4.out.q
    clear HK M3 HMID
    go_wp2_with fail
    refine (mgood_walk k x.own x.peer x.view s A1 B1 n c1 m d1 (by omega) (by omega) wc).mono ?_
    rintro e w5 ⟨rfl, hb5⟩
    rw [show msB k x.own x.peer n m = true by unfold msB goodB; simp; omega]
    have M5 := Lib.hid (M4.out.below hb5)
    clear hb5 z0 z1 z2 z3 z4 z5 z6
    obtain ⟨Al, cl, Bl, dl, hc5, ho5, _⟩ := M5.out.G.cl
    obtain ⟨on, hon⟩ : ∃ on, on = x.out.length := ⟨_, rfl⟩
    rw [← hon] at hc5 ho5
    obtain ⟨l0, l1, l2, l3, l4, l5, l6, l7, l8⟩ := lkC_cells hc5
    obtain ⟨z0, z1, z2, z3, z4, z5, z6⟩ := msC_cells M5.out.q
    have n1 : (1024 : Int) ≤ (on : Int) := by omega
    have n2 : ¬ k = 1 := by omega
    clear hc5 ho5 hon
    go_wp2_with fail
    go_ret
    exact ⟨rfl, M5.out.G, ⟨M5.out.C, fun b hb => .inl hb⟩⟩
end
end Go.Proofs.Ytbkpgkkfkjlnnaa.G
