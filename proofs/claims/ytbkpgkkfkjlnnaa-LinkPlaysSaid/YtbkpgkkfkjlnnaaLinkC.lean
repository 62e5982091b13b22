/- Push (printed by a program of mine, mklinkc.py). -/
import Derived.Test.YtbkpgkkfkjlnnaaLinkB
set_option linter.unusedVariables false
set_option linter.unusedSimpArgs false
namespace Go.Proofs.Ytbkpgkkfkjlnnaa
open Go.RowKit Go.Proofs.YtbkpgkkfkjlnnaaW.PrintWords Go.Proofs.YtbkpgkkfkjlnnaaW.PrintLast Go.Proofs.Ytbkpgkkfkjlnnaa.K

theorem mset3 {w : World} {r : Nat} {k f t v s f' t' v' : Int} {A B : Value} {ty : TypeId} (h : w.heap[r]? = some (.cells (msC k f t v s A B) ty (0, 0))) :
    (((w.setCell ⟨r, 1, none⟩ (.int .i64 f')).setCell ⟨r, 2, none⟩ (.int .i64 t')).setCell ⟨r, 3, none⟩ (.int .u32 v')).heap[r]? = some (.cells (msC k f' t' v' s A B) ty (0, 0)) := by
  rw [heap_set _ (heap_set _ (heap_set _ h))]; rfl
theorem far_set {w : World} {b j r i : Nat} {v x : Value} (hne : r ≠ b) (h : w.cell? ⟨r, i, none⟩ = some x) : (w.setCell ⟨b, j, none⟩ v).cell? ⟨r, i, none⟩ = some x := by
  have hl : r < w.heap.size := by
    rcases Nat.lt_or_ge r w.heap.size with hl | hl
    · exact hl
    · simp [World.cell?, Array.getElem?_eq_none hl] at h
  rw [World.cell?_of_block ((grown_set (w := w) (r := b) (j := j) v).block r hl (fun e => hne (by injection e)))]
  exact h
/-- What Push knows of the worlds on its way. -/
structure Mid (w wx : World) (base r : Nat) (own peer view now pushed told next : Int) (L : List Sd) (k f t v s : Int) (A1 : Option Addr) (n c1 : Nat) (xs : List Int) : Prop where
  q : wx.heap[w.heap.size]? = some (.cells (msC k f t v s (.slice A1 n c1) (.slice none 0 0)) 32 (0, 0))
  S : LkS wx base r own peer view now pushed told next L
  o : wx.ownsRow base 2 1 (.slice A1 n c1) n (nums .i64 xs)
  B : ∀ W, Below base W w → Below base W wx
section
variable {w w3 w4 : World} {base r : Nat} {own peer view now pushed told next : Int} {L : List Sd} {k f t v s : Int} {A1 : Option Addr} {n c1 : Nat} {xs : List Int}
theorem Mid.below (h : Mid w w3 base r own peer view now pushed told next L k f t v s A1 n c1 xs) (hb : Below w3.heap.size w3 w4) : Mid w w4 base r own peer view now pushed told next L k f t v s A1 n c1 xs :=
  ⟨heap_keep' hb h.q, h.S.below hb, pw_own_below h.o hb, fun W hW => below_then (h.B W hW) h.S.bw hb⟩
theorem Mid.box {k' f' t' v' s' : Int} (h : Mid w w3 base r own peer view now pushed told next L k f t v s A1 n c1 xs) (hbw : base ≤ w.heap.size) (hg : w3.grownBy w4 (some w.heap.size)) (hq : w4.heap[w.heap.size]? = some (.cells (msC k' f' t' v' s' (.slice A1 n c1) (.slice none 0 0)) 32 (0, 0))) : Mid w w4 base r own peer view now pushed told next L k' f' t' v' s' A1 n c1 xs :=
  ⟨hq, h.S.other h.q (by decide) (by decide) (by decide) hg, own_other h.o hg (own_ne h.q h.o (by decide)), fun W hW => pw_below_grown (h.B W hW) (some w.heap.size) h.S.bw hg (fun k e => by cases e; exact hbw)⟩
theorem Mid.ne (h : Mid w w3 base r own peer view now pushed told next L k f t v s A1 n c1 xs) : r ≠ w.heap.size := by
  obtain ⟨A, c, g1, _⟩ := h.S.cl
  intro e; have g2 := h.q; rw [← e, g1] at g2; injection g2 with g2; injection g2 with _ g2; exact absurd g2 (by decide)
theorem Mid.pushes {p' : Int} (h : Mid w w3 base r own peer view now pushed told next L k f t v s A1 n c1 xs) : Mid w (w3.setCell ⟨r, 5, none⟩ (.int .u32 p')) base r own peer view now p' told next L k f t v s A1 n c1 xs := by
  have hg := grown_set (w := w3) (r := r) (j := 5) (.int .u32 p')
  obtain ⟨A, c, g1, _⟩ := h.S.cl
  exact ⟨(hg.block _ (lt_of_heap h.q) (fun e => h.ne (by injection e with e; exact e.symm))).trans h.q, h.S.upd hg (fun A c g => by rw [heap_set _ g]; rfl), own_other h.o hg (own_ne g1 h.o (by decide)), fun W hW => bset' (h.B W hW) h.S.br h.S.bw⟩
end
theorem own_ne' {u : World} {N bs sz k : Nat} {e ty : TypeId} {V : Value} {M : List Value} {cs : Array Value} (hu : u.heap[N]? = some (.cells cs ty (0, 0))) (hV : u.ownsRow bs e sz V k M) (he : e ≠ ty) : some N ≠ V.ownBlock := by
  rcases own_ne hu hV he with h | h
  · rw [h]; simp
  · exact fun e => h e.symm
set_option maxRecDepth 100000 in
set_option maxHeartbeats 8000000 in
theorem push_ok (base r : Nat) (own peer view now pushed told next : Int) (L : List Sd) (k f t v s : Int) (A : Option Addr) (n c : Nat) (xs : List Int) (w : World) (hS : LkS w base r own peer view now pushed told next L) (hr : ReadsInt w .i64 A n xs) (hA : A = none → c = 0) (hn : n ≤ 500)
    (hk : 2 ≤ k ∧ k ≤ 20) (ho1 : 0 ≤ own ∧ own < 16) (hp1 : 0 ≤ peer ∧ peer < 16) (hl : L.length < 1024) (hps : 0 ≤ pushed ∧ pushed < 4294967295) :
    Calls Try.prog 10 #[.pointer (some ⟨r, 0, none⟩), .agg (msC k f t v s (.slice A n c) (.slice none 0 0))] w fun e w' => ∃ A1 c1, e = .returned (.int .i64 0) ∧ LkS w' base r own peer view now (pushed + 1) told next (L ++ [⟨k, pushed + 1, A1, c1, xs, false, 0⟩]) ∧ ∀ W, Below base W w → Below base W w' := by
  obtain ⟨w1, hw1⟩ : ∃ w1, w1 = w.alloc (.cells (msC k f t v s (.slice A n c) (.slice none 0 0)) 32) := ⟨_, rfl⟩
  have hb1 : Below w.heap.size w w1 := by rw [hw1]; exact alloc_back _
  have q1 : w1.heap[w.heap.size]? = some (.cells (msC k f t v s (.slice A n c) (.slice none 0 0)) 32 (0, 0)) := by rw [hw1]; exact heap_alloc_new _ _
  have HW1 := Lib.hid hw1; have HB1 := Lib.hid hb1; have Q1 := Lib.hid q1
  have S1 := Lib.hid (hS.below hb1)
  have CC := Lib.hid (copied_walk k f t v s A n c xs w1 (hr.below hb1) (by omega) hA)
  have BX1 := Lib.hid (fun W (hW : Below base W w) => below_then hW hS.bw hb1)
  have HXL := Lib.hid hr.1
  have hbw := Lib.hid hS.bw
  obtain ⟨x0, x1, x2, x3, x4, x5, x6⟩ := msC_cells q1
  clear hw1 hb1 q1 hS hr hA
  go_enter Try.func10, Try.ntmps10
  go_wp2_with fail
  rw [← HW1.out]
  go_wp2_with fail
  refine CC.out.mono ?_
  rintro e w2 ⟨A1, c1, rfl, ho2, hb2⟩
  have S2 := Lib.hid (S1.out.below hb2); have Q2 := Lib.hid (heap_keep' hb2 Q1.out)
  have HO2 := Lib.hid (own_base_le ho2 (Nat.le_trans hbw.out HB1.out.size))
  have BX2 := Lib.hid (fun W (hW : Below base W w) => below_then (BX1.out W hW) S1.out.bw hb2)
  clear ho2 hb2 CC x0 x1 x2 x3 x4 x5 x6
  have f0 := froz Q2.out 0
  have f1 := froz Q2.out 1
  have f2 := froz Q2.out 2
  have f3 := froz Q2.out 3
  have f4 := froz Q2.out 4
  have f5 := froz Q2.out 5
  have f6 := froz Q2.out 6
  obtain ⟨x0, x1, x2, x3, x4, x5, x6⟩ := msC_cells Q2.out
  obtain ⟨w3, hw3⟩ : ∃ w3, w3 = ((((((w2.setCell ⟨w.heap.size, 0, none⟩ (.int .i64 k)).setCell ⟨w.heap.size, 1, none⟩ (.int .i64 f)).setCell ⟨w.heap.size, 2, none⟩ (.int .i64 t)).setCell ⟨w.heap.size, 3, none⟩ (.int .u32 v)).setCell ⟨w.heap.size, 4, none⟩ (.int .u32 s)).setCell ⟨w.heap.size, 5, none⟩ (.slice A1 n c1)).setCell ⟨w.heap.size, 6, none⟩ (.slice none 0 0) := ⟨_, rfl⟩
  have hg3 : w2.grownBy w3 (some w.heap.size) := by rw [hw3]; exact mgrown7 _ _ _ _ _ _ _ _ _
  have q3 : w3.heap[w.heap.size]? = some (.cells (msC k f t v s (.slice A1 n c1) (.slice none 0 0)) 32 (0, 0)) := by rw [hw3]; exact mset7 Q2.out
  have Q3 := Lib.hid q3
  have S3 := Lib.hid (S2.out.other Q2.out (by decide) (by decide) (by decide) hg3)
  have HO3 := Lib.hid (own_other HO2.out hg3 (own_ne Q2.out HO2.out (by decide)))
  have BX3 := Lib.hid (fun W (hW : Below base W w) => pw_below_grown (BX2.out W hW) (some w.heap.size) S2.out.bw hg3 (fun k e => by cases e; exact hbw.out))
  have HW3 := Lib.hid hw3.symm
  clear hg3 q3 hw3
  obtain ⟨Al, cl, hc3, ho3⟩ := S3.out.cl
  obtain ⟨l0, l1, l2, l3, l4, l5, l6, l7, l8⟩ := lkC_cells hc3
  clear hc3 ho3 l3 l4 l5 l6 l7 l8
  go_wp2_with fail
  rw [HW3.out]
  clear f0 f1 f2 f3 f4 f5 f6 x0 x1 x2 x3 x4 x5 x6
  have M3 := Lib.hid (Mid.mk Q3.out S3.out HO3.out BX3.out)
  have HNE := Lib.hid M3.out.ne
  have HMID := Lib.hid ((M3.out.box hbw.out (w4 := ((w3.setCell ⟨w.heap.size, 1, none⟩ (.int .i64 own)).setCell ⟨w.heap.size, 2, none⟩ (.int .i64 peer)).setCell ⟨w.heap.size, 3, none⟩ (.int .u32 view)) (World.grownBy.trans (World.grownBy.trans (grown_set _) (grown_set _)) (grown_set _)) (mset3 Q3.out)).below (below_drew (Below.refl _ _)))
  clear Q3 S3 HO3 BX3 Q2 S2 HO2 BX2 Q1 S1 BX1 HW1 HW3 HB1
  go_cut [10] (fun s10 wx => s10 = .int .i64 own ∧ Aside0 (Mid w wx base r own peer view now pushed told next L k own peer view s A1 n c1 xs))
  case first =>
    obtain ⟨Al, cl, hc3, ho3⟩ := M3.out.S.cl
    obtain ⟨l0, l1, l2, l3, l4, l5, l6, l7, l8⟩ := lkC_cells hc3
    clear hc3 ho3 l3 l4 l5 l6 l7 l8
    have g1 := froz M3.out.q 1
    have g2 := froz M3.out.q 2
    have g3 := froz M3.out.q 3
    obtain ⟨z0, z1, z2, z3, z4, z5, z6⟩ := msC_cells M3.out.q
    refine start_ (n := 18) (S := fun w' => w'.cell? ⟨r, 0, none⟩ = some (.int .i64 own) ∧ w'.cell? ⟨r, 1, none⟩ = some (.int .i64 peer) ∧ w'.cell? ⟨r, 2, none⟩ = some (.int .u32 view)) (ds := [17]) #[false, false, false, false, false, false, false, false, false, false, false, false, false, false, false, false, false, false] (by kernel_rfl) rfl rfl (⟨l0, l1, l2⟩) (fun hHeld => ?_)
    refine pure_ (i := 0) (N := some 7) (v := ?_) (a' := ?_) #[true, false, false, false, false, false, false, false, false, false, false, false, false, false, false, false, false, false] rfl rfl (by kernel_rfl) (fun _ _ _ h => h) (Or.inl ⟨by rfl, ?_⟩) ?_ ?_
    rotate_left
    · intro w'
      go_simp
      (try with_reducible rfl)
    rotate_left
    · simp only [Act.put, List.setIfInBounds_toArray, List.set_cons_zero, List.set_cons_succ]
      rfl
    refine pure_ (i := 1) (N := some 8) (v := ?_) (a' := ?_) #[true, true, false, false, false, false, false, false, false, false, false, false, false, false, false, false, false, false] rfl rfl (by kernel_rfl) (fun _ _ _ h => h) (Or.inl ⟨by rfl, ?_⟩) ?_ ?_
    rotate_left
    · intro w'
      go_simp
      (try with_reducible rfl)
    rotate_left
    · simp only [Act.put, List.setIfInBounds_toArray, List.set_cons_zero, List.set_cons_succ]
      rfl
    refine pure_ (i := 2) (N := some 9) (v := ?_) (a' := ?_) #[true, true, true, false, false, false, false, false, false, false, false, false, false, false, false, false, false, false] rfl rfl (by kernel_rfl) (fun _ _ _ h => h) (Or.inl ⟨by rfl, ?_⟩) ?_ ?_
    rotate_left
    · intro w'
      go_simp
      (try with_reducible rfl)
    rotate_left
    · simp only [Act.put, List.setIfInBounds_toArray, List.set_cons_zero, List.set_cons_succ]
      rfl
    refine take_ (i := 3) (N := some 10) (v := ?_) (a' := ?_) #[true, true, true, true, false, false, false, false, false, false, false, false, false, false, false, false, false, false] rfl rfl (by kernel_rfl) (fun _ _ _ h => h) (Or.inl ⟨by rfl, ?_⟩) hHeld ?_ ?_
    rotate_left
    · rintro w' ⟨s0, s1, s2⟩
      go_simp
      (try with_reducible rfl)
    rotate_left
    · simp only [Act.put, List.setIfInBounds_toArray, List.set_cons_zero, List.set_cons_succ]
      rfl
    refine pure_ (i := 4) (N := some 11) (v := ?_) (a' := ?_) #[true, true, true, true, true, false, false, false, false, false, false, false, false, false, false, false, false, false] rfl rfl (by kernel_rfl) (fun _ _ _ h => h) (Or.inl ⟨by rfl, ?_⟩) ?_ ?_
    rotate_left
    · intro w'
      go_simp
      (try with_reducible rfl)
    rotate_left
    · simp only [Act.put, List.setIfInBounds_toArray, List.set_cons_zero, List.set_cons_succ]
      rfl
    refine pure_ (i := 5) (N := some 12) (v := ?_) (a' := ?_) #[true, true, true, true, true, true, false, false, false, false, false, false, false, false, false, false, false, false] rfl rfl (by kernel_rfl) (fun _ _ _ h => h) (Or.inl ⟨by rfl, ?_⟩) ?_ ?_
    rotate_left
    · intro w'
      go_simp
      (try with_reducible rfl)
    rotate_left
    · simp only [Act.put, List.setIfInBounds_toArray, List.set_cons_zero, List.set_cons_succ]
      rfl
    refine pure_ (i := 6) (N := some 13) (v := ?_) (a' := ?_) #[true, true, true, true, true, true, true, false, false, false, false, false, false, false, false, false, false, false] rfl rfl (by kernel_rfl) (fun _ _ _ h => h) (Or.inl ⟨by rfl, ?_⟩) ?_ ?_
    rotate_left
    · intro w'
      go_simp
      (try with_reducible rfl)
    rotate_left
    · simp only [Act.put, List.setIfInBounds_toArray, List.set_cons_zero, List.set_cons_succ]
      rfl
    refine pure_ (i := 8) (N := some 15) (v := ?_) (a' := ?_) #[true, true, true, true, true, true, true, false, true, false, false, false, false, false, false, false, false, false] rfl rfl (by kernel_rfl) (fun _ _ _ h => h) (Or.inl ⟨by rfl, ?_⟩) ?_ ?_
    rotate_left
    · intro w'
      go_simp
      (try with_reducible rfl)
    rotate_left
    · simp only [Act.put, List.setIfInBounds_toArray, List.set_cons_zero, List.set_cons_succ]
      rfl
    refine pure_ (i := 9) (N := some 16) (v := ?_) (a' := ?_) #[true, true, true, true, true, true, true, false, true, true, false, false, false, false, false, false, false, false] rfl rfl (by kernel_rfl) (fun _ _ _ h => h) (Or.inl ⟨by rfl, ?_⟩) ?_ ?_
    rotate_left
    · intro w'
      go_simp
      (try with_reducible rfl)
    rotate_left
    · simp only [Act.put, List.setIfInBounds_toArray, List.set_cons_zero, List.set_cons_succ]
      rfl
    refine pure_ (i := 10) (N := some 17) (v := ?_) (a' := ?_) #[true, true, true, true, true, true, true, false, true, true, true, false, false, false, false, false, false, false] rfl rfl (by kernel_rfl) (fun _ _ _ h => h) (Or.inl ⟨by rfl, ?_⟩) ?_ ?_
    rotate_left
    · intro w'
      go_simp
      (try with_reducible rfl)
    rotate_left
    · simp only [Act.put, List.setIfInBounds_toArray, List.set_cons_zero, List.set_cons_succ]
      rfl
    refine pure_ (i := 12) (N := some 19) (v := ?_) (a' := ?_) #[true, true, true, true, true, true, true, false, true, true, true, false, true, false, false, false, false, false] rfl rfl (by kernel_rfl) (fun _ _ _ h => h) (Or.inl ⟨by rfl, ?_⟩) ?_ ?_
    rotate_left
    · intro w'
      go_simp
      (try with_reducible rfl)
    rotate_left
    · simp only [Act.put, List.setIfInBounds_toArray, List.set_cons_zero, List.set_cons_succ]
      rfl
    refine three_ (i := 7) (j := 11) (k := 13) (Ni := some 14) (Nj := some 18) (Nk := none) #[true, true, true, true, true, true, true, true, true, true, true, false, true, false, false, false, false, false] #[true, true, true, true, true, true, true, false, true, true, true, true, true, false, false, false, false, false] #[true, true, true, true, true, true, true, false, true, true, true, false, true, true, false, false, false, false] rfl rfl rfl rfl rfl rfl (by kernel_rfl) (by decide) (by decide) (by decide) (fun K hK => ?_) (fun K hK => ?_) (fun K hK => ?_)
    · skip
      go_simp
      refine hK.out _ _ ?_ (fun hHeld2 => ?_)
      · (try dsimp only)
        first | exact hHeld | exact ⟨far_set HNE.out hHeld.1, far_set HNE.out hHeld.2.1, far_set HNE.out hHeld.2.2⟩
      clear hHeld hK K
      have hHeld := hHeld2
      clear hHeld2
      try simp only [Act.put, List.setIfInBounds_toArray, List.set_cons_zero, List.set_cons_succ]
      refine two_ (i := 11) (j := 13) (Ni := some 18) (Nj := none) #[true, true, true, true, true, true, true, true, true, true, true, true, true, false, false, false, false, false] #[true, true, true, true, true, true, true, true, true, true, true, false, true, true, false, false, false, false] rfl rfl rfl rfl (by kernel_rfl) (by decide) (by decide) (fun K hK => ?_) (fun K hK => ?_)
      · skip
        go_simp
        refine hK.out _ _ ?_ (fun hHeld2 => ?_)
        · (try dsimp only)
          first | exact hHeld | exact ⟨far_set HNE.out hHeld.1, far_set HNE.out hHeld.2.1, far_set HNE.out hHeld.2.2⟩
        clear hHeld hK K
        have hHeld := hHeld2
        clear hHeld2
        try simp only [Act.put, List.setIfInBounds_toArray, List.set_cons_zero, List.set_cons_succ]
        refine one_ (i := 13) (N := none) #[true, true, true, true, true, true, true, true, true, true, true, true, true, true, false, false, false, false] rfl rfl (by kernel_rfl) (by decide) (fun K hK => ?_)
        go_simp
        refine hK.out _ _ ?_ (fun hHeld2 => ?_)
        · (try dsimp only)
          first | exact hHeld | exact ⟨far_set HNE.out hHeld.1, far_set HNE.out hHeld.2.1, far_set HNE.out hHeld.2.2⟩
        clear hHeld hK K
        have hHeld := hHeld2
        clear hHeld2
        try simp only [Act.put, List.setIfInBounds_toArray, List.set_cons_zero, List.set_cons_succ]
        refine pure_ (i := 14) (N := some 20) (v := ?_) (a' := ?_) #[true, true, true, true, true, true, true, true, true, true, true, true, true, true, true, false, false, false] rfl rfl (by kernel_rfl) (fun _ _ _ h => h) (Or.inl ⟨by rfl, ?_⟩) ?_ ?_
        rotate_left
        · intro w'
          go_simp
          (try with_reducible rfl)
        rotate_left
        · simp only [Act.put, List.setIfInBounds_toArray, List.set_cons_zero, List.set_cons_succ]
          rfl
        refine one_ (i := 15) (N := none) #[true, true, true, true, true, true, true, true, true, true, true, true, true, true, true, true, false, false] rfl rfl (by kernel_rfl) (by decide) (fun K hK => ?_)
        go_simp
        refine hK.out _ _ ?_ (fun hHeld2 => ?_)
        · (try dsimp only)
          first | exact hHeld | exact ⟨far_set HNE.out hHeld.1, far_set HNE.out hHeld.2.1, far_set HNE.out hHeld.2.2⟩
        clear hHeld hK K
        have hHeld := hHeld2
        clear hHeld2
        try simp only [Act.put, List.setIfInBounds_toArray, List.set_cons_zero, List.set_cons_succ]
        refine pure_ (i := 16) (N := some 21) (v := ?_) (a' := ?_) #[true, true, true, true, true, true, true, true, true, true, true, true, true, true, true, true, true, false] rfl rfl (by kernel_rfl) (fun _ _ _ h => h) (Or.inl ⟨by rfl, ?_⟩) ?_ ?_
        rotate_left
        · intro w'
          go_simp
          (try with_reducible rfl)
        rotate_left
        · simp only [Act.put, List.setIfInBounds_toArray, List.set_cons_zero, List.set_cons_succ]
          rfl
        refine last_ (i := 17) (N := none) #[true, true, true, true, true, true, true, true, true, true, true, true, true, true, true, true, true, true] rfl rfl (by kernel_rfl) (by decide) (fun K hK => ?_)
        go_simp
        refine hK.out _ _ ?_
        (try clear hHeld)
        clear hK K
        try simp only [Act.put, List.setIfInBounds_toArray, List.set_cons_zero, List.set_cons_succ]
        refine wpAnyLast_done (by kernel_rfl) ?_ _
        go_wp2_with fail
        go_meet
        exact ⟨rfl, ⟨HMID.out⟩⟩
      go_simp
      refine hK.out _ _ ?_ (fun hHeld2 => ?_)
      · (try dsimp only)
        first | exact hHeld | exact ⟨far_set HNE.out hHeld.1, far_set HNE.out hHeld.2.1, far_set HNE.out hHeld.2.2⟩
      clear hHeld hK K
      have hHeld := hHeld2
      clear hHeld2
      try simp only [Act.put, List.setIfInBounds_toArray, List.set_cons_zero, List.set_cons_succ]
      refine pure_ (i := 14) (N := some 20) (v := ?_) (a' := ?_) #[true, true, true, true, true, true, true, true, true, true, true, false, true, true, true, false, false, false] rfl rfl (by kernel_rfl) (fun _ _ _ h => h) (Or.inl ⟨by rfl, ?_⟩) ?_ ?_
      rotate_left
      · intro w'
        go_simp
        (try with_reducible rfl)
      rotate_left
      · simp only [Act.put, List.setIfInBounds_toArray, List.set_cons_zero, List.set_cons_succ]
        rfl
      refine two_ (i := 11) (j := 15) (Ni := some 18) (Nj := none) #[true, true, true, true, true, true, true, true, true, true, true, true, true, true, true, false, false, false] #[true, true, true, true, true, true, true, true, true, true, true, false, true, true, true, true, false, false] rfl rfl rfl rfl (by kernel_rfl) (by decide) (by decide) (fun K hK => ?_) (fun K hK => ?_)
      · skip
        go_simp
        refine hK.out _ _ ?_ (fun hHeld2 => ?_)
        · (try dsimp only)
          first | exact hHeld | exact ⟨far_set HNE.out hHeld.1, far_set HNE.out hHeld.2.1, far_set HNE.out hHeld.2.2⟩
        clear hHeld hK K
        have hHeld := hHeld2
        clear hHeld2
        try simp only [Act.put, List.setIfInBounds_toArray, List.set_cons_zero, List.set_cons_succ]
        refine one_ (i := 15) (N := none) #[true, true, true, true, true, true, true, true, true, true, true, true, true, true, true, true, false, false] rfl rfl (by kernel_rfl) (by decide) (fun K hK => ?_)
        go_simp
        refine hK.out _ _ ?_ (fun hHeld2 => ?_)
        · (try dsimp only)
          first | exact hHeld | exact ⟨far_set HNE.out hHeld.1, far_set HNE.out hHeld.2.1, far_set HNE.out hHeld.2.2⟩
        clear hHeld hK K
        have hHeld := hHeld2
        clear hHeld2
        try simp only [Act.put, List.setIfInBounds_toArray, List.set_cons_zero, List.set_cons_succ]
        refine pure_ (i := 16) (N := some 21) (v := ?_) (a' := ?_) #[true, true, true, true, true, true, true, true, true, true, true, true, true, true, true, true, true, false] rfl rfl (by kernel_rfl) (fun _ _ _ h => h) (Or.inl ⟨by rfl, ?_⟩) ?_ ?_
        rotate_left
        · intro w'
          go_simp
          (try with_reducible rfl)
        rotate_left
        · simp only [Act.put, List.setIfInBounds_toArray, List.set_cons_zero, List.set_cons_succ]
          rfl
        refine last_ (i := 17) (N := none) #[true, true, true, true, true, true, true, true, true, true, true, true, true, true, true, true, true, true] rfl rfl (by kernel_rfl) (by decide) (fun K hK => ?_)
        go_simp
        refine hK.out _ _ ?_
        (try clear hHeld)
        clear hK K
        try simp only [Act.put, List.setIfInBounds_toArray, List.set_cons_zero, List.set_cons_succ]
        refine wpAnyLast_done (by kernel_rfl) ?_ _
        go_wp2_with fail
        go_meet
        exact ⟨rfl, ⟨HMID.out⟩⟩
      go_simp
      refine hK.out _ _ ?_ (fun hHeld2 => ?_)
      · (try dsimp only)
        first | exact hHeld | exact ⟨far_set HNE.out hHeld.1, far_set HNE.out hHeld.2.1, far_set HNE.out hHeld.2.2⟩
      clear hHeld hK K
      have hHeld := hHeld2
      clear hHeld2
      try simp only [Act.put, List.setIfInBounds_toArray, List.set_cons_zero, List.set_cons_succ]
      refine one_ (i := 11) (N := some 18) #[true, true, true, true, true, true, true, true, true, true, true, true, true, true, true, true, false, false] rfl rfl (by kernel_rfl) (by decide) (fun K hK => ?_)
      go_simp
      refine hK.out _ _ ?_ (fun hHeld2 => ?_)
      · (try dsimp only)
        first | exact hHeld | exact ⟨far_set HNE.out hHeld.1, far_set HNE.out hHeld.2.1, far_set HNE.out hHeld.2.2⟩
      clear hHeld hK K
      have hHeld := hHeld2
      clear hHeld2
      try simp only [Act.put, List.setIfInBounds_toArray, List.set_cons_zero, List.set_cons_succ]
      refine pure_ (i := 16) (N := some 21) (v := ?_) (a' := ?_) #[true, true, true, true, true, true, true, true, true, true, true, true, true, true, true, true, true, false] rfl rfl (by kernel_rfl) (fun _ _ _ h => h) (Or.inl ⟨by rfl, ?_⟩) ?_ ?_
      rotate_left
      · intro w'
        go_simp
        (try with_reducible rfl)
      rotate_left
      · simp only [Act.put, List.setIfInBounds_toArray, List.set_cons_zero, List.set_cons_succ]
        rfl
      refine last_ (i := 17) (N := none) #[true, true, true, true, true, true, true, true, true, true, true, true, true, true, true, true, true, true] rfl rfl (by kernel_rfl) (by decide) (fun K hK => ?_)
      go_simp
      refine hK.out _ _ ?_
      (try clear hHeld)
      clear hK K
      try simp only [Act.put, List.setIfInBounds_toArray, List.set_cons_zero, List.set_cons_succ]
      refine wpAnyLast_done (by kernel_rfl) ?_ _
      go_wp2_with fail
      go_meet
      exact ⟨rfl, ⟨HMID.out⟩⟩
    · skip
      go_simp
      refine hK.out _ _ ?_ (fun hHeld2 => ?_)
      · (try dsimp only)
        first | exact hHeld | exact ⟨far_set HNE.out hHeld.1, far_set HNE.out hHeld.2.1, far_set HNE.out hHeld.2.2⟩
      clear hHeld hK K
      have hHeld := hHeld2
      clear hHeld2
      try simp only [Act.put, List.setIfInBounds_toArray, List.set_cons_zero, List.set_cons_succ]
      refine two_ (i := 7) (j := 13) (Ni := some 14) (Nj := none) #[true, true, true, true, true, true, true, true, true, true, true, true, true, false, false, false, false, false] #[true, true, true, true, true, true, true, false, true, true, true, true, true, true, false, false, false, false] rfl rfl rfl rfl (by kernel_rfl) (by decide) (by decide) (fun K hK => ?_) (fun K hK => ?_)
      · skip
        go_simp
        refine hK.out _ _ ?_ (fun hHeld2 => ?_)
        · (try dsimp only)
          first | exact hHeld | exact ⟨far_set HNE.out hHeld.1, far_set HNE.out hHeld.2.1, far_set HNE.out hHeld.2.2⟩
        clear hHeld hK K
        have hHeld := hHeld2
        clear hHeld2
        try simp only [Act.put, List.setIfInBounds_toArray, List.set_cons_zero, List.set_cons_succ]
        refine one_ (i := 13) (N := none) #[true, true, true, true, true, true, true, true, true, true, true, true, true, true, false, false, false, false] rfl rfl (by kernel_rfl) (by decide) (fun K hK => ?_)
        go_simp
        refine hK.out _ _ ?_ (fun hHeld2 => ?_)
        · (try dsimp only)
          first | exact hHeld | exact ⟨far_set HNE.out hHeld.1, far_set HNE.out hHeld.2.1, far_set HNE.out hHeld.2.2⟩
        clear hHeld hK K
        have hHeld := hHeld2
        clear hHeld2
        try simp only [Act.put, List.setIfInBounds_toArray, List.set_cons_zero, List.set_cons_succ]
        refine pure_ (i := 14) (N := some 20) (v := ?_) (a' := ?_) #[true, true, true, true, true, true, true, true, true, true, true, true, true, true, true, false, false, false] rfl rfl (by kernel_rfl) (fun _ _ _ h => h) (Or.inl ⟨by rfl, ?_⟩) ?_ ?_
        rotate_left
        · intro w'
          go_simp
          (try with_reducible rfl)
        rotate_left
        · simp only [Act.put, List.setIfInBounds_toArray, List.set_cons_zero, List.set_cons_succ]
          rfl
        refine one_ (i := 15) (N := none) #[true, true, true, true, true, true, true, true, true, true, true, true, true, true, true, true, false, false] rfl rfl (by kernel_rfl) (by decide) (fun K hK => ?_)
        go_simp
        refine hK.out _ _ ?_ (fun hHeld2 => ?_)
        · (try dsimp only)
          first | exact hHeld | exact ⟨far_set HNE.out hHeld.1, far_set HNE.out hHeld.2.1, far_set HNE.out hHeld.2.2⟩
        clear hHeld hK K
        have hHeld := hHeld2
        clear hHeld2
        try simp only [Act.put, List.setIfInBounds_toArray, List.set_cons_zero, List.set_cons_succ]
        refine pure_ (i := 16) (N := some 21) (v := ?_) (a' := ?_) #[true, true, true, true, true, true, true, true, true, true, true, true, true, true, true, true, true, false] rfl rfl (by kernel_rfl) (fun _ _ _ h => h) (Or.inl ⟨by rfl, ?_⟩) ?_ ?_
        rotate_left
        · intro w'
          go_simp
          (try with_reducible rfl)
        rotate_left
        · simp only [Act.put, List.setIfInBounds_toArray, List.set_cons_zero, List.set_cons_succ]
          rfl
        refine last_ (i := 17) (N := none) #[true, true, true, true, true, true, true, true, true, true, true, true, true, true, true, true, true, true] rfl rfl (by kernel_rfl) (by decide) (fun K hK => ?_)
        go_simp
        refine hK.out _ _ ?_
        (try clear hHeld)
        clear hK K
        try simp only [Act.put, List.setIfInBounds_toArray, List.set_cons_zero, List.set_cons_succ]
        refine wpAnyLast_done (by kernel_rfl) ?_ _
        go_wp2_with fail
        go_meet
        exact ⟨rfl, ⟨HMID.out⟩⟩
      go_simp
      refine hK.out _ _ ?_ (fun hHeld2 => ?_)
      · (try dsimp only)
        first | exact hHeld | exact ⟨far_set HNE.out hHeld.1, far_set HNE.out hHeld.2.1, far_set HNE.out hHeld.2.2⟩
      clear hHeld hK K
      have hHeld := hHeld2
      clear hHeld2
      try simp only [Act.put, List.setIfInBounds_toArray, List.set_cons_zero, List.set_cons_succ]
      refine one_ (i := 7) (N := some 14) #[true, true, true, true, true, true, true, true, true, true, true, true, true, true, false, false, false, false] rfl rfl (by kernel_rfl) (by decide) (fun K hK => ?_)
      go_simp
      refine hK.out _ _ ?_ (fun hHeld2 => ?_)
      · (try dsimp only)
        first | exact hHeld | exact ⟨far_set HNE.out hHeld.1, far_set HNE.out hHeld.2.1, far_set HNE.out hHeld.2.2⟩
      clear hHeld hK K
      have hHeld := hHeld2
      clear hHeld2
      try simp only [Act.put, List.setIfInBounds_toArray, List.set_cons_zero, List.set_cons_succ]
      refine pure_ (i := 14) (N := some 20) (v := ?_) (a' := ?_) #[true, true, true, true, true, true, true, true, true, true, true, true, true, true, true, false, false, false] rfl rfl (by kernel_rfl) (fun _ _ _ h => h) (Or.inl ⟨by rfl, ?_⟩) ?_ ?_
      rotate_left
      · intro w'
        go_simp
        (try with_reducible rfl)
      rotate_left
      · simp only [Act.put, List.setIfInBounds_toArray, List.set_cons_zero, List.set_cons_succ]
        rfl
      refine one_ (i := 15) (N := none) #[true, true, true, true, true, true, true, true, true, true, true, true, true, true, true, true, false, false] rfl rfl (by kernel_rfl) (by decide) (fun K hK => ?_)
      go_simp
      refine hK.out _ _ ?_ (fun hHeld2 => ?_)
      · (try dsimp only)
        first | exact hHeld | exact ⟨far_set HNE.out hHeld.1, far_set HNE.out hHeld.2.1, far_set HNE.out hHeld.2.2⟩
      clear hHeld hK K
      have hHeld := hHeld2
      clear hHeld2
      try simp only [Act.put, List.setIfInBounds_toArray, List.set_cons_zero, List.set_cons_succ]
      refine pure_ (i := 16) (N := some 21) (v := ?_) (a' := ?_) #[true, true, true, true, true, true, true, true, true, true, true, true, true, true, true, true, true, false] rfl rfl (by kernel_rfl) (fun _ _ _ h => h) (Or.inl ⟨by rfl, ?_⟩) ?_ ?_
      rotate_left
      · intro w'
        go_simp
        (try with_reducible rfl)
      rotate_left
      · simp only [Act.put, List.setIfInBounds_toArray, List.set_cons_zero, List.set_cons_succ]
        rfl
      refine last_ (i := 17) (N := none) #[true, true, true, true, true, true, true, true, true, true, true, true, true, true, true, true, true, true] rfl rfl (by kernel_rfl) (by decide) (fun K hK => ?_)
      go_simp
      refine hK.out _ _ ?_
      (try clear hHeld)
      clear hK K
      try simp only [Act.put, List.setIfInBounds_toArray, List.set_cons_zero, List.set_cons_succ]
      refine wpAnyLast_done (by kernel_rfl) ?_ _
      go_wp2_with fail
      go_meet
      exact ⟨rfl, ⟨HMID.out⟩⟩
    go_simp
    refine hK.out _ _ ?_ (fun hHeld2 => ?_)
    · (try dsimp only)
      first | exact hHeld | exact ⟨far_set HNE.out hHeld.1, far_set HNE.out hHeld.2.1, far_set HNE.out hHeld.2.2⟩
    clear hHeld hK K
    have hHeld := hHeld2
    clear hHeld2
    try simp only [Act.put, List.setIfInBounds_toArray, List.set_cons_zero, List.set_cons_succ]
    refine two_ (i := 7) (j := 11) (Ni := some 14) (Nj := some 18) #[true, true, true, true, true, true, true, true, true, true, true, false, true, true, false, false, false, false] #[true, true, true, true, true, true, true, false, true, true, true, true, true, true, false, false, false, false] rfl rfl rfl rfl (by kernel_rfl) (by decide) (by decide) (fun K hK => ?_) (fun K hK => ?_)
    · skip
      go_simp
      refine hK.out _ _ ?_ (fun hHeld2 => ?_)
      · (try dsimp only)
        first | exact hHeld | exact ⟨far_set HNE.out hHeld.1, far_set HNE.out hHeld.2.1, far_set HNE.out hHeld.2.2⟩
      clear hHeld hK K
      have hHeld := hHeld2
      clear hHeld2
      try simp only [Act.put, List.setIfInBounds_toArray, List.set_cons_zero, List.set_cons_succ]
      refine pure_ (i := 14) (N := some 20) (v := ?_) (a' := ?_) #[true, true, true, true, true, true, true, true, true, true, true, false, true, true, true, false, false, false] rfl rfl (by kernel_rfl) (fun _ _ _ h => h) (Or.inl ⟨by rfl, ?_⟩) ?_ ?_
      rotate_left
      · intro w'
        go_simp
        (try with_reducible rfl)
      rotate_left
      · simp only [Act.put, List.setIfInBounds_toArray, List.set_cons_zero, List.set_cons_succ]
        rfl
      refine two_ (i := 11) (j := 15) (Ni := some 18) (Nj := none) #[true, true, true, true, true, true, true, true, true, true, true, true, true, true, true, false, false, false] #[true, true, true, true, true, true, true, true, true, true, true, false, true, true, true, true, false, false] rfl rfl rfl rfl (by kernel_rfl) (by decide) (by decide) (fun K hK => ?_) (fun K hK => ?_)
      · skip
        go_simp
        refine hK.out _ _ ?_ (fun hHeld2 => ?_)
        · (try dsimp only)
          first | exact hHeld | exact ⟨far_set HNE.out hHeld.1, far_set HNE.out hHeld.2.1, far_set HNE.out hHeld.2.2⟩
        clear hHeld hK K
        have hHeld := hHeld2
        clear hHeld2
        try simp only [Act.put, List.setIfInBounds_toArray, List.set_cons_zero, List.set_cons_succ]
        refine one_ (i := 15) (N := none) #[true, true, true, true, true, true, true, true, true, true, true, true, true, true, true, true, false, false] rfl rfl (by kernel_rfl) (by decide) (fun K hK => ?_)
        go_simp
        refine hK.out _ _ ?_ (fun hHeld2 => ?_)
        · (try dsimp only)
          first | exact hHeld | exact ⟨far_set HNE.out hHeld.1, far_set HNE.out hHeld.2.1, far_set HNE.out hHeld.2.2⟩
        clear hHeld hK K
        have hHeld := hHeld2
        clear hHeld2
        try simp only [Act.put, List.setIfInBounds_toArray, List.set_cons_zero, List.set_cons_succ]
        refine pure_ (i := 16) (N := some 21) (v := ?_) (a' := ?_) #[true, true, true, true, true, true, true, true, true, true, true, true, true, true, true, true, true, false] rfl rfl (by kernel_rfl) (fun _ _ _ h => h) (Or.inl ⟨by rfl, ?_⟩) ?_ ?_
        rotate_left
        · intro w'
          go_simp
          (try with_reducible rfl)
        rotate_left
        · simp only [Act.put, List.setIfInBounds_toArray, List.set_cons_zero, List.set_cons_succ]
          rfl
        refine last_ (i := 17) (N := none) #[true, true, true, true, true, true, true, true, true, true, true, true, true, true, true, true, true, true] rfl rfl (by kernel_rfl) (by decide) (fun K hK => ?_)
        go_simp
        refine hK.out _ _ ?_
        (try clear hHeld)
        clear hK K
        try simp only [Act.put, List.setIfInBounds_toArray, List.set_cons_zero, List.set_cons_succ]
        refine wpAnyLast_done (by kernel_rfl) ?_ _
        go_wp2_with fail
        go_meet
        exact ⟨rfl, ⟨HMID.out⟩⟩
      go_simp
      refine hK.out _ _ ?_ (fun hHeld2 => ?_)
      · (try dsimp only)
        first | exact hHeld | exact ⟨far_set HNE.out hHeld.1, far_set HNE.out hHeld.2.1, far_set HNE.out hHeld.2.2⟩
      clear hHeld hK K
      have hHeld := hHeld2
      clear hHeld2
      try simp only [Act.put, List.setIfInBounds_toArray, List.set_cons_zero, List.set_cons_succ]
      refine one_ (i := 11) (N := some 18) #[true, true, true, true, true, true, true, true, true, true, true, true, true, true, true, true, false, false] rfl rfl (by kernel_rfl) (by decide) (fun K hK => ?_)
      go_simp
      refine hK.out _ _ ?_ (fun hHeld2 => ?_)
      · (try dsimp only)
        first | exact hHeld | exact ⟨far_set HNE.out hHeld.1, far_set HNE.out hHeld.2.1, far_set HNE.out hHeld.2.2⟩
      clear hHeld hK K
      have hHeld := hHeld2
      clear hHeld2
      try simp only [Act.put, List.setIfInBounds_toArray, List.set_cons_zero, List.set_cons_succ]
      refine pure_ (i := 16) (N := some 21) (v := ?_) (a' := ?_) #[true, true, true, true, true, true, true, true, true, true, true, true, true, true, true, true, true, false] rfl rfl (by kernel_rfl) (fun _ _ _ h => h) (Or.inl ⟨by rfl, ?_⟩) ?_ ?_
      rotate_left
      · intro w'
        go_simp
        (try with_reducible rfl)
      rotate_left
      · simp only [Act.put, List.setIfInBounds_toArray, List.set_cons_zero, List.set_cons_succ]
        rfl
      refine last_ (i := 17) (N := none) #[true, true, true, true, true, true, true, true, true, true, true, true, true, true, true, true, true, true] rfl rfl (by kernel_rfl) (by decide) (fun K hK => ?_)
      go_simp
      refine hK.out _ _ ?_
      (try clear hHeld)
      clear hK K
      try simp only [Act.put, List.setIfInBounds_toArray, List.set_cons_zero, List.set_cons_succ]
      refine wpAnyLast_done (by kernel_rfl) ?_ _
      go_wp2_with fail
      go_meet
      exact ⟨rfl, ⟨HMID.out⟩⟩
    go_simp
    refine hK.out _ _ ?_ (fun hHeld2 => ?_)
    · (try dsimp only)
      first | exact hHeld | exact ⟨far_set HNE.out hHeld.1, far_set HNE.out hHeld.2.1, far_set HNE.out hHeld.2.2⟩
    clear hHeld hK K
    have hHeld := hHeld2
    clear hHeld2
    try simp only [Act.put, List.setIfInBounds_toArray, List.set_cons_zero, List.set_cons_succ]
    refine one_ (i := 7) (N := some 14) #[true, true, true, true, true, true, true, true, true, true, true, true, true, true, false, false, false, false] rfl rfl (by kernel_rfl) (by decide) (fun K hK => ?_)
    go_simp
    refine hK.out _ _ ?_ (fun hHeld2 => ?_)
    · (try dsimp only)
      first | exact hHeld | exact ⟨far_set HNE.out hHeld.1, far_set HNE.out hHeld.2.1, far_set HNE.out hHeld.2.2⟩
    clear hHeld hK K
    have hHeld := hHeld2
    clear hHeld2
    try simp only [Act.put, List.setIfInBounds_toArray, List.set_cons_zero, List.set_cons_succ]
    refine pure_ (i := 14) (N := some 20) (v := ?_) (a' := ?_) #[true, true, true, true, true, true, true, true, true, true, true, true, true, true, true, false, false, false] rfl rfl (by kernel_rfl) (fun _ _ _ h => h) (Or.inl ⟨by rfl, ?_⟩) ?_ ?_
    rotate_left
    · intro w'
      go_simp
      (try with_reducible rfl)
    rotate_left
    · simp only [Act.put, List.setIfInBounds_toArray, List.set_cons_zero, List.set_cons_succ]
      rfl
    refine one_ (i := 15) (N := none) #[true, true, true, true, true, true, true, true, true, true, true, true, true, true, true, true, false, false] rfl rfl (by kernel_rfl) (by decide) (fun K hK => ?_)
    go_simp
    refine hK.out _ _ ?_ (fun hHeld2 => ?_)
    · (try dsimp only)
      first | exact hHeld | exact ⟨far_set HNE.out hHeld.1, far_set HNE.out hHeld.2.1, far_set HNE.out hHeld.2.2⟩
    clear hHeld hK K
    have hHeld := hHeld2
    clear hHeld2
    try simp only [Act.put, List.setIfInBounds_toArray, List.set_cons_zero, List.set_cons_succ]
    refine pure_ (i := 16) (N := some 21) (v := ?_) (a' := ?_) #[true, true, true, true, true, true, true, true, true, true, true, true, true, true, true, true, true, false] rfl rfl (by kernel_rfl) (fun _ _ _ h => h) (Or.inl ⟨by rfl, ?_⟩) ?_ ?_
    rotate_left
    · intro w'
      go_simp
      (try with_reducible rfl)
    rotate_left
    · simp only [Act.put, List.setIfInBounds_toArray, List.set_cons_zero, List.set_cons_succ]
      rfl
    refine last_ (i := 17) (N := none) #[true, true, true, true, true, true, true, true, true, true, true, true, true, true, true, true, true, true] rfl rfl (by kernel_rfl) (by decide) (fun K hK => ?_)
    go_simp
    refine hK.out _ _ ?_
    (try clear hHeld)
    clear hK K
    try simp only [Act.put, List.setIfInBounds_toArray, List.set_cons_zero, List.set_cons_succ]
    refine wpAnyLast_done (by kernel_rfl) ?_ _
    go_wp2_with fail
    go_meet
    exact ⟨rfl, ⟨HMID.out⟩⟩
  case rest =>
    obtain ⟨rfl, HK⟩ := hcut
    have M4 := Lib.hid HK.out
    obtain ⟨z0, z1, z2, z3, z4, z5, z6⟩ := msC_cells M4.out.q
    clear HK M3 HMID
    go_wp2_with fail
    refine (mgood_walk k own peer view s A1 none n c1 0 0 (by omega) (by omega) wc).mono ?_
    rintro e w5 ⟨rfl, hb5⟩
    rw [show msB k own peer n 0 = true by unfold msB goodB; simp; omega]
    have M5 := Lib.hid (M4.out.below hb5)
    clear hb5 z0 z1 z2 z3 z4 z5 z6
    obtain ⟨Al, cl, hc5, ho5⟩ := M5.out.S.cl
    obtain ⟨l0, l1, l2, l3, l4, l5, l6, l7, l8⟩ := lkC_cells hc5
    obtain ⟨z0, z1, z2, z3, z4, z5, z6⟩ := msC_cells M5.out.q
    have g5 := froz hc5 5
    have g4 := froz M5.out.q 4
    have n1 : ¬ (1024 : Int) ≤ (L.length : Int) := by omega
    have n2 : ¬ k = 1 := by omega
    have n3 : ¬ pushed = 4294967295 := by omega
    have n3b : (pushed == 4294967295) = false := beq_eq_false_iff_ne.2 n3
    have n4 : IntKind.u32.wrap (pushed + 1) = pushed + 1 := by rw [IntKind.wrap_u32]; omega
    clear hc5 ho5
    go_wp2_with fail
    obtain ⟨w7, hw7⟩ : ∃ w7, w7 = (w5.setCell ⟨r, 5, none⟩ (.int .u32 (pushed + 1))).setCell ⟨w.heap.size, 4, none⟩ (.int .u32 (pushed + 1)) := ⟨_, rfl⟩
    have M7 := Lib.hid (show Mid w w7 base r own peer view now (pushed + 1) told next L k own peer view (pushed + 1) A1 n c1 xs by rw [hw7]; exact (M5.out.pushes (p' := pushed + 1)).box hbw.out (grown_set _) (by rw [heap_set _ M5.out.pushes.q]; rfl))
    rw [← hw7]
    clear hw7 l0 l1 l2 l3 l4 l5 l6 l7 l8 z0 z1 z2 z3 z4 z5 z6 g5 g4 n1 n2 n3 n3b n4 M4 M5
    obtain ⟨Al, cl, hc7, ho7⟩ := M7.out.S.cl
    obtain ⟨l0, l1, l2, l3, l4, l5, l6, l7, l8⟩ := lkC_cells hc7
    obtain ⟨z0, z1, z2, z3, z4, z5, z6⟩ := msC_cells M7.out.q
    have HC7 := Lib.hid hc7; have HO7 := Lib.hid ho7
    obtain ⟨i0, z0', hi0, hz0, hz1, hz2, hz3⟩ := sInfo
    have HI := Lib.hid (And.intro hi0 (And.intro hz0 (And.intro hz1 (And.intro hz2 hz3))))
    have BD := Lib.hid (fun o : Obj => (below_drew (alloc_back o) : Below w7.heap.size w7 (w7.alloc o).drew))
    clear hc7 ho7 l0 l1 l2 l3 l5 l6 l7 l8 hi0 hz0 hz1 hz2 hz3
    refine start_ (n := 12) (S := fun w' => w'.cell? ⟨r, 4, none⟩ = some (.slice Al L.length cl) ∧ w'.cell? ⟨w.heap.size, 0, none⟩ = some (.int .i64 k) ∧ w'.cell? ⟨w.heap.size, 1, none⟩ = some (.int .i64 own) ∧ w'.cell? ⟨w.heap.size, 2, none⟩ = some (.int .i64 peer) ∧ w'.cell? ⟨w.heap.size, 3, none⟩ = some (.int .u32 view) ∧ w'.cell? ⟨w.heap.size, 4, none⟩ = some (.int .u32 (pushed + 1)) ∧ w'.cell? ⟨w.heap.size, 5, none⟩ = some (.slice A1 n c1) ∧ w'.cell? ⟨w.heap.size, 6, none⟩ = some (.slice none 0 0)) (ds := [11]) #[false, false, false, false, false, false, false, false, false, false, false, false] (by kernel_rfl) rfl rfl (⟨l4, z0, z1, z2, z3, z4, z5, z6⟩) (fun hHeld => ?_)
    refine pure_ (i := 0) (N := some 57) (v := ?_) (a' := ?_) #[true, false, false, false, false, false, false, false, false, false, false, false] rfl rfl (by kernel_rfl) (fun _ _ _ h => h) (Or.inl ⟨by rfl, ?_⟩) ?_ ?_
    rotate_left
    · intro w'
      go_simp
      (try with_reducible rfl)
    rotate_left
    · simp only [Act.put, List.setIfInBounds_toArray, List.set_cons_zero, List.set_cons_succ]
      rfl
    refine pure_ (i := 1) (N := some 58) (v := ?_) (a' := ?_) #[true, true, false, false, false, false, false, false, false, false, false, false] rfl rfl (by kernel_rfl) (fun _ _ _ h => h) (Or.inl ⟨by rfl, ?_⟩) ?_ ?_
    rotate_left
    · intro w'
      go_simp
      (try with_reducible rfl)
    rotate_left
    · simp only [Act.put, List.setIfInBounds_toArray, List.set_cons_zero, List.set_cons_succ]
      rfl
    refine pure_ (i := 2) (N := some 59) (v := ?_) (a' := ?_) #[true, true, true, false, false, false, false, false, false, false, false, false] rfl rfl (by kernel_rfl) (fun _ _ _ h => h) (Or.inl ⟨by rfl, ?_⟩) ?_ ?_
    rotate_left
    · intro w'
      go_simp
      (try with_reducible rfl)
    rotate_left
    · simp only [Act.put, List.setIfInBounds_toArray, List.set_cons_zero, List.set_cons_succ]
      rfl
    refine pure_ (i := 3) (N := some 60) (v := ?_) (a' := ?_) #[true, true, true, true, false, false, false, false, false, false, false, false] rfl rfl (by kernel_rfl) (fun _ _ _ h => h) (Or.inl ⟨by rfl, ?_⟩) ?_ ?_
    rotate_left
    · intro w'
      go_simp
      (try with_reducible rfl)
    rotate_left
    · simp only [Act.put, List.setIfInBounds_toArray, List.set_cons_zero, List.set_cons_succ]
      rfl
    refine take_ (i := 4) (N := some 61) (v := ?_) (a' := ?_) #[true, true, true, true, true, false, false, false, false, false, false, false] rfl rfl (by kernel_rfl) (fun _ _ _ h => h) (Or.inl ⟨by rfl, ?_⟩) hHeld ?_ ?_
    rotate_left
    · rintro w' ⟨s0, s1, s2, s3, s4, s5, s6, s7⟩
      go_simp
      (try with_reducible rfl)
    rotate_left
    · simp only [Act.put, List.setIfInBounds_toArray, List.set_cons_zero, List.set_cons_succ]
      rfl
    refine take_ (i := 5) (N := some 62) (v := ?_) (a' := ?_) #[true, true, true, true, true, true, false, false, false, false, false, false] rfl rfl (by kernel_rfl) (fun _ _ _ h => h) (Or.inl ⟨by rfl, ?_⟩) hHeld ?_ ?_
    rotate_left
    · rintro w' ⟨s0, s1, s2, s3, s4, s5, s6, s7⟩
      go_simp
      (try with_reducible rfl)
    rotate_left
    · simp only [Act.put, List.setIfInBounds_toArray, List.set_cons_zero, List.set_cons_succ]
      rfl
    refine pure_ (i := 6) (N := some 63) (v := ?_) (a' := ?_) #[true, true, true, true, true, true, true, false, false, false, false, false] rfl rfl (by kernel_rfl) (fun _ _ _ h => h) (Or.inl ⟨by rfl, ?_⟩) ?_ ?_
    rotate_left
    · intro w'
      go_simp
      (try with_reducible rfl)
    rotate_left
    · simp only [Act.put, List.setIfInBounds_toArray, List.set_cons_zero, List.set_cons_succ]
      rfl
    refine one_ (i := 7) (N := some 64) #[true, true, true, true, true, true, true, true, false, false, false, false] rfl rfl (by kernel_rfl) (by decide) (fun K hK => ?_)
    go_simp
    refine hK.out _ _ ?_ (fun hHeld2 => ?_)
    · (try dsimp only)
      exact ⟨pw_cell_below (by first | exact alloc_back _ | exact (below_drew (Below.refl _ _)).alloc (Nat.le_refl _) _) l4, pw_cell_below (by first | exact alloc_back _ | exact (below_drew (Below.refl _ _)).alloc (Nat.le_refl _) _) z0, pw_cell_below (by first | exact alloc_back _ | exact (below_drew (Below.refl _ _)).alloc (Nat.le_refl _) _) z1, pw_cell_below (by first | exact alloc_back _ | exact (below_drew (Below.refl _ _)).alloc (Nat.le_refl _) _) z2, pw_cell_below (by first | exact alloc_back _ | exact (below_drew (Below.refl _ _)).alloc (Nat.le_refl _) _) z3, pw_cell_below (by first | exact alloc_back _ | exact (below_drew (Below.refl _ _)).alloc (Nat.le_refl _) _) z4, pw_cell_below (by first | exact alloc_back _ | exact (below_drew (Below.refl _ _)).alloc (Nat.le_refl _) _) z5, pw_cell_below (by first | exact alloc_back _ | exact (below_drew (Below.refl _ _)).alloc (Nat.le_refl _) _) z6⟩
    clear hHeld hK K
    have hHeld := hHeld2
    clear hHeld2
    try simp only [Act.put, List.setIfInBounds_toArray, List.set_cons_zero, List.set_cons_succ]
    refine one_ (i := 8) (N := some 65) #[true, true, true, true, true, true, true, true, true, false, false, false] rfl rfl (by kernel_rfl) (by decide) (fun K hK => ?_)
    refine step_append_lies _ (by rfl) _ _ _ (by rfl) base 65 i0 z0' 9 96 Try.underlying59 HI.out.1 HI.out.2.1 HI.out.2.2.1 HI.out.2.2.2.1 HI.out.2.2.2.2 (by decide) (.slice Al L.length cl) L.length (sdCells own peer view L) (by rfl) (pw_own_below HO7.out (BD.out (.cells #[.int .i64 k, .int .i64 own, .int .i64 peer, .int .u32 view, .int .u32 (pushed + 1), .slice A1 n c1, .slice none 0 0, .bool false, .int .i64 0] 65))) ⟨w7.heap.size, 0, none⟩ 1 1 [.int .i64 k, .int .i64 own, .int .i64 peer, .int .u32 view, .int .u32 (pushed + 1), .slice A1 n c1, .slice none 0 0, .bool false, .int .i64 0] (by rfl) rfl (World.news_of_block (heap_alloc_new w7 _)) (by simp [Value.oneCell']) (by decide) (by unfold maxLen; omega) (by omega) (by have := M7.out.S.bw; simp; omega) (w7.heap.size + 1) (by simp) ?_
    intro g cap w8 hown hgrow hat hlt8
    have HO8 := Lib.hid hown
    have HG8 := Lib.hid hgrow
    have hc8 := heap_keep' (BD.out (.cells #[.int .i64 k, .int .i64 own, .int .i64 peer, .int .u32 view, .int .u32 (pushed + 1), .slice A1 n c1, .slice none 0 0, .bool false, .int .i64 0] 65)) HC7.out
    have ho8 := pw_own_below HO7.out (BD.out (.cells #[.int .i64 k, .int .i64 own, .int .i64 peer, .int .u32 view, .int .u32 (pushed + 1), .slice A1 n c1, .slice none 0 0, .bool false, .int .i64 0] 65))
    have hr8 := (hgrow.block r (lt_of_heap hc8) (own_ne' hc8 ho8 (by decide))).trans hc8
    obtain ⟨v0, v1, v2, v3, v4, v5, v6, v7, v8⟩ := lkC_cells hr8
    have f4 := froz hr8 4
    have hb8 := heap_keep' (BD.out (.cells #[.int .i64 k, .int .i64 own, .int .i64 peer, .int .u32 view, .int .u32 (pushed + 1), .slice A1 n c1, .slice none 0 0, .bool false, .int .i64 0] 65)) M7.out.q
    obtain ⟨y0, y1, y2, y3, y4, y5, y6⟩ := msC_cells ((hgrow.block _ (lt_of_heap hb8) (own_ne' hb8 ho8 (by decide))).trans hb8)
    clear hown hgrow hat hlt8 hc8 ho8 hr8 hb8 v0 v1 v2 v3 v5 v6 v7 v8
    refine hK.out _ _ ?_ (fun hHeld2 => ?_)
    · (try dsimp only)
      exact ⟨v4, y0, y1, y2, y3, y4, y5, y6⟩
    clear hHeld hK K
    have hHeld := hHeld2
    clear hHeld2
    try simp only [Act.put, List.setIfInBounds_toArray, List.set_cons_zero, List.set_cons_succ]
    refine pure_ (i := 9) (N := some 66) (v := ?_) (a' := ?_) #[true, true, true, true, true, true, true, true, true, true, false, false] rfl rfl (by kernel_rfl) (fun _ _ _ h => h) (Or.inl ⟨by rfl, ?_⟩) ?_ ?_
    rotate_left
    · intro w'
      go_simp
      (try with_reducible rfl)
    rotate_left
    · simp only [Act.put, List.setIfInBounds_toArray, List.set_cons_zero, List.set_cons_succ]
      rfl
    refine pure_ (i := 10) (N := some 67) (v := ?_) (a' := ?_) #[true, true, true, true, true, true, true, true, true, true, true, false] rfl rfl (by kernel_rfl) (fun _ _ _ h => h) (Or.inl ⟨by rfl, ?_⟩) ?_ ?_
    rotate_left
    · intro w'
      go_simp
      (try with_reducible rfl)
    rotate_left
    · simp only [Act.put, List.setIfInBounds_toArray, List.set_cons_zero, List.set_cons_succ]
      rfl
    refine last_ (i := 11) (N := none) #[true, true, true, true, true, true, true, true, true, true, true, true] rfl rfl (by kernel_rfl) (by decide) (fun K hK => ?_)
    go_simp
    refine hK.out _ _ ?_
    (try clear hHeld)
    clear hK K
    try simp only [Act.put, List.setIfInBounds_toArray, List.set_cons_zero, List.set_cons_succ]
    refine wpAnyLast_done (by kernel_rfl) ?_ _
    go_wp2_with fail
    go_ret
    have S8 := M7.out.S.below (BD.out (.cells #[.int .i64 k, .int .i64 own, .int .i64 peer, .int .u32 view, .int .u32 (pushed + 1), .slice A1 n c1, .slice none 0 0, .bool false, .int .i64 0] 65))
    have hF := S8.push ⟨k, pushed + 1, A1, c1, xs, false, 0⟩ (heap_keep' (BD.out (.cells #[.int .i64 k, .int .i64 own, .int .i64 peer, .int .u32 view, .int .u32 (pushed + 1), .slice A1 n c1, .slice none 0 0, .bool false, .int .i64 0] 65)) HC7.out) (pw_own_below HO7.out (BD.out (.cells #[.int .i64 k, .int .i64 own, .int .i64 peer, .int .u32 view, .int .u32 (pushed + 1), .slice A1 n c1, .slice none 0 0, .bool false, .int .i64 0] 65))) (w' := w8) (g := g) (cap := cap) (by simpa [Sd.cells, Sd.val, HXL.out] using HO8.out) HG8.out (by have := pw_own_below M7.out.o (BD.out (.cells #[.int .i64 k, .int .i64 own, .int .i64 peer, .int .u32 view, .int .u32 (pushed + 1), .slice A1 n c1, .slice none 0 0, .bool false, .int .i64 0] 65)); simpa [Sd.val, HXL.out] using this)
    exact ⟨A1, c1, rfl, hF.1, fun W hW => hF.2 W (below_then (M7.out.B W hW) M7.out.S.bw (BD.out (.cells #[.int .i64 k, .int .i64 own, .int .i64 peer, .int .u32 view, .int .u32 (pushed + 1), .slice A1 n c1, .slice none 0 0, .bool false, .int .i64 0] 65)))⟩
set_option maxRecDepth 100000 in
set_option maxHeartbeats 8000000 in
theorem push_full (base r : Nat) (own peer view now pushed told next : Int) (L : List Sd) (k f t v s : Int) (A : Option Addr) (n c : Nat) (xs : List Int) (w : World) (hS : LkS w base r own peer view now pushed told next L) (hr : ReadsInt w .i64 A n xs) (hA : A = none → c = 0) (hn : n ≤ 500)
    (hk : 2 ≤ k ∧ k ≤ 20) (ho1 : 0 ≤ own ∧ own < 16) (hp1 : 0 ≤ peer ∧ peer < 16) (hl : 1024 ≤ L.length) :
    Calls Try.prog 10 #[.pointer (some ⟨r, 0, none⟩), .agg (msC k f t v s (.slice A n c) (.slice none 0 0))] w fun e w' => e = .returned (.int .i64 6) ∧ LkS w' base r own peer view now pushed told next L ∧ ∀ W, Below base W w → Below base W w' := by
  obtain ⟨w1, hw1⟩ : ∃ w1, w1 = w.alloc (.cells (msC k f t v s (.slice A n c) (.slice none 0 0)) 32) := ⟨_, rfl⟩
  have hb1 : Below w.heap.size w w1 := by rw [hw1]; exact alloc_back _
  have q1 : w1.heap[w.heap.size]? = some (.cells (msC k f t v s (.slice A n c) (.slice none 0 0)) 32 (0, 0)) := by rw [hw1]; exact heap_alloc_new _ _
  have HW1 := Lib.hid hw1; have HB1 := Lib.hid hb1; have Q1 := Lib.hid q1
  have S1 := Lib.hid (hS.below hb1)
  have CC := Lib.hid (copied_walk k f t v s A n c xs w1 (hr.below hb1) (by omega) hA)
  have BX1 := Lib.hid (fun W (hW : Below base W w) => below_then hW hS.bw hb1)
  have HXL := Lib.hid hr.1
  have hbw := Lib.hid hS.bw
  obtain ⟨x0, x1, x2, x3, x4, x5, x6⟩ := msC_cells q1
  clear hw1 hb1 q1 hS hr hA
  go_enter Try.func10, Try.ntmps10
  go_wp2_with fail
  rw [← HW1.out]
  go_wp2_with fail
  refine CC.out.mono ?_
  rintro e w2 ⟨A1, c1, rfl, ho2, hb2⟩
  have S2 := Lib.hid (S1.out.below hb2); have Q2 := Lib.hid (heap_keep' hb2 Q1.out)
  have HO2 := Lib.hid (own_base_le ho2 (Nat.le_trans hbw.out HB1.out.size))
  have BX2 := Lib.hid (fun W (hW : Below base W w) => below_then (BX1.out W hW) S1.out.bw hb2)
  clear ho2 hb2 CC x0 x1 x2 x3 x4 x5 x6
  have f0 := froz Q2.out 0
  have f1 := froz Q2.out 1
  have f2 := froz Q2.out 2
  have f3 := froz Q2.out 3
  have f4 := froz Q2.out 4
  have f5 := froz Q2.out 5
  have f6 := froz Q2.out 6
  obtain ⟨x0, x1, x2, x3, x4, x5, x6⟩ := msC_cells Q2.out
  obtain ⟨w3, hw3⟩ : ∃ w3, w3 = ((((((w2.setCell ⟨w.heap.size, 0, none⟩ (.int .i64 k)).setCell ⟨w.heap.size, 1, none⟩ (.int .i64 f)).setCell ⟨w.heap.size, 2, none⟩ (.int .i64 t)).setCell ⟨w.heap.size, 3, none⟩ (.int .u32 v)).setCell ⟨w.heap.size, 4, none⟩ (.int .u32 s)).setCell ⟨w.heap.size, 5, none⟩ (.slice A1 n c1)).setCell ⟨w.heap.size, 6, none⟩ (.slice none 0 0) := ⟨_, rfl⟩
  have hg3 : w2.grownBy w3 (some w.heap.size) := by rw [hw3]; exact mgrown7 _ _ _ _ _ _ _ _ _
  have q3 : w3.heap[w.heap.size]? = some (.cells (msC k f t v s (.slice A1 n c1) (.slice none 0 0)) 32 (0, 0)) := by rw [hw3]; exact mset7 Q2.out
  have Q3 := Lib.hid q3
  have S3 := Lib.hid (S2.out.other Q2.out (by decide) (by decide) (by decide) hg3)
  have HO3 := Lib.hid (own_other HO2.out hg3 (own_ne Q2.out HO2.out (by decide)))
  have BX3 := Lib.hid (fun W (hW : Below base W w) => pw_below_grown (BX2.out W hW) (some w.heap.size) S2.out.bw hg3 (fun k e => by cases e; exact hbw.out))
  have HW3 := Lib.hid hw3.symm
  clear hg3 q3 hw3
  obtain ⟨Al, cl, hc3, ho3⟩ := S3.out.cl
  obtain ⟨l0, l1, l2, l3, l4, l5, l6, l7, l8⟩ := lkC_cells hc3
  clear hc3 ho3 l3 l4 l5 l6 l7 l8
  go_wp2_with fail
  rw [HW3.out]
  clear f0 f1 f2 f3 f4 f5 f6 x0 x1 x2 x3 x4 x5 x6
  have M3 := Lib.hid (Mid.mk Q3.out S3.out HO3.out BX3.out)
  have HNE := Lib.hid M3.out.ne
  have HMID := Lib.hid ((M3.out.box hbw.out (w4 := ((w3.setCell ⟨w.heap.size, 1, none⟩ (.int .i64 own)).setCell ⟨w.heap.size, 2, none⟩ (.int .i64 peer)).setCell ⟨w.heap.size, 3, none⟩ (.int .u32 view)) (World.grownBy.trans (World.grownBy.trans (grown_set _) (grown_set _)) (grown_set _)) (mset3 Q3.out)).below (below_drew (Below.refl _ _)))
  clear Q3 S3 HO3 BX3 Q2 S2 HO2 BX2 Q1 S1 BX1 HW1 HW3 HB1
  go_cut [10] (fun s10 wx => s10 = .int .i64 own ∧ Aside0 (Mid w wx base r own peer view now pushed told next L k own peer view s A1 n c1 xs))
  case first =>
    obtain ⟨Al, cl, hc3, ho3⟩ := M3.out.S.cl
    obtain ⟨l0, l1, l2, l3, l4, l5, l6, l7, l8⟩ := lkC_cells hc3
    clear hc3 ho3 l3 l4 l5 l6 l7 l8
    have g1 := froz M3.out.q 1
    have g2 := froz M3.out.q 2
    have g3 := froz M3.out.q 3
    obtain ⟨z0, z1, z2, z3, z4, z5, z6⟩ := msC_cells M3.out.q
    refine start_ (n := 18) (S := fun w' => w'.cell? ⟨r, 0, none⟩ = some (.int .i64 own) ∧ w'.cell? ⟨r, 1, none⟩ = some (.int .i64 peer) ∧ w'.cell? ⟨r, 2, none⟩ = some (.int .u32 view)) (ds := [17]) #[false, false, false, false, false, false, false, false, false, false, false, false, false, false, false, false, false, false] (by kernel_rfl) rfl rfl (⟨l0, l1, l2⟩) (fun hHeld => ?_)
    refine pure_ (i := 0) (N := some 7) (v := ?_) (a' := ?_) #[true, false, false, false, false, false, false, false, false, false, false, false, false, false, false, false, false, false] rfl rfl (by kernel_rfl) (fun _ _ _ h => h) (Or.inl ⟨by rfl, ?_⟩) ?_ ?_
    rotate_left
    · intro w'
      go_simp
      (try with_reducible rfl)
    rotate_left
    · simp only [Act.put, List.setIfInBounds_toArray, List.set_cons_zero, List.set_cons_succ]
      rfl
    refine pure_ (i := 1) (N := some 8) (v := ?_) (a' := ?_) #[true, true, false, false, false, false, false, false, false, false, false, false, false, false, false, false, false, false] rfl rfl (by kernel_rfl) (fun _ _ _ h => h) (Or.inl ⟨by rfl, ?_⟩) ?_ ?_
    rotate_left
    · intro w'
      go_simp
      (try with_reducible rfl)
    rotate_left
    · simp only [Act.put, List.setIfInBounds_toArray, List.set_cons_zero, List.set_cons_succ]
      rfl
    refine pure_ (i := 2) (N := some 9) (v := ?_) (a' := ?_) #[true, true, true, false, false, false, false, false, false, false, false, false, false, false, false, false, false, false] rfl rfl (by kernel_rfl) (fun _ _ _ h => h) (Or.inl ⟨by rfl, ?_⟩) ?_ ?_
    rotate_left
    · intro w'
      go_simp
      (try with_reducible rfl)
    rotate_left
    · simp only [Act.put, List.setIfInBounds_toArray, List.set_cons_zero, List.set_cons_succ]
      rfl
    refine take_ (i := 3) (N := some 10) (v := ?_) (a' := ?_) #[true, true, true, true, false, false, false, false, false, false, false, false, false, false, false, false, false, false] rfl rfl (by kernel_rfl) (fun _ _ _ h => h) (Or.inl ⟨by rfl, ?_⟩) hHeld ?_ ?_
    rotate_left
    · rintro w' ⟨s0, s1, s2⟩
      go_simp
      (try with_reducible rfl)
    rotate_left
    · simp only [Act.put, List.setIfInBounds_toArray, List.set_cons_zero, List.set_cons_succ]
      rfl
    refine pure_ (i := 4) (N := some 11) (v := ?_) (a' := ?_) #[true, true, true, true, true, false, false, false, false, false, false, false, false, false, false, false, false, false] rfl rfl (by kernel_rfl) (fun _ _ _ h => h) (Or.inl ⟨by rfl, ?_⟩) ?_ ?_
    rotate_left
    · intro w'
      go_simp
      (try with_reducible rfl)
    rotate_left
    · simp only [Act.put, List.setIfInBounds_toArray, List.set_cons_zero, List.set_cons_succ]
      rfl
    refine pure_ (i := 5) (N := some 12) (v := ?_) (a' := ?_) #[true, true, true, true, true, true, false, false, false, false, false, false, false, false, false, false, false, false] rfl rfl (by kernel_rfl) (fun _ _ _ h => h) (Or.inl ⟨by rfl, ?_⟩) ?_ ?_
    rotate_left
    · intro w'
      go_simp
      (try with_reducible rfl)
    rotate_left
    · simp only [Act.put, List.setIfInBounds_toArray, List.set_cons_zero, List.set_cons_succ]
      rfl
    refine pure_ (i := 6) (N := some 13) (v := ?_) (a' := ?_) #[true, true, true, true, true, true, true, false, false, false, false, false, false, false, false, false, false, false] rfl rfl (by kernel_rfl) (fun _ _ _ h => h) (Or.inl ⟨by rfl, ?_⟩) ?_ ?_
    rotate_left
    · intro w'
      go_simp
      (try with_reducible rfl)
    rotate_left
    · simp only [Act.put, List.setIfInBounds_toArray, List.set_cons_zero, List.set_cons_succ]
      rfl
    refine pure_ (i := 8) (N := some 15) (v := ?_) (a' := ?_) #[true, true, true, true, true, true, true, false, true, false, false, false, false, false, false, false, false, false] rfl rfl (by kernel_rfl) (fun _ _ _ h => h) (Or.inl ⟨by rfl, ?_⟩) ?_ ?_
    rotate_left
    · intro w'
      go_simp
      (try with_reducible rfl)
    rotate_left
    · simp only [Act.put, List.setIfInBounds_toArray, List.set_cons_zero, List.set_cons_succ]
      rfl
    refine pure_ (i := 9) (N := some 16) (v := ?_) (a' := ?_) #[true, true, true, true, true, true, true, false, true, true, false, false, false, false, false, false, false, false] rfl rfl (by kernel_rfl) (fun _ _ _ h => h) (Or.inl ⟨by rfl, ?_⟩) ?_ ?_
    rotate_left
    · intro w'
      go_simp
      (try with_reducible rfl)
    rotate_left
    · simp only [Act.put, List.setIfInBounds_toArray, List.set_cons_zero, List.set_cons_succ]
      rfl
    refine pure_ (i := 10) (N := some 17) (v := ?_) (a' := ?_) #[true, true, true, true, true, true, true, false, true, true, true, false, false, false, false, false, false, false] rfl rfl (by kernel_rfl) (fun _ _ _ h => h) (Or.inl ⟨by rfl, ?_⟩) ?_ ?_
    rotate_left
    · intro w'
      go_simp
      (try with_reducible rfl)
    rotate_left
    · simp only [Act.put, List.setIfInBounds_toArray, List.set_cons_zero, List.set_cons_succ]
      rfl
    refine pure_ (i := 12) (N := some 19) (v := ?_) (a' := ?_) #[true, true, true, true, true, true, true, false, true, true, true, false, true, false, false, false, false, false] rfl rfl (by kernel_rfl) (fun _ _ _ h => h) (Or.inl ⟨by rfl, ?_⟩) ?_ ?_
    rotate_left
    · intro w'
      go_simp
      (try with_reducible rfl)
    rotate_left
    · simp only [Act.put, List.setIfInBounds_toArray, List.set_cons_zero, List.set_cons_succ]
      rfl
    refine three_ (i := 7) (j := 11) (k := 13) (Ni := some 14) (Nj := some 18) (Nk := none) #[true, true, true, true, true, true, true, true, true, true, true, false, true, false, false, false, false, false] #[true, true, true, true, true, true, true, false, true, true, true, true, true, false, false, false, false, false] #[true, true, true, true, true, true, true, false, true, true, true, false, true, true, false, false, false, false] rfl rfl rfl rfl rfl rfl (by kernel_rfl) (by decide) (by decide) (by decide) (fun K hK => ?_) (fun K hK => ?_) (fun K hK => ?_)
    · skip
      go_simp
      refine hK.out _ _ ?_ (fun hHeld2 => ?_)
      · (try dsimp only)
        first | exact hHeld | exact ⟨far_set HNE.out hHeld.1, far_set HNE.out hHeld.2.1, far_set HNE.out hHeld.2.2⟩
      clear hHeld hK K
      have hHeld := hHeld2
      clear hHeld2
      try simp only [Act.put, List.setIfInBounds_toArray, List.set_cons_zero, List.set_cons_succ]
      refine two_ (i := 11) (j := 13) (Ni := some 18) (Nj := none) #[true, true, true, true, true, true, true, true, true, true, true, true, true, false, false, false, false, false] #[true, true, true, true, true, true, true, true, true, true, true, false, true, true, false, false, false, false] rfl rfl rfl rfl (by kernel_rfl) (by decide) (by decide) (fun K hK => ?_) (fun K hK => ?_)
      · skip
        go_simp
        refine hK.out _ _ ?_ (fun hHeld2 => ?_)
        · (try dsimp only)
          first | exact hHeld | exact ⟨far_set HNE.out hHeld.1, far_set HNE.out hHeld.2.1, far_set HNE.out hHeld.2.2⟩
        clear hHeld hK K
        have hHeld := hHeld2
        clear hHeld2
        try simp only [Act.put, List.setIfInBounds_toArray, List.set_cons_zero, List.set_cons_succ]
        refine one_ (i := 13) (N := none) #[true, true, true, true, true, true, true, true, true, true, true, true, true, true, false, false, false, false] rfl rfl (by kernel_rfl) (by decide) (fun K hK => ?_)
        go_simp
        refine hK.out _ _ ?_ (fun hHeld2 => ?_)
        · (try dsimp only)
          first | exact hHeld | exact ⟨far_set HNE.out hHeld.1, far_set HNE.out hHeld.2.1, far_set HNE.out hHeld.2.2⟩
        clear hHeld hK K
        have hHeld := hHeld2
        clear hHeld2
        try simp only [Act.put, List.setIfInBounds_toArray, List.set_cons_zero, List.set_cons_succ]
        refine pure_ (i := 14) (N := some 20) (v := ?_) (a' := ?_) #[true, true, true, true, true, true, true, true, true, true, true, true, true, true, true, false, false, false] rfl rfl (by kernel_rfl) (fun _ _ _ h => h) (Or.inl ⟨by rfl, ?_⟩) ?_ ?_
        rotate_left
        · intro w'
          go_simp
          (try with_reducible rfl)
        rotate_left
        · simp only [Act.put, List.setIfInBounds_toArray, List.set_cons_zero, List.set_cons_succ]
          rfl
        refine one_ (i := 15) (N := none) #[true, true, true, true, true, true, true, true, true, true, true, true, true, true, true, true, false, false] rfl rfl (by kernel_rfl) (by decide) (fun K hK => ?_)
        go_simp
        refine hK.out _ _ ?_ (fun hHeld2 => ?_)
        · (try dsimp only)
          first | exact hHeld | exact ⟨far_set HNE.out hHeld.1, far_set HNE.out hHeld.2.1, far_set HNE.out hHeld.2.2⟩
        clear hHeld hK K
        have hHeld := hHeld2
        clear hHeld2
        try simp only [Act.put, List.setIfInBounds_toArray, List.set_cons_zero, List.set_cons_succ]
        refine pure_ (i := 16) (N := some 21) (v := ?_) (a' := ?_) #[true, true, true, true, true, true, true, true, true, true, true, true, true, true, true, true, true, false] rfl rfl (by kernel_rfl) (fun _ _ _ h => h) (Or.inl ⟨by rfl, ?_⟩) ?_ ?_
        rotate_left
        · intro w'
          go_simp
          (try with_reducible rfl)
        rotate_left
        · simp only [Act.put, List.setIfInBounds_toArray, List.set_cons_zero, List.set_cons_succ]
          rfl
        refine last_ (i := 17) (N := none) #[true, true, true, true, true, true, true, true, true, true, true, true, true, true, true, true, true, true] rfl rfl (by kernel_rfl) (by decide) (fun K hK => ?_)
        go_simp
        refine hK.out _ _ ?_
        (try clear hHeld)
        clear hK K
        try simp only [Act.put, List.setIfInBounds_toArray, List.set_cons_zero, List.set_cons_succ]
        refine wpAnyLast_done (by kernel_rfl) ?_ _
        go_wp2_with fail
        go_meet
        exact ⟨rfl, ⟨HMID.out⟩⟩
      go_simp
      refine hK.out _ _ ?_ (fun hHeld2 => ?_)
      · (try dsimp only)
        first | exact hHeld | exact ⟨far_set HNE.out hHeld.1, far_set HNE.out hHeld.2.1, far_set HNE.out hHeld.2.2⟩
      clear hHeld hK K
      have hHeld := hHeld2
      clear hHeld2
      try simp only [Act.put, List.setIfInBounds_toArray, List.set_cons_zero, List.set_cons_succ]
      refine pure_ (i := 14) (N := some 20) (v := ?_) (a' := ?_) #[true, true, true, true, true, true, true, true, true, true, true, false, true, true, true, false, false, false] rfl rfl (by kernel_rfl) (fun _ _ _ h => h) (Or.inl ⟨by rfl, ?_⟩) ?_ ?_
      rotate_left
      · intro w'
        go_simp
        (try with_reducible rfl)
      rotate_left
      · simp only [Act.put, List.setIfInBounds_toArray, List.set_cons_zero, List.set_cons_succ]
        rfl
      refine two_ (i := 11) (j := 15) (Ni := some 18) (Nj := none) #[true, true, true, true, true, true, true, true, true, true, true, true, true, true, true, false, false, false] #[true, true, true, true, true, true, true, true, true, true, true, false, true, true, true, true, false, false] rfl rfl rfl rfl (by kernel_rfl) (by decide) (by decide) (fun K hK => ?_) (fun K hK => ?_)
      · skip
        go_simp
        refine hK.out _ _ ?_ (fun hHeld2 => ?_)
        · (try dsimp only)
          first | exact hHeld | exact ⟨far_set HNE.out hHeld.1, far_set HNE.out hHeld.2.1, far_set HNE.out hHeld.2.2⟩
        clear hHeld hK K
        have hHeld := hHeld2
        clear hHeld2
        try simp only [Act.put, List.setIfInBounds_toArray, List.set_cons_zero, List.set_cons_succ]
        refine one_ (i := 15) (N := none) #[true, true, true, true, true, true, true, true, true, true, true, true, true, true, true, true, false, false] rfl rfl (by kernel_rfl) (by decide) (fun K hK => ?_)
        go_simp
        refine hK.out _ _ ?_ (fun hHeld2 => ?_)
        · (try dsimp only)
          first | exact hHeld | exact ⟨far_set HNE.out hHeld.1, far_set HNE.out hHeld.2.1, far_set HNE.out hHeld.2.2⟩
        clear hHeld hK K
        have hHeld := hHeld2
        clear hHeld2
        try simp only [Act.put, List.setIfInBounds_toArray, List.set_cons_zero, List.set_cons_succ]
        refine pure_ (i := 16) (N := some 21) (v := ?_) (a' := ?_) #[true, true, true, true, true, true, true, true, true, true, true, true, true, true, true, true, true, false] rfl rfl (by kernel_rfl) (fun _ _ _ h => h) (Or.inl ⟨by rfl, ?_⟩) ?_ ?_
        rotate_left
        · intro w'
          go_simp
          (try with_reducible rfl)
        rotate_left
        · simp only [Act.put, List.setIfInBounds_toArray, List.set_cons_zero, List.set_cons_succ]
          rfl
        refine last_ (i := 17) (N := none) #[true, true, true, true, true, true, true, true, true, true, true, true, true, true, true, true, true, true] rfl rfl (by kernel_rfl) (by decide) (fun K hK => ?_)
        go_simp
        refine hK.out _ _ ?_
        (try clear hHeld)
        clear hK K
        try simp only [Act.put, List.setIfInBounds_toArray, List.set_cons_zero, List.set_cons_succ]
        refine wpAnyLast_done (by kernel_rfl) ?_ _
        go_wp2_with fail
        go_meet
        exact ⟨rfl, ⟨HMID.out⟩⟩
      go_simp
      refine hK.out _ _ ?_ (fun hHeld2 => ?_)
      · (try dsimp only)
        first | exact hHeld | exact ⟨far_set HNE.out hHeld.1, far_set HNE.out hHeld.2.1, far_set HNE.out hHeld.2.2⟩
      clear hHeld hK K
      have hHeld := hHeld2
      clear hHeld2
      try simp only [Act.put, List.setIfInBounds_toArray, List.set_cons_zero, List.set_cons_succ]
      refine one_ (i := 11) (N := some 18) #[true, true, true, true, true, true, true, true, true, true, true, true, true, true, true, true, false, false] rfl rfl (by kernel_rfl) (by decide) (fun K hK => ?_)
      go_simp
      refine hK.out _ _ ?_ (fun hHeld2 => ?_)
      · (try dsimp only)
        first | exact hHeld | exact ⟨far_set HNE.out hHeld.1, far_set HNE.out hHeld.2.1, far_set HNE.out hHeld.2.2⟩
      clear hHeld hK K
      have hHeld := hHeld2
      clear hHeld2
      try simp only [Act.put, List.setIfInBounds_toArray, List.set_cons_zero, List.set_cons_succ]
      refine pure_ (i := 16) (N := some 21) (v := ?_) (a' := ?_) #[true, true, true, true, true, true, true, true, true, true, true, true, true, true, true, true, true, false] rfl rfl (by kernel_rfl) (fun _ _ _ h => h) (Or.inl ⟨by rfl, ?_⟩) ?_ ?_
      rotate_left
      · intro w'
        go_simp
        (try with_reducible rfl)
      rotate_left
      · simp only [Act.put, List.setIfInBounds_toArray, List.set_cons_zero, List.set_cons_succ]
        rfl
      refine last_ (i := 17) (N := none) #[true, true, true, true, true, true, true, true, true, true, true, true, true, true, true, true, true, true] rfl rfl (by kernel_rfl) (by decide) (fun K hK => ?_)
      go_simp
      refine hK.out _ _ ?_
      (try clear hHeld)
      clear hK K
      try simp only [Act.put, List.setIfInBounds_toArray, List.set_cons_zero, List.set_cons_succ]
      refine wpAnyLast_done (by kernel_rfl) ?_ _
      go_wp2_with fail
      go_meet
      exact ⟨rfl, ⟨HMID.out⟩⟩
    · skip
      go_simp
      refine hK.out _ _ ?_ (fun hHeld2 => ?_)
      · (try dsimp only)
        first | exact hHeld | exact ⟨far_set HNE.out hHeld.1, far_set HNE.out hHeld.2.1, far_set HNE.out hHeld.2.2⟩
      clear hHeld hK K
      have hHeld := hHeld2
      clear hHeld2
      try simp only [Act.put, List.setIfInBounds_toArray, List.set_cons_zero, List.set_cons_succ]
      refine two_ (i := 7) (j := 13) (Ni := some 14) (Nj := none) #[true, true, true, true, true, true, true, true, true, true, true, true, true, false, false, false, false, false] #[true, true, true, true, true, true, true, false, true, true, true, true, true, true, false, false, false, false] rfl rfl rfl rfl (by kernel_rfl) (by decide) (by decide) (fun K hK => ?_) (fun K hK => ?_)
      · skip
        go_simp
        refine hK.out _ _ ?_ (fun hHeld2 => ?_)
        · (try dsimp only)
          first | exact hHeld | exact ⟨far_set HNE.out hHeld.1, far_set HNE.out hHeld.2.1, far_set HNE.out hHeld.2.2⟩
        clear hHeld hK K
        have hHeld := hHeld2
        clear hHeld2
        try simp only [Act.put, List.setIfInBounds_toArray, List.set_cons_zero, List.set_cons_succ]
        refine one_ (i := 13) (N := none) #[true, true, true, true, true, true, true, true, true, true, true, true, true, true, false, false, false, false] rfl rfl (by kernel_rfl) (by decide) (fun K hK => ?_)
        go_simp
        refine hK.out _ _ ?_ (fun hHeld2 => ?_)
        · (try dsimp only)
          first | exact hHeld | exact ⟨far_set HNE.out hHeld.1, far_set HNE.out hHeld.2.1, far_set HNE.out hHeld.2.2⟩
        clear hHeld hK K
        have hHeld := hHeld2
        clear hHeld2
        try simp only [Act.put, List.setIfInBounds_toArray, List.set_cons_zero, List.set_cons_succ]
        refine pure_ (i := 14) (N := some 20) (v := ?_) (a' := ?_) #[true, true, true, true, true, true, true, true, true, true, true, true, true, true, true, false, false, false] rfl rfl (by kernel_rfl) (fun _ _ _ h => h) (Or.inl ⟨by rfl, ?_⟩) ?_ ?_
        rotate_left
        · intro w'
          go_simp
          (try with_reducible rfl)
        rotate_left
        · simp only [Act.put, List.setIfInBounds_toArray, List.set_cons_zero, List.set_cons_succ]
          rfl
        refine one_ (i := 15) (N := none) #[true, true, true, true, true, true, true, true, true, true, true, true, true, true, true, true, false, false] rfl rfl (by kernel_rfl) (by decide) (fun K hK => ?_)
        go_simp
        refine hK.out _ _ ?_ (fun hHeld2 => ?_)
        · (try dsimp only)
          first | exact hHeld | exact ⟨far_set HNE.out hHeld.1, far_set HNE.out hHeld.2.1, far_set HNE.out hHeld.2.2⟩
        clear hHeld hK K
        have hHeld := hHeld2
        clear hHeld2
        try simp only [Act.put, List.setIfInBounds_toArray, List.set_cons_zero, List.set_cons_succ]
        refine pure_ (i := 16) (N := some 21) (v := ?_) (a' := ?_) #[true, true, true, true, true, true, true, true, true, true, true, true, true, true, true, true, true, false] rfl rfl (by kernel_rfl) (fun _ _ _ h => h) (Or.inl ⟨by rfl, ?_⟩) ?_ ?_
        rotate_left
        · intro w'
          go_simp
          (try with_reducible rfl)
        rotate_left
        · simp only [Act.put, List.setIfInBounds_toArray, List.set_cons_zero, List.set_cons_succ]
          rfl
        refine last_ (i := 17) (N := none) #[true, true, true, true, true, true, true, true, true, true, true, true, true, true, true, true, true, true] rfl rfl (by kernel_rfl) (by decide) (fun K hK => ?_)
        go_simp
        refine hK.out _ _ ?_
        (try clear hHeld)
        clear hK K
        try simp only [Act.put, List.setIfInBounds_toArray, List.set_cons_zero, List.set_cons_succ]
        refine wpAnyLast_done (by kernel_rfl) ?_ _
        go_wp2_with fail
        go_meet
        exact ⟨rfl, ⟨HMID.out⟩⟩
      go_simp
      refine hK.out _ _ ?_ (fun hHeld2 => ?_)
      · (try dsimp only)
        first | exact hHeld | exact ⟨far_set HNE.out hHeld.1, far_set HNE.out hHeld.2.1, far_set HNE.out hHeld.2.2⟩
      clear hHeld hK K
      have hHeld := hHeld2
      clear hHeld2
      try simp only [Act.put, List.setIfInBounds_toArray, List.set_cons_zero, List.set_cons_succ]
      refine one_ (i := 7) (N := some 14) #[true, true, true, true, true, true, true, true, true, true, true, true, true, true, false, false, false, false] rfl rfl (by kernel_rfl) (by decide) (fun K hK => ?_)
      go_simp
      refine hK.out _ _ ?_ (fun hHeld2 => ?_)
      · (try dsimp only)
        first | exact hHeld | exact ⟨far_set HNE.out hHeld.1, far_set HNE.out hHeld.2.1, far_set HNE.out hHeld.2.2⟩
      clear hHeld hK K
      have hHeld := hHeld2
      clear hHeld2
      try simp only [Act.put, List.setIfInBounds_toArray, List.set_cons_zero, List.set_cons_succ]
      refine pure_ (i := 14) (N := some 20) (v := ?_) (a' := ?_) #[true, true, true, true, true, true, true, true, true, true, true, true, true, true, true, false, false, false] rfl rfl (by kernel_rfl) (fun _ _ _ h => h) (Or.inl ⟨by rfl, ?_⟩) ?_ ?_
      rotate_left
      · intro w'
        go_simp
        (try with_reducible rfl)
      rotate_left
      · simp only [Act.put, List.setIfInBounds_toArray, List.set_cons_zero, List.set_cons_succ]
        rfl
      refine one_ (i := 15) (N := none) #[true, true, true, true, true, true, true, true, true, true, true, true, true, true, true, true, false, false] rfl rfl (by kernel_rfl) (by decide) (fun K hK => ?_)
      go_simp
      refine hK.out _ _ ?_ (fun hHeld2 => ?_)
      · (try dsimp only)
        first | exact hHeld | exact ⟨far_set HNE.out hHeld.1, far_set HNE.out hHeld.2.1, far_set HNE.out hHeld.2.2⟩
      clear hHeld hK K
      have hHeld := hHeld2
      clear hHeld2
      try simp only [Act.put, List.setIfInBounds_toArray, List.set_cons_zero, List.set_cons_succ]
      refine pure_ (i := 16) (N := some 21) (v := ?_) (a' := ?_) #[true, true, true, true, true, true, true, true, true, true, true, true, true, true, true, true, true, false] rfl rfl (by kernel_rfl) (fun _ _ _ h => h) (Or.inl ⟨by rfl, ?_⟩) ?_ ?_
      rotate_left
      · intro w'
        go_simp
        (try with_reducible rfl)
      rotate_left
      · simp only [Act.put, List.setIfInBounds_toArray, List.set_cons_zero, List.set_cons_succ]
        rfl
      refine last_ (i := 17) (N := none) #[true, true, true, true, true, true, true, true, true, true, true, true, true, true, true, true, true, true] rfl rfl (by kernel_rfl) (by decide) (fun K hK => ?_)
      go_simp
      refine hK.out _ _ ?_
      (try clear hHeld)
      clear hK K
      try simp only [Act.put, List.setIfInBounds_toArray, List.set_cons_zero, List.set_cons_succ]
      refine wpAnyLast_done (by kernel_rfl) ?_ _
      go_wp2_with fail
      go_meet
      exact ⟨rfl, ⟨HMID.out⟩⟩
    go_simp
    refine hK.out _ _ ?_ (fun hHeld2 => ?_)
    · (try dsimp only)
      first | exact hHeld | exact ⟨far_set HNE.out hHeld.1, far_set HNE.out hHeld.2.1, far_set HNE.out hHeld.2.2⟩
    clear hHeld hK K
    have hHeld := hHeld2
    clear hHeld2
    try simp only [Act.put, List.setIfInBounds_toArray, List.set_cons_zero, List.set_cons_succ]
    refine two_ (i := 7) (j := 11) (Ni := some 14) (Nj := some 18) #[true, true, true, true, true, true, true, true, true, true, true, false, true, true, false, false, false, false] #[true, true, true, true, true, true, true, false, true, true, true, true, true, true, false, false, false, false] rfl rfl rfl rfl (by kernel_rfl) (by decide) (by decide) (fun K hK => ?_) (fun K hK => ?_)
    · skip
      go_simp
      refine hK.out _ _ ?_ (fun hHeld2 => ?_)
      · (try dsimp only)
        first | exact hHeld | exact ⟨far_set HNE.out hHeld.1, far_set HNE.out hHeld.2.1, far_set HNE.out hHeld.2.2⟩
      clear hHeld hK K
      have hHeld := hHeld2
      clear hHeld2
      try simp only [Act.put, List.setIfInBounds_toArray, List.set_cons_zero, List.set_cons_succ]
      refine pure_ (i := 14) (N := some 20) (v := ?_) (a' := ?_) #[true, true, true, true, true, true, true, true, true, true, true, false, true, true, true, false, false, false] rfl rfl (by kernel_rfl) (fun _ _ _ h => h) (Or.inl ⟨by rfl, ?_⟩) ?_ ?_
      rotate_left
      · intro w'
        go_simp
        (try with_reducible rfl)
      rotate_left
      · simp only [Act.put, List.setIfInBounds_toArray, List.set_cons_zero, List.set_cons_succ]
        rfl
      refine two_ (i := 11) (j := 15) (Ni := some 18) (Nj := none) #[true, true, true, true, true, true, true, true, true, true, true, true, true, true, true, false, false, false] #[true, true, true, true, true, true, true, true, true, true, true, false, true, true, true, true, false, false] rfl rfl rfl rfl (by kernel_rfl) (by decide) (by decide) (fun K hK => ?_) (fun K hK => ?_)
      · skip
        go_simp
        refine hK.out _ _ ?_ (fun hHeld2 => ?_)
        · (try dsimp only)
          first | exact hHeld | exact ⟨far_set HNE.out hHeld.1, far_set HNE.out hHeld.2.1, far_set HNE.out hHeld.2.2⟩
        clear hHeld hK K
        have hHeld := hHeld2
        clear hHeld2
        try simp only [Act.put, List.setIfInBounds_toArray, List.set_cons_zero, List.set_cons_succ]
        refine one_ (i := 15) (N := none) #[true, true, true, true, true, true, true, true, true, true, true, true, true, true, true, true, false, false] rfl rfl (by kernel_rfl) (by decide) (fun K hK => ?_)
        go_simp
        refine hK.out _ _ ?_ (fun hHeld2 => ?_)
        · (try dsimp only)
          first | exact hHeld | exact ⟨far_set HNE.out hHeld.1, far_set HNE.out hHeld.2.1, far_set HNE.out hHeld.2.2⟩
        clear hHeld hK K
        have hHeld := hHeld2
        clear hHeld2
        try simp only [Act.put, List.setIfInBounds_toArray, List.set_cons_zero, List.set_cons_succ]
        refine pure_ (i := 16) (N := some 21) (v := ?_) (a' := ?_) #[true, true, true, true, true, true, true, true, true, true, true, true, true, true, true, true, true, false] rfl rfl (by kernel_rfl) (fun _ _ _ h => h) (Or.inl ⟨by rfl, ?_⟩) ?_ ?_
        rotate_left
        · intro w'
          go_simp
          (try with_reducible rfl)
        rotate_left
        · simp only [Act.put, List.setIfInBounds_toArray, List.set_cons_zero, List.set_cons_succ]
          rfl
        refine last_ (i := 17) (N := none) #[true, true, true, true, true, true, true, true, true, true, true, true, true, true, true, true, true, true] rfl rfl (by kernel_rfl) (by decide) (fun K hK => ?_)
        go_simp
        refine hK.out _ _ ?_
        (try clear hHeld)
        clear hK K
        try simp only [Act.put, List.setIfInBounds_toArray, List.set_cons_zero, List.set_cons_succ]
        refine wpAnyLast_done (by kernel_rfl) ?_ _
        go_wp2_with fail
        go_meet
        exact ⟨rfl, ⟨HMID.out⟩⟩
      go_simp
      refine hK.out _ _ ?_ (fun hHeld2 => ?_)
      · (try dsimp only)
        first | exact hHeld | exact ⟨far_set HNE.out hHeld.1, far_set HNE.out hHeld.2.1, far_set HNE.out hHeld.2.2⟩
      clear hHeld hK K
      have hHeld := hHeld2
      clear hHeld2
      try simp only [Act.put, List.setIfInBounds_toArray, List.set_cons_zero, List.set_cons_succ]
      refine one_ (i := 11) (N := some 18) #[true, true, true, true, true, true, true, true, true, true, true, true, true, true, true, true, false, false] rfl rfl (by kernel_rfl) (by decide) (fun K hK => ?_)
      go_simp
      refine hK.out _ _ ?_ (fun hHeld2 => ?_)
      · (try dsimp only)
        first | exact hHeld | exact ⟨far_set HNE.out hHeld.1, far_set HNE.out hHeld.2.1, far_set HNE.out hHeld.2.2⟩
      clear hHeld hK K
      have hHeld := hHeld2
      clear hHeld2
      try simp only [Act.put, List.setIfInBounds_toArray, List.set_cons_zero, List.set_cons_succ]
      refine pure_ (i := 16) (N := some 21) (v := ?_) (a' := ?_) #[true, true, true, true, true, true, true, true, true, true, true, true, true, true, true, true, true, false] rfl rfl (by kernel_rfl) (fun _ _ _ h => h) (Or.inl ⟨by rfl, ?_⟩) ?_ ?_
      rotate_left
      · intro w'
        go_simp
        (try with_reducible rfl)
      rotate_left
      · simp only [Act.put, List.setIfInBounds_toArray, List.set_cons_zero, List.set_cons_succ]
        rfl
      refine last_ (i := 17) (N := none) #[true, true, true, true, true, true, true, true, true, true, true, true, true, true, true, true, true, true] rfl rfl (by kernel_rfl) (by decide) (fun K hK => ?_)
      go_simp
      refine hK.out _ _ ?_
      (try clear hHeld)
      clear hK K
      try simp only [Act.put, List.setIfInBounds_toArray, List.set_cons_zero, List.set_cons_succ]
      refine wpAnyLast_done (by kernel_rfl) ?_ _
      go_wp2_with fail
      go_meet
      exact ⟨rfl, ⟨HMID.out⟩⟩
    go_simp
    refine hK.out _ _ ?_ (fun hHeld2 => ?_)
    · (try dsimp only)
      first | exact hHeld | exact ⟨far_set HNE.out hHeld.1, far_set HNE.out hHeld.2.1, far_set HNE.out hHeld.2.2⟩
    clear hHeld hK K
    have hHeld := hHeld2
    clear hHeld2
    try simp only [Act.put, List.setIfInBounds_toArray, List.set_cons_zero, List.set_cons_succ]
    refine one_ (i := 7) (N := some 14) #[true, true, true, true, true, true, true, true, true, true, true, true, true, true, false, false, false, false] rfl rfl (by kernel_rfl) (by decide) (fun K hK => ?_)
    go_simp
    refine hK.out _ _ ?_ (fun hHeld2 => ?_)
    · (try dsimp only)
      first | exact hHeld | exact ⟨far_set HNE.out hHeld.1, far_set HNE.out hHeld.2.1, far_set HNE.out hHeld.2.2⟩
    clear hHeld hK K
    have hHeld := hHeld2
    clear hHeld2
    try simp only [Act.put, List.setIfInBounds_toArray, List.set_cons_zero, List.set_cons_succ]
    refine pure_ (i := 14) (N := some 20) (v := ?_) (a' := ?_) #[true, true, true, true, true, true, true, true, true, true, true, true, true, true, true, false, false, false] rfl rfl (by kernel_rfl) (fun _ _ _ h => h) (Or.inl ⟨by rfl, ?_⟩) ?_ ?_
    rotate_left
    · intro w'
      go_simp
      (try with_reducible rfl)
    rotate_left
    · simp only [Act.put, List.setIfInBounds_toArray, List.set_cons_zero, List.set_cons_succ]
      rfl
    refine one_ (i := 15) (N := none) #[true, true, true, true, true, true, true, true, true, true, true, true, true, true, true, true, false, false] rfl rfl (by kernel_rfl) (by decide) (fun K hK => ?_)
    go_simp
    refine hK.out _ _ ?_ (fun hHeld2 => ?_)
    · (try dsimp only)
      first | exact hHeld | exact ⟨far_set HNE.out hHeld.1, far_set HNE.out hHeld.2.1, far_set HNE.out hHeld.2.2⟩
    clear hHeld hK K
    have hHeld := hHeld2
    clear hHeld2
    try simp only [Act.put, List.setIfInBounds_toArray, List.set_cons_zero, List.set_cons_succ]
    refine pure_ (i := 16) (N := some 21) (v := ?_) (a' := ?_) #[true, true, true, true, true, true, true, true, true, true, true, true, true, true, true, true, true, false] rfl rfl (by kernel_rfl) (fun _ _ _ h => h) (Or.inl ⟨by rfl, ?_⟩) ?_ ?_
    rotate_left
    · intro w'
      go_simp
      (try with_reducible rfl)
    rotate_left
    · simp only [Act.put, List.setIfInBounds_toArray, List.set_cons_zero, List.set_cons_succ]
      rfl
    refine last_ (i := 17) (N := none) #[true, true, true, true, true, true, true, true, true, true, true, true, true, true, true, true, true, true] rfl rfl (by kernel_rfl) (by decide) (fun K hK => ?_)
    go_simp
    refine hK.out _ _ ?_
    (try clear hHeld)
    clear hK K
    try simp only [Act.put, List.setIfInBounds_toArray, List.set_cons_zero, List.set_cons_succ]
    refine wpAnyLast_done (by kernel_rfl) ?_ _
    go_wp2_with fail
    go_meet
    exact ⟨rfl, ⟨HMID.out⟩⟩
  case rest =>
    obtain ⟨rfl, HK⟩ := hcut
    have M4 := Lib.hid HK.out
    obtain ⟨z0, z1, z2, z3, z4, z5, z6⟩ := msC_cells M4.out.q
    clear HK M3 HMID
    go_wp2_with fail
    refine (mgood_walk k own peer view s A1 none n c1 0 0 (by omega) (by omega) wc).mono ?_
    rintro e w5 ⟨rfl, hb5⟩
    rw [show msB k own peer n 0 = true by unfold msB goodB; simp; omega]
    have M5 := Lib.hid (M4.out.below hb5)
    clear hb5 z0 z1 z2 z3 z4 z5 z6
    obtain ⟨Al, cl, hc5, ho5⟩ := M5.out.S.cl
    obtain ⟨l0, l1, l2, l3, l4, l5, l6, l7, l8⟩ := lkC_cells hc5
    obtain ⟨z0, z1, z2, z3, z4, z5, z6⟩ := msC_cells M5.out.q
    have n1 : (1024 : Int) ≤ (L.length : Int) := by omega
    have n2 : ¬ k = 1 := by omega
    clear hc5 ho5
    go_wp2_with fail
    go_ret
    exact ⟨rfl, M5.out.S, M5.out.B⟩
end Go.Proofs.Ytbkpgkkfkjlnnaa
