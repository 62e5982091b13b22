/- Links of any messages: copied (printed by a program of mine, mklgl.py). -/
import Derived.Test.YtbkpgkkfkjlnnaaLgK
set_option linter.unusedVariables false
set_option linter.unusedSimpArgs false
namespace Go.Proofs.Ytbkpgkkfkjlnnaa.G
open Go.RowKit Go.Proofs.YtbkpgkkfkjlnnaaW.PrintWords Go.Proofs.YtbkpgkkfkjlnnaaW.PrintLast Go.Proofs.Ytbkpgkkfkjlnnaa.K Go.Proofs.Ytbkpgkkfkjlnnaa.Row Go.Proofs.Ytbkpgkkfkjlnnaa

set_option maxRecDepth 100000 in
set_option maxHeartbeats 4000000 in
/-- A message's copy: with rows of its own. -/
theorem copied_any (k f t v s : Int) (A B : Option Addr) (n c m d : Nat) (xs : List Int) (ys : List (Int × Int)) (W : World) (h : ReadsInt W .i64 A n xs) (hw : WidesAt W B m ys) (hn : n ≤ 1000000) (hm : m ≤ 1000000) (hA : A = none → c = 0) (hBn : B = none → m = 0 ∧ d = 0) :
    Calls Try.prog 26 #[.agg (msC k f t v s (.slice A n c) (.slice B m d))] W fun e w' => ∃ A1 c1 B1 d1, e = .returned (.agg (msC k f t v s (.slice A1 n c1) (.slice B1 m d1))) ∧ w'.ownsRow W.heap.size 2 1 (.slice A1 n c1) n (nums .i64 xs) ∧ w'.ownsRow W.heap.size 79 2 (.slice B1 m d1) m (wides ys) ∧ Below W.heap.size W w' := by
  obtain ⟨w0, hw0⟩ : ∃ w0, w0 = (W.alloc (.cells (msC k f t v s (.slice A n c) (.slice B m d)) 32)).alloc (.cells (msC 0 0 0 0 0 (.slice none 0 0) (.slice none 0 0)) 32) := ⟨_, rfl⟩
  have hb0 : Below W.heap.size W w0 := by rw [hw0]; exact alloc_back2 _ _
  have q0 : w0.heap[W.heap.size]? = some (.cells (msC k f t v s (.slice A n c) (.slice B m d)) 32 (0, 0)) := by rw [hw0]; exact two_old _ _ _
  have p0 : w0.heap[W.heap.size + 1]? = some (.cells (msC 0 0 0 0 0 (.slice none 0 0) (.slice none 0 0)) 32 (0, 0)) := by rw [hw0]; simp only [hal]; exact hpush2 _ _ _
  have HL := Lib.hid h; have HLW := Lib.hid hw; have HB := Lib.hid hb0; have HW0 := Lib.hid hw0
  have QD := Lib.hid (show w0.drew.heap[W.heap.size]? = some (.cells (msC k f t v s (.slice A n c) (.slice B m d)) 32 (0, 0)) from q0)
  have PD := Lib.hid (show w0.drew.heap[W.heap.size + 1]? = some (.cells (msC 0 0 0 0 0 (.slice none 0 0) (.slice none 0 0)) 32 (0, 0)) from p0)
  obtain ⟨d0, d1, d2, d3, d4, d5, d6⟩ := msC_cells q0
  clear h hw hb0 hw0 q0 p0 d0 d1 d2 d3 d4
  go_enter Try.func26, Try.ntmps26
  go_wp2_with fail
  rw [← HW0.out]
  refine start_ (n := 10) (S := fun w' => w'.cell? ⟨W.heap.size, 5, none⟩ = some (.slice A n c) ∧ w'.cell? ⟨W.heap.size, 6, none⟩ = some (.slice B m d)) (ds := [7, 9]) #[false, false, false, false, false, false, false, false, false, false] (by kernel_rfl) rfl rfl (⟨d5, d6⟩) (fun hHeld => ?_)
  refine pure_ (i := 0) (N := some 3) (v := ?_) (a' := ?_) #[true, false, false, false, false, false, false, false, false, false] rfl rfl (by kernel_rfl) (fun _ _ _ h => h) (Or.inl ⟨by rfl, ?_⟩) ?_ ?_
  rotate_left
  · intro w'
    go_simp
    (try with_reducible rfl)
  rotate_left
  · simp only [Act.put, List.setIfInBounds_toArray, List.set_cons_zero, List.set_cons_succ]
    rfl
  refine take_ (i := 1) (N := some 4) (v := ?_) (a' := ?_) #[true, true, false, false, false, false, false, false, false, false] rfl rfl (by kernel_rfl) (fun _ _ _ h => h) (Or.inl ⟨by rfl, ?_⟩) hHeld ?_ ?_
  rotate_left
  · rintro w' ⟨s0, s1⟩
    go_simp
    (try with_reducible rfl)
  rotate_left
  · simp only [Act.put, List.setIfInBounds_toArray, List.set_cons_zero, List.set_cons_succ]
    rfl
  refine pure_ (i := 3) (N := some 6) (v := ?_) (a' := ?_) #[true, true, false, true, false, false, false, false, false, false] rfl rfl (by kernel_rfl) (fun _ _ _ h => h) (Or.inl ⟨by rfl, ?_⟩) ?_ ?_
  rotate_left
  · intro w'
    go_simp
    (try with_reducible rfl)
  rotate_left
  · simp only [Act.put, List.setIfInBounds_toArray, List.set_cons_zero, List.set_cons_succ]
    rfl
  refine take_ (i := 4) (N := some 7) (v := ?_) (a' := ?_) #[true, true, false, true, true, false, false, false, false, false] rfl rfl (by kernel_rfl) (fun _ _ _ h => h) (Or.inl ⟨by rfl, ?_⟩) hHeld ?_ ?_
  rotate_left
  · rintro w' ⟨s0, s1⟩
    go_simp
    (try with_reducible rfl)
  rotate_left
  · simp only [Act.put, List.setIfInBounds_toArray, List.set_cons_zero, List.set_cons_succ]
    rfl
  refine one_ (i := 2) (N := some 5) #[true, true, true, true, true, false, false, false, false, false] rfl rfl (by kernel_rfl) (by decide) (fun K hK => ?_)
  go_simp
  refine (clone_walk A n c xs _ (HL.out.below (by first | exact below_drew HB.out | exact HB.out)) (by omega) hA).mono ?_
  rintro e w1 ⟨A1, c1, rfl, ho1, hb1⟩
  have HB1 := Lib.hid (below_then (below_drew HB.out) HB.out.size hb1)
  have Q1 := Lib.hid (heap_keep' hb1 QD.out)
  have P1 := Lib.hid (heap_keep' hb1 PD.out)
  have HO1 := Lib.hid ho1
  obtain ⟨z0, z1, z2, z3, z4, z5, z6⟩ := msC_cells Q1.out
  clear ho1 hb1 z0 z1 z2 z3 z4
  try go_wp2_with fail
  refine hK.out _ _ ?_ (fun hHeld2 => ?_)
  · (try dsimp only)
    exact ⟨z5, z6⟩
  clear hHeld hK K
  have hHeld := hHeld2
  clear hHeld2
  try simp only [Act.put, List.setIfInBounds_toArray, List.set_cons_zero, List.set_cons_succ]
  refine pure_ (i := 6) (N := some 9) (v := ?_) (a' := ?_) #[true, true, true, true, true, false, true, false, false, false] rfl rfl (by kernel_rfl) (fun _ _ _ h => h) (Or.inl ⟨by rfl, ?_⟩) ?_ ?_
  rotate_left
  · intro w'
    go_simp
    (try with_reducible rfl)
  rotate_left
  · simp only [Act.put, List.setIfInBounds_toArray, List.set_cons_zero, List.set_cons_succ]
    rfl
  refine one_ (i := 5) (N := some 8) #[true, true, true, true, true, true, true, false, false, false] rfl rfl (by kernel_rfl) (by decide) (fun K hK => ?_)
  go_simp
  refine (wclone_walk B m d ys _ (HLW.out.below HB1.out) (by omega) hBn).mono ?_
  rintro e w2 ⟨B1, d1, rfl, ho2, hb2⟩
  have HB2 := Lib.hid (below_then HB1.out HB1.out.size hb2)
  have Q2 := Lib.hid (heap_keep' hb2 Q1.out)
  have P2 := Lib.hid (heap_keep' hb2 P1.out)
  have HO2 := Lib.hid ho2
  have HO12 := Lib.hid (pw_own_below HO1.out hb2)
  have HS12 := Lib.hid HB1.out.size
  clear z5 z6
  obtain ⟨z0, z1, z2, z3, z4, z5, z6⟩ := msC_cells Q2.out
  have f5 := froz Q2.out 5
  have f6 := froz Q2.out 6
  clear ho2 hb2 z0 z1 z2 z3 z4
  try go_wp2_with fail
  refine hK.out _ _ ?_ (fun hHeld2 => ?_)
  · (try dsimp only)
    exact ⟨z5, z6⟩
  clear hHeld hK K
  have hHeld := hHeld2
  clear hHeld2
  try simp only [Act.put, List.setIfInBounds_toArray, List.set_cons_zero, List.set_cons_succ]
  refine last_ (i := 7) (N := none) #[true, true, true, true, true, true, true, true, false, false] rfl rfl (by kernel_rfl) (by decide) (fun K hK => ?_)
  go_simp
  refine hK.out _ _ ?_
  (try clear hHeld)
  clear hK K
  try simp only [Act.put, List.setIfInBounds_toArray, List.set_cons_zero, List.set_cons_succ]
  refine pure_ (i := 8) (N := some 10) (v := ?_) (a' := ?_) #[true, true, true, true, true, true, true, true, true, false] rfl rfl (by kernel_rfl) (fun _ _ _ h => h) (Or.inl ⟨by rfl, ?_⟩) ?_ ?_
  rotate_left
  · intro w'
    go_simp
    (try with_reducible rfl)
  rotate_left
  · simp only [Act.put, List.setIfInBounds_toArray, List.set_cons_zero, List.set_cons_succ]
    rfl
  refine last_ (i := 9) (N := none) #[true, true, true, true, true, true, true, true, true, true] rfl rfl (by kernel_rfl) (by decide) (fun K hK => ?_)
  go_simp
  refine hK.out _ _ ?_
  (try clear hHeld)
  clear hK K
  try simp only [Act.put, List.setIfInBounds_toArray, List.set_cons_zero, List.set_cons_succ]
  refine wpAnyLast_done (by kernel_rfl) ?_ _
  obtain ⟨w3, hw3⟩ : ∃ w3, w3 = (w2.setCell ⟨W.heap.size, 5, none⟩ (.slice A1 n c1)).setCell ⟨W.heap.size, 6, none⟩ (.slice B1 m d1) := ⟨_, rfl⟩
  have hg3 : w2.grownBy w3 (some W.heap.size) := by rw [hw3]; exact World.grownBy.trans (grown_set _) (grown_set _)
  have Q3 := Lib.hid (show w3.heap[W.heap.size]? = some (.cells (msC k f t v s (.slice A1 n c1) (.slice B1 m d1)) 32 (0, 0)) by rw [hw3]; exact mset2 Q2.out)
  have P3 := Lib.hid ((hg3.block _ (lt_of_heap P2.out) (by intro e; injection e with e; omega)).trans P2.out)
  have HO3 := Lib.hid (own_other HO12.out hg3 (own_ne Q2.out HO12.out (by decide)))
  have HO4 := Lib.hid (own_other HO2.out hg3 (own_ne Q2.out HO2.out (by decide)))
  have B3 := Lib.hid (show Below W.heap.size W w3 from pw_below_grown HB2.out (some W.heap.size) HB2.out.size hg3 (fun k e => by cases e; exact Nat.le_refl _))
  rw [← hw3]
  clear hw3 hg3 z5 z6 f5 f6
  obtain ⟨z0, z1, z2, z3, z4, z5, z6⟩ := msC_cells Q3.out
  obtain ⟨y0, y1, y2, y3, y4, y5, y6⟩ := msC_cells P3.out
  have f0 := froz P3.out 0
  have f1 := froz P3.out 1
  have f2 := froz P3.out 2
  have f3 := froz P3.out 3
  have f4 := froz P3.out 4
  have f5 := froz P3.out 5
  have f6 := froz P3.out 6
  go_wp2_with fail
  (try simp only [Exit.inBlock, Exit.then])
  refine bodyPost_ret (results_cell_row rfl _ _ (W.heap.size + 1) 32 (msC k f t v s (.slice A1 n c1) (.slice B1 m d1)) (0, 0) _ rfl (mset7 P3.out) Try.underlying32 rfl (by kernel_rfl)) rfl ?_
  have hg7 := mgrown7 w3 (W.heap.size + 1) (.int .i64 k) (.int .i64 f) (.int .i64 t) (.int .u32 v) (.int .u32 s) (.slice A1 n c1) (.slice B1 m d1)
  exact ⟨A1, c1, B1, d1, rfl, own_base_le (own_other HO3.out hg7 (own_ne P3.out HO3.out (by decide))) (Nat.le_trans HB.out.size (Nat.le_refl _)), own_base_le (own_other HO4.out hg7 (own_ne P3.out HO4.out (by decide))) HS12.out, pw_below_grown B3.out (some (W.heap.size + 1)) B3.out.size hg7 (fun k e => by cases e; exact Nat.le_succ _)⟩
end Go.Proofs.Ytbkpgkkfkjlnnaa.G
