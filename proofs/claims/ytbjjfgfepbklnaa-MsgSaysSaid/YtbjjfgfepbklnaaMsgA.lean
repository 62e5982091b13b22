/- Walks of package msg: frameOf, Good; the reference's May; mown, heavy. -/
import Derived.Test.YtbjjfgfepbklnaaMsgM
set_option linter.unusedVariables false
set_option linter.unusedSimpArgs false
namespace Go.Proofs.Ytbjjfgfepbklnaa
open Go.RowKit Go.Proofs.YtbjjfgfepbklnaaW.PrintWords Go.Proofs.Ytbjjfgfepbklnaa.K

theorem alloc_back {W : World} (o : Obj) : Below W.heap.size W (W.alloc o) := (Below.refl _ _).alloc (Nat.le_refl _) o
theorem alloc_back2 {W : World} (o o' : Obj) : Below W.heap.size W ((W.alloc o).alloc o') := (alloc_back o).alloc (alloc_back o).size _
abbrev msC (k f t v s : Int) (A B : Value) : Array Value := #[.int .i64 k, .int .i64 f, .int .i64 t, .int .u32 v, .int .u32 s, A, B]
def msB (k f t : Int) (n m : Nat) : Bool := decide (goodB k f t 0) && (decide (n ≤ 500) && decide (m ≤ 500))
theorem msB_iff (x : Ms) : msB x.k x.f x.t x.n.length x.w.length = true ↔ x.good := by
  simp [msB, goodB, Ms.good]; omega
theorem msC_cells {w : World} {r : Nat} {k f t v s : Int} {A B : Value} {ty : TypeId} (h : w.heap[r]? = some (.cells (msC k f t v s A B) ty (0, 0))) :
    w.cell? ⟨r, 0, none⟩ = some (.int .i64 k) ∧ w.cell? ⟨r, 1, none⟩ = some (.int .i64 f) ∧ w.cell? ⟨r, 2, none⟩ = some (.int .i64 t) ∧ w.cell? ⟨r, 3, none⟩ = some (.int .u32 v) ∧ w.cell? ⟨r, 4, none⟩ = some (.int .u32 s) ∧ w.cell? ⟨r, 5, none⟩ = some A ∧ w.cell? ⟨r, 6, none⟩ = some B := by
  simp [World.cell?, h]
set_option maxHeartbeats 400000 in
theorem frameOf_walk (k f t v s : Int) (A B C : Option Addr) (n c m d n' c' : Nat) (W : World) : Calls Try.prog 31 #[.agg (msC k f t v s (.slice A n c) (.slice B m d)), .slice C n' c'] W fun e w' => e = .returned (.agg (frC k f t v s (.slice C n' c'))) ∧ Below W.heap.size W w' := by
  have hb : ∀ o o' : Obj, Below W.heap.size W ((W.alloc o).alloc o') := fun o o' => alloc_back2 o o'
  have HB := Lib.hid hb; clear hb
  go_enter Try.func31, Try.ntmps31
  go_wp2_with fail
  (try simp only [Exit.inBlock, Exit.then])
  refine bodyPost_ret (results_cell_row rfl _ _ (W.heap.size + 1) 49 (frC k f t v s (.slice C n' c')) (0, 0) _ rfl (by simp only [hal]; exact hpush2 _ _ _) Try.underlying49 rfl (by kernel_rfl)) rfl ?_
  exact ⟨rfl, HB.out _ _⟩
set_option maxHeartbeats 800000 in
theorem mgood_walk (k f t v s : Int) (A B : Option Addr) (n c m d : Nat) (hn : n ≤ 140737488351232) (hm : m ≤ 140737488351232) (W : World) :
    Calls Try.prog 11 #[.agg (msC k f t v s (.slice A n c) (.slice B m d))] W fun e w' => e = .returned (.bool (msB k f t n m)) ∧ Below W.heap.size W w' := by
  by_cases h0 : goodB k f t 0
  · have E0 := Lib.hid (decide_eq_true h0)
    clear h0
    by_cases h1 : n ≤ 500
    · by_cases h2 : m ≤ 500
      · have MB := Lib.hid (show msB k f t n m = true by unfold msB; rw [E0.out, decide_eq_true h1, decide_eq_true h2]; rfl)
        go_enter Try.func11, Try.ntmps11
        go_wp2_with fail
        obtain ⟨w0, hw0⟩ : ∃ w0, w0 = W.alloc (.cells (msC k f t v s (.slice A n c) (.slice B m d)) 27) := ⟨_, rfl⟩
        have hb0 : Below W.heap.size W w0 := by rw [hw0]; exact alloc_back _
        have q0 : w0.heap[W.heap.size]? = some (.cells (msC k f t v s (.slice A n c) (.slice B m d)) 27 (0, 0)) := by rw [hw0]; exact heap_alloc_new _ _
        rw [← hw0]
        clear hw0
        refine (frameOf_walk k f t v s A B none n c m d 0 0 w0).mono ?_
        rintro e w1 ⟨rfl, hb1⟩
        go_wp2_with fail
        refine (good_walk k f t v s none 0 0 (by decide) w1).mono ?_
        rintro e w2 ⟨rfl, hw2⟩
        have hb2 : Below W.heap.size W w2 := by rw [← hw2]; exact (below_then hb0 hb0.size hb1).alloc (below_then hb0 hb0.size hb1).size _
        obtain ⟨c0, c1, c2, c3, c4, c5, c6⟩ := msC_cells (show w2.heap[W.heap.size]? = some (.cells (msC k f t v s (.slice A n c) (.slice B m d)) 27 (0, 0)) by
          rw [← hw2, heap_alloc_old _ _ (Nat.lt_of_lt_of_le (lt_of_heap q0) hb1.size), hb1.block _ (lt_of_heap q0)]; exact q0)
        rw [E0.out]
        clear hw2 q0
        go_wp2_with fail
        go_ret
        exact ⟨by rw [MB.out]; first | rfl | (simp; omega), hb2⟩
      · have MB := Lib.hid (show msB k f t n m = false by unfold msB; rw [decide_eq_false h2]; simp)
        go_enter Try.func11, Try.ntmps11
        go_wp2_with fail
        obtain ⟨w0, hw0⟩ : ∃ w0, w0 = W.alloc (.cells (msC k f t v s (.slice A n c) (.slice B m d)) 27) := ⟨_, rfl⟩
        have hb0 : Below W.heap.size W w0 := by rw [hw0]; exact alloc_back _
        have q0 : w0.heap[W.heap.size]? = some (.cells (msC k f t v s (.slice A n c) (.slice B m d)) 27 (0, 0)) := by rw [hw0]; exact heap_alloc_new _ _
        rw [← hw0]
        clear hw0
        refine (frameOf_walk k f t v s A B none n c m d 0 0 w0).mono ?_
        rintro e w1 ⟨rfl, hb1⟩
        go_wp2_with fail
        refine (good_walk k f t v s none 0 0 (by decide) w1).mono ?_
        rintro e w2 ⟨rfl, hw2⟩
        have hb2 : Below W.heap.size W w2 := by rw [← hw2]; exact (below_then hb0 hb0.size hb1).alloc (below_then hb0 hb0.size hb1).size _
        obtain ⟨c0, c1, c2, c3, c4, c5, c6⟩ := msC_cells (show w2.heap[W.heap.size]? = some (.cells (msC k f t v s (.slice A n c) (.slice B m d)) 27 (0, 0)) by
          rw [← hw2, heap_alloc_old _ _ (Nat.lt_of_lt_of_le (lt_of_heap q0) hb1.size), hb1.block _ (lt_of_heap q0)]; exact q0)
        rw [E0.out]
        clear hw2 q0
        go_wp2_with fail
        go_ret
        exact ⟨by rw [MB.out]; first | rfl | (simp; omega), hb2⟩
    · have MB := Lib.hid (show msB k f t n m = false by unfold msB; rw [decide_eq_false h1]; simp)
      go_enter Try.func11, Try.ntmps11
      go_wp2_with fail
      obtain ⟨w0, hw0⟩ : ∃ w0, w0 = W.alloc (.cells (msC k f t v s (.slice A n c) (.slice B m d)) 27) := ⟨_, rfl⟩
      have hb0 : Below W.heap.size W w0 := by rw [hw0]; exact alloc_back _
      have q0 : w0.heap[W.heap.size]? = some (.cells (msC k f t v s (.slice A n c) (.slice B m d)) 27 (0, 0)) := by rw [hw0]; exact heap_alloc_new _ _
      rw [← hw0]
      clear hw0
      refine (frameOf_walk k f t v s A B none n c m d 0 0 w0).mono ?_
      rintro e w1 ⟨rfl, hb1⟩
      go_wp2_with fail
      refine (good_walk k f t v s none 0 0 (by decide) w1).mono ?_
      rintro e w2 ⟨rfl, hw2⟩
      have hb2 : Below W.heap.size W w2 := by rw [← hw2]; exact (below_then hb0 hb0.size hb1).alloc (below_then hb0 hb0.size hb1).size _
      obtain ⟨c0, c1, c2, c3, c4, c5, c6⟩ := msC_cells (show w2.heap[W.heap.size]? = some (.cells (msC k f t v s (.slice A n c) (.slice B m d)) 27 (0, 0)) by
        rw [← hw2, heap_alloc_old _ _ (Nat.lt_of_lt_of_le (lt_of_heap q0) hb1.size), hb1.block _ (lt_of_heap q0)]; exact q0)
      rw [E0.out]
      clear hw2 q0
      go_wp2_with fail
      go_ret
      exact ⟨by rw [MB.out]; first | rfl | (simp; omega), hb2⟩
  · have E0 := Lib.hid (decide_eq_false h0)
    have MB := Lib.hid (show msB k f t n m = false by unfold msB; rw [E0.out]; rfl)
    clear h0
    go_enter Try.func11, Try.ntmps11
    go_wp2_with fail
    obtain ⟨w0, hw0⟩ : ∃ w0, w0 = W.alloc (.cells (msC k f t v s (.slice A n c) (.slice B m d)) 27) := ⟨_, rfl⟩
    have hb0 : Below W.heap.size W w0 := by rw [hw0]; exact alloc_back _
    have q0 : w0.heap[W.heap.size]? = some (.cells (msC k f t v s (.slice A n c) (.slice B m d)) 27 (0, 0)) := by rw [hw0]; exact heap_alloc_new _ _
    rw [← hw0]
    clear hw0
    refine (frameOf_walk k f t v s A B none n c m d 0 0 w0).mono ?_
    rintro e w1 ⟨rfl, hb1⟩
    go_wp2_with fail
    refine (good_walk k f t v s none 0 0 (by decide) w1).mono ?_
    rintro e w2 ⟨rfl, hw2⟩
    have hb2 : Below W.heap.size W w2 := by rw [← hw2]; exact (below_then hb0 hb0.size hb1).alloc (below_then hb0 hb0.size hb1).size _
    obtain ⟨c0, c1, c2, c3, c4, c5, c6⟩ := msC_cells (show w2.heap[W.heap.size]? = some (.cells (msC k f t v s (.slice A n c) (.slice B m d)) 27 (0, 0)) by
      rw [← hw2, heap_alloc_old _ _ (Nat.lt_of_lt_of_le (lt_of_heap q0) hb1.size), hb1.block _ (lt_of_heap q0)]; exact q0)
    rw [E0.out]
    clear hw2 q0
    go_wp2_with fail
    go_ret
    exact ⟨by rw [MB.out]; first | rfl | (simp; omega), hb2⟩
set_option maxHeartbeats 400000 in
theorem mown_walk (k f t v s : Int) (A B : Option Addr) (n c m d : Nat) (W : World) : Calls Try.prog 16 #[.agg (msC k f t v s (.slice A n c) (.slice B m d))] W fun e w' => e = .returned (.agg (msC k f t v s (.slice A n c) (.slice B m d))) ∧ Below W.heap.size W w' := by
  have hb : ∀ o o' : Obj, Below W.heap.size W ((W.alloc o).alloc o') := fun o o' => alloc_back2 o o'
  have HB := Lib.hid hb; clear hb
  go_enter Try.func16, Try.ntmps16
  go_wp2_with fail
  (try simp only [Exit.inBlock, Exit.then])
  refine bodyPost_ret (results_cell_row rfl _ _ (W.heap.size + 1) 35 (msC k f t v s (.slice A n c) (.slice B m d)) (0, 0) _ rfl (by simp only [hal]; exact hpush2 _ _ _) Try.underlying35 rfl (by kernel_rfl)) rfl ?_
  exact ⟨rfl, HB.out _ _⟩
def heavyB (n m : Nat) : Bool := decide (520 < n) || decide (520 < m)
set_option maxHeartbeats 400000 in
theorem heavy_walk (k f t v s : Int) (A B : Option Addr) (n c m d : Nat) (W : World) : Calls Try.prog 13 #[.agg (msC k f t v s (.slice A n c) (.slice B m d))] W fun e w' => e = .returned (.bool (heavyB n m)) ∧ Below W.heap.size W w' := by
  have hb : ∀ o : Obj, Below W.heap.size W (W.alloc o) := fun o => alloc_back o
  have HB := Lib.hid hb; clear hb
  by_cases h1 : 520 < n
  · have MB := Lib.hid (show heavyB n m = true by unfold heavyB; rw [decide_eq_true h1]; rfl)
    go_enter Try.func13, Try.ntmps13
    go_wp2_with fail
    go_ret
    exact ⟨by rw [MB.out]; first | rfl | (simp; omega), HB.out _⟩
  · by_cases h2 : 520 < m
    · have MB := Lib.hid (show heavyB n m = true by unfold heavyB; rw [decide_eq_true h2]; simp)
      go_enter Try.func13, Try.ntmps13
      go_wp2_with fail
      go_ret
      exact ⟨by rw [MB.out]; first | rfl | (simp; omega), HB.out _⟩
    · have MB := Lib.hid (show heavyB n m = false by unfold heavyB; rw [decide_eq_false h1, decide_eq_false h2]; rfl)
      go_enter Try.func13, Try.ntmps13
      go_wp2_with fail
      go_ret
      exact ⟨by rw [MB.out]; first | rfl | (simp; omega), HB.out _⟩
set_option maxHeartbeats 800000 in
theorem may_walk (k f t v s : Int) (A B : Option Addr) (n c m d : Nat) (hn : n ≤ 140737488351232) (hm : m ≤ 140737488351232) (W : World) :
    Calls Try.prog 17 #[.agg (msC k f t v s (.slice A n c) (.slice B m d))] W fun e w' => e = .returned (.bool (msB k f t n m)) ∧ Below W.heap.size W w' := by
  have hb : ∀ o : Obj, Below W.heap.size W (W.alloc o) := fun o => alloc_back o
  have HB := Lib.hid hb; clear hb
  by_cases g1 : 1 ≤ k ∧ k ≤ 20
  · by_cases g2 : 0 ≤ f ∧ f ≤ 15
    · by_cases g3 : 0 ≤ t ∧ t ≤ 15
      · by_cases h1 : n ≤ 500
        · by_cases h2 : m ≤ 500
          · have MB := Lib.hid (show msB k f t n m = true by unfold msB; rw [decide_eq_true h1, decide_eq_true h2, decide_eq_true (show goodB k f t 0 by unfold goodB; omega)]; rfl)
            go_enter Try.func17, Try.ntmps17
            go_wp2_with (go_at_call 38; refine (in_walk _ _ _ _).mono ?_; rintro e w' ⟨rfl, rfl⟩)
            go_ret
            exact ⟨by rw [MB.out]; first | (simp [g1, g2, g3]; omega) | simp [g1, g2, g3, h1, h2], HB.out _⟩
          · have MB := Lib.hid (show msB k f t n m = false by unfold msB; rw [decide_eq_false h2]; simp)
            go_enter Try.func17, Try.ntmps17
            go_wp2_with (go_at_call 38; refine (in_walk _ _ _ _).mono ?_; rintro e w' ⟨rfl, rfl⟩)
            go_ret
            exact ⟨by rw [MB.out]; first | (simp [g1, g2, g3]; omega) | simp [g1, g2, g3, h1, h2], HB.out _⟩
        · have MB := Lib.hid (show msB k f t n m = false by unfold msB; rw [decide_eq_false h1]; simp)
          go_enter Try.func17, Try.ntmps17
          go_wp2_with (go_at_call 38; refine (in_walk _ _ _ _).mono ?_; rintro e w' ⟨rfl, rfl⟩)
          go_ret
          exact ⟨by rw [MB.out]; first | (simp [g1, g2, g3]; omega) | simp [g1, g2, g3, h1], HB.out _⟩
      · have MB := Lib.hid (show msB k f t n m = false by unfold msB; rw [decide_eq_false (show ¬ goodB k f t 0 by unfold goodB; omega)]; rfl)
        go_enter Try.func17, Try.ntmps17
        go_wp2_with (go_at_call 38; refine (in_walk _ _ _ _).mono ?_; rintro e w' ⟨rfl, rfl⟩)
        go_ret
        exact ⟨by rw [MB.out]; simp [g1, g2, g3], HB.out _⟩
    · have MB := Lib.hid (show msB k f t n m = false by unfold msB; rw [decide_eq_false (show ¬ goodB k f t 0 by unfold goodB; omega)]; rfl)
      go_enter Try.func17, Try.ntmps17
      go_wp2_with (go_at_call 38; refine (in_walk _ _ _ _).mono ?_; rintro e w' ⟨rfl, rfl⟩)
      go_ret
      exact ⟨by rw [MB.out]; simp [g1, g2], HB.out _⟩
  · have MB := Lib.hid (show msB k f t n m = false by unfold msB; rw [decide_eq_false (show ¬ goodB k f t 0 by unfold goodB; omega)]; rfl)
    go_enter Try.func17, Try.ntmps17
    go_wp2_with (go_at_call 38; refine (in_walk _ _ _ _).mono ?_; rintro e w' ⟨rfl, rfl⟩)
    go_ret
    exact ⟨by rw [MB.out]; simp [g1], HB.out _⟩
end Go.Proofs.Ytbjjfgfepbklnaa
