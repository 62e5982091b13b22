/- The walks of msg's awake and of MsgSizes. -/
import Derived.Test.YtbjjfgfepbklnaaMsgO
set_option linter.unusedVariables false
set_option linter.unusedSimpArgs false
namespace Go.Proofs.Ytbjjfgfepbklnaa
open Go.RowKit Go.Proofs.YtbjjfgfepbklnaaW.PrintWords Go.Proofs.Ytbjjfgfepbklnaa.K

def m0 : Ms := ⟨2, 1, 3, 5, 7, [-1], [(1, 2)]⟩
theorem m0_good : m0.good := (msB_iff m0).1 (by decide)
theorem m0_wf : m0.wf := ⟨by decide, by decide, by intro y hy; simp [m0] at hy; subst hy; decide, by intro y hy; simp [m0] at hy; subst hy; decide⟩
set_option maxRecDepth 100000 in
set_option maxHeartbeats 4000000 in
theorem awake_walk (W : World) : Calls Try.prog 8 #[] W fun e w' => e = .returned (.bool true) ∧ Below W.heap.size W w' := by
  go_enter Try.func8, Try.ntmps8
  go_wp2_with fail
  obtain ⟨w1, hw1⟩ : ∃ w1, w1 = (((W.alloc (.cells #[.int .i64 (-1)] 2)).alloc (.cells #[.int .i64 1, .int .u64 2] 47)).alloc (.cells (msC 2 1 3 5 7 (.slice (some ⟨W.heap.size, 0, none⟩) 1 1) (.slice (some ⟨W.heap.size + 1, 0, none⟩) 1 1)) 27)) := ⟨_, rfl⟩
  have hb1 : Below W.heap.size W w1 := by rw [hw1]; exact (alloc_back2 _ _).alloc (alloc_back2 _ _).size _
  have q1 : w1.heap[W.heap.size + 1 + 1]? = some (.cells (msC 2 1 3 5 7 (.slice (some ⟨W.heap.size, 0, none⟩) 1 1) (.slice (some ⟨W.heap.size + 1, 0, none⟩) 1 1)) 27 (0, 0)) := by
    rw [hw1]
    have := heap_alloc_new ((W.alloc (.cells #[.int .i64 (-1)] 2)).alloc (.cells #[.int .i64 1, .int .u64 2] 47)) (.cells (msC 2 1 3 5 7 (.slice (some ⟨W.heap.size, 0, none⟩) 1 1) (.slice (some ⟨W.heap.size + 1, 0, none⟩) 1 1)) 27)
    simpa using this
  have r1 : ReadsInt w1 .i64 (some ⟨W.heap.size, 0, none⟩) 1 m0.n := by
    rw [hw1]
    exact ((reads_lit W .i64 [-1] 2 (0, 0) 1 rfl (by decide)).below (alloc_back2 _ _))
  have r2 : WidesAt w1 (some ⟨W.heap.size + 1, 0, none⟩) 1 m0.w := by
    rw [hw1]
    have h := (wides_lit (W.alloc (.cells #[.int .i64 (-1)] 2)) [(1, 2)] 47 (0, 0) 1 rfl (by decide)).below (alloc_back (.cells (msC 2 1 3 5 7 (.slice (some ⟨W.heap.size, 0, none⟩) 1 1) (.slice (some ⟨W.heap.size + 1, 0, none⟩) 1 1)) 27))
    rw [show (W.alloc (.cells #[.int .i64 (-1)] 2)).heap.size = W.heap.size + 1 by simp] at h
    exact h
  have B1 := Lib.hid hb1; have Q1 := Lib.hid q1; have R1 := Lib.hid r1; have R2 := Lib.hid r2
  (first | rw [← hw1] | skip)
  clear hw1 hb1 q1 r1 r2
  refine (mput_walk m0 m0_good m0_wf _ _ 1 1 1 1 w1 R1.out R2.out).mono ?_
  rintro e w2 ⟨A2, c2, rfl, ho2, hb2⟩
  have RD2 := Lib.hid (own_info ho2).2.2.2.1; have B2 := Lib.hid hb2
  clear ho2 hb2
  go_wp2_with fail
  refine (mget_back m0 m0_good m0_wf A2 47 c2 w2 RD2.out).mono ?_
  rintro e w3 ⟨A3, n3, c3, B3, m3, d3, rfl, hr3, hw3, hb3⟩
  have hb4 := below_then B2.out B2.out.size hb3
  obtain ⟨w4, hw4⟩ : ∃ w4, w4 = w3.alloc (.cells (msC m0.k m0.f m0.t m0.v m0.s (.slice A3 n3 c3) (.slice B3 m3 d3)) 27) := ⟨_, rfl⟩
  have hb5 : Below w3.heap.size w3 w4 := by rw [hw4]; exact alloc_back _
  have q5 : w4.heap[w3.heap.size]? = some (.cells (msC m0.k m0.f m0.t m0.v m0.s (.slice A3 n3 c3) (.slice B3 m3 d3)) 27 (0, 0)) := by rw [hw4]; exact heap_alloc_new _ _
  have hb6 := below_then hb4 hb4.size hb5
  have C4 := Lib.hid (same_walk m0 m0 A3 (some ⟨W.heap.size, 0, none⟩) B3 (some ⟨W.heap.size + 1, 0, none⟩) n3 c3 1 1 m3 d3 1 1 w4 (hr3.below hb5) (R1.out.below hb6) (hw3.below hb5) (R2.out.below hb6))
  obtain ⟨x0, x1, x2, x3, x4, x5, x6⟩ := msC_cells (heap_keep' hb6 Q1.out)
  obtain ⟨y0, y1, y2, y3, y4, y5, y6⟩ := msC_cells q5
  have B6 := Lib.hid hb6
  clear hb4 hb5 hb6 q5 hr3 hw3 hb3
  subst hw4
  go_wp2_with fail
  refine C4.out.mono ?_
  rintro e w5 ⟨rfl, hb5⟩
  rw [show m0.eqb m0 = true by decide]
  have hb7 := below_then B6.out B6.out.size hb5
  have B7 := Lib.hid hb7
  clear x0 x1 x2 x3 x4 x5 x6 y0 y1 y2 y3 y4 y5 y6
  obtain ⟨x0, x1, x2, x3, x4, x5, x6⟩ := msC_cells (heap_keep' hb7 Q1.out)
  clear hb5 hb7
  go_wp2_with fail
  refine (mput_walk m0 m0_good m0_wf _ _ 1 1 1 1 w5 (R1.out.below B7.out) (R2.out.below B7.out)).mono ?_
  rintro e w6 ⟨A6, c6, rfl, ho6, hb6⟩
  have B8 := Lib.hid (below_then B1.out B1.out.size (below_then B7.out B7.out.size hb6))
  clear ho6 hb6
  go_wp2_with fail
  go_ret
  exact ⟨rfl, B8.out⟩
end Go.Proofs.Ytbjjfgfepbklnaa
