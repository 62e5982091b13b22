/- The walk of NetKnown. -/
import Derived.Test.YtenbjmgmgdkapaaNetV
import Derived.StillTailTactics
set_option linter.unusedVariables false
set_option linter.unusedSimpArgs false
namespace Go.Proofs.Ytenbjmgmgdkapaa
open Go.RowKit Go.Proofs.YtenbjmgmgdkapaaW.PrintWords Go.Proofs.Ytenbjmgmgdkapaa.K

def objB (m : Nat) : Obj := .cells (madeCells #[.int .u8 0] m) 5
theorem make_bytes (m : Nat) (hm : m ≤ 100000) (W : World) : (Instr.makeSlice 28 (.int .i64 (m : Int)) (.int .i64 (m : Int))).run Try.prog W = .ok (.slice (some ⟨W.heap.size, 0, none⟩) m m) (W.alloc (objB m)) :=
  print_make 28 5 .u8 1 Try.underlying28 (by kernel_rfl) (by decide) m (by omega) W
set_option maxRecDepth 100000 in
set_option maxHeartbeats 4000000 in
theorem known_walk (W : World) : Calls Try.prog 6 #[] W fun e w' => e = .returned (.bool true) ∧ Below W.heap.size W w' := by
  have mk1 : ∀ W : World, (Instr.makeSlice 28 (.int .i64 32769) (.int .i64 32769)).run Try.prog W = .ok (.slice (some ⟨W.heap.size, 0, none⟩) 32769 32769) (W.alloc (objB 32769)) := fun W => make_bytes 32769 (by decide) W
  have C0 := Lib.hid (fun w => new_bad 0 w (Or.inl (by decide)))
  go_enter Try.func6, Try.ntmps6
  go_wp2_with fail
  refine (awake_walk W).mono ?_
  rintro e w0 ⟨rfl, hb0⟩
  have B0 := Lib.hid hb0; clear hb0
  go_wp2_with fail
  refine (C0.out w0).mono ?_
  rintro e w0' ⟨rfl, rfl⟩
  go_wp2_with fail
  have C1 := Lib.hid (new_ok 1 w0 (by decide) (by decide))
  have S0 := Lib.hid (net_made w0 w0.heap.size 1 (Nat.le_refl _))
  have HB0 : ∀ o o' : Obj, Below w0.heap.size w0 ((w0.alloc o).alloc o') := fun o o' => alloc_back2 o o'
  have HB := Lib.hid HB0; clear HB0
  refine C1.out.mono ?_
  rintro e w1 ⟨rfl, hw1⟩
  have S1 := Lib.hid (show NetS w1 w0.heap.size (w0.heap.size + 1) w0.heap.size 1 0 (fun _ _ => false) [] by rw [hw1]; exact S0.out)
  have B1 := Lib.hid (show Below w0.heap.size w0 w1 by rw [hw1]; exact HB.out _ _)
  clear hw1
  go_wp2_with fail
  refine (send_arg (w0.heap.size + 1) 0 16 none 0 0 w1 (by decide) (by unfold okW; omega)).mono ?_
  rintro e w2 ⟨rfl, hb2⟩
  have S2 := Lib.hid (S1.out.below hb2); have B2 := Lib.hid (below_then B1.out B1.out.size hb2); clear hb2
  go_wp2_with fail
  refine (send_arg (w0.heap.size + 1) 0 0 (some ⟨w2.heap.size, 0, none⟩) 32769 32769 (w2.alloc (objB 32769)) (by decide) (by omega)).mono ?_
  rintro e w3 ⟨rfl, hb3⟩
  have hb3' := below_then (alloc_back _) (alloc_back _).size hb3
  have S3 := Lib.hid (S2.out.below hb3'); have B3 := Lib.hid (below_then B2.out B2.out.size hb3'); clear hb3 hb3'
  go_wp2_with fail
  refine (cut_ok w0.heap.size (w0.heap.size + 1) w0.heap.size 1 0 _ _ 1 2 true w3 (by decide) (by decide) (by decide) S3.out).mono ?_
  rintro e w4 ⟨rfl, hS4, hB4⟩
  have S4 := Lib.hid hS4; have B4 := Lib.hid (hB4 w0 B3.out); clear hS4 hB4
  go_wp2_with fail
  refine (send_cut w0.heap.size (w0.heap.size + 1) w0.heap.size 1 _ _ _ 1 2 none 0 0 w4 (by decide) (by decide) (by decide) S4.out rfl).mono ?_
  rintro e w5 ⟨rfl, hS5, hb5⟩
  have S5 := Lib.hid hS5; have B5 := Lib.hid (below_then B4.out B4.out.size hb5); clear hS5 hb5
  go_wp2_with fail
  refine (S5.out.len).mono ?_
  rintro e w5' ⟨rfl, rfl⟩
  go_wp2_with fail
  refine (send_ok w0.heap.size (w0.heap.size + 1) w0.heap.size 1 _ _ _ 2 1 none 0 0 [] w5 (by decide) (by decide) (by decide) S5.out (reads_nil _ _) (fun _ => rfl) rfl (by decide) (by decide)).mono ?_
  rintro e w6 ⟨A1, c1, rfl, hS6, hB6⟩
  have S6 := Lib.hid hS6; have B6 := Lib.hid (hB6 w0 B5.out); clear hS6 hB6
  go_wp2_with fail
  refine (send_full w0.heap.size (w0.heap.size + 1) w0.heap.size 1 _ _ _ 0 0 none 0 0 w6 (by decide) (by decide) (by decide) S6.out rfl (by simp)).mono ?_
  rintro e w7 ⟨rfl, hb7⟩
  have S7 := Lib.hid (S6.out.below hb7); have B7 := Lib.hid (below_then B6.out B6.out.size hb7); clear hb7
  go_wp2_with fail
  obtain ⟨A7, c7, hc7, -⟩ := S7.out.cl
  refine (copy_no (w0.heap.size + 1) 1 A7 1 c7 w0.heap.size 0 w7 hc7 (by decide) (by decide)).mono ?_
  rintro e w8 ⟨rfl, hb8⟩
  have S8 := Lib.hid (S7.out.below hb8); have B8 := Lib.hid (below_then B7.out B7.out.size hb8); clear hb8 hc7
  go_wp2_with fail
  obtain ⟨A8, c8, hc8, -⟩ := S8.out.cl
  refine (take_no (w0.heap.size + 1) 1 A8 1 c8 w0.heap.size 1 w8 hc8 (by decide) (by decide)).mono ?_
  rintro e w9 ⟨rfl, hb9⟩
  obtain ⟨w10, hw10⟩ : ∃ w10, w10 = w9.alloc (.cells #[.int .i64 0, .int .i64 0, .slice none 0 0] 30) := ⟨_, rfl⟩
  have hb10 : Below w9.heap.size w9 w10 := by rw [hw10]; exact alloc_back _
  have S10 := Lib.hid ((S8.out.below hb9).below hb10); have B10 := Lib.hid (below_then (below_then B8.out B8.out.size hb9) (below_then B8.out B8.out.size hb9).size hb10)
  clear hb9 hc8 hb10
  go_wp2_with fail
  rw [← hw10]
  clear hw10
  refine (take_ok w0.heap.size (w0.heap.size + 1) w0.heap.size 1 _ _ _ 0 ⟨2, 1, A1, c1, [], false⟩ w10 S10.out rfl (by simp) (by simp)).mono ?_
  rintro e w11 ⟨A11, c11, rfl, hr11, hS11, hB11⟩
  obtain ⟨w12, hw12⟩ : ∃ w12, w12 = w11.alloc (.cells #[.int .i64 2, .int .i64 1, .slice A11 0 c11] 30) := ⟨_, rfl⟩
  have hb12 : Below w11.heap.size w11 w12 := by rw [hw12]; exact alloc_back _
  have q12 : w12.heap[w11.heap.size]? = some (.cells #[.int .i64 2, .int .i64 1, .slice A11 0 c11] 30 (0, 0)) := by rw [hw12]; exact heap_alloc_new _ _
  obtain ⟨A12, c12, hc12, -⟩ := (hS11.below hb12).cl
  have B12 := Lib.hid (below_then B0.out B0.out.size (below_then (hB11 w0 B10.out) (hB11 w0 B10.out).size hb12))
  obtain ⟨z0, z1, z2⟩ := box3 q12
  have C13 := Lib.hid (lose_no (w0.heap.size + 1) 1 A12 0 c12 w0.heap.size 0 w12 hc12 (by decide) (by decide))
  clear hr11 hS11 hB11 hb12 q12 hc12
  go_wp2_with fail
  rw [← hw12]
  clear hw12
  refine C13.out.mono ?_
  rintro e w13 ⟨rfl, rfl⟩
  go_wp2_with fail
  go_ret
  exact ⟨by first | rfl | simp, B12.out⟩
end Go.Proofs.Ytenbjmgmgdkapaa
