/- Links of any messages: Get that refuses, or takes an acknowledgement (printed by a program of mine, mklgm.py). -/
import Derived.Test.YtbkpgkkfkjlnnaaLgL
set_option linter.unusedVariables false
set_option linter.unusedSimpArgs false
namespace Go.Proofs.Ytbkpgkkfkjlnnaa.G
open Go.RowKit Go.Proofs.YtbkpgkkfkjlnnaaW.PrintWords Go.Proofs.YtbkpgkkfkjlnnaaW.PrintLast Go.Proofs.Ytbkpgkkfkjlnnaa.K Go.Proofs.Ytbkpgkkfkjlnnaa.Row Go.Proofs.Ytbkpgkkfkjlnnaa

section
variable (w : World) (S : Nat → Prop) (r : Nat) (x : LSt) (k f t v s : Int) (A B : Option Addr) (n c m d : Nat)
set_option maxRecDepth 100000 in
set_option maxHeartbeats 4000000 in
theorem get_arg (h : LkG w S r x) (hno : ¬ (f = x.peer ∧ t = x.own)) :
    Calls Try.prog 13 #[.pointer (some ⟨r, 0, none⟩), .agg (msC k f t v s (.slice A n c) (.slice B m d))] w fun e w' => e = .returned (.tuple #[.slice none 0 0, .slice none 0 0, .int .i64 1]) ∧ Below w.heap.size w w' := by
  obtain ⟨A1, c1, B1, d1, h1, _, _⟩ := h.cl
  obtain ⟨w1, hw1⟩ : ∃ w1, w1 = w.alloc (.cells (msC k f t v s (.slice A n c) (.slice B m d)) 32) := ⟨_, rfl⟩
  have hb1 : Below w.heap.size w w1 := by rw [hw1]; exact alloc_back _
  have q1 : w1.heap[w.heap.size]? = some (.cells (msC k f t v s (.slice A n c) (.slice B m d)) 32 (0, 0)) := by rw [hw1]; exact heap_alloc_new _ _
  obtain ⟨z0, z1, z2, z3, z4, z5, z6⟩ := msC_cells q1
  obtain ⟨c0, c1', c2, c3, c4, c5, c6, c7, c8⟩ := lkC_cells (heap_keep hb1 h1)
  have HW1 := Lib.hid hw1; have HB1 := Lib.hid hb1; have HG := Lib.hid (h.below hb1); have Q1 := Lib.hid q1; have H1 := Lib.hid h1
  clear hw1 hb1 q1 h1
  by_cases hf : f = x.peer
  · have ht : ¬ t = x.own := fun ht => hno ⟨hf, ht⟩
    subst hf
    have ht' : (t != x.own) = true := by simpa using ht
    go_enter Try.func13, Try.ntmps13
    go_wp2_with fail
    rw [← HW1.out]
    go_quiet (fail)
    go_wp2_with fail
    go_ret3
    exact ⟨rfl, pw_below_drewN HB1.out _⟩
  · have hf' : (f != x.peer) = true := by simpa using hf
    clear hno
    go_enter Try.func13, Try.ntmps13
    go_wp2_with fail
    rw [← HW1.out]
    go_quiet (fail)
    go_wp2_with fail
    go_ret3
    exact ⟨rfl, pw_below_drewN HB1.out _⟩
set_option maxRecDepth 100000 in
set_option maxHeartbeats 4000000 in
theorem get_old (h : LkG w S r x) (hf : f = x.peer) (ht : t = x.own) (hv : ¬ v = x.view) :
    Calls Try.prog 13 #[.pointer (some ⟨r, 0, none⟩), .agg (msC k f t v s (.slice A n c) (.slice B m d))] w fun e w' => e = .returned (.tuple #[.slice none 0 0, .slice none 0 0, .int .i64 8]) ∧ Below w.heap.size w w' := by
  subst hf; subst ht
  obtain ⟨A1, c1, B1, d1, h1, _, _⟩ := h.cl
  obtain ⟨w1, hw1⟩ : ∃ w1, w1 = w.alloc (.cells (msC k x.peer x.own v s (.slice A n c) (.slice B m d)) 32) := ⟨_, rfl⟩
  have hb1 : Below w.heap.size w w1 := by rw [hw1]; exact alloc_back _
  have q1 : w1.heap[w.heap.size]? = some (.cells (msC k x.peer x.own v s (.slice A n c) (.slice B m d)) 32 (0, 0)) := by rw [hw1]; exact heap_alloc_new _ _
  obtain ⟨z0, z1, z2, z3, z4, z5, z6⟩ := msC_cells q1
  obtain ⟨c0, c1', c2, c3, c4, c5, c6, c7, c8⟩ := lkC_cells (heap_keep hb1 h1)
  have HW1 := Lib.hid hw1; have HB1 := Lib.hid hb1; have HG := Lib.hid (h.below hb1); have Q1 := Lib.hid q1; have H1 := Lib.hid h1
  clear hw1 hb1 q1 h1
  have hv' : (v != x.view) = true := by simpa using hv
  clear hv
  go_enter Try.func13, Try.ntmps13
  go_wp2_with fail
  rw [← HW1.out]
  go_quiet (fail)
  revert nq; intro n1
  go_wp2_with fail
  go_quiet (fail)
  go_wp2_with fail
  go_ret3
  exact ⟨rfl, pw_below_drewN (pw_below_drewN HB1.out _) _⟩
set_option maxRecDepth 100000 in
set_option maxHeartbeats 4000000 in
theorem get_zero (h : LkG w S r x) (hf : f = x.peer) (ht : t = x.own) (hv : v = x.view) (hk : ¬ k = 1) (hs : s = 0) :
    Calls Try.prog 13 #[.pointer (some ⟨r, 0, none⟩), .agg (msC k f t v s (.slice A n c) (.slice B m d))] w fun e w' => e = .returned (.tuple #[.slice none 0 0, .slice none 0 0, .int .i64 3]) ∧ Below w.heap.size w w' := by
  subst hf; subst ht; subst hv
  subst hs
  obtain ⟨A1, c1, B1, d1, h1, _, _⟩ := h.cl
  obtain ⟨w1, hw1⟩ : ∃ w1, w1 = w.alloc (.cells (msC k x.peer x.own x.view 0 (.slice A n c) (.slice B m d)) 32) := ⟨_, rfl⟩
  have hb1 : Below w.heap.size w w1 := by rw [hw1]; exact alloc_back _
  have q1 : w1.heap[w.heap.size]? = some (.cells (msC k x.peer x.own x.view 0 (.slice A n c) (.slice B m d)) 32 (0, 0)) := by rw [hw1]; exact heap_alloc_new _ _
  obtain ⟨z0, z1, z2, z3, z4, z5, z6⟩ := msC_cells q1
  obtain ⟨c0, c1', c2, c3, c4, c5, c6, c7, c8⟩ := lkC_cells (heap_keep hb1 h1)
  have HW1 := Lib.hid hw1; have HB1 := Lib.hid hb1; have HG := Lib.hid (h.below hb1); have Q1 := Lib.hid q1; have H1 := Lib.hid h1
  clear hw1 hb1 q1 h1
  have hk' : (k == 1) = false := by simpa using hk
  clear hk
  go_enter Try.func13, Try.ntmps13
  go_wp2_with fail
  rw [← HW1.out]
  go_quiet (fail)
  revert nq; intro n1
  go_wp2_with fail
  go_quiet (fail)
  revert nq; intro n2
  go_wp2_with fail
  go_ret3
  exact ⟨rfl, by first | exact pw_below_drewN HB1.out _ | exact pw_below_drewN (pw_below_drewN HB1.out _) _⟩
set_option maxRecDepth 100000 in
set_option maxHeartbeats 4000000 in
theorem get_ack_no (h : LkG w S r x) (xs : List Int) (hr : ReadsInt w .i64 A n xs) (hto : 0 ≤ x.told ∧ x.told < 4294967296) (hf : f = x.peer) (ht : t = x.own) (hv : v = x.view) (hk : k = 1) (hno : cfB s x.told xs m = false) :
    Calls Try.prog 13 #[.pointer (some ⟨r, 0, none⟩), .agg (msC k f t v s (.slice A n c) (.slice B m d))] w fun e w' => e = .returned (.tuple #[.slice none 0 0, .slice none 0 0, .int .i64 3]) ∧ Below w.heap.size w w' := by
  subst hf; subst ht; subst hv
  subst hk
  obtain ⟨A1, c1, B1, d1, h1, _, _⟩ := h.cl
  obtain ⟨w1, hw1⟩ : ∃ w1, w1 = w.alloc (.cells (msC 1 x.peer x.own x.view s (.slice A n c) (.slice B m d)) 32) := ⟨_, rfl⟩
  have hb1 : Below w.heap.size w w1 := by rw [hw1]; exact alloc_back _
  have q1 : w1.heap[w.heap.size]? = some (.cells (msC 1 x.peer x.own x.view s (.slice A n c) (.slice B m d)) 32 (0, 0)) := by rw [hw1]; exact heap_alloc_new _ _
  obtain ⟨z0, z1, z2, z3, z4, z5, z6⟩ := msC_cells q1
  obtain ⟨c0, c1', c2, c3, c4, c5, c6, c7, c8⟩ := lkC_cells (heap_keep hb1 h1)
  have HW1 := Lib.hid hw1; have HB1 := Lib.hid hb1; have HG := Lib.hid (h.below hb1); have Q1 := Lib.hid q1; have H1 := Lib.hid h1
  clear hw1 hb1 q1 h1
  go_enter Try.func13, Try.ntmps13
  go_wp2_with fail
  rw [← HW1.out]
  go_quiet (fail)
  revert nq; intro n1
  go_wp2_with fail
  go_quiet (fail)
  revert nq; intro n2
  obtain ⟨w2, hw2⟩ : ∃ w2, w2 = (w1.drewN n1).drewN n2 := ⟨_, rfl⟩
  have hb2 : Below w1.heap.size w1 w2 := by rw [hw2]; exact pw_below_drewN (pw_below_drewN (Below.refl _ _) _) _
  have B2 := Lib.hid hb2
  have zz0 := pw_cell_below hb2 z0; have zz1 := pw_cell_below hb2 z1; have zz2 := pw_cell_below hb2 z2; have zz3 := pw_cell_below hb2 z3; have zz4 := pw_cell_below hb2 z4; have zz5 := pw_cell_below hb2 z5; have zz6 := pw_cell_below hb2 z6
  rw [← hw2]
  clear hw2 hb2
  have C3 := Lib.hid (confirm_no w2 S r x 1 x.peer x.own x.view s A B n c m d xs (HG.out.below B2.out) (hr.below (below_then HB1.out HB1.out.size B2.out)) hto hno)
  clear hr hno z0 z1 z2 z3 z4 z5 z6 c0 c1' c2 c3 c4 c5 c6 c7 c8
  go_wp2_with fail
  refine C3.out.mono ?_
  rintro e w3 ⟨rfl, hb3⟩
  have B3 := Lib.hid (below_then (below_then HB1.out HB1.out.size B2.out) (Nat.le_trans HB1.out.size B2.out.size) hb3)
  clear hb3 zz0 zz1 zz2 zz3 zz4 zz5 zz6
  go_wp2_with fail
  go_ret3
  exact ⟨rfl, B3.out⟩
set_option maxRecDepth 100000 in
set_option maxHeartbeats 4000000 in
theorem get_ack_ok (h : LkG w S r x) (ad : Addr) (q : Int) (hr : ReadsInt w .i64 (some ad) 1 [q]) (had : ¬ S ad.block) (hto : 0 ≤ x.told ∧ x.told < 4294967296) (hq : 0 ≤ q ∧ q ≤ x.told) (hss : ∀ p ∈ x.out, 0 ≤ p.m.s ∧ p.m.s < 4294967296) (hl : x.out.length ≤ 100000) (hf : f = x.peer) (ht : t = x.own) (hv : v = x.view) (hk : k = 1) (hs : s = 0) (hm : m = 0) (hA : A = some ad) (hn : n = 1) :
    Calls Try.prog 13 #[.pointer (some ⟨r, 0, none⟩), .agg (msC k f t v s (.slice A n c) (.slice B m d))] w fun e w' => e = .returned (.tuple #[.slice none 0 0, .slice none 0 0, .int .i64 0]) ∧ LkG w' S r { x with out := x.out.filter (nak q) } ∧ Stp w w' S S := by
  subst hf; subst ht; subst hv
  subst hk; subst hs; subst hm; subst hA; subst hn
  obtain ⟨A1, c1, B1, d1, h1, _, _⟩ := h.cl
  obtain ⟨w1, hw1⟩ : ∃ w1, w1 = w.alloc (.cells (msC 1 x.peer x.own x.view 0 (.slice (some ad) 1 c) (.slice B 0 d)) 32) := ⟨_, rfl⟩
  have hb1 : Below w.heap.size w w1 := by rw [hw1]; exact alloc_back _
  have q1 : w1.heap[w.heap.size]? = some (.cells (msC 1 x.peer x.own x.view 0 (.slice (some ad) 1 c) (.slice B 0 d)) 32 (0, 0)) := by rw [hw1]; exact heap_alloc_new _ _
  obtain ⟨z0, z1, z2, z3, z4, z5, z6⟩ := msC_cells q1
  obtain ⟨c0, c1', c2, c3, c4, c5, c6, c7, c8⟩ := lkC_cells (heap_keep hb1 h1)
  have HW1 := Lib.hid hw1; have HB1 := Lib.hid hb1; have HG := Lib.hid (h.below hb1); have Q1 := Lib.hid q1; have H1 := Lib.hid h1
  clear hw1 hb1 q1 h1
  go_enter Try.func13, Try.ntmps13
  go_wp2_with fail
  rw [← HW1.out]
  go_quiet (fail)
  revert nq; intro n1
  go_wp2_with fail
  go_quiet (fail)
  revert nq; intro n2
  obtain ⟨w2, hw2⟩ : ∃ w2, w2 = (w1.drewN n1).drewN n2 := ⟨_, rfl⟩
  have hb2 : Below w1.heap.size w1 w2 := by rw [hw2]; exact pw_below_drewN (pw_below_drewN (Below.refl _ _) _) _
  have B2 := Lib.hid hb2
  have zz0 := pw_cell_below hb2 z0; have zz1 := pw_cell_below hb2 z1; have zz2 := pw_cell_below hb2 z2; have zz3 := pw_cell_below hb2 z3; have zz4 := pw_cell_below hb2 z4; have zz5 := pw_cell_below hb2 z5; have zz6 := pw_cell_below hb2 z6
  rw [← hw2]
  clear hw2 hb2
  have hbw := below_then HB1.out HB1.out.size B2.out
  have C3 := Lib.hid (confirm_ok w2 S r x 1 x.peer x.own x.view ad B c d q (HG.out.below B2.out) (hr.below hbw) had hto hq hss hl)
  have HST0 := Lib.hid (Stp.ofBelow (S := S) hbw)
  clear hr hbw z0 z1 z2 z3 z4 z5 z6 c0 c1' c2 c3 c4 c5 c6 c7 c8
  go_wp2_with fail
  refine C3.out.mono ?_
  rintro e w3 ⟨rfl, hl3, hs3⟩
  have L3 := Lib.hid hl3; have S3 := Lib.hid (HST0.out.trans hs3)
  clear hl3 hs3 zz0 zz1 zz2 zz3 zz4 zz5 zz6
  go_wp2_with fail
  go_ret3
  exact ⟨rfl, L3.out, S3.out⟩
end
end Go.Proofs.Ytbkpgkkfkjlnnaa.G
