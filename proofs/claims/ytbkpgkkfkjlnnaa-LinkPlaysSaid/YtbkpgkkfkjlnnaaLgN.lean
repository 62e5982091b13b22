/- Links of any messages: Get of what was there already, or is too far ahead (printed by a program of mine, mklgn.py). -/
import Derived.Test.YtbkpgkkfkjlnnaaLgM
set_option linter.unusedVariables false
set_option linter.unusedSimpArgs false
namespace Go.Proofs.Ytbkpgkkfkjlnnaa.G
open Go.RowKit Go.Proofs.YtbkpgkkfkjlnnaaW.PrintWords Go.Proofs.YtbkpgkkfkjlnnaaW.PrintLast Go.Proofs.Ytbkpgkkfkjlnnaa.K Go.Proofs.Ytbkpgkkfkjlnnaa.Row Go.Proofs.Ytbkpgkkfkjlnnaa

/-- The answer that Get gives. -/
def Ans (w w' : World) (x : LSt) (V : Value) : Prop := ∃ A c L, V = .slice A 1 c ∧ Rws w' (fun b => w.heap.size ≤ b) A c L ∧ L.map Hd.dt = [ansD x]
section
variable (w : World) (S : Nat → Prop) (r : Nat) (x : LSt) (k f t v s : Int) (A B : Option Addr) (n c m d : Nat)
set_option maxRecDepth 100000 in
set_option maxHeartbeats 4000000 in
theorem get_low (h : LkG w S r x) (hn : 1 ≤ x.next ∧ x.next < 4294967296) (hf : f = x.peer) (ht : t = x.own) (hv : v = x.view) (hk : ¬ k = 1) (hs : ¬ s = 0) (hlt : s < x.next) :
    Calls Try.prog 13 #[.pointer (some ⟨r, 0, none⟩), .agg (msC k f t v s (.slice A n c) (.slice B m d))] w fun e w' => ∃ V, e = .returned (.tuple #[.slice none 0 0, V, .int .i64 8]) ∧ Ans w w' x V ∧ Below w.heap.size w w' := by
  subst hf; subst ht; subst hv
  obtain ⟨A1, c1, B1, d1, h1, _, _⟩ := h.cl
  obtain ⟨w1, hw1⟩ : ∃ w1, w1 = w.alloc (.cells (msC k x.peer x.own x.view s (.slice A n c) (.slice B m d)) 32) := ⟨_, rfl⟩
  have hb1 : Below w.heap.size w w1 := by rw [hw1]; exact alloc_back _
  have q1 : w1.heap[w.heap.size]? = some (.cells (msC k x.peer x.own x.view s (.slice A n c) (.slice B m d)) 32 (0, 0)) := by rw [hw1]; exact heap_alloc_new _ _
  obtain ⟨z0, z1, z2, z3, z4, z5, z6⟩ := msC_cells q1
  obtain ⟨c0, c1', c2, c3, c4, c5, c6, c7, c8⟩ := lkC_cells (heap_keep hb1 h1)
  have HW1 := Lib.hid hw1; have HB1 := Lib.hid hb1; have HG := Lib.hid (h.below hb1); have Q1 := Lib.hid q1; have H1 := Lib.hid h1
  clear hw1 hb1 q1 h1
  have hk' : (k == 1) = false := by simpa using hk
  have hs' : (s == 0) = false := by simpa using hs
  clear hk hs
  go_enter Try.func13, Try.ntmps13
  go_wp2_with fail
  rw [← HW1.out]
  go_quiet (fail)
  revert nq; intro n1
  go_wp2_with fail
  go_quiet (fail)
  revert nq; intro n2
  go_wp2_with fail
  obtain ⟨w2, hw2⟩ : ∃ w2, w2 = w1.drewN (n1 + n2) := ⟨_, rfl⟩
  have hb2 : Below w1.heap.size w1 w2 := by rw [hw2]; exact pw_below_drewN (Below.refl _ _) _
  have B2 := Lib.hid (below_then HB1.out HB1.out.size hb2)
  have G2 := Lib.hid (HG.out.below hb2)
  have y4 := pw_cell_below hb2 z4; have e7 := pw_cell_below hb2 c7
  have Q2 := Lib.hid (heap_keep hb2 Q1.out)
  have H2 := Lib.hid (heap_keep hb2 (heap_keep HB1.out H1.out))
  rw [← hw2]
  clear hw2 hb2 z0 z1 z2 z3 z4 z5 z6 c0 c1' c2 c3 c4 c5 c6 c7 c8
  have hlt' : decide (s < x.next) = true := decide_eq_true (by omega)
  have AN := Lib.hid (fun (u : World) (hu : Below w2.heap.size w2 u) => answer_walk u S r x (G2.out.below hu) hn)
  clear hlt
  go_quiet (fail)
  go_wp2_with fail
  refine (AN.out _ (pw_below_drewN (Below.refl _ _) _)).mono ?_
  rintro e w4 ⟨Aa, ca, La, rfl, hR, hD, hb4⟩
  have HRw := Lib.hid hR; have HD := Lib.hid hD; have HB4 := Lib.hid hb4
  clear hR hD hb4
  go_wp2_with fail
  go_ret3
  exact ⟨_, rfl, ⟨Aa, ca, La, rfl, HRw.out.mono (fun b hb => Nat.le_trans B2.out.size hb), HD.out⟩, below_then (pw_below_drewN B2.out _) B2.out.size HB4.out⟩
set_option maxRecDepth 100000 in
set_option maxHeartbeats 4000000 in
theorem get_seen (h : LkG w S r x) (hl : x.held.length ≤ 100000) (hn : 1 ≤ x.next ∧ x.next < 4294967296) (hf : f = x.peer) (ht : t = x.own) (hv : v = x.view) (hk : ¬ k = 1) (hs : ¬ s = 0) (hlt : ¬ s < x.next) (hge : 0 ≤ fIx x.held s) :
    Calls Try.prog 13 #[.pointer (some ⟨r, 0, none⟩), .agg (msC k f t v s (.slice A n c) (.slice B m d))] w fun e w' => ∃ V, e = .returned (.tuple #[.slice none 0 0, V, .int .i64 8]) ∧ Ans w w' x V ∧ Below w.heap.size w w' := by
  subst hf; subst ht; subst hv
  obtain ⟨A1, c1, B1, d1, h1, _, _⟩ := h.cl
  obtain ⟨w1, hw1⟩ : ∃ w1, w1 = w.alloc (.cells (msC k x.peer x.own x.view s (.slice A n c) (.slice B m d)) 32) := ⟨_, rfl⟩
  have hb1 : Below w.heap.size w w1 := by rw [hw1]; exact alloc_back _
  have q1 : w1.heap[w.heap.size]? = some (.cells (msC k x.peer x.own x.view s (.slice A n c) (.slice B m d)) 32 (0, 0)) := by rw [hw1]; exact heap_alloc_new _ _
  obtain ⟨z0, z1, z2, z3, z4, z5, z6⟩ := msC_cells q1
  obtain ⟨c0, c1', c2, c3, c4, c5, c6, c7, c8⟩ := lkC_cells (heap_keep hb1 h1)
  have HW1 := Lib.hid hw1; have HB1 := Lib.hid hb1; have HG := Lib.hid (h.below hb1); have Q1 := Lib.hid q1; have H1 := Lib.hid h1
  clear hw1 hb1 q1 h1
  have hk' : (k == 1) = false := by simpa using hk
  have hs' : (s == 0) = false := by simpa using hs
  clear hk hs
  go_enter Try.func13, Try.ntmps13
  go_wp2_with fail
  rw [← HW1.out]
  go_quiet (fail)
  revert nq; intro n1
  go_wp2_with fail
  go_quiet (fail)
  revert nq; intro n2
  go_wp2_with fail
  obtain ⟨w2, hw2⟩ : ∃ w2, w2 = w1.drewN (n1 + n2) := ⟨_, rfl⟩
  have hb2 : Below w1.heap.size w1 w2 := by rw [hw2]; exact pw_below_drewN (Below.refl _ _) _
  have B2 := Lib.hid (below_then HB1.out HB1.out.size hb2)
  have G2 := Lib.hid (HG.out.below hb2)
  have y4 := pw_cell_below hb2 z4; have e7 := pw_cell_below hb2 c7
  have Q2 := Lib.hid (heap_keep hb2 Q1.out)
  have H2 := Lib.hid (heap_keep hb2 (heap_keep HB1.out H1.out))
  rw [← hw2]
  clear hw2 hb2 z0 z1 z2 z3 z4 z5 z6 c0 c1' c2 c3 c4 c5 c6 c7 c8
  have hlt' : decide (s < x.next) = false := decide_eq_false (by omega)
  obtain ⟨q, hq⟩ : ∃ q, q = fIx x.held s := ⟨_, rfl⟩
  have CF := Lib.hid (fun (u : World) (hu : Below w2.heap.size w2 u) => (by rw [hq]; exact find_walk u S r x s (G2.out.below hu) hl : Calls Try.prog 29 #[.pointer (some ⟨r, 0, none⟩), .int .u32 s] u fun e w' => e = .returned (.int .i64 q) ∧ Below u.heap.size u w'))
  have HQ := Lib.hid hq
  clear hq hlt
  first | (go_region_held3 (fun w' => w'.cell? ⟨w.heap.size, 4, none⟩ = some (.int .u32 s) ∧ w'.cell? ⟨r, 7, none⟩ = some (.int .u32 x.next))
    (first | with_reducible exact ⟨u4, u7⟩ | exact ⟨y4, e7⟩ | go_keep)
    ((go_at_call 29; (with_reducible refine (CF.out _ (below_drew (Below.refl _ _))).mono ?_); rintro e w3 ⟨rfl, hb3⟩; have hb23 := below_then (below_drew (Below.refl w2.heap.size w2)) (Nat.le_refl _) hb3; have u4 := pw_cell_below hb23 y4; have u7 := pw_cell_below hb23 e7; have B23 := Lib.hid hb23; clear hb3 hb23))) | fail "held"
  have hge' : decide (0 ≤ q) = true := decide_eq_true (by rw [HQ.out]; omega)
  have hge2 : 0 ≤ q := by rw [HQ.out]; omega
  have AN := Lib.hid (fun (u : World) (hu : Below w3.heap.size w3 u) => answer_walk u S r x ((G2.out.below B23.out).below hu) hn)
  clear hge u4 u7 y4 e7
  go_wp2_with fail
  refine (AN.out _ (Below.refl _ _)).mono ?_
  rintro e w4 ⟨Aa, ca, La, rfl, hR, hD, hb4⟩
  have HRw := Lib.hid hR; have HD := Lib.hid hD; have HB4 := Lib.hid hb4
  clear hR hD hb4
  go_wp2_with fail
  go_ret3
  exact ⟨_, rfl, ⟨Aa, ca, La, rfl, HRw.out.mono (fun b hb => Nat.le_trans (Nat.le_trans B2.out.size B23.out.size) hb), HD.out⟩, below_then (below_then B2.out B2.out.size B23.out) (Nat.le_trans B2.out.size B23.out.size) HB4.out⟩
set_option maxRecDepth 100000 in
set_option maxHeartbeats 4000000 in
theorem get_far (h : LkG w S r x) (hl : x.held.length ≤ 100000) (hn : 1 ≤ x.next ∧ x.next < 4294967296) (hsr : 0 ≤ s ∧ s < 4294967296) (hf : f = x.peer) (ht : t = x.own) (hv : v = x.view) (hk : ¬ k = 1) (hs : ¬ s = 0) (hlt : ¬ s < x.next) (hge : ¬ 0 ≤ fIx x.held s) (hfar : 32 ≤ s - x.next) :
    Calls Try.prog 13 #[.pointer (some ⟨r, 0, none⟩), .agg (msC k f t v s (.slice A n c) (.slice B m d))] w fun e w' => e = .returned (.tuple #[.slice none 0 0, .slice none 0 0, .int .i64 6]) ∧ Below w.heap.size w w' := by
  subst hf; subst ht; subst hv
  obtain ⟨A1, c1, B1, d1, h1, _, _⟩ := h.cl
  obtain ⟨w1, hw1⟩ : ∃ w1, w1 = w.alloc (.cells (msC k x.peer x.own x.view s (.slice A n c) (.slice B m d)) 32) := ⟨_, rfl⟩
  have hb1 : Below w.heap.size w w1 := by rw [hw1]; exact alloc_back _
  have q1 : w1.heap[w.heap.size]? = some (.cells (msC k x.peer x.own x.view s (.slice A n c) (.slice B m d)) 32 (0, 0)) := by rw [hw1]; exact heap_alloc_new _ _
  obtain ⟨z0, z1, z2, z3, z4, z5, z6⟩ := msC_cells q1
  obtain ⟨c0, c1', c2, c3, c4, c5, c6, c7, c8⟩ := lkC_cells (heap_keep hb1 h1)
  have HW1 := Lib.hid hw1; have HB1 := Lib.hid hb1; have HG := Lib.hid (h.below hb1); have Q1 := Lib.hid q1; have H1 := Lib.hid h1
  clear hw1 hb1 q1 h1
  have hk' : (k == 1) = false := by simpa using hk
  have hs' : (s == 0) = false := by simpa using hs
  clear hk hs
  go_enter Try.func13, Try.ntmps13
  go_wp2_with fail
  rw [← HW1.out]
  go_quiet (fail)
  revert nq; intro n1
  go_wp2_with fail
  go_quiet (fail)
  revert nq; intro n2
  go_wp2_with fail
  obtain ⟨w2, hw2⟩ : ∃ w2, w2 = w1.drewN (n1 + n2) := ⟨_, rfl⟩
  have hb2 : Below w1.heap.size w1 w2 := by rw [hw2]; exact pw_below_drewN (Below.refl _ _) _
  have B2 := Lib.hid (below_then HB1.out HB1.out.size hb2)
  have G2 := Lib.hid (HG.out.below hb2)
  have y4 := pw_cell_below hb2 z4; have e7 := pw_cell_below hb2 c7
  have Q2 := Lib.hid (heap_keep hb2 Q1.out)
  have H2 := Lib.hid (heap_keep hb2 (heap_keep HB1.out H1.out))
  rw [← hw2]
  clear hw2 hb2 z0 z1 z2 z3 z4 z5 z6 c0 c1' c2 c3 c4 c5 c6 c7 c8
  have hlt' : decide (s < x.next) = false := decide_eq_false (by omega)
  obtain ⟨q, hq⟩ : ∃ q, q = fIx x.held s := ⟨_, rfl⟩
  have CF := Lib.hid (fun (u : World) (hu : Below w2.heap.size w2 u) => (by rw [hq]; exact find_walk u S r x s (G2.out.below hu) hl : Calls Try.prog 29 #[.pointer (some ⟨r, 0, none⟩), .int .u32 s] u fun e w' => e = .returned (.int .i64 q) ∧ Below u.heap.size u w'))
  have HQ := Lib.hid hq
  clear hq hlt
  first | (go_region_held3 (fun w' => w'.cell? ⟨w.heap.size, 4, none⟩ = some (.int .u32 s) ∧ w'.cell? ⟨r, 7, none⟩ = some (.int .u32 x.next))
    (first | with_reducible exact ⟨u4, u7⟩ | exact ⟨y4, e7⟩ | go_keep)
    ((go_at_call 29; (with_reducible refine (CF.out _ (below_drew (Below.refl _ _))).mono ?_); rintro e w3 ⟨rfl, hb3⟩; have hb23 := below_then (below_drew (Below.refl w2.heap.size w2)) (Nat.le_refl _) hb3; have u4 := pw_cell_below hb23 y4; have u7 := pw_cell_below hb23 e7; have B23 := Lib.hid hb23; clear hb3 hb23))) | fail "held"
  have hge' : decide (0 ≤ q) = false := decide_eq_false (by rw [HQ.out]; omega)
  have hge2 : ¬ 0 ≤ q := by rw [HQ.out]; omega
  have ew : IntKind.u32.wrap (s - x.next) = s - x.next := by rw [IntKind.wrap_u32]; omega
  have hfar' : decide (32 ≤ s - x.next) = true := decide_eq_true (by omega)
  clear hge
  go_wp2_with fail
  go_quiet (fail)
  clear ew
  go_wp2_with fail
  go_ret3
  exact ⟨rfl, by first | exact pw_below_drewN (below_then B2.out B2.out.size B23.out) _ | exact below_then B2.out B2.out.size B23.out⟩
end
end Go.Proofs.Ytbkpgkkfkjlnnaa.G
