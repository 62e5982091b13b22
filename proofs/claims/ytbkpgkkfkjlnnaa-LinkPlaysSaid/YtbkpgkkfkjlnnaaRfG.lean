/- The reference's link: Get that takes nothing (printed by a program of mine, mkrff.py). -/
import Derived.Test.YtbkpgkkfkjlnnaaRfE
set_option linter.unusedVariables false
set_option linter.unusedSimpArgs false
namespace Go.Proofs.Ytbkpgkkfkjlnnaa.G
open Go.RowKit Go.Proofs.YtbkpgkkfkjlnnaaW.PrintWords Go.Proofs.YtbkpgkkfkjlnnaaW.PrintLast Go.Proofs.Ytbkpgkkfkjlnnaa.K Go.Proofs.Ytbkpgkkfkjlnnaa.Row Go.Proofs.Ytbkpgkkfkjlnnaa

theorem rowC_nil (w : World) : RowC w (.slice none 0 0) [] := ⟨none, 0, [], rfl, rfl, fun i h hh => by simp at hh⟩
def RGetR (w w' : World) (S U : Nat → Prop) (r : Nat) (x : DS) (m : Dt) (e : Ending) : Prop :=
  ∃ V1 V2 S' U', e = .returned (.tuple #[V1, V2, .int .i64 (dGet x m).1.2.2]) ∧ RowC w' V1 (dGet x m).1.1 ∧ RowC w' V2 (dGet x m).1.2.1 ∧ RefG w' S' U' r (dGet x m).2 ∧ StpU w w' S U S' U'
theorem rget_no {w w' : World} {S U : Nat → Prop} {r : Nat} {x : DS} {m : Dt} {E : Int} {C : Array Value} (hD : dGet x m = (([], [], E), x)) (hM : RMid w w' S U r x C) : RGetR w w' S U r x m (.returned (.tuple #[.slice none 0 0, .slice none 0 0, .int .i64 E])) := by
  unfold RGetR
  rw [hD]
  exact ⟨_, _, S, U, rfl, rowC_nil _, rowC_nil _, hM.G, ⟨hM.C, fun b h => .inl h, fun b h => .inl h⟩⟩
section
variable (w : World) (S U : Nat → Prop) (r : Nat) (x : DS) (k f t v s : Int) (A B : Option Addr) (n c m d : Nat) (xs : List Int) (ys : List (Int × Int))
set_option maxRecDepth 100000 in
set_option maxHeartbeats 8000000 in
theorem rget_arg (h : RefG w S U r x) (hno : ¬ (f = x.peer ∧ t = x.own)) :
    Calls Try.prog 21 #[.pointer (some ⟨r, 0, none⟩), .agg (msC k f t v s (.slice A n c) (.slice B m d))] w fun e w' => RGetR w w' S U r x ⟨k, f, t, v, s, xs, ys⟩ e := by
  obtain ⟨w1, hw1⟩ : ∃ w1, w1 = w.alloc (.cells (msC k f t v s (.slice A n c) (.slice B m d)) 51) := ⟨_, rfl⟩
  have hb1 : Below w.heap.size w w1 := by rw [hw1]; exact alloc_back _
  have q1 : w1.heap[w.heap.size]? = some (.cells (msC k f t v s (.slice A n c) (.slice B m d)) 51 (0, 0)) := by rw [hw1]; exact heap_alloc_new _ _
  have M1 := Lib.hid (show RMid w w1 S U r x (msC k f t v s (.slice A n c) (.slice B m d)) from ⟨q1, h.below hb1, Chg.ofBelow hb1, h.inn, h.inU⟩)
  have HW1 := Lib.hid hw1
  obtain ⟨V0, B0, c0, O0, H0, hc0⟩ := M1.out.G.cl
  obtain ⟨l0, l1, l2, l3, l4, l6, l7, l8, l9⟩ := rlC_cells hc0.blk
  obtain ⟨z0, z1, z2, z3, z4, z5, z6⟩ := msC_cells q1
  clear hw1 hb1 q1 h hc0
  have HD := Lib.hid (show dGet x ⟨k, f, t, v, s, xs, ys⟩ = (([], [], 1), x) by unfold dGet; rw [if_pos hno])
  clear l2 l3 l4 l6 l7 l8 l9 z0 z3 z4 z5 z6
  by_cases hf : f = x.peer
  · have ht : ¬ t = x.own := fun ht => hno ⟨hf, ht⟩
    have b1 : (f != x.peer) = false := by simp [hf]
    have b2 : (t != x.own) = true := by simpa using ht
    clear hf ht hno
    go_enter Try.func21, Try.ntmps21
    go_upto_region 1 with (fail)
    rw [← HW1.out]
    go_quiet (fail)
    go_wp2_with fail
    go_ret3
    exact rget_no HD.out (M1.out.below (by repeat (first | with_reducible exact Below.refl _ _ | with_reducible apply pw_below_drewN | with_reducible apply below_drew)))
  · have b1 : (f != x.peer) = true := by simpa using hf
    clear hf hno
    go_enter Try.func21, Try.ntmps21
    go_upto_region 1 with (fail)
    rw [← HW1.out]
    go_quiet (fail)
    go_wp2_with fail
    go_ret3
    exact rget_no HD.out (M1.out.below (by repeat (first | with_reducible exact Below.refl _ _ | with_reducible apply pw_below_drewN | with_reducible apply below_drew)))
set_option maxRecDepth 100000 in
set_option maxHeartbeats 8000000 in
theorem rget_old (h : RefG w S U r x) (hf : f = x.peer) (ht : t = x.own) (hv : ¬ v = x.view) :
    Calls Try.prog 21 #[.pointer (some ⟨r, 0, none⟩), .agg (msC k f t v s (.slice A n c) (.slice B m d))] w fun e w' => RGetR w w' S U r x ⟨k, f, t, v, s, xs, ys⟩ e := by
  obtain ⟨w1, hw1⟩ : ∃ w1, w1 = w.alloc (.cells (msC k f t v s (.slice A n c) (.slice B m d)) 51) := ⟨_, rfl⟩
  have hb1 : Below w.heap.size w w1 := by rw [hw1]; exact alloc_back _
  have q1 : w1.heap[w.heap.size]? = some (.cells (msC k f t v s (.slice A n c) (.slice B m d)) 51 (0, 0)) := by rw [hw1]; exact heap_alloc_new _ _
  have M1 := Lib.hid (show RMid w w1 S U r x (msC k f t v s (.slice A n c) (.slice B m d)) from ⟨q1, h.below hb1, Chg.ofBelow hb1, h.inn, h.inU⟩)
  have HW1 := Lib.hid hw1
  obtain ⟨V0, B0, c0, O0, H0, hc0⟩ := M1.out.G.cl
  obtain ⟨l0, l1, l2, l3, l4, l6, l7, l8, l9⟩ := rlC_cells hc0.blk
  obtain ⟨z0, z1, z2, z3, z4, z5, z6⟩ := msC_cells q1
  clear hw1 hb1 q1 h hc0
  have HD := Lib.hid (show dGet x ⟨k, f, t, v, s, xs, ys⟩ = (([], [], 8), x) by unfold dGet; rw [if_neg (fun h => h ⟨hf, ht⟩), if_pos hv])
  clear l3 l4 l6 l7 l8 l9 z0 z4 z5 z6
  have b1 : (f != x.peer) = false := by simp [hf]
  have b2 : (t != x.own) = false := by simp [ht]
  have b3 : (v != x.view) = true := by simpa using hv
  clear hf ht hv
  go_enter Try.func21, Try.ntmps21
  go_upto_region 1 with (fail)
  rw [← HW1.out]
  go_quiet (fail)
  go_wp2_with fail
  go_quiet (fail)
  go_wp2_with fail
  go_ret3
  exact rget_no HD.out (M1.out.below (by repeat (first | with_reducible exact Below.refl _ _ | with_reducible apply pw_below_drewN | with_reducible apply below_drew)))
set_option maxRecDepth 100000 in
set_option maxHeartbeats 8000000 in
theorem rget_zero (h : RefG w S U r x) (hf : f = x.peer) (ht : t = x.own) (hv : v = x.view) (hk : ¬ k = 1) (hs : s = 0) :
    Calls Try.prog 21 #[.pointer (some ⟨r, 0, none⟩), .agg (msC k f t v s (.slice A n c) (.slice B m d))] w fun e w' => RGetR w w' S U r x ⟨k, f, t, v, s, xs, ys⟩ e := by
  obtain ⟨w1, hw1⟩ : ∃ w1, w1 = w.alloc (.cells (msC k f t v s (.slice A n c) (.slice B m d)) 51) := ⟨_, rfl⟩
  have hb1 : Below w.heap.size w w1 := by rw [hw1]; exact alloc_back _
  have q1 : w1.heap[w.heap.size]? = some (.cells (msC k f t v s (.slice A n c) (.slice B m d)) 51 (0, 0)) := by rw [hw1]; exact heap_alloc_new _ _
  have M1 := Lib.hid (show RMid w w1 S U r x (msC k f t v s (.slice A n c) (.slice B m d)) from ⟨q1, h.below hb1, Chg.ofBelow hb1, h.inn, h.inU⟩)
  have HW1 := Lib.hid hw1
  obtain ⟨V0, B0, c0, O0, H0, hc0⟩ := M1.out.G.cl
  obtain ⟨l0, l1, l2, l3, l4, l6, l7, l8, l9⟩ := rlC_cells hc0.blk
  obtain ⟨z0, z1, z2, z3, z4, z5, z6⟩ := msC_cells q1
  clear hw1 hb1 q1 h hc0
  have HD := Lib.hid (show dGet x ⟨k, f, t, v, s, xs, ys⟩ = (([], [], 3), x) by unfold dGet; rw [if_neg (fun h => h ⟨hf, ht⟩), if_neg (fun h => h hv), if_neg hk, if_pos hs])
  clear l3 l4 l6 l7 l8 l9 z5 z6
  have b1 : (f != x.peer) = false := by simp [hf]
  have b2 : (t != x.own) = false := by simp [ht]
  have b3 : (v != x.view) = false := by simp [hv]
  have b4 : (k == 1) = false := by simpa using hk
  have b5 : (s == 0) = true := by simp [hs]
  clear hf ht hv hk hs
  go_enter Try.func21, Try.ntmps21
  go_upto_region 1 with (fail)
  rw [← HW1.out]
  go_quiet (fail)
  go_wp2_with fail
  go_quiet (fail)
  go_wp2_with fail
  go_ret3
  exact rget_no HD.out (M1.out.below (by repeat (first | with_reducible exact Below.refl _ _ | with_reducible apply pw_below_drewN | with_reducible apply below_drew)))
set_option maxRecDepth 100000 in
set_option maxHeartbeats 8000000 in
theorem rget_ack_no (h : RefG w S U r x) (hr : ReadsInt w .i64 A n xs) (hwl : ys.length = m) (hto : 0 ≤ x.told ∧ x.told < 4294967296) (hf : f = x.peer) (ht : t = x.own) (hv : v = x.view) (hk : k = 1) (hno : cfB s x.told xs m = false) :
    Calls Try.prog 21 #[.pointer (some ⟨r, 0, none⟩), .agg (msC k f t v s (.slice A n c) (.slice B m d))] w fun e w' => RGetR w w' S U r x ⟨k, f, t, v, s, xs, ys⟩ e := by
  obtain ⟨w1, hw1⟩ : ∃ w1, w1 = w.alloc (.cells (msC k f t v s (.slice A n c) (.slice B m d)) 51) := ⟨_, rfl⟩
  have hb1 : Below w.heap.size w w1 := by rw [hw1]; exact alloc_back _
  have q1 : w1.heap[w.heap.size]? = some (.cells (msC k f t v s (.slice A n c) (.slice B m d)) 51 (0, 0)) := by rw [hw1]; exact heap_alloc_new _ _
  have M1 := Lib.hid (show RMid w w1 S U r x (msC k f t v s (.slice A n c) (.slice B m d)) from ⟨q1, h.below hb1, Chg.ofBelow hb1, h.inn, h.inU⟩)
  have HW1 := Lib.hid hw1
  obtain ⟨V0, B0, c0, O0, H0, hc0⟩ := M1.out.G.cl
  obtain ⟨l0, l1, l2, l3, l4, l6, l7, l8, l9⟩ := rlC_cells hc0.blk
  obtain ⟨z0, z1, z2, z3, z4, z5, z6⟩ := msC_cells q1
  clear hw1 hb1 q1 h hc0
  have HD := Lib.hid (show dGet x ⟨k, f, t, v, s, xs, ys⟩ = (([], [], 3), x) by unfold dGet; rw [if_neg (fun h => h ⟨hf, ht⟩), if_neg (fun h => h hv), if_pos hk, if_neg (by rw [hwl]; rw [hno]; decide)])
  have HNO := Lib.hid hno
  have HR := Lib.hid (hr.below (show Below w.heap.size w w1 by rw [HW1.out]; exact alloc_back _))
  clear l3 l4 l7 l8 l9 hr hno hwl
  have b1 : (f != x.peer) = false := by simp [hf]
  have b2 : (t != x.own) = false := by simp [ht]
  have b3 : (v != x.view) = false := by simp [hv]
  have b4 : (k == 1) = true := by simp [hk]
  clear hf ht hv hk
  by_cases hn : n = 1
  · subst hn
    by_cases hm : m = 0
    · subst hm
      by_cases hs : s = 0
      · subst hs
        obtain ⟨ad, hA, hcell⟩ := HR.out.2.2 (by decide)
        have hc0 := hcell 0 (by decide)
        have e0 : ad.add 0 = ad := by simp [Addr.add]
        rw [e0] at hc0
        subst hA
        have y0 : (0 : Int) < ((1 : Nat) : Int) := by decide
        have y1 : 0 < 1 := by decide
        obtain ⟨q, hq⟩ : ∃ q, q = xs.getD 0 0 := ⟨_, rfl⟩
        have hl1 := HR.out.1
        have hno2 : ¬ (0 ≤ q ∧ q ≤ x.told) := fun hh => by
          have := HNO.out
          unfold cfB at this
          rw [← hq, decide_eq_true hl1, decide_eq_true hh.1, decide_eq_true hh.2] at this
          cases this
        rw [← hq] at hc0
        clear hq hl1 hcell
        by_cases hq0 : q < 0
        · have hq' : decide (q < 0) = true := decide_eq_true hq0
          clear hno2
          go_enter Try.func21, Try.ntmps21
          go_upto_region 1 with (fail)
          rw [← HW1.out]
          go_quiet (fail)
          go_wp2_with fail
          go_quiet (fail)
          go_wp2_with fail
          go_quiet (fail)
          (try clear ew)
          go_wp2_with fail
          go_ret3
          exact rget_no HD.out (M1.out.below (by repeat (first | with_reducible exact Below.refl _ _ | with_reducible apply pw_below_drewN | with_reducible apply below_drew)))
        · have hq' : decide (q < 0) = false := decide_eq_false hq0
          have hq1 : x.told < q := by omega
          have hq2 : decide (x.told < q) = true := decide_eq_true hq1
          have ew : IntKind.i64.wrap x.told = x.told := by rw [IntKind.wrap_i64]; omega
          clear hno2
          go_enter Try.func21, Try.ntmps21
          go_upto_region 1 with (fail)
          rw [← HW1.out]
          go_quiet (fail)
          go_wp2_with fail
          go_quiet (fail)
          go_wp2_with fail
          go_quiet (fail)
          (try clear ew)
          go_wp2_with fail
          go_ret3
          exact rget_no HD.out (M1.out.below (by repeat (first | with_reducible exact Below.refl _ _ | with_reducible apply pw_below_drewN | with_reducible apply below_drew)))
      · have hs' : (s != 0) = true := by simpa using hs
        go_enter Try.func21, Try.ntmps21
        go_upto_region 1 with (fail)
        rw [← HW1.out]
        go_quiet (fail)
        go_wp2_with fail
        go_quiet (fail)
        go_wp2_with fail
        go_quiet (fail)
        (try clear ew)
        go_wp2_with fail
        go_ret3
        exact rget_no HD.out (M1.out.below (by repeat (first | with_reducible exact Below.refl _ _ | with_reducible apply pw_below_drewN | with_reducible apply below_drew)))
    · have hm' : ((m : Int) != 0) = true := by simp; omega
      go_enter Try.func21, Try.ntmps21
      go_upto_region 1 with (fail)
      rw [← HW1.out]
      go_quiet (fail)
      go_wp2_with fail
      go_quiet (fail)
      go_wp2_with fail
      go_quiet (fail)
      (try clear ew)
      go_wp2_with fail
      go_ret3
      exact rget_no HD.out (M1.out.below (by repeat (first | with_reducible exact Below.refl _ _ | with_reducible apply pw_below_drewN | with_reducible apply below_drew)))
  · have hn' : ((n : Int) != 1) = true := by simp; omega
    go_enter Try.func21, Try.ntmps21
    go_upto_region 1 with (fail)
    rw [← HW1.out]
    go_quiet (fail)
    go_wp2_with fail
    go_quiet (fail)
    go_wp2_with fail
    go_quiet (fail)
    (try clear ew)
    go_wp2_with fail
    go_ret3
    exact rget_no HD.out (M1.out.below (by repeat (first | with_reducible exact Below.refl _ _ | with_reducible apply pw_below_drewN | with_reducible apply below_drew)))
set_option maxRecDepth 100000 in
set_option maxHeartbeats 8000000 in
theorem rget_low (h : RefG w S U r x) (hnx : 1 ≤ x.next ∧ x.next < 4294967296) (hf : f = x.peer) (ht : t = x.own) (hv : v = x.view) (hk : ¬ k = 1) (hs : ¬ s = 0) (hlt : s < x.next) :
    Calls Try.prog 21 #[.pointer (some ⟨r, 0, none⟩), .agg (msC k f t v s (.slice A n c) (.slice B m d))] w fun e w' => RGetR w w' S U r x ⟨k, f, t, v, s, xs, ys⟩ e := by
  have HD := Lib.hid (show dGet x ⟨k, f, t, v, s, xs, ys⟩ = (([], [ansDS x], 8), x) by unfold dGet; rw [if_neg (fun h => h ⟨hf, ht⟩), if_neg (fun h => h hv), if_neg hk, if_neg hs, if_pos (.inl hlt)])
  obtain ⟨w1, hw1⟩ : ∃ w1, w1 = w.alloc (.cells (msC k f t v s (.slice A n c) (.slice B m d)) 51) := ⟨_, rfl⟩
  have hb1 : Below w.heap.size w w1 := by rw [hw1]; exact alloc_back _
  have q1 : w1.heap[w.heap.size]? = some (.cells (msC k f t v s (.slice A n c) (.slice B m d)) 51 (0, 0)) := by rw [hw1]; exact heap_alloc_new _ _
  have M1 := Lib.hid (show RMid w w1 S U r x (msC k f t v s (.slice A n c) (.slice B m d)) from ⟨q1, h.below hb1, Chg.ofBelow hb1, h.inn, h.inU⟩)
  have HW1 := Lib.hid hw1
  obtain ⟨V0, B0, c0, O0, H0, hc0⟩ := M1.out.G.cl
  obtain ⟨l0, l1, l2, l3, l4, l6, l7, l8, l9⟩ := rlC_cells hc0.blk
  obtain ⟨z0, z1, z2, z3, z4, z5, z6⟩ := msC_cells q1
  clear hw1 hb1 q1 h hc0
  clear l3 l4 l6 l7 l9 z5 z6
  have b1 : (f != x.peer) = false := by simp [hf]
  have b2 : (t != x.own) = false := by simp [ht]
  have b3 : (v != x.view) = false := by simp [hv]
  have b4 : (k == 1) = false := by simpa using hk
  have b5 : (s == 0) = false := by simpa using hs
  clear hf ht hv hk hs
  go_enter Try.func21, Try.ntmps21
  go_upto_region 1 with (fail)
  rw [← HW1.out]
  go_quiet (fail)
  revert nq; intro n1
  go_wp2_with fail
  go_quiet (fail)
  revert nq; intro n2
  go_wp2_with fail
  obtain ⟨w2, hw2⟩ : ∃ w2, w2 = w1.drewN (n1 + n2) := ⟨_, rfl⟩
  have hb2 : Below w1.heap.size w1 w2 := by rw [hw2]; exact pw_below_drewN (Below.refl _ _) _
  have M2 := Lib.hid (M1.out.below hb2)
  have y4 := pw_cell_below hb2 z4; have y8 := pw_cell_below hb2 l8
  rw [← hw2]
  clear hw2 hb2 z0 z1 z2 z3 z4 l0 l1 l2 l8 M1 HW1
  have b6 : decide (s ≤ x.next - 1) = true := decide_eq_true (by omega)
  have b7 : s ≤ x.next - 1 := by omega
  clear hlt
  go_quiet (fail)
  go_wp2_with fail
  obtain ⟨w3, hw3⟩ : ∃ w3, w3 = w2.drewN nq := ⟨_, rfl⟩
  have M3 := Lib.hid (show RMid w w3 S U r x (msC k f t v s (.slice A n c) (.slice B m d)) by rw [hw3]; exact M2.out.below (pw_below_drewN (Below.refl _ _) _))
  rw [← hw3]
  have CA := Lib.hid (rack M3.out.G hnx)
  clear hw3
  refine CA.out.mono ?_
  rintro e w4 ⟨V, rfl, hV, hb4⟩
  have HV := Lib.hid hV; have M4 := Lib.hid (M3.out.below hb4)
  clear hV hb4 CA
  go_wp2_with fail
  go_ret3
  unfold RGetR
  rw [HD.out]
  exact ⟨_, V, S, U, rfl, rowC_nil _, HV.out, M4.out.G, ⟨M4.out.C, fun b h => .inl h, fun b h => .inl h⟩⟩
set_option maxRecDepth 100000 in
set_option maxHeartbeats 8000000 in
theorem rget_seen (h : RefG w S U r x) (hnx : 1 ≤ x.next ∧ x.next < 4294967296) (hf : f = x.peer) (ht : t = x.own) (hv : v = x.view) (hk : ¬ k = 1) (hs : ¬ s = 0) (hl : x.held.length ≤ 100000) (hlt : ¬ s < x.next) (hge : hasD x.held s = true) :
    Calls Try.prog 21 #[.pointer (some ⟨r, 0, none⟩), .agg (msC k f t v s (.slice A n c) (.slice B m d))] w fun e w' => RGetR w w' S U r x ⟨k, f, t, v, s, xs, ys⟩ e := by
  have HD := Lib.hid (show dGet x ⟨k, f, t, v, s, xs, ys⟩ = (([], [ansDS x], 8), x) by unfold dGet; rw [if_neg (fun h => h ⟨hf, ht⟩), if_neg (fun h => h hv), if_neg hk, if_neg hs, if_pos (.inr hge)])
  obtain ⟨w1, hw1⟩ : ∃ w1, w1 = w.alloc (.cells (msC k f t v s (.slice A n c) (.slice B m d)) 51) := ⟨_, rfl⟩
  have hb1 : Below w.heap.size w w1 := by rw [hw1]; exact alloc_back _
  have q1 : w1.heap[w.heap.size]? = some (.cells (msC k f t v s (.slice A n c) (.slice B m d)) 51 (0, 0)) := by rw [hw1]; exact heap_alloc_new _ _
  have M1 := Lib.hid (show RMid w w1 S U r x (msC k f t v s (.slice A n c) (.slice B m d)) from ⟨q1, h.below hb1, Chg.ofBelow hb1, h.inn, h.inU⟩)
  have HW1 := Lib.hid hw1
  obtain ⟨V0, B0, c0, O0, H0, hc0⟩ := M1.out.G.cl
  obtain ⟨l0, l1, l2, l3, l4, l6, l7, l8, l9⟩ := rlC_cells hc0.blk
  obtain ⟨z0, z1, z2, z3, z4, z5, z6⟩ := msC_cells q1
  clear hw1 hb1 q1 h hc0
  clear l3 l4 l6 l7 l9 z5 z6
  have b1 : (f != x.peer) = false := by simp [hf]
  have b2 : (t != x.own) = false := by simp [ht]
  have b3 : (v != x.view) = false := by simp [hv]
  have b4 : (k == 1) = false := by simpa using hk
  have b5 : (s == 0) = false := by simpa using hs
  clear hf ht hv hk hs
  go_enter Try.func21, Try.ntmps21
  go_upto_region 1 with (fail)
  rw [← HW1.out]
  go_quiet (fail)
  revert nq; intro n1
  go_wp2_with fail
  go_quiet (fail)
  revert nq; intro n2
  go_wp2_with fail
  obtain ⟨w2, hw2⟩ : ∃ w2, w2 = w1.drewN (n1 + n2) := ⟨_, rfl⟩
  have hb2 : Below w1.heap.size w1 w2 := by rw [hw2]; exact pw_below_drewN (Below.refl _ _) _
  have M2 := Lib.hid (M1.out.below hb2)
  have y4 := pw_cell_below hb2 z4; have y8 := pw_cell_below hb2 l8
  rw [← hw2]
  clear hw2 hb2 z0 z1 z2 z3 z4 l0 l1 l2 l8 M1 HW1
  have b6 : decide (s ≤ x.next - 1) = false := decide_eq_false (by omega)
  have b7 : ¬ s ≤ x.next - 1 := by omega
  obtain ⟨ix, hix⟩ : ∃ ix, ix = ixD x.held s := ⟨_, rfl⟩
  have hix0 : 0 ≤ ix := by rw [hix]; exact (ixD_has _ _).2 hge
  have b8 : decide (0 ≤ ix) = true := decide_eq_true hix0
  have CH := Lib.hid (fun z : Nat => rhas (M2.out.G.below (pw_below_drewN (Below.refl w2.heap.size w2) z)) s hl)
  rw [← hix] at CH
  clear hlt hge hix
  go_quiet ((go_at_call 35; exact Calls.quiet_of_same ((CH.out _).mono fun e w' he => ⟨he.1, he.2.symm⟩)))
  go_wp2_with fail
  obtain ⟨w3, hw3⟩ : ∃ w3, w3 = w2.drewN nq := ⟨_, rfl⟩
  have M3 := Lib.hid (show RMid w w3 S U r x (msC k f t v s (.slice A n c) (.slice B m d)) by rw [hw3]; exact M2.out.below (pw_below_drewN (Below.refl _ _) _))
  rw [← hw3]
  have CA := Lib.hid (rack M3.out.G hnx)
  clear hw3
  refine CA.out.mono ?_
  rintro e w4 ⟨V, rfl, hV, hb4⟩
  have HV := Lib.hid hV; have M4 := Lib.hid (M3.out.below hb4)
  clear hV hb4 CA
  go_wp2_with fail
  go_ret3
  unfold RGetR
  rw [HD.out]
  exact ⟨_, V, S, U, rfl, rowC_nil _, HV.out, M4.out.G, ⟨M4.out.C, fun b h => .inl h, fun b h => .inl h⟩⟩
set_option maxRecDepth 100000 in
set_option maxHeartbeats 8000000 in
theorem rget_far (h : RefG w S U r x) (hnx : 1 ≤ x.next ∧ x.next < 4294967296) (hf : f = x.peer) (ht : t = x.own) (hv : v = x.view) (hk : ¬ k = 1) (hs : ¬ s = 0) (hsr : 0 ≤ s ∧ s < 4294967296) (hl : x.held.length ≤ 100000) (hlt : ¬ s < x.next) (hge : ¬ hasD x.held s = true) (hfar : 32 ≤ s - x.next) :
    Calls Try.prog 21 #[.pointer (some ⟨r, 0, none⟩), .agg (msC k f t v s (.slice A n c) (.slice B m d))] w fun e w' => RGetR w w' S U r x ⟨k, f, t, v, s, xs, ys⟩ e := by
  have HD := Lib.hid (show dGet x ⟨k, f, t, v, s, xs, ys⟩ = (([], [], 6), x) by unfold dGet; rw [if_neg (fun h => h ⟨hf, ht⟩), if_neg (fun h => h hv), if_neg hk, if_neg hs, if_neg (fun h => h.elim hlt hge), if_pos hfar])
  obtain ⟨w1, hw1⟩ : ∃ w1, w1 = w.alloc (.cells (msC k f t v s (.slice A n c) (.slice B m d)) 51) := ⟨_, rfl⟩
  have hb1 : Below w.heap.size w w1 := by rw [hw1]; exact alloc_back _
  have q1 : w1.heap[w.heap.size]? = some (.cells (msC k f t v s (.slice A n c) (.slice B m d)) 51 (0, 0)) := by rw [hw1]; exact heap_alloc_new _ _
  have M1 := Lib.hid (show RMid w w1 S U r x (msC k f t v s (.slice A n c) (.slice B m d)) from ⟨q1, h.below hb1, Chg.ofBelow hb1, h.inn, h.inU⟩)
  have HW1 := Lib.hid hw1
  obtain ⟨V0, B0, c0, O0, H0, hc0⟩ := M1.out.G.cl
  obtain ⟨l0, l1, l2, l3, l4, l6, l7, l8, l9⟩ := rlC_cells hc0.blk
  obtain ⟨z0, z1, z2, z3, z4, z5, z6⟩ := msC_cells q1
  clear hw1 hb1 q1 h hc0
  clear l3 l4 l6 l7 l9 z5 z6
  have b1 : (f != x.peer) = false := by simp [hf]
  have b2 : (t != x.own) = false := by simp [ht]
  have b3 : (v != x.view) = false := by simp [hv]
  have b4 : (k == 1) = false := by simpa using hk
  have b5 : (s == 0) = false := by simpa using hs
  clear hf ht hv hk hs
  go_enter Try.func21, Try.ntmps21
  go_upto_region 1 with (fail)
  rw [← HW1.out]
  go_quiet (fail)
  revert nq; intro n1
  go_wp2_with fail
  go_quiet (fail)
  revert nq; intro n2
  go_wp2_with fail
  obtain ⟨w2, hw2⟩ : ∃ w2, w2 = w1.drewN (n1 + n2) := ⟨_, rfl⟩
  have hb2 : Below w1.heap.size w1 w2 := by rw [hw2]; exact pw_below_drewN (Below.refl _ _) _
  have M2 := Lib.hid (M1.out.below hb2)
  have y4 := pw_cell_below hb2 z4; have y8 := pw_cell_below hb2 l8
  rw [← hw2]
  clear hw2 hb2 z0 z1 z2 z3 z4 l0 l1 l2 l8 M1 HW1
  have b6 : decide (s ≤ x.next - 1) = false := decide_eq_false (by omega)
  have b7 : ¬ s ≤ x.next - 1 := by omega
  obtain ⟨ix, hix⟩ : ∃ ix, ix = ixD x.held s := ⟨_, rfl⟩
  have hix0 : ¬ 0 ≤ ix := by rw [hix]; exact fun h => hge ((ixD_has _ _).1 h)
  have b8 : decide (0 ≤ ix) = false := decide_eq_false hix0
  have CH := Lib.hid (fun z : Nat => rhas (M2.out.G.below (pw_below_drewN (Below.refl w2.heap.size w2) z)) s hl)
  rw [← hix] at CH
  clear hge hix
  go_quiet ((go_at_call 35; exact Calls.quiet_of_same ((CH.out _).mono fun e w' he => ⟨he.1, he.2.symm⟩)))
  go_wp2_with fail
  obtain ⟨w3, hw3⟩ : ∃ w3, w3 = w2.drewN nq := ⟨_, rfl⟩
  have hb3 : Below w2.heap.size w2 w3 := by rw [hw3]; exact pw_below_drewN (Below.refl _ _) _
  have M3 := Lib.hid (M2.out.below hb3)
  have x4 := pw_cell_below hb3 y4; have x8 := pw_cell_below hb3 y8
  rw [← hw3]
  have ew : IntKind.u32.wrap (s - (x.next - 1)) = s - (x.next - 1) := by rw [IntKind.wrap_u32]; omega
  clear hw3 hb3 y4 y8 b6 b7 b8 hix0 CH M2
  have c6 : decide ((32 : Int) < s - (x.next - 1)) = true := decide_eq_true (by omega)
  have c7 : (32 : Int) < s - (x.next - 1) := by omega
  clear hlt hfar hsr
  go_quiet (fail)
  go_wp2_with fail
  go_ret3
  exact rget_no HD.out (M3.out.below (by repeat (first | with_reducible exact Below.refl _ _ | with_reducible apply pw_below_drewN | with_reducible apply below_drew)))
end
end Go.Proofs.Ytbkpgkkfkjlnnaa.G
/- The reference's link: Get of an acknowledgement (printed by a program of mine, mkrfg.py). -/
set_option linter.unusedVariables false
set_option linter.unusedSimpArgs false
namespace Go.Proofs.Ytbkpgkkfkjlnnaa.G
open Go.RowKit Go.Proofs.YtbkpgkkfkjlnnaaW.PrintWords Go.Proofs.YtbkpgkkfkjlnnaaW.PrintLast Go.Proofs.Ytbkpgkkfkjlnnaa.K Go.Proofs.Ytbkpgkkfkjlnnaa.Row Go.Proofs.Ytbkpgkkfkjlnnaa

theorem filter_drop {L : List Pd} {q : Int} {j : Nat} (hi : L.Pairwise (fun p q => p.m.s < q.m.s)) (h1 : ∀ (i : Nat) (p : Pd), i < j → L[i]? = some p → p.m.s ≤ q) (h2 : ∀ p : Pd, L[j]? = some p → q < p.m.s) : L.filter (nakD q) = L.drop j := by
  have e : L = L.take j ++ L.drop j := (List.take_append_drop j L).symm
  have hA : (L.take j).filter (nakD q) = [] := by
    rw [List.filter_eq_nil_iff]
    intro p hp
    obtain ⟨i, hi'⟩ := List.mem_iff_getElem?.1 hp
    have hlt := (List.getElem?_eq_some_iff.1 hi').1
    rw [List.length_take] at hlt
    rw [List.getElem?_take, if_pos (by omega)] at hi'
    have := h1 i p (by omega) hi'
    simp [nakD]; exact this
  have hB : (L.drop j).filter (nakD q) = L.drop j := by
    rw [List.filter_eq_self]
    intro p hp
    obtain ⟨i, hi'⟩ := List.mem_iff_getElem?.1 hp
    rw [List.getElem?_drop] at hi'
    have hlt := (List.getElem?_eq_some_iff.1 hi').1
    have hq : q < p.m.s := by
      rcases Nat.eq_zero_or_pos i with h0 | h0
      · subst h0; exact h2 p hi'
      · have h3 := h2 L[j] (List.getElem?_eq_getElem (by omega))
        have h4 := (List.pairwise_iff_getElem.1 hi) j (j + i) (by omega) hlt (by omega)
        rw [(List.getElem?_eq_some_iff.1 hi').2] at h4
        omega
    simp [nakD]; exact hq
  conv => lhs; rw [e]
  rw [List.filter_append, hA, hB, List.nil_append]
/-- out = out[1:] -/
theorem RefC.cut {w : World} {S U : Nat → Prop} {r : Nat} {d : DS} {V : Value} {B : Option Addr} {c : Nat} {o : RSn} {O : List RSn} {H : List Hd} (hG : RefG w S U r d) (h : RefC w S U r d V B c (o :: O) H) :
    ∃ V', (∀ W : World, (Instr.slice 44 V (some (.int .i64 1)) none none).run Try.prog W = .ok V' W) ∧ RefG (w.setCell ⟨r, 3, none⟩ V') S U r { d with out := d.out.drop 1 } ∧ ∃ A1 c1, V' = .slice A1 O.length c1 := by
  obtain ⟨i, z, hi, hz, hs, hb, hzs⟩ := tInfo
  obtain ⟨V', h1, h2, h3⟩ := h.q.cut (cs := o.cells) (xs := rsC O) (n := O.length) (by decide) rfl Try.underlying44 hi hs
  obtain ⟨t1, t2, t3⟩ := h.vr
  have hc : Chg (fun b => b = r) w (w.setCell ⟨r, 3, none⟩ V') := Chg.ofGrown (grown_set _) (fun k e => by injection e with e; exact e.symm)
  have hs' : (w.setCell ⟨r, 3, none⟩ V').heap.size = w.heap.size := by simp [World.setCell]
  have hU : ∀ b, U b → b ≠ r := fun b hb e => hG.sep r hG.hr (e ▸ hb)
  refine ⟨V', h1, ⟨fun b hb => by rw [hs']; exact hG.inn b hb, fun b hb => by rw [hs']; exact hG.inU b hb, hG.sep, hG.hr, ⟨V', B, c, O, H, ⟨by rw [heap_set _ h.blk]; rfl, h2.chg hc (fun k hk e => t1 k (h3 ▸ hk) e), fun b hb => h.qs b (h3 ▸ hb), ⟨hc.own h.h.1 t2, h.h.2⟩, ?_, h.eh, fun p hp => (h.bo p (List.mem_cons_of_mem _ hp)).chg hc hU, fun p hp => (h.bh p hp).chg hc hU⟩⟩⟩, h2.shape⟩
  have := h.eo
  show O.map RSn.key = (d.out.drop 1).map Pd.key
  rw [List.map_drop, ← this]; rfl
theorem cut_form (w : World) {g off cap n : Nat} {V' : Value} (h : (Instr.slice 44 (.slice (some ⟨g, off, none⟩) (n + 1) cap) (some (.int .i64 1)) none none).run Try.prog w = .ok V' w) : V' = .slice (if cap = 1 then some ⟨g, off, none⟩ else some ⟨g, off + 8, none⟩) n (cap - 1) := by
  obtain ⟨i, z, hi, hz, hs, hb, hzs⟩ := tInfo
  have hu : Try.prog.underlying 44 = some (.slice (Try.prog.elem 44)) := by simp [Program.elem, Try.underlying44]
  have hel : Try.prog.elem 44 = 71 := by simp [Program.elem, Try.underlying44]
  rw [run_slice_l w 44 (some ⟨g, off, none⟩) (n + 1) cap hu .i64 1 (by decide) (by omega), hel] at h
  simp [sizeOf, typeInfo, hi, hs, sliced, Result.andThen, Addr.add] at h
  exact h.symm
def outLen (w : World) (r : Nat) : Nat := match w.cell? ⟨r, 3, none⟩ with | some (.slice _ n _) => n | _ => 0
section
variable (w : World) (S U : Nat → Prop) (r : Nat) (x : DS) (k f t v s : Int) (A B : Option Addr) (n c m d : Nat) (xs : List Int) (ys : List (Int × Int))
set_option maxRecDepth 100000 in
set_option maxHeartbeats 8000000 in
theorem rget_ack (h : RefG w S U r x) {N : Nat} (hi : Inv x N) (hN : N ≤ 1000) (hr : ∀ wx, Chg S w wx → MsR wx A n c xs B m d ys) (hwl : ys.length = m) (hf : f = x.peer) (ht : t = x.own) (hv : v = x.view) (hk : k = 1) (hok : cfB s x.told xs m = true) :
    Calls Try.prog 21 #[.pointer (some ⟨r, 0, none⟩), .agg (msC k f t v s (.slice A n c) (.slice B m d))] w fun e w' => RGetR w w' S U r x ⟨k, f, t, v, s, xs, ys⟩ e := by
  obtain ⟨w1, hw1⟩ : ∃ w1, w1 = w.alloc (.cells (msC k f t v s (.slice A n c) (.slice B m d)) 51) := ⟨_, rfl⟩
  have hb1 : Below w.heap.size w w1 := by rw [hw1]; exact alloc_back _
  have q1 : w1.heap[w.heap.size]? = some (.cells (msC k f t v s (.slice A n c) (.slice B m d)) 51 (0, 0)) := by rw [hw1]; exact heap_alloc_new _ _
  have M1 := Lib.hid (show RMid w w1 S U r x (msC k f t v s (.slice A n c) (.slice B m d)) from ⟨q1, h.below hb1, Chg.ofBelow hb1, h.inn, h.inU⟩)
  have HW1 := Lib.hid hw1
  obtain ⟨V0, B0, c0, O0, H0, hc0⟩ := M1.out.G.cl
  obtain ⟨l0, l1, l2, l3, l4, l6, l7, l8, l9⟩ := rlC_cells hc0.blk
  obtain ⟨z0, z1, z2, z3, z4, z5, z6⟩ := msC_cells q1
  clear hw1 hb1 q1 h hc0
  have HRD := Lib.hid hr
  have h4' := hok
  unfold cfB at h4'
  simp only [Bool.and_eq_true, beq_iff_eq, decide_eq_true_eq] at h4'
  obtain ⟨e1, e2, e3, e4, e5⟩ := h4'
  have hn1 : n = 1 := by rw [← (hr w (Chg.refl _ _)).rd.1]; exact e3
  subst hn1
  subst e1
  obtain ⟨q, rfl⟩ : ∃ q, xs = [q] := by match xs, e3 with | [q], _ => exact ⟨q, rfl⟩
  have q0 : 0 ≤ q := e4
  have q1 : q ≤ x.told := e5
  have HD := Lib.hid (show dGet x ⟨k, f, t, v, 0, [q], ys⟩ = (([], [], 0), { x with out := x.out.filter (nakD q) }) by unfold dGet; rw [if_neg (fun h => h ⟨hf, ht⟩), if_neg (fun h => h hv), if_pos hk, if_pos (by rw [hwl]; exact hok)]; rfl)
  have hm0 : m = 0 := e2
  subst hm0
  have HI := Lib.hid hi
  have hto := hi.told
  have hpu := hi.pushed
  have hlen := hi.len
  clear hr hok e2 e3 e4 e5 hwl l3 l4 l7 l8 l9 hi
  have b1 : (f != x.peer) = false := by simp [hf]
  have b2 : (t != x.own) = false := by simp [ht]
  have b3 : (v != x.view) = false := by simp [hv]
  have b4 : (k == 1) = true := by simp [hk]
  have d0 : decide (q < 0) = false := decide_eq_false (by omega)
  have d1 : decide (x.told < q) = false := decide_eq_false (by omega)
  have d2 : ¬ q < 0 := by omega
  have d3 : ¬ x.told < q := by omega
  have ew : IntKind.i64.wrap x.told = x.told := by rw [IntKind.wrap_i64]; omega
  have y0 : (0 : Int) < ((1 : Nat) : Int) := by decide
  have y1 : 0 < 1 := by decide
  obtain ⟨ad, hA, hcell⟩ := (HRD.out w1 M1.out.C).rd.2.2 (by decide)
  have hc0 := hcell 0 (by decide)
  have e0 : ad.add 0 = ad := by simp [Addr.add]
  rw [e0] at hc0
  have hg0 : [q].getD 0 0 = q := rfl
  rw [hg0] at hc0
  subst hA
  clear hf ht hv hk hcell e0 hg0
  go_enter Try.func21, Try.ntmps21
  go_upto_region 1 with (fail)
  rw [← HW1.out]
  go_quiet (fail)
  go_wp2_with fail
  go_quiet (fail)
  go_wp2_with fail
  go_quiet (fail)
  (try clear ew)
  go_wp2_with fail
  go_loopw [90] (fun s90 wr => ∃ j : Nat, j ≤ x.out.length ∧ Aside0 (RMid w wr S U r { x with out := x.out.drop j } (msC k f t v 0 (.slice (some ad) 1 c) (.slice B 0 d)) ∧ ∀ (i : Nat) (p : Pd), i < j → x.out[i]? = some p → p.m.s ≤ q)) (fun _ wr => outLen wr r)
  case atStart => exact ⟨0, Nat.zero_le _, ⟨M1.out.below (by repeat (first | with_reducible exact Below.refl _ _ | with_reducible apply pw_below_drewN | with_reducible apply below_drew)), fun i p hi => by omega⟩⟩
  case round =>
    obtain ⟨j, hj, HK⟩ := hrel
    obtain ⟨hM, hle⟩ := HK.out
    have HM := Lib.hid hM; have HLE := Lib.hid hle
    clear HK hM hle
    obtain ⟨V1, B1, d1', O1, H1, hc1⟩ := HM.out.G.cl
    have hol := hc1.olen.1
    have hcN := (HRD.out wr HM.out.C).rd.2.2 (by decide)
    obtain ⟨ad', hA', hcell⟩ := hcN
    injection hA' with hA'
    subst hA'
    have n0 := hcell 0 (by decide)
    have e0 : ad.add 0 = ad := by simp [Addr.add]
    rw [e0] at n0
    have hg0 : [q].getD 0 0 = q := rfl
    rw [hg0] at n0
    obtain ⟨z0, z1, z2, z3, z4, z5, z6⟩ := msC_cells HM.out.q
    clear hcell e0 hg0 z0 z1 z2 z3 z4 z6
    match O1, hc1, hol with
    | [], hc1, hol =>
      obtain ⟨A1, c1', rfl⟩ := hc1.q.shape
      obtain ⟨l0, l1, l2, l3, -⟩ := rlC_cells hc1.blk
      have hd0 : x.out.drop j = [] := List.eq_nil_of_length_eq_zero hol.symm
      have hF : x.out.filter (nakD q) = x.out.drop j := filter_drop HI.out.inc HLE.out (fun p hp => by
        have h1 := (List.getElem?_eq_some_iff.1 hp).1
        have h2 := congrArg List.length hd0
        rw [List.length_drop] at h2
        simp at h2; omega)
      have HF := Lib.hid hF
      clear l0 l1 l2 hc1 hol hd0 hF
      go_wp2_with fail
      go_quiet (fail)
      go_wp2_with fail
      go_ret3
      unfold RGetR
      rw [HD.out, HF.out]
      have hM3 := HM.out.below (w4 := _) (pw_below_drewN (Below.refl wr.heap.size wr) nq)
      exact ⟨_, _, S, U, rfl, rowC_nil _, rowC_nil _, hM3.G, ⟨hM3.C, fun b h => .inl h, fun b h => .inl h⟩⟩
    | o1 :: O2, hc1, hol =>
      obtain ⟨g, off, cap, hV, hce⟩ := hc1.cells (i := 0) (q := o1) rfl
      subst hV
      obtain ⟨l0, l1, l2, l3, -⟩ := rlC_cells hc1.blk
      have e4 : wr.cell? ⟨g, off + 4, none⟩ = some (.int .u32 o1.m.s) := by have h := hce 4 (by decide); rw [Nat.zero_mul, Nat.zero_add] at h; exact h
      have hlt : j < x.out.length := by simp at hol; omega
      obtain ⟨p, hp⟩ : ∃ p, x.out[j]? = some p := ⟨_, List.getElem?_eq_getElem hlt⟩
      have hkey : o1.m.dt = p.m := by
        have h1 : ((o1 :: O2).map RSn.key)[0]? = ((x.out.drop j).map Pd.key)[0]? := by rw [hc1.eo]
        rw [List.getElem?_map, List.getElem?_map, List.getElem?_drop, Nat.add_zero, hp] at h1
        injection h1 with h1
        exact congrArg Prod.fst h1
      have hs : o1.m.s = p.m.s := congrArg Dt.s hkey
      have hpI := (HI.out.out p (List.mem_of_getElem? hp)).1
      obtain ⟨sq, hsq⟩ : ∃ sq, sq = o1.m.s := ⟨_, rfl⟩
      rw [← hsq] at e4
      have hsp : sq = p.m.s := hsq.trans hs
      have HSP := Lib.hid hsp
      have es : IntKind.i64.wrap sq = sq := by rw [IntKind.wrap_i64]; omega
      obtain ⟨n2, hn2⟩ : ∃ n2, n2 = (o1 :: O2).length := ⟨_, rfl⟩
      have n2p : 1 ≤ n2 := by rw [hn2]; simp
      have y2 : (0 : Int) < (n2 : Int) := by omega
      have y3 : 0 < n2 := by omega
      have HP := Lib.hid hp
      have HC1 := Lib.hid hc1
      have HN2 := Lib.hid hn2
      rw [← hn2] at l3
      clear hce hc1 hkey hs hpI hsq hn2 hp l0 l1 l2 hol
      by_cases hsle : sq ≤ q
      · have dl : decide (sq ≤ q) = true := decide_eq_true hsle
        have HSL := Lib.hid hsle
        clear hsle hsp
        go_wp2_with fail
        go_quiet (fail)
        (try clear es)
        obtain ⟨w3, hw3⟩ : ∃ w3, w3 = wr.drewN nq := ⟨_, rfl⟩
        have hb3 : Below wr.heap.size wr w3 := by rw [hw3]; exact pw_below_drewN (Below.refl _ _) _
        have M3 := Lib.hid (HM.out.below hb3)
        have hc3 := HC1.out.chg HM.out.G.hr (T := fun _ => False) (Chg.ofBelow hb3) (fun _ _ h => h) (fun _ _ h => h)
        obtain ⟨V4, hsl, hG4, A4, c4, rfl⟩ := RefC.cut M3.out.G hc3
        have l33 := pw_cell_below hb3 l3
        have f3 := froz hc3.blk 3
        go_upto_region 9 with (fail)
        rw [← hw3]
        obtain ⟨n4, hn4⟩ : ∃ n4, n4 = O2.length := ⟨_, rfl⟩
        rw [← hn4] at hsl hG4
        have hcf := cut_form w3 (g := g) (off := off) (cap := cap) (n := O2.length) (hsl w3)
        rw [← hn4] at hcf
        rw [hcf] at hG4
        injection hcf with f1 f2 f3'
        have hn24 : n2 = n4 + 1 := by rw [HN2.out, hn4]; simp
        obtain ⟨w4, hw4⟩ : ∃ w4, w4 = w3.setCell ⟨r, 3, none⟩ (.slice (if cap = 1 then some ⟨g, off, none⟩ else some ⟨g, off + 8, none⟩) n4 (cap - 1)) := ⟨_, rfl⟩
        rw [← hw4] at hG4
        have hc4 : Chg (fun b => b = r) w3 w4 := by rw [hw4]; exact Chg.ofGrown (grown_set _) (fun k e => by injection e with e; exact e.symm)
        have M4 := Lib.hid (show RMid w w4 S U r { x with out := x.out.drop (j + 1) } (msC k f t v 0 (.slice (some ad) 1 c) (.slice B 0 d)) from ⟨hc4.keep M3.out.q (fun e => M3.out.ne e.symm), by have h := hG4; rw [List.drop_drop] at h; exact h, M3.out.C.trans hc4 (fun k _ e => by rw [e]; exact M3.out.G.hr), M3.out.lt, M3.out.ltU⟩)
        have HW4 := Lib.hid hw4
        have hx3 : wr.cell? ⟨r, 3, none⟩ = some (.slice (some ⟨g, off, none⟩) n2 cap) := l3
        have hx4 : w4.cell? ⟨r, 3, none⟩ = some (.slice (if cap = 1 then some ⟨g, off, none⟩ else some ⟨g, off + 8, none⟩) n4 (cap - 1)) := by rw [hw4]; exact World.cell?_setCell_same' w3 _ _ (by rw [l33]; rfl)
        have HOL := Lib.hid (show outLen w4 r < outLen wr r by unfold outLen; rw [hx3, hx4]; show n4 < n2; omega)
        have HLT := Lib.hid hlt
        clear hw3 hb3 hc3 hG4 hc4 hw4 hx3 hx4 l3 hn4 y2 y3 n2p hlt hsl f1 f2 f3'
        subst hn24
        go_wp2_with fail
        rw [← HW4.out]
        go_roundw
        case rel => exact ⟨j + 1, HLT.out, ⟨M4.out, fun i p' hi hp' => by
          rcases Nat.lt_succ_iff_lt_or_eq.1 hi with h | rfl
          · exact HLE.out i p' h hp'
          · rw [HP.out] at hp'; injection hp' with hp'; subst hp'; rw [← HSP.out]; exact HSL.out⟩⟩
        case measure => exact HOL.out
      · have dl : decide (sq ≤ q) = false := decide_eq_false hsle
        have HF := Lib.hid (show x.out.filter (nakD q) = x.out.drop j from filter_drop HI.out.inc HLE.out (fun p' hp' => by
          rw [HP.out] at hp'; injection hp' with hp'; subst hp'; rw [← HSP.out]; omega))
        clear hsp
        go_wp2_with fail
        go_quiet (fail)
        (try clear es)
        go_wp2_with fail
        go_ret3
        unfold RGetR
        rw [HD.out, HF.out]
        have hM3 := HM.out.below (w4 := _) (pw_below_drewN (Below.refl wr.heap.size wr) nq)
        exact ⟨_, _, S, U, rfl, rowC_nil _, rowC_nil _, hM3.G, ⟨hM3.C, fun b h => .inl h, fun b h => .inl h⟩⟩
end
end Go.Proofs.Ytbkpgkkfkjlnnaa.G
