/- awake of package carousellaw21. -/
import Derived.Test.YtbkpgkkfkjlnnaaLinkE
set_option linter.unusedVariables false
set_option linter.unusedSimpArgs false
namespace Go.Proofs.Ytbkpgkkfkjlnnaa
open Go.RowKit Go.Proofs.YtbkpgkkfkjlnnaaW.PrintWords Go.Proofs.Ytbkpgkkfkjlnnaa.K

theorem keys_one {M : List Sd} {k s : Int} {xs : List Int} (h : M.map Sd.key = [(k, s, xs)]) : ∃ q, M = [q] ∧ q.k = k ∧ q.s = s ∧ q.xs = xs := by
  match M, h with
  | [q], h =>
    simp [Sd.key] at h
    exact ⟨q, rfl, h⟩
set_option maxRecDepth 100000 in
set_option maxHeartbeats 4000000 in
theorem awake_walk (W : World) : Calls Try.prog 8 #[] W fun e w' => e = .returned (.bool true) ∧ Below W.heap.size W w' := by
  go_enter Try.func8, Try.ntmps8
  go_wp2_with fail
  refine (new_ok 1 2 3 W (by decide) (by decide) (by decide)).mono ?_
  rintro e w0 ⟨rfl, hw0⟩
  have S0 := Lib.hid (show LkS w0 W.heap.size W.heap.size 1 2 3 0 0 0 1 [] by rw [hw0]; exact lk_made W W.heap.size 1 2 3 (Nat.le_refl _))
  have B0 := Lib.hid (show Below W.heap.size W w0 by rw [hw0]; exact alloc_back _)
  clear hw0
  go_wp2_with fail
  have R0 := Lib.hid (reads_lit w0 .i64 [9] 2 (0, 0) 1 rfl (by decide))
  refine (push_ok W.heap.size W.heap.size 1 2 3 0 0 0 1 [] 5 0 0 0 0 (some ⟨w0.heap.size, 0, none⟩) 1 1 [9] _ (S0.out.below (alloc_back _)) R0.out (fun h => by cases h) (by decide) (by decide) (by decide) (by decide) (by decide) (by decide)).mono ?_
  rintro e w1 ⟨A1, c1, rfl, hS1, hB1⟩
  have S1 := Lib.hid (show LkS w1 W.heap.size W.heap.size 1 2 3 0 1 0 1 [⟨5, 1, A1, c1, [9], false, 0⟩] from hS1)
  have B1 := Lib.hid (hB1 W (below_then B0.out B0.out.size (alloc_back _)))
  clear hS1 hB1
  go_wp2_with fail
  refine (tick_ok W.heap.size W.heap.size 1 2 3 0 1 0 1 [⟨5, 1, A1, c1, [9], false, 0⟩] 0 w1 S1.out (by simp) (by decide) (by decide) (by intro q hq; obtain rfl := List.mem_singleton.1 hq; simp) (by intro q hq; obtain rfl := List.mem_singleton.1 hq; simp) 0 rfl 1 rfl).mono ?_
  rintro e w2 ⟨A2, k2, c2, M2, rfl, hT2⟩
  obtain ⟨q, rfl, hq1, hq2, hq3⟩ := keys_one (k := 5) (s := 1) (xs := [9]) hT2.e
  have hk2 : k2 = 1 := hT2.o.l.symm
  subst hk2
  have S2 := Lib.hid (show LkS w2 W.heap.size W.heap.size 1 2 3 0 1 1 1 [⟨5, 1, A1, c1, [9], true, 0⟩] from hT2.S)
  have O2 := Lib.hid hT2.o
  have B2 := Lib.hid (hT2.B W B1.out)
  have HQ := Lib.hid (And.intro hq1 hq2)
  clear hT2 hq1 hq2 hq3
  go_wp2_with fail
  refine (tick_ok W.heap.size W.heap.size 1 2 3 0 1 1 1 [⟨5, 1, A1, c1, [9], true, 0⟩] 0 w2 S2.out (by simp) (by decide) (by decide) (by intro q hq; obtain rfl := List.mem_singleton.1 hq; simp) (by intro q hq; obtain rfl := List.mem_singleton.1 hq; simp) 0 rfl 1 rfl).mono ?_
  rintro e w3 ⟨A3, k3, c3, M3, rfl, hT3⟩
  have hM3 : M3 = [] := by
    have h : M3.map Sd.key = [] := hT3.e
    simpa using h
  subst hM3
  have hk3 : k3 = 0 := hT3.o.l.symm
  subst hk3
  have S3 := Lib.hid hT3.S
  have B3 := Lib.hid (hT3.B W B2.out)
  obtain ⟨g, cap, e, hgb, hgl⟩ := O2.out.o.form (by decide)
  injection e with e1 e2 e3
  subst e1 e3
  obtain ⟨cs, hcs⟩ := row_block O2.out.o
  have hcs3 := hT3.K.2 g cs _ hcs (by decide) (by decide)
  have hbk : w3.heap[g]? = w2.heap[g]? := hcs3.trans hcs.symm
  have y0 := O2.out.o.cells (g := g) rfl 0 (.int .i64 q.k) rfl
  have y1 := O2.out.o.cells (g := g) rfl 1 (.int .i64 1) rfl
  have y2 := O2.out.o.cells (g := g) rfl 2 (.int .i64 2) rfl
  have y3 := O2.out.o.cells (g := g) rfl 3 (.int .u32 3) rfl
  have y4 := O2.out.o.cells (g := g) rfl 4 (.int .u32 q.s) rfl
  rw [add_plain] at y0 y1 y2 y3 y4
  rw [HQ.out.1, ← World.cell?_of_block hbk] at y0
  rw [HQ.out.2, ← World.cell?_of_block hbk] at y4
  rw [← World.cell?_of_block hbk] at y1 y2 y3
  obtain ⟨A4, c4, hc4, -⟩ := S3.out.cl
  have C4 := Lib.hid (waiting_walk w3 W.heap.size 1 2 3 0 A4 1 c4 1 _ 1 _ hc4)
  have C5 := Lib.hid (next_walk w3 W.heap.size 1 2 3 0 _ 1 _ 1 _ hc4)
  clear hT3 e2 hcs hcs3 hbk hc4
  go_wp2_with fail
  refine C4.out.mono ?_
  rintro e w' ⟨rfl, rfl⟩
  go_wp2_with fail
  refine C5.out.mono ?_
  rintro e w' ⟨rfl, rfl⟩
  go_wp2_with fail
  go_ret
  exact ⟨by first | rfl | simp, B3.out⟩
end Go.Proofs.Ytbkpgkkfkjlnnaa
