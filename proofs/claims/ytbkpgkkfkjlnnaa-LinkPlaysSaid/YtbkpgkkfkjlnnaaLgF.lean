/- Links of any messages: confirm. -/
import Derived.Test.YtbkpgkkfkjlnnaaLgE
set_option linter.unusedVariables false
set_option linter.unusedSimpArgs false
namespace Go.Proofs.Ytbkpgkkfkjlnnaa.G
open Go.RowKit Go.Proofs.YtbkpgkkfkjlnnaaW.PrintWords Go.Proofs.YtbkpgkkfkjlnnaaW.PrintLast Go.Proofs.Ytbkpgkkfkjlnnaa.K Go.Proofs.Ytbkpgkkfkjlnnaa.Row Go.Proofs.Ytbkpgkkfkjlnnaa

def cfB (s told : Int) (xs : List Int) (m : Nat) : Bool := (s == 0) && (decide (m = 0) && (decide (xs.length = 1) && (decide (0 ≤ xs.getD 0 0) && decide (xs.getD 0 0 ≤ told))))
section
variable (w : World) (S : Nat → Prop) (r : Nat) (x : LSt) (k f t v s : Int) (A B : Option Addr) (n c m d : Nat) (xs : List Int)
set_option maxRecDepth 100000 in
set_option maxHeartbeats 4000000 in
theorem confirm_no (h : LkG w S r x) (hr : ReadsInt w .i64 A n xs) (ht : 0 ≤ x.told ∧ x.told < 4294967296) (hno : cfB s x.told xs m = false) :
    Calls Try.prog 28 #[.pointer (some ⟨r, 0, none⟩), .agg (msC k f t v s (.slice A n c) (.slice B m d))] w fun e w' => e = .returned (.int .i64 3) ∧ Below w.heap.size w w' := by
  obtain ⟨A1, c1, B1, d1, h1, _, _⟩ := h.cl
  obtain ⟨w1, hw1⟩ : ∃ w1, w1 = w.alloc (.cells (msC k f t v s (.slice A n c) (.slice B m d)) 32) := ⟨_, rfl⟩
  have hb1 : Below w.heap.size w w1 := by rw [hw1]; exact alloc_back _
  have q1 : w1.heap[w.heap.size]? = some (.cells (msC k f t v s (.slice A n c) (.slice B m d)) 32 (0, 0)) := by rw [hw1]; exact heap_alloc_new _ _
  obtain ⟨z0, z1, z2, z3, z4, z5, z6⟩ := msC_cells q1
  obtain ⟨c0, c1', c2, c3, c4, c5, c6, c7, c8⟩ := lkC_cells (heap_keep hb1 h1)
  have HW1 := Lib.hid hw1; have HB1 := Lib.hid hb1; have HNO := Lib.hid hno
  have hR := hr.below hb1
  have HR := Lib.hid hR
  clear hw1 hb1 q1 h1 h hr hR hno c0 c1' c2 c3 c4 c5 c7 c8 z0 z1 z2 z3
  by_cases hs : s = 0
  · subst hs
    by_cases hm : 0 < m
    · have hm' : decide (0 < (m : Int)) = true := decide_eq_true (by omega)
      go_enter Try.func28, Try.ntmps28
      go_wp2_with fail
      rw [← HW1.out]
      go_quiet (fail)
      go_wp2_with fail
      go_ret
      exact ⟨rfl, pw_below_drewN HB1.out _⟩
    obtain rfl : m = 0 := by omega
    by_cases hn : n = 1
    · subst hn
      obtain ⟨ad, hA, hcell⟩ := HR.out.2.2 (by decide)
      have hc0 := hcell 0 (by decide)
      have e0 : ad.add 0 = ad := by simp [Addr.add]
      rw [e0] at hc0
      subst hA
      have y0 : (0 : Int) < ((1 : Nat) : Int) := by decide
      have y1 : 0 < 1 := by decide
      obtain ⟨q, hq⟩ : ∃ q, q = xs.getD 0 0 := ⟨_, rfl⟩
      have hl1 := HR.out.1
      have hno2 : ¬ (0 ≤ q ∧ q ≤ x.told) := fun hh => by
        have := HNO.out
        unfold cfB at this
        rw [← hq, decide_eq_true hl1, decide_eq_true hh.1, decide_eq_true hh.2] at this
        cases this
      rw [← hq] at hc0
      clear hq hl1 hcell
      by_cases hq0 : q < 0
      · have hq' : decide (q < 0) = true := decide_eq_true hq0
        clear hno2
        go_enter Try.func28, Try.ntmps28
        go_wp2_with fail
        rw [← HW1.out]
        go_quiet (fail)
        go_wp2_with fail
        go_ret
        exact ⟨rfl, pw_below_drewN HB1.out _⟩
      · have hq' : decide (q < 0) = false := decide_eq_false hq0
        have hq1 : x.told < q := by omega
        have hq2 : decide (x.told < q) = true := decide_eq_true hq1
        have ew : IntKind.i64.wrap x.told = x.told := by rw [IntKind.wrap_i64]; omega
        clear hno2
        go_enter Try.func28, Try.ntmps28
        go_wp2_with fail
        rw [← HW1.out]
        go_quiet (fail)
        clear ew
        go_wp2_with fail
        go_ret
        exact ⟨rfl, pw_below_drewN HB1.out _⟩
    · have hn' : ((n : Int) != 1) = true := by simp; omega
      go_enter Try.func28, Try.ntmps28
      go_wp2_with fail
      rw [← HW1.out]
      go_quiet (fail)
      go_wp2_with fail
      go_ret
      exact ⟨rfl, pw_below_drewN HB1.out _⟩
  · have hs' : (s != 0) = true := by simpa using hs
    go_enter Try.func28, Try.ntmps28
    go_wp2_with fail
    rw [← HW1.out]
    go_quiet (fail)
    go_wp2_with fail
    go_ret
    exact ⟨rfl, pw_below_drewN HB1.out _⟩
end
end Go.Proofs.Ytbkpgkkfkjlnnaa.G
