/- Ring: Get, what comes too late or too soon. -/
import Derived.Test.YtjidjbjbngbhpaaRingH
set_option linter.unusedVariables false
set_option linter.unusedSimpArgs false
namespace Go.Proofs.Ytjidjbjbngbhpaa
open Go.RowKit Go.Proofs.YtjidjbjbngbhpaaW.PrintWords Go.Proofs.Ytjidjbjbngbhpaa.K

set_option maxHeartbeats 1000000 in
theorem done_q (w : World) (r : Nat) (place n : Int) (L C : Value) (round : Int) (told taken : Bool) (h : w.heap[r]? = some (.cells (rgC place n L C round told taken) 54 (0, 0))) (hn : 1 ≤ n ∧ n ≤ 16) : Calls Try.prog 13 #[.pointer (some ⟨r, 0, none⟩)] w fun e w' => e = .returned (.bool (decide (2 * n - 3 < round))) ∧ ∃ m, w' = w.drewN m := by
  obtain ⟨c0, c1, c2, c3, c4, c5, c6⟩ := rgC_cells h
  have h1 : IntKind.i64.wrap (2 * n) = 2 * n := by rw [IntKind.wrap_i64]; omega
  have h2 : IntKind.i64.wrap (2 * n - 3) = 2 * n - 3 := by rw [IntKind.wrap_i64]; omega
  clear h hn c0 c2 c3 c5 c6
  go_enter Try.func13, Try.ntmps13
  go_wp2_with fail
  go_quiet (fail)
  go_wp2_with fail
  go_ret
  exact ⟨by first | rfl | simp, _, rfl⟩
/-- What may be asked of a part that was sent. -/
abbrev ptV (pr pc : Int) (PA : Option Addr) (m pcap : Nat) : Value := .agg #[.int .i64 pr, .int .i64 pc, .slice PA m pcap]
set_option maxRecDepth 100000 in
set_option maxHeartbeats 4000000 in
theorem get_done (w : World) (id : RgId) (place : Int) (n k : Nat) (l : List (Int × Int)) (round : Int) (told taken : Bool) (h : RgS w id place n k l round told taken) (pr pc : Int) (PA : Option Addr) (m pcap : Nat) (hd : 2 * (n : Int) - 3 < round) :
    Calls Try.prog 10 #[.pointer (some ⟨id.r, 0, none⟩), ptV pr pc PA m pcap] w fun e w' => e = .returned (.int .i64 8) ∧ Below w.heap.size w w' := by
  obtain ⟨a1, a2, a3, a4, a5, a6, a7, a8⟩ := h.ok
  obtain ⟨w1, hw1⟩ : ∃ w1, w1 = w.alloc (.cells #[.int .i64 pr, .int .i64 pc, .slice PA m pcap] 37) := ⟨_, rfl⟩
  have hb1 : Below w.heap.size w w1 := by rw [hw1]; exact (Below.refl _ _).alloc (Nat.le_refl _) _
  have H1 := h.below hb1
  have HD0 := fun x => done_q (w1.drewN x) id.r place n _ _ round told taken H1.obj ⟨by omega, by omega⟩
  rw [decide_eq_true hd] at HD0
  obtain ⟨c0, c1, c2, c3, c4, c5, c6⟩ := rgC_cells H1.obj
  rw [hw1] at HD0 c4 c6
  have HD := Lib.hid HD0
  have B1 := Lib.hid hb1
  clear h H1 hb1 a8 hd HD0 c0 c1 c2 c3 c5 B1 hw1 w1
  go_enter Try.func10, Try.ntmps10
  go_wp2_with fail
  go_quiet ((go_at_call 13; exact Calls.quiet_of (HD.out _)))
  go_wp2_with fail
  go_ret
  (first | exact ⟨rfl, pw_below_drewN ((Below.refl _ _).alloc (Nat.le_refl _) _) _⟩ | exact ⟨rfl, pw_below_drewN (pw_below_drewN ((Below.refl _ _).alloc (Nat.le_refl _) _) _) _⟩ | trace_state)
set_option maxRecDepth 100000 in
set_option maxHeartbeats 4000000 in
theorem get_past (w : World) (id : RgId) (place : Int) (n k : Nat) (l : List (Int × Int)) (round : Int) (told taken : Bool) (h : RgS w id place n k l round told taken) (pr pc : Int) (PA : Option Addr) (m pcap : Nat) (hd : ¬ 2 * (n : Int) - 3 < round) (hp : pr < round) :
    Calls Try.prog 10 #[.pointer (some ⟨id.r, 0, none⟩), ptV pr pc PA m pcap] w fun e w' => e = .returned (.int .i64 8) ∧ Below w.heap.size w w' := by
  obtain ⟨a1, a2, a3, a4, a5, a6, a7, a8⟩ := h.ok
  obtain ⟨w1, hw1⟩ : ∃ w1, w1 = w.alloc (.cells #[.int .i64 pr, .int .i64 pc, .slice PA m pcap] 37) := ⟨_, rfl⟩
  have hb1 : Below w.heap.size w w1 := by rw [hw1]; exact (Below.refl _ _).alloc (Nat.le_refl _) _
  have H1 := h.below hb1
  have HD0 := fun x => done_q (w1.drewN x) id.r place n _ _ round told taken H1.obj ⟨by omega, by omega⟩
  rw [decide_eq_false hd] at HD0
  obtain ⟨c0, c1, c2, c3, c4, c5, c6⟩ := rgC_cells H1.obj
  rw [hw1] at HD0 c4 c6
  have HD := Lib.hid HD0
  have B1 := Lib.hid hb1
  clear h H1 hb1 a8 hd HD0 c0 c1 c2 c3 c5 B1 hw1 w1
  go_enter Try.func10, Try.ntmps10
  go_wp2_with fail
  go_quiet ((go_at_call 13; exact Calls.quiet_of (HD.out _)))
  go_wp2_with fail
  go_ret
  (first | exact ⟨rfl, pw_below_drewN ((Below.refl _ _).alloc (Nat.le_refl _) _) _⟩ | exact ⟨rfl, pw_below_drewN (pw_below_drewN ((Below.refl _ _).alloc (Nat.le_refl _) _) _) _⟩ | trace_state)
set_option maxRecDepth 100000 in
set_option maxHeartbeats 4000000 in
theorem get_twice (w : World) (id : RgId) (place : Int) (n k : Nat) (l : List (Int × Int)) (round : Int) (told : Bool) (h : RgS w id place n k l round told true) (pc : Int) (PA : Option Addr) (m pcap : Nat) (hd : ¬ 2 * (n : Int) - 3 < round) :
    Calls Try.prog 10 #[.pointer (some ⟨id.r, 0, none⟩), ptV round pc PA m pcap] w fun e w' => e = .returned (.int .i64 8) ∧ Below w.heap.size w w' := by
  obtain ⟨a1, a2, a3, a4, a5, a6, a7, a8⟩ := h.ok
  obtain ⟨w1, hw1⟩ : ∃ w1, w1 = w.alloc (.cells #[.int .i64 round, .int .i64 pc, .slice PA m pcap] 37) := ⟨_, rfl⟩
  have hb1 : Below w.heap.size w w1 := by rw [hw1]; exact (Below.refl _ _).alloc (Nat.le_refl _) _
  have H1 := h.below hb1
  have HD0 := fun x => done_q (w1.drewN x) id.r place n _ _ round told true H1.obj ⟨by omega, by omega⟩
  rw [decide_eq_false hd] at HD0
  obtain ⟨c0, c1, c2, c3, c4, c5, c6⟩ := rgC_cells H1.obj
  rw [hw1] at HD0 c4 c6
  have HD := Lib.hid HD0
  have B1 := Lib.hid hb1
  clear h H1 hb1 a8 hd HD0 c0 c1 c2 c3 c5 B1 hw1 w1
  go_enter Try.func10, Try.ntmps10
  go_wp2_with fail
  go_quiet ((go_at_call 13; exact Calls.quiet_of (HD.out _)))
  go_wp2_with fail
  go_ret
  (first | exact ⟨rfl, pw_below_drewN ((Below.refl _ _).alloc (Nat.le_refl _) _) _⟩ | exact ⟨rfl, pw_below_drewN (pw_below_drewN ((Below.refl _ _).alloc (Nat.le_refl _) _) _) _⟩ | trace_state)
set_option maxRecDepth 100000 in
set_option maxHeartbeats 4000000 in
theorem get_soon (w : World) (id : RgId) (place : Int) (n k : Nat) (l : List (Int × Int)) (round : Int) (told taken : Bool) (h : RgS w id place n k l round told taken) (pr pc : Int) (PA : Option Addr) (m pcap : Nat) (hd : ¬ 2 * (n : Int) - 3 < round) (hp : round < pr) :
    Calls Try.prog 10 #[.pointer (some ⟨id.r, 0, none⟩), ptV pr pc PA m pcap] w fun e w' => e = .returned (.int .i64 10) ∧ Below w.heap.size w w' := by
  obtain ⟨a1, a2, a3, a4, a5, a6, a7, a8⟩ := h.ok
  obtain ⟨w1, hw1⟩ : ∃ w1, w1 = w.alloc (.cells #[.int .i64 pr, .int .i64 pc, .slice PA m pcap] 37) := ⟨_, rfl⟩
  have hb1 : Below w.heap.size w w1 := by rw [hw1]; exact (Below.refl _ _).alloc (Nat.le_refl _) _
  have H1 := h.below hb1
  have HD0 := fun x => done_q (w1.drewN x) id.r place n _ _ round told taken H1.obj ⟨by omega, by omega⟩
  rw [decide_eq_false hd] at HD0
  obtain ⟨c0, c1, c2, c3, c4, c5, c6⟩ := rgC_cells H1.obj
  rw [hw1] at HD0 c4 c6
  have HD := Lib.hid HD0
  have B1 := Lib.hid hb1
  clear h H1 hb1 a8 hd HD0 c0 c1 c2 c3 c5 B1 hw1 w1
  have e1 : (pr == round) = false := beq_eq_false_iff_ne.2 (by omega)
  have e2 : ¬ pr < round := by omega
  go_enter Try.func10, Try.ntmps10
  go_wp2_with fail
  go_quiet ((go_at_call 13; exact Calls.quiet_of (HD.out _)))
  go_wp2_with fail
  go_quiet (fail)
  go_wp2_with fail
  go_ret
  (first | exact ⟨rfl, pw_below_drewN ((Below.refl _ _).alloc (Nat.le_refl _) _) _⟩ | exact ⟨rfl, pw_below_drewN (pw_below_drewN ((Below.refl _ _).alloc (Nat.le_refl _) _) _) _⟩ | trace_state)
end Go.Proofs.Ytjidjbjbngbhpaa
