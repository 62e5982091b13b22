/- Ring: the reference's size, From, Wide of small numbers; one; Wides of like rows. -/
import Derived.Test.YtjidjbjbngbhpaaRingD
import Derived.Deep.RegionHeld3
import Derived.StillTailTactics
set_option linter.unusedVariables false
set_option linter.unusedSimpArgs false
namespace Go.Proofs.Ytjidjbjbngbhpaa
open Go.RowKit Go.Proofs.YtjidjbjbngbhpaaW.PrintWords Go.Proofs.Ytjidjbjbngbhpaa.K

theorem size_ok (n : Int) (w : World) (h0 : 0 ≤ n) (h1 : n ≤ 9223372036854775807) : Calls Try.prog 29 #[.int .i64 n] w fun e w' => e = .returned (.int .u64 n) ∧ w = w' := by
  have hw : IntKind.u64.wrap n = n := by rw [IntKind.wrap_u64]; omega
  go_enter Try.func29, Try.ntmps29
  go_wp2
  go_ret
  exact ⟨by first | rfl | (rw [hw]), rfl⟩
theorem from_ok (n : Int) (w : World) (h0 : 0 ≤ n) (h1 : n ≤ 9223372036854775807) : Calls Try.prog 24 #[.int .i64 n] w fun e w' => e = .returned (.agg #[.bool false, .int .u64 n, .int .u64 0, .int .u64 0, .int .u64 0]) ∧ Below w.heap.size w w' := by
  have hnn : ¬ n < 0 := by omega
  go_enter Try.func24, Try.ntmps24
  go_wp2_with fail
  refine (size_ok n _ h0 h1).mono ?_
  rintro e w' ⟨rfl, rfl⟩
  go_wp2_with fail
  (try simp only [Exit.inBlock, Exit.then])
  refine bodyPost_ret (results_cell_row rfl _ _ w.heap.size 58 #[.bool false, .int .u64 n, .int .u64 0, .int .u64 0, .int .u64 0] (0, 0) _ rfl (heap_alloc_new _ _) Try.underlying58 rfl (by kernel_rfl)) rfl ?_
  exact ⟨rfl, (Below.refl _ _).alloc (Nat.le_refl _) _⟩
theorem rtwo_new (w : World) (a b : Obj) (m : Nat) {cs : Array Value} {t : TypeId} (h : b = .cells cs t (0, 0)) : ((((w.alloc a).alloc b).drewN m).heap[w.heap.size + 1]?) = some (.cells cs t (0, 0)) := by
  show ((w.alloc a).alloc b).heap[w.heap.size + 1]? = _
  have := heap_alloc_new (w.alloc a) b
  rw [show (w.alloc a).heap.size = w.heap.size + 1 by simp] at this
  rw [this, h]
theorem wide_ok (n : Int) (w : World) (h0 : 0 ≤ n) (h1 : n ≤ 9223372036854775807) : Calls Try.prog 18 #[.agg #[.bool false, .int .u64 n, .int .u64 0, .int .u64 0, .int .u64 0]] w fun e w' => e = .returned (.agg #[.int .i64 0, .int .u64 n]) ∧ Below w.heap.size w w' := by
  go_enter Try.func18, Try.ntmps18
  go_wp2_with fail
  go_quiet (fail)
  go_wp2_with fail
  (try simp only [Exit.inBlock, Exit.then])
  refine bodyPost_ret (results_cell_row rfl _ _ (w.heap.size + 1) 33 #[.int .i64 0, .int .u64 n] (0, 0) _ rfl (heap_set _ (heap_set _ (rtwo_new w _ _ nq rfl))) Try.underlying33 rfl (by kernel_rfl)) rfl ?_
  exact ⟨rfl, ((pw_below_drewN (((Below.refl _ _).alloc (Nat.le_refl _) _).alloc (by simp) _) _).setCell (Nat.le_succ _) _).setCell (Nat.le_succ _) _⟩
theorem one_ok (n : Int) (w : World) (h0 : 0 ≤ n) (h1 : n ≤ 9223372036854775807) : Calls Try.prog 14 #[.int .i64 n] w fun e w' => ∃ g, e = .returned (.slice (some ⟨g, 0, none⟩) 1 1) ∧ w'.ownsRow w.heap.size 33 2 (.slice (some ⟨g, 0, none⟩) 1 1) 1 (wides [(0, n)]) ∧ Below w.heap.size w w' := by
  go_enter Try.func14, Try.ntmps14
  go_wp2_with fail
  refine (from_ok n _ h0 h1).mono ?_
  rintro e w1 ⟨rfl, hb1⟩
  have B1 := Lib.hid hb1; clear hb1
  go_wp2_with fail
  refine (wide_ok n _ h0 h1).mono ?_
  rintro e w2 ⟨rfl, hb2⟩
  have B2 := Lib.hid hb2; clear hb2
  go_wp2_with fail
  go_ret
  have hB := below_then B1.out B1.out.size B2.out
  refine ⟨_, rfl, ?_, hB.alloc hB.size _⟩
  exact ⟨rfl, .inr ⟨w2.heap.size, 1, #[.int .i64 0, .int .u64 n], rfl, hB.size, heap_alloc_new _ _, Nat.le_refl _, by decide, rfl, rfl⟩⟩
theorem reqW (a b c d : Int) (W : World) : (binOp .neq 33 (.agg #[.int .i64 a, .int .u64 b]) (.agg #[.int .i64 c, .int .u64 d])).run Try.prog W = .ok (.bool (!(a == c && b == d))) W := by
  go_simp
  by_cases h1 : a = c <;> by_cases h2 : b = d <;> simp [h1, h2]
set_option maxHeartbeats 1000000 in
theorem wides_same (A B : Option Addr) (n c d : Nat) (l : List (Int × Int)) (w : World) (hx : WidesAt w A n l) (hy : WidesAt w B n l) (hn : n ≤ 1000000) :
    Calls Try.prog 12 #[.slice A n c, .slice B n d] w fun e w' => e = .returned (.bool true) ∧ Below w.heap.size w w' := by
  have HX := Lib.hid hx; have HY := Lib.hid hy
  clear hx hy
  go_enter Try.func12, Try.ntmps12
  go_wp2
  go_loopw [5] (fun i wr => ∃ k : Nat, k ≤ n ∧ i = .int .i64 k ∧ Aside0 (∃ q, wr = w.drewN q)) (fun i _ => n - (intOf i).toNat)
  case atStart => exact ⟨0, Nat.zero_le _, rfl, ⟨0, rfl⟩⟩
  case round =>
    obtain ⟨k, hk, rfl, HK⟩ := hrel
    by_cases hlt : k < n
    · obtain ⟨ad, rfl, hck, hck'⟩ := HX.out.2.2 k hlt
      obtain ⟨bd, rfl, hcb, hcb'⟩ := HY.out.2.2 k hlt
      obtain ⟨q, hq⟩ := HK.out
      subst hq
      have g1 : (0 : Int) ≤ (k : Int) := Int.natCast_nonneg _
      have g2 : (k : Int) < (n : Int) := by omega
      obtain ⟨⟨u1, u2⟩, hu⟩ : ∃ u, u = l.getD k (0, 0) := ⟨_, rfl⟩
      rw [← hu] at hck hck' hcb hcb'
      dsimp only at hck hck' hcb hcb'
      clear hu
      have he0 := fun W => reqW u1 u2 u1 u2 W
      simp only [beq_self_eq_true, Bool.and_self, Bool.not_true] at he0
      go_wp2
      go_quiet (fail)
      go_wp2
      go_roundw
      case rel => exact ⟨k + 1, by omega, by go_num, ⟨_, rfl⟩⟩
      case measure => simp [intOf]; omega
    · go_wp2
      go_ret
      obtain ⟨q, hq⟩ := HK.out
      exact ⟨rfl, by rw [hq]; exact pw_below_drewN (Below.refl _ _) _⟩
end Go.Proofs.Ytjidjbjbngbhpaa
