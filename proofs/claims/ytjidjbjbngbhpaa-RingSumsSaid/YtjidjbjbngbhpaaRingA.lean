/- Walks of package ring: wide.Add. -/
import Derived.Test.YtjidjbjbngbhpaaRows
import Derived.Test.YtjidjbjbngbhpaaK
import Derived.Outline
import Derived.Laws.Externs
set_option linter.unusedVariables false
set_option linter.unusedSimpArgs false
namespace Go.Proofs.Ytjidjbjbngbhpaa
open Go.RowKit Go.Proofs.YtjidjbjbngbhpaaW.PrintWords Go.Proofs.Ytjidjbjbngbhpaa.K

theorem three_new (W : World) (a b c : Obj) {cs : Array Value} {t : TypeId} (h : c = .cells cs t (0, 0)) : (((W.alloc a).alloc b).alloc c).heap[W.heap.size + 1 + 1]? = some (.cells cs t (0, 0)) := by
  have := heap_alloc_new ((W.alloc a).alloc b) c
  rw [show ((W.alloc a).alloc b).heap.size = W.heap.size + 1 + 1 by simp] at this
  rw [this, h]
theorem run_add (x y c : Int) (hx : 0 ≤ x) (hy : 0 ≤ y) (hc0 : 0 ≤ c) (hc : c ≤ 1) (w : World) : (callFunc 28 #[.int .u64 x, .int .u64 y, .int .u64 c]).run Try.prog w = .ok (.value (.tuple #[.int .u64 ((x + y + c) % 18446744073709551616), .int .u64 ((x + y + c) / 18446744073709551616)])) w := by
  rw [run_callFunc_extern Try.func28 (by kernel_rfl) (by kernel_rfl) (by kernel_rfl) (e := add64Entry) (by kernel_rfl), run_add64 x y c hx hy hc0 hc]
  simp only [Result.andThen]
set_option maxHeartbeats 1000000 in
theorem wadd_walk (h l h' l' : Int) (hl : 0 ≤ l ∧ l < 18446744073709551616) (hl' : 0 ≤ l' ∧ l' < 18446744073709551616) (W : World) :
    Calls Try.prog 23 #[.agg #[.int .i64 h, .int .u64 l], .agg #[.int .i64 h', .int .u64 l']] W fun e w' => e = .returned (.agg #[.int .i64 (wrap64 ((IntKind.u64.wrap h + IntKind.u64.wrap h' + (l + l') / 18446744073709551616) % 18446744073709551616)), .int .u64 ((l + l') % 18446744073709551616)]) ∧ Below W.heap.size W w' := by
  have d1 : ∀ w : World, (callFunc 28 #[.int .u64 l, .int .u64 l', .int .u64 0]).run Try.prog w = .ok (.value (.tuple #[.int .u64 ((l + l') % 18446744073709551616), .int .u64 ((l + l') / 18446744073709551616)])) w := fun w => by
    have := run_add l l' 0 hl.1 hl'.1 (by decide) (by decide) w
    rwa [Int.add_zero] at this
  have hu : ∀ x : Int, 0 ≤ IntKind.u64.wrap x := fun x => by rw [IntKind.wrap_u64]; omega
  have d2 : ∀ w : World, (callFunc 28 #[.int .u64 (IntKind.u64.wrap h), .int .u64 (IntKind.u64.wrap h'), .int .u64 ((l + l') / 18446744073709551616)]).run Try.prog w = .ok (.value (.tuple #[.int .u64 ((IntKind.u64.wrap h + IntKind.u64.wrap h' + (l + l') / 18446744073709551616) % 18446744073709551616), .int .u64 ((IntKind.u64.wrap h + IntKind.u64.wrap h' + (l + l') / 18446744073709551616) / 18446744073709551616)])) w := fun w => run_add _ _ _ (hu h) (hu h') (by omega) (by omega) w
  clear hu hl hl'
  go_enter Try.func23, Try.ntmps23
  go_wp2_with fail
  (try simp only [Exit.inBlock, Exit.then])
  refine bodyPost_ret (results_cell_row rfl _ _ (W.heap.size + 1 + 1) 33 #[.int .i64 (wrap64 ((IntKind.u64.wrap h + IntKind.u64.wrap h' + (l + l') / 18446744073709551616) % 18446744073709551616)), .int .u64 ((l + l') % 18446744073709551616)] (0, 0) _ rfl (three_new _ _ _ _ rfl) Try.underlying33 rfl (by kernel_rfl)) rfl ?_
  refine ⟨rfl, ?_⟩
  have b1 : ∀ o : Obj, Below W.heap.size W (W.alloc o) := fun o => (Below.refl _ _).alloc (Nat.le_refl _) o
  exact ((b1 _).alloc (b1 (.cells #[.int .i64 h, .int .u64 l] 33)).size _).alloc (((b1 _).alloc (b1 (.cells #[.int .i64 h, .int .u64 l] 33)).size (.cells #[.int .i64 h', .int .u64 l'] 33)).size) _
end Go.Proofs.Ytjidjbjbngbhpaa
