/- clear on a part of a row of wider elements; slices.DeleteFunc by a closure. -/
import Derived.Test.YtbkpgkkfkjlnnaaLgB
import Derived.ArgAppend
import Derived.Lib.SliceRun
import Derived.Shelf.RegionOpenPlain
set_option linter.unusedVariables false
set_option linter.unusedSimpArgs false
namespace Go.Proofs.Ytbkpgkkfkjlnnaa.G
open Go.RowKit Go.Proofs.YtbkpgkkfkjlnnaaW.PrintWords Go.Proofs.YtbkpgkkfkjlnnaaW.PrintLast Go.Proofs.Ytbkpgkkfkjlnnaa.K Go.Proofs.Ytbkpgkkfkjlnnaa.Row Go.Proofs.Ytbkpgkkfkjlnnaa

theorem clear_run {P : Program} {W : World} {t e : TypeId} {g c m k z : Nat} {cur : Array Value} {Z : Value} (ht : P.underlying t = some (.slice e)) (hh : W.heap[g]? = some (.cells cur e (0, 0))) (hs : cur.size = c * z) (hm : m + k ≤ c) (hk : 0 < k) (hz : ∀ w : World, (zeroValue e).run P w = .ok Z w) (hzs : Z.cells.size = z) (hz1 : ∀ u ∈ Z.cells.toList, u.oneCell' = true) (ty : TypeId) (c2 : Nat) :
    ∃ w1, (Builtin.clear_ #[t] ty #[.slice (some ⟨g, m * z, none⟩) k c2]).run P W = .ok (.tuple #[]) w1 ∧
      (∃ cur', w1.heap[g]? = some (.cells cur' e (0, 0)) ∧ cur'.size = c * z ∧ cur'.toList.take (m * z) = cur.toList.take (m * z)) ∧ W.grownBy w1 (some g) := by
  obtain ⟨k, rfl⟩ : ∃ k', k = k' + 1 := ⟨k - 1, by omega⟩
  obtain ⟨L, hL⟩ : ∃ L, L = (Builtin.zeroCells Z.cells (k + 1)).toList := ⟨_, rfl⟩
  have hlen : L.length = (k + 1) * z := by rw [hL, Array.length_toList, size_zeroCells, hzs]
  have hmk : m * z + (k + 1) * z ≤ c * z := by rw [← Nat.add_mul]; exact Nat.mul_le_mul_right _ hm
  have hone : ∀ u ∈ L, u.oneCell' = true := by
    intro u hu
    rw [hL] at hu
    unfold Builtin.zeroCells at hu
    simp only [Array.toList_map, List.mem_map] at hu
    obtain ⟨i, hi, rfl⟩ := hu
    rcases Nat.eq_zero_or_pos Z.cells.size with h0 | h0
    · simp [h0] at hi
    · have hlt : i % Z.cells.size < Z.cells.size := Nat.mod_lt _ h0
      rw [getElem!_pos Z.cells (i % Z.cells.size) hlt]
      exact hz1 _ (by simp)
  have hst := run_storeCells_cells (P := P) g (m * z) L 0 W (fun j hj => by rw [cell_of_row W g _ cur _ (0, 0) hh]; simp; omega) (fun j _ => blk_frozen hh _) hone
  simp only [Nat.add_zero] at hst
  obtain ⟨cur', h3, h4, h5⟩ := setCells_row L (m * z) W cur hh (by omega)
  obtain ⟨s1, s2, s3, s4⟩ := setCells_same g L (m * z) W
  rw [hL] at hst
  refine ⟨W.setCells g (m * z) L, by rw [hL]; simp [Builtin.clear_, run_underlying ht, hz, hst], ⟨cur', h3, by omega, ?_⟩, ⟨s1, s2, s3, by rw [s4]; exact Nat.le_refl _, fun k' _ hk' => setCells_far _ _ k' (fun he => hk' (by rw [he]))⟩⟩
  rw [h5, List.append_assoc]
  exact List.take_left' (by rw [List.length_take]; simp; omega)
theorem cell9 {w : World} {r : Nat} {a b c d e f g h i : Value} {ty : TypeId} (hh : w.heap[r]? = some (.cells #[a, b, c, d, e, f, g, h, i] ty (0, 0))) : w.cell? ⟨r, 4, none⟩ = some e := by simp [World.cell?, hh]
/-- Of a link's message: was it acknowledged by q? -/
def ackd (q : Int) (p : Sn) : Bool := decide (p.m.s ≤ q)
def Sn.agg (p : Sn) : Value := .agg #[.int .i64 p.m.k, .int .i64 p.m.f, .int .i64 p.m.t, .int .u32 p.m.v, .int .u32 p.m.s, p.m.nv, p.m.wv, .bool p.sent, .int .i64 p.at_]
set_option maxHeartbeats 1000000 in
theorem conf1_walk (p : Sn) (g : Nat) (ad : Addr) (cN : Nat) (q : Int) (w : World) (hs : 0 ≤ p.m.s ∧ p.m.s < 4294967296) (hc : w.cell? ⟨g, 5, none⟩ = some (.slice (some ad) 1 cN)) (hq : w.cell? ad = some (.int .i64 q)) :
    Calls Try.prog 42 #[p.agg, .pointer (some ⟨g, 0, none⟩)] w fun e w' => e = .returned (.bool (ackd q p)) ∧ Below w.heap.size w w' := by
  obtain ⟨⟨k, f, t, v, s, A, c, xs, B, d, ys⟩, se, at1⟩ := p
  unfold ackd Sn.agg
  simp only at hs ⊢
  obtain ⟨w1, hw1⟩ : ∃ w1, w1 = w.alloc (.cells #[.int .i64 k, .int .i64 f, .int .i64 t, .int .u32 v, .int .u32 s, (Hd.nv ⟨k, f, t, v, s, A, c, xs, B, d, ys⟩), (Hd.wv ⟨k, f, t, v, s, A, c, xs, B, d, ys⟩), .bool se, .int .i64 at1] 65) := ⟨_, rfl⟩
  have hb1 : Below w.heap.size w w1 := by rw [hw1]; exact alloc_back _
  have q1 : w1.cell? ⟨w.heap.size, 4, none⟩ = some (.int .u32 s) := by
    rw [hw1]
    exact cell9 (heap_alloc_new _ _)
  have c5 := pw_cell_below hb1 hc
  have cq := pw_cell_below hb1 hq
  have ew : IntKind.i64.wrap s = s := by rw [IntKind.wrap_i64]; omega
  have z0 : (0 : Int) < ((1 : Nat) : Int) := by decide
  have z1 : 0 < 1 := by decide
  have e0 : ad.add 0 = ad := by simp [Addr.add]
  have HW1 := Lib.hid hw1; have HB1 := Lib.hid hb1
  clear hw1 hb1 hc hq
  go_enter Try.func42, Try.ntmps42
  go_wp2_with fail
  rw [← HW1.out]
  go_quiet (fail)
  clear ew
  go_wp2_with fail
  go_ret
  exact ⟨rfl, pw_below_drewN HB1.out _⟩
end Go.Proofs.Ytbkpgkkfkjlnnaa.G
