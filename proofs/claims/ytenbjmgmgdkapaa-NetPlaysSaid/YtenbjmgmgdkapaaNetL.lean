/- Net: slices.Delete of one packet; Lose; Take. -/
import Derived.Test.YtenbjmgmgdkapaaNetI
import Derived.ArgAppend
import Derived.Lib.SliceRun
set_option linter.unusedVariables false
set_option linter.unusedSimpArgs false
namespace Go.Proofs.Ytenbjmgmgdkapaa
open Go.RowKit Go.Proofs.YtenbjmgmgdkapaaW.PrintWords Go.Proofs.Ytenbjmgmgdkapaa.K

theorem del_run {W : World} {base g n c k : Nat} {cs : List Value} (ho : W.ownsRow base 63 4 (.slice (some ⟨g, 0, none⟩) n c) n cs) (hone : ∀ u ∈ cs, u.oneCell' = true) (hk : k < n) {A : Option Addr}
    (hA : A = if c = k + 1 then some ⟨g, 0, none⟩ else some ⟨g, (k + 1) * 4, none⟩) (ty : TypeId) (c2 : Nat) :
    ∃ w1, (Builtin.append_ #[57, 57] ty #[.slice (some ⟨g, 0, none⟩) k c, .slice A (n - (k + 1)) c2]).run Try.prog W = .ok (.slice (some ⟨g, 0, none⟩) (n - 1) c) w1 ∧
      (∃ cur', w1.heap[g]? = some (.cells cur' 63 (0, 0)) ∧ cur'.size = c * 4 ∧ cur'.toList.take ((n - 1) * 4) = cs.take (k * 4) ++ cs.drop ((k + 1) * 4)) ∧ W.grownBy w1 (some g) := by
  rcases ho.2 with ⟨hv, _⟩ | ⟨g', cap', cur, hv, hb, hh, hnc, hcm, hcs, htake⟩
  · cases hv
  injection hv with ha _ hc
  injection ha with ha
  injection ha with hg
  subst hg; subst hc
  have hin := ho.1
  obtain ⟨news, hnews⟩ : ∃ news, news = cs.drop ((k + 1) * 4) := ⟨_, rfl⟩
  have hnl : news.length = (n - (k + 1)) * 4 := by rw [hnews, List.length_drop, hin]; omega
  have hcur : ∀ q, q < n * 4 → cur.toList[q]? = cs[q]? := by
    intro q hq
    rw [← htake, List.getElem?_take, if_pos hq]
  obtain ⟨a, rfl, hcell⟩ : ∃ a, A = some a ∧ ∀ j u, news[j]? = some u → W.cell? (a.add j) = some u := by
    by_cases hck : c = k + 1
    · rw [if_pos hck] at hA
      refine ⟨_, hA, fun j u hu => ?_⟩
      have h0 : news = [] := List.eq_nil_of_length_eq_zero (by rw [hnl]; omega)
      rw [h0] at hu
      simp at hu
    · rw [if_neg hck] at hA
      refine ⟨_, hA, fun j u hu => ?_⟩
      have hj : j < news.length := (List.getElem?_eq_some_iff.1 hu).1
      rw [add_at, cell_of_row W g _ cur _ (0, 0) hh, ← Array.getElem?_toList]
      rw [hnews, List.getElem?_drop] at hu
      rw [← hu]
      exact hcur _ (by omega)
  have hone' : ∀ u ∈ news, u.oneCell' = true := fun u hu => hone u (by rw [hnews] at hu; exact List.mem_of_mem_drop hu)
  obtain ⟨i, z, hi, _, hsz, _⟩ := heldInfo
  have hfit : 0 + k * 4 + news.length ≤ cur.size := by omega
  have hrun := run_append_room_cells (P := Try.prog) (w := W) 57 ty 63 i Try.underlying57 hi g 0 k c a (n - (k + 1)) c2 news (by rw [hnl, hsz]) hcell hone' (by omega)
    (fun j hj => by rw [hsz, cell_of_row W g _ cur _ (0, 0) hh]; simp; omega) (fun j _ => blk_frozen hh _)
  rw [hsz, show k + (n - (k + 1)) = n - 1 by omega] at hrun
  obtain ⟨cur', h3, h4, h5⟩ := setCells_row news (0 + k * 4) W cur hh hfit
  obtain ⟨s1, s2, s3, s4⟩ := setCells_same g news (0 + k * 4) W
  refine ⟨_, hrun, ⟨cur', h3, by omega, ?_⟩, ⟨s1, s2, s3, by rw [s4]; exact Nat.le_refl _, fun k' _ hk' => setCells_far news _ k' (fun he => hk' (by rw [he]))⟩⟩
  rw [h5, Nat.zero_add, ← hnews]
  have h7 : cur.toList.take (k * 4) = cs.take (k * 4) := by
    rw [← htake, List.take_take, Nat.min_eq_left (by omega)]
  rw [h7]
  exact List.take_left' (by rw [List.length_append, List.length_take, hnl]; omega)
theorem zeroH (w : World) : (zeroValue 63).run Try.prog w = .ok (.agg #[.int .i64 0, .int .i64 0, .slice none 0 0, .bool false]) w := by kernel_rfl
theorem clr_run {W : World} {g c m : Nat} {cur : Array Value} (hh : W.heap[g]? = some (.cells cur 63 (0, 0))) (hs : cur.size = c * 4) (hm : m + 1 ≤ c) (ty : TypeId) (c2 : Nat) :
    ∃ w1, (Builtin.clear_ #[57] ty #[.slice (some ⟨g, m * 4, none⟩) 1 c2]).run Try.prog W = .ok (.tuple #[]) w1 ∧
      (∃ cur', w1.heap[g]? = some (.cells cur' 63 (0, 0)) ∧ cur'.size = c * 4 ∧ cur'.toList.take (m * 4) = cur.toList.take (m * 4)) ∧ W.grownBy w1 (some g) := by
  have hzc : (Builtin.zeroCells (Value.agg #[.int .i64 0, .int .i64 0, .slice none 0 0, .bool false]).cells 1).toList = [.int .i64 0, .int .i64 0, .slice none 0 0, .bool false] := by kernel_rfl
  have hst := run_storeCells_cells (P := Try.prog) g (m * 4) [.int .i64 0, .int .i64 0, .slice none 0 0, .bool false] 0 W (fun j hj => by rw [cell_of_row W g _ cur _ (0, 0) hh]; simp at hj ⊢; omega) (fun j _ => blk_frozen hh _) (by simp [Value.oneCell'])
  simp only [Nat.add_zero] at hst
  obtain ⟨cur', h3, h4, h5⟩ := setCells_row [.int .i64 0, .int .i64 0, .slice none 0 0, .bool false] (m * 4) W cur hh (by simp; omega)
  obtain ⟨s1, s2, s3, s4⟩ := setCells_same g [.int .i64 0, .int .i64 0, .slice none 0 0, .bool false] (m * 4) W
  refine ⟨_, by simp [Builtin.clear_, run_underlying Try.underlying57, zeroH, hzc, hst], ⟨cur', h3, by omega, ?_⟩, ⟨s1, s2, s3, by rw [s4]; exact Nat.le_refl _, fun k' _ hk' => setCells_far _ _ k' (fun he => hk' (by rw [he]))⟩⟩
  rw [h5, List.append_assoc]
  exact List.take_left' (by rw [List.length_take]; simp; omega)
end Go.Proofs.Ytenbjmgmgdkapaa
