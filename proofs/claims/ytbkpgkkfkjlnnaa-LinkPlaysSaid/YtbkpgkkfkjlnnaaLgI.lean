/- slices.Delete of one message (turned by a program from XNetL, XNetM). -/
import Derived.Test.YtbkpgkkfkjlnnaaLgH
import Derived.ArgAppend
import Derived.Deep.RegionLaw
import Derived.Lib.SliceRun
import Derived.Shelf.RegionOpenPlain
set_option linter.unusedVariables false
set_option linter.unusedSimpArgs false
namespace Go.Proofs.Ytbkpgkkfkjlnnaa.G
open Go.RowKit Go.Proofs.YtbkpgkkfkjlnnaaW.PrintWords Go.Proofs.YtbkpgkkfkjlnnaaW.PrintLast Go.Proofs.Ytbkpgkkfkjlnnaa.K Go.Proofs.Ytbkpgkkfkjlnnaa.Row Go.Proofs.Ytbkpgkkfkjlnnaa

theorem del_run {W : World} {base g n c k : Nat} {cs : List Value} (ho : W.ownsRow base 32 7 (.slice (some ⟨g, 0, none⟩) n c) n cs) (hone : ∀ u ∈ cs, u.oneCell' = true) (hk : k < n) {A : Option Addr}
    (hA : A = if c = k + 1 then some ⟨g, 0, none⟩ else some ⟨g, (k + 1) * 7, none⟩) (ty : TypeId) (c2 : Nat) :
    ∃ w1, (Builtin.append_ #[33, 33] ty #[.slice (some ⟨g, 0, none⟩) k c, .slice A (n - (k + 1)) c2]).run Try.prog W = .ok (.slice (some ⟨g, 0, none⟩) (n - 1) c) w1 ∧
      (∃ cur', w1.heap[g]? = some (.cells cur' 32 (0, 0)) ∧ cur'.size = c * 7 ∧ cur'.toList.take ((n - 1) * 7) = cs.take (k * 7) ++ cs.drop ((k + 1) * 7)) ∧ W.grownBy w1 (some g) := by
  rcases ho.2 with ⟨hv, _⟩ | ⟨g', cap', cur, hv, hb, hh, hnc, hcm, hcs, htake⟩
  · cases hv
  injection hv with ha _ hc
  injection ha with ha
  injection ha with hg
  subst hg; subst hc
  have hin := ho.1
  obtain ⟨news, hnews⟩ : ∃ news, news = cs.drop ((k + 1) * 7) := ⟨_, rfl⟩
  have hnl : news.length = (n - (k + 1)) * 7 := by rw [hnews, List.length_drop, hin]; omega
  have hcur : ∀ q, q < n * 7 → cur.toList[q]? = cs[q]? := by
    intro q hq
    rw [← htake, List.getElem?_take, if_pos hq]
  obtain ⟨a, rfl, hcell⟩ : ∃ a, A = some a ∧ ∀ j u, news[j]? = some u → W.cell? (a.add j) = some u := by
    by_cases hck : c = k + 1
    · rw [if_pos hck] at hA
      refine ⟨_, hA, fun j u hu => ?_⟩
      have h0 : news = [] := List.eq_nil_of_length_eq_zero (by rw [hnl]; omega)
      rw [h0] at hu
      simp at hu
    · rw [if_neg hck] at hA
      refine ⟨_, hA, fun j u hu => ?_⟩
      have hj : j < news.length := (List.getElem?_eq_some_iff.1 hu).1
      rw [add_at, cell_of_row W g _ cur _ (0, 0) hh, ← Array.getElem?_toList]
      rw [hnews, List.getElem?_drop] at hu
      rw [← hu]
      exact hcur _ (by omega)
  have hone' : ∀ u ∈ news, u.oneCell' = true := fun u hu => hone u (by rw [hnews] at hu; exact List.mem_of_mem_drop hu)
  obtain ⟨i, z, hi, _, hsz, _⟩ := mInfo
  have hfit : 0 + k * 7 + news.length ≤ cur.size := by omega
  have hrun := run_append_room_cells (P := Try.prog) (w := W) 33 ty 32 i Try.underlying33 hi g 0 k c a (n - (k + 1)) c2 news (by rw [hnl, hsz]) hcell hone' (by omega)
    (fun j hj => by rw [hsz, cell_of_row W g _ cur _ (0, 0) hh]; simp; omega) (fun j _ => blk_frozen hh _)
  rw [hsz, show k + (n - (k + 1)) = n - 1 by omega] at hrun
  obtain ⟨cur', h3, h4, h5⟩ := setCells_row news (0 + k * 7) W cur hh hfit
  obtain ⟨s1, s2, s3, s4⟩ := setCells_same g news (0 + k * 7) W
  refine ⟨_, hrun, ⟨cur', h3, by omega, ?_⟩, ⟨s1, s2, s3, by rw [s4]; exact Nat.le_refl _, fun k' _ hk' => setCells_far news _ k' (fun he => hk' (by rw [he]))⟩⟩
  rw [h5, Nat.zero_add, ← hnews]
  have h7 : cur.toList.take (k * 7) = cs.take (k * 7) := by
    rw [← htake, List.take_take, Nat.min_eq_left (by omega)]
  rw [h7]
  exact List.take_left' (by rw [List.length_append, List.length_take, hnl]; omega)
theorem zeroH (w : World) : (zeroValue 32).run Try.prog w = .ok (.agg #[.int .i64 0, .int .i64 0, .int .i64 0, .int .u32 0, .int .u32 0, .slice none 0 0, .slice none 0 0]) w := by kernel_rfl
theorem clr_run {W : World} {g c m : Nat} {cur : Array Value} (hh : W.heap[g]? = some (.cells cur 32 (0, 0))) (hs : cur.size = c * 7) (hm : m + 1 ≤ c) (ty : TypeId) (c2 : Nat) :
    ∃ w1, (Builtin.clear_ #[33] ty #[.slice (some ⟨g, m * 7, none⟩) 1 c2]).run Try.prog W = .ok (.tuple #[]) w1 ∧
      (∃ cur', w1.heap[g]? = some (.cells cur' 32 (0, 0)) ∧ cur'.size = c * 7 ∧ cur'.toList.take (m * 7) = cur.toList.take (m * 7)) ∧ W.grownBy w1 (some g) := by
  have hzc : (Builtin.zeroCells (Value.agg #[.int .i64 0, .int .i64 0, .int .i64 0, .int .u32 0, .int .u32 0, .slice none 0 0, .slice none 0 0]).cells 1).toList = [.int .i64 0, .int .i64 0, .int .i64 0, .int .u32 0, .int .u32 0, .slice none 0 0, .slice none 0 0] := by kernel_rfl
  have hst := run_storeCells_cells (P := Try.prog) g (m * 7) [.int .i64 0, .int .i64 0, .int .i64 0, .int .u32 0, .int .u32 0, .slice none 0 0, .slice none 0 0] 0 W (fun j hj => by rw [cell_of_row W g _ cur _ (0, 0) hh]; simp at hj ⊢; omega) (fun j _ => blk_frozen hh _) (by simp [Value.oneCell'])
  simp only [Nat.add_zero] at hst
  obtain ⟨cur', h3, h4, h5⟩ := setCells_row [.int .i64 0, .int .i64 0, .int .i64 0, .int .u32 0, .int .u32 0, .slice none 0 0, .slice none 0 0] (m * 7) W cur hh (by simp; omega)
  obtain ⟨s1, s2, s3, s4⟩ := setCells_same g [.int .i64 0, .int .i64 0, .int .i64 0, .int .u32 0, .int .u32 0, .slice none 0 0, .slice none 0 0] (m * 7) W
  refine ⟨_, by simp [Builtin.clear_, run_underlying Try.underlying33, zeroH, hzc, hst], ⟨cur', h3, by omega, ?_⟩, ⟨s1, s2, s3, by rw [s4]; exact Nat.le_refl _, fun k' _ hk' => setCells_far _ _ k' (fun he => hk' (by rw [he]))⟩⟩
  rw [h5, List.append_assoc]
  exact List.take_left' (by rw [List.length_take]; simp; omega)

theorem step_del {ops : Array Oper} {o : Oper} {a : Act} {K : Act → World → Prop} {Q : Exit → Act → World → Prop} {E : Prop} {W : World} (hgd : o.guard = none) (s x : Operand)
    (ho : o.op = .call { callee := .builtin .append, args := #[s, x], argTypes := #[33, 33] }) {v1 v2 v : Value} {w1 : World} (hs : a.eval s = v1) (hx : a.eval x = v2)
    (hr : (Builtin.append_ #[33, 33] o.type #[v1, v2]).run Try.prog W = .ok v w1) (h : K (a.put o.dst v) w1) :
    if Region.wanted o (yielded ops a.tmps) = true then Oper.wp Try.prog o a W K Q else E := by
  have hw : Region.wanted o (yielded ops a.tmps) = true := by simp [Region.wanted, hgd]
  rw [if_pos hw]
  unfold Oper.wp execOp
  simp only [ho, resolve, invoke, builtin, Sem.run_bind, Sem.run_pure, Result.andThen_ok, List.map_toArray, List.map_cons, List.map_nil, hs, hx, hr]
  exact h
set_option maxRecDepth 100000 in
theorem del_walk (w : World) (base g m c k : Nat) (cs : List Value) (ho : w.ownsRow base 32 7 (.slice (some ⟨g, 0, none⟩) (m + 1) c) (m + 1) cs) (hone : ∀ u ∈ cs, u.oneCell' = true) (hk : k < m + 1) :
    Calls Try.prog 45 #[.slice (some ⟨g, 0, none⟩) (m + 1) c, .int .i64 (k : Int), .int .i64 ((k : Int) + 1)] w fun e w' => e = .returned (.slice (some ⟨g, 0, none⟩) m c) ∧
      w'.ownsRow base 32 7 (.slice (some ⟨g, 0, none⟩) m c) m (cs.take (k * 7) ++ cs.drop ((k + 1) * 7)) ∧ w.grownBy w' (some g) := by
  obtain ⟨hnc, hcm⟩ : m + 1 ≤ c ∧ c ≤ maxLen := by
    rcases ho.2 with ⟨hv, _⟩ | ⟨g', cap', cur, hv, hb, hh, hnc, hcm, hcs, htake⟩
    · cases hv
    · injection hv with _ _ hc; subst hc; exact ⟨hnc, hcm⟩
  have hb := own_base ho g (by simp [Value.ownBlock])
  obtain ⟨w1, hr, ⟨cur1, h1, h2, h3⟩, hg⟩ := del_run (A := if c = k + 1 then some ⟨g, 0, none⟩ else some ⟨g, (k + 1) * 7, none⟩) (ho.kept (w' := w.drew) (row := none) ⟨rfl, rfl, rfl, Nat.le_refl _, fun _ _ _ => rfl⟩ (.inr (by simp [Value.ownBlock]))) hone hk rfl 33 (c - (k + 1))
  obtain ⟨w2, hr2, ⟨cur2, k1, k2, k3⟩, hg2⟩ := clr_run (m := m) h1 h2 hnc 0 (c - m)
  have hfin : w2.ownsRow base 32 7 (.slice (some ⟨g, 0, none⟩) m c) m (cs.take (k * 7) ++ cs.drop ((k + 1) * 7)) := by
    refine ⟨?_, .inr ⟨g, c, cur2, rfl, hb, k1, by omega, hcm, k2, by rw [k3]; exact h3⟩⟩
    have := ho.1
    rw [List.length_append, List.length_take, List.length_drop]; omega
  have hgw : w.grownBy w2 (some g) := World.grownBy.trans (World.grownBy.trans (b := w.drew) ⟨rfl, rfl, rfl, Nat.le_refl _, fun _ _ _ => rfl⟩ hg) hg2
  have HR := Lib.hid hr; have HF := Lib.hid (And.intro hfin hgw)
  clear hr h1 h2 h3 hg ho hone k1 k2 k3 hg2 hfin hgw
  have hc' : (c : Int) ≤ 9223372036854775807 := by simp only [maxLen] at hcm; omega
  have hic : k ≤ c := by omega
  have hjc : k + 1 ≤ c := by omega
  have hkn : k + 1 ≤ m + 1 := by omega
  have hz0 : (0 : Int) ≤ (k : Int) + 1 := by omega
  have hz1 : (k : Int) + 1 ≤ ((m + 1 : Nat) : Int) := by omega
  have hmc : m ≤ c := by omega
  have hkm : k ≤ m := by omega
  have hkm2 : (k : Int) ≤ (m : Int) := by omega
  have hkm3 : (k : Int) + 1 ≤ (m : Int) + 1 := by omega
  have mixed : Try.prog.follows Departure.mixedOrders = true := by kernel_rfl
  go_enter Try.func45, Try.ntmps45
  go_wp2_with fail
  go_region_law_o (refine step_del rfl (.tmp 22) (.tmp 25) rfl (v1 := .slice (some ⟨g, 0, none⟩) k c) (v2 := .slice (if c = k + 1 then some ⟨g, 0, none⟩ else some ⟨g, (k + 1) * 7, none⟩) (m + 1 - (k + 1)) (c - (k + 1))) (by simp [Act.eval, Act.put]) (by simp [Act.eval, Act.put]) HR.out ?_)
  go_wp2_with fail
  all_goals (go_ret; first | exact ⟨rfl, HF.out.1, HF.out.2⟩ | (subst h; exact ⟨rfl, HF.out.1, HF.out.2⟩) | (rw [← h]; exact ⟨rfl, HF.out.1, HF.out.2⟩) | (rename_i hcc; subst hcc; exact ⟨rfl, HF.out.1, HF.out.2⟩))
end Go.Proofs.Ytbkpgkkfkjlnnaa.G
