/- Net: the walk of slices.Delete. -/
import Derived.Test.YtenbjmgmgdkapaaNetL
import Derived.Deep.RegionLaw
import Derived.Shelf.RegionOpenPlain
set_option linter.unusedVariables false
set_option linter.unusedSimpArgs false
namespace Go.Proofs.Ytenbjmgmgdkapaa
open Go.RowKit Go.Proofs.YtenbjmgmgdkapaaW.PrintWords Go.Proofs.Ytenbjmgmgdkapaa.K

theorem step_del {ops : Array Oper} {o : Oper} {a : Act} {K : Act → World → Prop} {Q : Exit → Act → World → Prop} {E : Prop} {W : World} (hgd : o.guard = none) (s x : Operand)
    (ho : o.op = .call { callee := .builtin .append, args := #[s, x], argTypes := #[57, 57] }) {v1 v2 v : Value} {w1 : World} (hs : a.eval s = v1) (hx : a.eval x = v2)
    (hr : (Builtin.append_ #[57, 57] o.type #[v1, v2]).run Try.prog W = .ok v w1) (h : K (a.put o.dst v) w1) :
    if Region.wanted o (yielded ops a.tmps) = true then Oper.wp Try.prog o a W K Q else E := by
  have hw : Region.wanted o (yielded ops a.tmps) = true := by simp [Region.wanted, hgd]
  rw [if_pos hw]
  unfold Oper.wp execOp
  simp only [ho, resolve, invoke, builtin, Sem.run_bind, Sem.run_pure, Result.andThen_ok, List.map_toArray, List.map_cons, List.map_nil, hs, hx, hr]
  exact h
set_option maxRecDepth 100000 in
theorem del_walk (w : World) (base g m c k : Nat) (cs : List Value) (ho : w.ownsRow base 63 4 (.slice (some ⟨g, 0, none⟩) (m + 1) c) (m + 1) cs) (hone : ∀ u ∈ cs, u.oneCell' = true) (hk : k < m + 1) :
    Calls Try.prog 26 #[.slice (some ⟨g, 0, none⟩) (m + 1) c, .int .i64 (k : Int), .int .i64 ((k : Int) + 1)] w fun e w' => e = .returned (.slice (some ⟨g, 0, none⟩) m c) ∧
      w'.ownsRow base 63 4 (.slice (some ⟨g, 0, none⟩) m c) m (cs.take (k * 4) ++ cs.drop ((k + 1) * 4)) ∧ w.grownBy w' (some g) := by
  obtain ⟨hnc, hcm⟩ : m + 1 ≤ c ∧ c ≤ maxLen := by
    rcases ho.2 with ⟨hv, _⟩ | ⟨g', cap', cur, hv, hb, hh, hnc, hcm, hcs, htake⟩
    · cases hv
    · injection hv with _ _ hc; subst hc; exact ⟨hnc, hcm⟩
  have hb := own_base ho g (by simp [Value.ownBlock])
  obtain ⟨w1, hr, ⟨cur1, h1, h2, h3⟩, hg⟩ := del_run (A := if c = k + 1 then some ⟨g, 0, none⟩ else some ⟨g, (k + 1) * 4, none⟩) (ho.kept (w' := w.drew) (row := none) ⟨rfl, rfl, rfl, Nat.le_refl _, fun _ _ _ => rfl⟩ (.inr (by simp [Value.ownBlock]))) hone hk rfl 57 (c - (k + 1))
  obtain ⟨w2, hr2, ⟨cur2, k1, k2, k3⟩, hg2⟩ := clr_run (m := m) h1 h2 hnc 0 (c - m)
  have hfin : w2.ownsRow base 63 4 (.slice (some ⟨g, 0, none⟩) m c) m (cs.take (k * 4) ++ cs.drop ((k + 1) * 4)) := by
    refine ⟨?_, .inr ⟨g, c, cur2, rfl, hb, k1, by omega, hcm, k2, by rw [k3]; exact h3⟩⟩
    have := ho.1
    rw [List.length_append, List.length_take, List.length_drop]; omega
  have hgw : w.grownBy w2 (some g) := World.grownBy.trans (World.grownBy.trans (b := w.drew) ⟨rfl, rfl, rfl, Nat.le_refl _, fun _ _ _ => rfl⟩ hg) hg2
  have HR := Lib.hid hr; have HF := Lib.hid (And.intro hfin hgw)
  clear hr h1 h2 h3 hg ho hone k1 k2 k3 hg2 hfin hgw
  have hc' : (c : Int) ≤ 9223372036854775807 := by simp only [maxLen] at hcm; omega
  have hic : k ≤ c := by omega
  have hjc : k + 1 ≤ c := by omega
  have hkn : k + 1 ≤ m + 1 := by omega
  have hz0 : (0 : Int) ≤ (k : Int) + 1 := by omega
  have hz1 : (k : Int) + 1 ≤ ((m + 1 : Nat) : Int) := by omega
  have hmc : m ≤ c := by omega
  have hkm : k ≤ m := by omega
  have hkm2 : (k : Int) ≤ (m : Int) := by omega
  have hkm3 : (k : Int) + 1 ≤ (m : Int) + 1 := by omega
  have mixed : Try.prog.follows Departure.mixedOrders = true := by kernel_rfl
  go_enter Try.func26, Try.ntmps26
  go_wp2_with fail
  go_region_law_o (refine step_del rfl (.tmp 22) (.tmp 25) rfl (v1 := .slice (some ⟨g, 0, none⟩) k c) (v2 := .slice (if c = k + 1 then some ⟨g, 0, none⟩ else some ⟨g, (k + 1) * 4, none⟩) (m + 1 - (k + 1)) (c - (k + 1))) (by simp [Act.eval, Act.put]) (by simp [Act.eval, Act.put]) HR.out ?_)
  go_wp2_with fail
  all_goals (go_ret; first | exact ⟨rfl, HF.out.1, HF.out.2⟩ | (subst h; exact ⟨rfl, HF.out.1, HF.out.2⟩) | (rw [← h]; exact ⟨rfl, HF.out.1, HF.out.2⟩) | (rename_i hcc; subst hcc; exact ⟨rfl, HF.out.1, HF.out.2⟩))
end Go.Proofs.Ytenbjmgmgdkapaa
