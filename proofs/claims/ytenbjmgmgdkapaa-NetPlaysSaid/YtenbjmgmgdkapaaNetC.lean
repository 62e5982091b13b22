/- Walks of package net: worker, Cut. -/
import Derived.Test.YtenbjmgmgdkapaaNetB
set_option linter.unusedVariables false
set_option linter.unusedSimpArgs false
namespace Go.Proofs.Ytenbjmgmgdkapaa
open Go.RowKit Go.Proofs.YtenbjmgmgdkapaaW.PrintWords Go.Proofs.Ytenbjmgmgdkapaa.K

theorem worker_walk (n : Int) (w : World) : Calls Try.prog 23 #[.int .i64 n] w fun e w' => e = .returned (.bool (decide (0 ≤ n ∧ n < 16))) ∧ w = w' := by
  by_cases h0 : 0 ≤ n
  · go_enter Try.func23, Try.ntmps23
    go_wp2
    go_ret
    exact ⟨by simp [h0], rfl⟩
  · go_enter Try.func23, Try.ntmps23
    go_wp2
    go_ret
    exact ⟨by rw [decide_eq_false (show ¬ 0 ≤ n by omega)]; rfl, rfl⟩
theorem worker_yes (a : Nat) (ha : a < 16) (w : World) : Calls Try.prog 23 #[.int .i64 (a : Int)] w fun e w' => e = .returned (.bool true) ∧ w = w' := by
  have C := worker_walk (a : Int) w
  rw [decide_eq_true (by omega)] at C
  exact C
set_option maxHeartbeats 1000000 in
theorem cut_walk (w : World) (r : Nat) (room : Int) (A : Option Addr) (k c mb n : Nat) (f : Nat → Nat → Bool) (h : NetC w r room A k c mb) (hc : CutM w mb n f) (hn : n < 100000) (hne : r ≠ mb) (a b : Nat) (ha : a < 16) (hb : b < 16) (v : Bool) :
    Calls Try.prog 11 #[.pointer (some ⟨r, 0, none⟩), .int .i64 (a : Int), .int .i64 (b : Int), .bool v] w fun e w' => e = .returned (.tuple #[]) ∧ NetC w' r room A k c mb ∧ CutM w' mb (n + 1) (upd f a b v) ∧ w.grownBy w' (some mb) := by
  obtain ⟨D, h1, h2, h3⟩ := hc
  obtain ⟨l, hl⟩ := key_some a b ha hb
  have c0 : w.cell? ⟨r, 2, none⟩ = some (.map (some mb)) := by unfold NetC at h; simp [World.cell?, h]
  have H := Lib.hid h; have H1 := Lib.hid h1; have HL := Lib.hid hl; have H3 := Lib.hid (cut_put h2 hl h3 v)
  have HV := Lib.hid (plainElem_bool (H := Unit) (P := Try.prog) Try.underlying4 v)
  have HWA := Lib.hid (fun w => worker_yes a ha w)
  have HWB := Lib.hid (fun w => worker_yes b hb w)
  clear h h1 hl h2 h3 ha hb
  go_enter Try.func11, Try.ntmps11
  go_wp2_with (first
    | (go_at_call 23; with_reducible refine (HWA.out _).mono ?_; rintro e w' ⟨rfl, rfl⟩)
    | (go_at_call 23; with_reducible refine (HWB.out _).mono ?_; rintro e w' ⟨rfl, rfl⟩)
    | (at_mapUpdate; refine wpList_mapUpdate_own _ rfl _ _ _ 56 rfl 60 4 keyed Try.underlying56 (plainElem Try.prog 4) mb n D rfl H1.out (by unfold maxLen; omega) _ _ l rfl rfl HL.out (.lit (.bool v)) [] HV.out ?_; intro w1 hown hg; have HO := Lib.hid hown; clear hown))
  first | go_end0 | ((try simp only [Exit.inBlock, Exit.then]); refine bodyPost_ret (results_none rfl _ _ _) rfl ?_)
  refine ⟨rfl, ?_, ⟨_, HO.out, ?_, H3.out⟩, hg⟩
  · have := H.out
    unfold NetC at this ⊢
    rw [hg.block r (lt_of_heap this) (fun e => hne (by injection e))]
    exact this
  · obtain ⟨_, _, _, _, _, e⟩ := HO.out
    exact ⟨_, e⟩
end Go.Proofs.Ytenbjmgmgdkapaa
