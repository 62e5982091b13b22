/- Walks of package net: what is refused. -/
import Derived.Test.YtenbjmgmgdkapaaNetS
set_option linter.unusedVariables false
set_option linter.unusedSimpArgs false
namespace Go.Proofs.Ytenbjmgmgdkapaa
open Go.RowKit Go.Proofs.YtenbjmgmgdkapaaW.PrintWords Go.Proofs.Ytenbjmgmgdkapaa.K

def okW (n : Int) : Prop := 0 ≤ n ∧ n < 16
set_option maxRecDepth 100000 in
set_option maxHeartbeats 2000000 in
/-- Send of what may not be. -/
theorem send_arg (r : Nat) (a b : Int) (A : Option Addr) (n c : Nat) (w : World) (hn : n ≤ 140737488351232) (h : ¬ (okW a ∧ okW b ∧ n ≤ 32768)) :
    Calls Try.prog 10 #[.pointer (some ⟨r, 0, none⟩), .agg #[.int .i64 a, .int .i64 b, .slice A n c]] w fun e w' => e = .returned (.int .i64 1) ∧ Below w.heap.size w w' := by
  obtain ⟨w1, hw1⟩ : ∃ w1, w1 = w.alloc (.cells #[.int .i64 a, .int .i64 b, .slice A n c] 30) := ⟨_, rfl⟩
  have hb1 : Below w.heap.size w w1 := by rw [hw1]; exact alloc_back _
  have HB1 := Lib.hid hb1
  have HWA := Lib.hid (fun w => worker_walk a w)
  have HWB := Lib.hid (fun w => worker_walk b w)
  have HH := Lib.hid h
  clear hb1 h
  by_cases ha : 0 ≤ a ∧ a < 16
  · by_cases hb : 0 ≤ b ∧ b < 16
    · have h3 : 32768 < n := by have := HH.out; unfold okW at this; omega
      have h3' : (32768 : Int) < (n : Int) := by omega
      rw [decide_eq_true ha] at HWA
      rw [decide_eq_true hb] at HWB
      clear ha hb
      go_enter Try.func10, Try.ntmps10
      go_wp2_with (first
        | (go_at_call 23; with_reducible refine (HWA.out _).mono ?_; rintro e w' ⟨rfl, rfl⟩)
        | (go_at_call 23; with_reducible refine (HWB.out _).mono ?_; rintro e w' ⟨rfl, rfl⟩))
      go_ret
      rw [← hw1]
      exact ⟨rfl, HB1.out⟩
    · rw [decide_eq_true ha] at HWA
      rw [decide_eq_false hb] at HWB
      clear ha hb
      go_enter Try.func10, Try.ntmps10
      go_wp2_with (first
        | (go_at_call 23; with_reducible refine (HWA.out _).mono ?_; rintro e w' ⟨rfl, rfl⟩)
        | (go_at_call 23; with_reducible refine (HWB.out _).mono ?_; rintro e w' ⟨rfl, rfl⟩))
      go_ret
      rw [← hw1]
      exact ⟨rfl, HB1.out⟩
  · rw [decide_eq_false ha] at HWA
    clear ha
    go_enter Try.func10, Try.ntmps10
    go_wp2_with (go_at_call 23; with_reducible refine (HWA.out _).mono ?_; rintro e w' ⟨rfl, rfl⟩)
    go_ret
    rw [← hw1]
    exact ⟨rfl, HB1.out⟩
set_option maxRecDepth 100000 in
set_option maxHeartbeats 4000000 in
/-- Send into a full net. -/
theorem send_full (base r mb : Nat) (room : Int) (m : Nat) (f : Nat → Nat → Bool) (L : List Pk) (a b : Nat) (A : Option Addr) (n c : Nat) (w : World) (ha : a < 16) (hb : b < 16) (hn : n ≤ 32768) (hS : NetS w base r mb room m f L)
    (hf : f a b = false) (hl : room ≤ (L.length : Int)) :
    Calls Try.prog 10 #[.pointer (some ⟨r, 0, none⟩), .agg #[.int .i64 (a : Int), .int .i64 (b : Int), .slice A n c]] w fun e w' => e = .returned (.int .i64 6) ∧ Below w.heap.size w w' := by
  obtain ⟨Al, cl, hc, ho⟩ := hS.cl
  have hbx : ∀ o : Obj, Below w.heap.size w (w.alloc o) := fun o => alloc_back o
  obtain ⟨w1, hw1⟩ : ∃ w1, w1 = w.alloc (.cells #[.int .i64 (a : Int), .int .i64 (b : Int), .slice A n c] 30) := ⟨_, rfl⟩
  have hb1 : Below w.heap.size w w1 := by rw [hw1]; exact hbx _
  have S1 := hS.below hb1
  obtain ⟨u0, u1, u2⟩ := net_cells (show NetC w1 r room Al L.length cl mb by unfold NetC at hc ⊢; exact heap_keep hb1 hc)
  have q0 : w1.heap[w.heap.size]? = some (.cells #[.int .i64 (a : Int), .int .i64 (b : Int), .slice A n c] 30 (0, 0)) := by rw [hw1]; exact heap_alloc_new _ _
  have hlk : (Instr.lookup 56 (.map (some mb)) (.agg #[.int .i64 (a : Int), .int .i64 (b : Int)]) false).run Try.prog w1.drew = .ok (.bool false) w1.drew := by
    have := (S1.cu.below (below_drew (Below.refl _ _))).look a b ha hb
    rw [hf] at this
    exact this
  have HWA := Lib.hid (fun w => worker_yes a ha w)
  have HWB := Lib.hid (fun w => worker_yes b hb w)
  have HB1 := Lib.hid hb1; have Q0 := Lib.hid q0; have HLK := Lib.hid hlk
  have HU := Lib.hid (And.intro u0 (And.intro u1 u2))
  clear hS hc ho hb1 q0 hlk hf ha hb S1 hbx u0 u1 u2
  go_enter Try.func10, Try.ntmps10
  go_wp2_with (first
    | (go_at_call 23; with_reducible refine (HWA.out _).mono ?_; rintro e w' ⟨rfl, rfl⟩)
    | (go_at_call 23; with_reducible refine (HWB.out _).mono ?_; rintro e w' ⟨rfl, rfl⟩))
  rw [← hw1]
  clear hw1
  obtain ⟨u0, u1, u2⟩ := HU.out
  obtain ⟨d0, d1, d2⟩ := box3 Q0.out
  have hlk := HLK.out
  go_region_held3 (fun w' => w'.cell? ⟨r, 2, none⟩ = some (.map (some mb)) ∧ w'.cell? ⟨w.heap.size, 0, none⟩ = some (.int .i64 (a : Int)) ∧ w'.cell? ⟨w.heap.size, 1, none⟩ = some (.int .i64 (b : Int)) ∧ (Instr.lookup 56 (.map (some mb)) (.agg #[.int .i64 (a : Int), .int .i64 (b : Int)]) false).run Try.prog w' = .ok (.bool false) w')
    (first | exact ⟨u2, d0, d1, hlk⟩ | go_keep) (fail)
  clear hlk
  go_wp2_with fail
  go_quiet (fail)
  go_wp2_with fail
  go_ret
  exact ⟨rfl, pw_below_drewN (below_drew HB1.out) _⟩
/-- No packet k: At, Lose, Copy, Take. -/
theorem lose_no (r : Nat) (room : Int) (A : Option Addr) (L c mb : Nat) (k : Int) (w : World) (hc : NetC w r room A L c mb) (hL : L ≤ 100000) (hk : ¬ (0 ≤ k ∧ k < (L : Int))) :
    Calls Try.prog 17 #[.pointer (some ⟨r, 0, none⟩), .int .i64 k] w fun e w' => e = .returned (.bool false) ∧ w = w' := by
  have HH := Lib.hid (has_walk w r room A L c mb k hc hL)
  rw [decide_eq_false hk] at HH
  clear hc hk
  go_enter Try.func17, Try.ntmps17
  go_wp2_with fail
  refine HH.out.mono ?_
  rintro e w' ⟨rfl, rfl⟩
  go_wp2_with fail
  go_ret
  exact ⟨rfl, rfl⟩
set_option maxHeartbeats 1000000 in
theorem at_no (r : Nat) (room : Int) (A : Option Addr) (L c mb : Nat) (k : Int) (w : World) (hc : NetC w r room A L c mb) (hL : L ≤ 100000) (hk : ¬ (0 ≤ k ∧ k < (L : Int))) :
    Calls Try.prog 15 #[.pointer (some ⟨r, 0, none⟩), .int .i64 k] w fun e w' => e = .returned (.tuple #[.agg #[.int .i64 0, .int .i64 0, .slice none 0 0], .bool false]) ∧ Below w.heap.size w w' := by
  obtain ⟨w1, hw1⟩ : ∃ w1, w1 = w.alloc (.cells #[.int .i64 0, .int .i64 0, .slice none 0 0] 30) := ⟨_, rfl⟩
  have hb1 : Below w.heap.size w w1 := by rw [hw1]; exact alloc_back _
  have q0 : w1.heap[w.heap.size]? = some (.cells #[.int .i64 0, .int .i64 0, .slice none 0 0] 30 (0, 0)) := by rw [hw1]; exact heap_alloc_new _ _
  have HH := Lib.hid (has_walk w1 r room A L c mb k (by unfold NetC at hc ⊢; exact heap_keep hb1 hc) hL)
  rw [decide_eq_false hk] at HH
  have HB1 := Lib.hid hb1; have Q0 := Lib.hid q0
  obtain ⟨z0, z1, z2⟩ := box3 q0
  have v0 := froz q0 0
  have v1 := froz q0 1
  have v2 := froz q0 2
  clear hc hk hb1 q0
  go_enter Try.func15, Try.ntmps15
  go_wp2_with fail
  rw [← hw1]
  clear hw1
  refine HH.out.mono ?_
  rintro e w' ⟨rfl, rfl⟩
  go_wp2_with fail
  (try simp only [Exit.inBlock, Exit.then])
  refine bodyPost_ret (results_ct rfl _ _ w.heap.size 30 #[.int .i64 0, .int .i64 0, .slice none 0 0] (0, 0) _ rfl (set3 Q0.out) Try.underlying30 rfl (by kernel_rfl)) rfl ?_
  have gg : ∀ (u : World) (j : Nat) (v : Value), (u.setCell ⟨w.heap.size, j, none⟩ v).heap.size = u.heap.size := fun u j v => by simp [World.setCell]
  exact ⟨rfl, bset' (bset' (bset' HB1.out (Nat.le_refl _) HB1.out.size) (Nat.le_refl _) (by rw [gg]; exact HB1.out.size)) (Nat.le_refl _) (by rw [gg, gg]; exact HB1.out.size)⟩
end Go.Proofs.Ytenbjmgmgdkapaa
