/- Take, Copy, Spoil, Cut of what may not be (printed by a program of mine, mknet3.py). -/
import Derived.Test.YtenbjmgmgdkapaaNetU
import Derived.Test.YtenbjmgmgdkapaaWLast
set_option linter.unusedVariables false
set_option linter.unusedSimpArgs false
namespace Go.Proofs.Ytenbjmgmgdkapaa
open Go.RowKit Go.Proofs.YtenbjmgmgdkapaaW.PrintWords Go.Proofs.YtenbjmgmgdkapaaW.PrintLast Go.Proofs.Ytenbjmgmgdkapaa.K

set_option maxRecDepth 100000 in
set_option maxHeartbeats 4000000 in
theorem take_no (r : Nat) (room : Int) (A : Option Addr) (L c mb : Nat) (k : Int) (w : World) (hc : NetC w r room A L c mb) (hL : L ≤ 100000) (hk : ¬ (0 ≤ k ∧ k < (L : Int))) :
    Calls Try.prog 13 #[.pointer (some ⟨r, 0, none⟩), .int .i64 k] w fun e w' => e = .returned (.tuple #[.agg #[.int .i64 0, .int .i64 0, .slice none 0 0], .bool false]) ∧ Below w.heap.size w w' := by
  obtain ⟨w1, hw1⟩ : ∃ w1, w1 = w.alloc (.cells #[.int .i64 0, .int .i64 0, .slice none 0 0] 30) := ⟨_, rfl⟩
  have hb1 : Below w.heap.size w w1 := by rw [hw1]; exact alloc_back _
  have q0 : w1.heap[w.heap.size]? = some (.cells #[.int .i64 0, .int .i64 0, .slice none 0 0] 30 (0, 0)) := by rw [hw1]; exact heap_alloc_new _ _
  have HAT := Lib.hid (at_no r room A L c mb k w1 (by unfold NetC at hc ⊢; exact heap_keep hb1 hc) hL hk)
  have HB1 := Lib.hid hb1; have Q0 := Lib.hid q0
  clear hc hk hb1 q0
  go_enter Try.func13, Try.ntmps13
  go_wp2_with fail
  rw [← hw1]
  clear hw1
  refine HAT.out.mono ?_
  rintro e w2 ⟨rfl, hb2⟩
  have B2 := Lib.hid (below_then HB1.out HB1.out.size hb2)
  have HN2 := Lib.hid (heap_keep hb2 Q0.out)
  clear hb2
  go_wp2_with fail
  obtain ⟨w3, hw3⟩ : ∃ w3, w3 = w2.alloc (.cells #[.int .i64 0, .int .i64 0, .slice none 0 0] 30) := ⟨_, rfl⟩
  have hm3 : w3.heap[w2.heap.size]? = some (.cells #[.int .i64 0, .int .i64 0, .slice none 0 0] 30 (0, 0)) := by rw [hw3]; exact heap_alloc_new _ _
  have hb3 : Below w2.heap.size w2 w3 := by rw [hw3]; exact alloc_back _
  rw [← hw3]
  clear hw3
  have B3 := Lib.hid (below_then B2.out B2.out.size hb3)
  have HN3 := Lib.hid (show w3.heap[w.heap.size]? = some (.cells #[.int .i64 0, .int .i64 0, .slice none 0 0] 30 (0, 0)) from heap_keep hb3 HN2.out)
  obtain ⟨d0, d1, d2⟩ := box3 hm3
  obtain ⟨e0, e1, e2⟩ := box3 HN3.out
  have v0 := froz HN3.out 0
  have v1 := froz HN3.out 1
  have v2 := froz HN3.out 2
  clear hm3 hb3
  refine start_ (n := 9) (S := fun w' => w'.cell? ⟨w2.heap.size, 0, none⟩ = some (.int .i64 0) ∧ w'.cell? ⟨w2.heap.size, 1, none⟩ = some (.int .i64 0) ∧ w'.cell? ⟨w2.heap.size, 2, none⟩ = some (.slice none 0 0)) (ds := [7]) #[false, false, false, false, false, false, false, false, false] (by kernel_rfl) rfl rfl (⟨d0, d1, d2⟩) (fun hHeld => ?_)
  refine take_ (i := 0) (N := some 14) (v := ?_) (a' := ?_) #[true, false, false, false, false, false, false, false, false] rfl rfl (by kernel_rfl) (fun _ _ _ h => h) (Or.inl ⟨by rfl, ?_⟩) hHeld ?_ ?_
  rotate_left
  · rintro w' ⟨s0, s1, s2⟩
    go_simp
    (try with_reducible rfl)
  rotate_left
  · simp only [Act.put, List.setIfInBounds_toArray, List.set_cons_zero, List.set_cons_succ]
    rfl
  refine pure_ (i := 1) (N := some 15) (v := ?_) (a' := ?_) #[true, true, false, false, false, false, false, false, false] rfl rfl (by kernel_rfl) (fun _ _ _ h => h) (Or.inl ⟨by rfl, ?_⟩) ?_ ?_
  rotate_left
  · intro w'
    go_simp
    (try with_reducible rfl)
  rotate_left
  · simp only [Act.put, List.setIfInBounds_toArray, List.set_cons_zero, List.set_cons_succ]
    rfl
  refine pure_ (i := 2) (N := some 16) (v := ?_) (a' := ?_) #[true, true, true, false, false, false, false, false, false] rfl rfl (by kernel_rfl) (fun _ _ _ h => h) (Or.inl ⟨by rfl, ?_⟩) ?_ ?_
  rotate_left
  · intro w'
    go_simp
    (try with_reducible rfl)
  rotate_left
  · simp only [Act.put, List.setIfInBounds_toArray, List.set_cons_zero, List.set_cons_succ]
    rfl
  refine pure_ (i := 3) (N := some 17) (v := undef) (a' := ?_) #[true, true, true, true, false, false, false, false, false] rfl rfl (by kernel_rfl) (fun _ _ _ h => h) (Or.inr ⟨by rfl, rfl⟩) ?_ ?_
  rotate_left
  · simp only [Act.put, List.setIfInBounds_toArray, List.set_cons_zero, List.set_cons_succ]
    rfl
  refine pure_ (i := 4) (N := some 18) (v := undef) (a' := ?_) #[true, true, true, true, true, false, false, false, false] rfl rfl (by kernel_rfl) (fun _ _ _ h => h) (Or.inr ⟨by rfl, rfl⟩) ?_ ?_
  rotate_left
  · simp only [Act.put, List.setIfInBounds_toArray, List.set_cons_zero, List.set_cons_succ]
    rfl
  refine pure_ (i := 5) (N := some 19) (v := undef) (a' := ?_) #[true, true, true, true, true, true, false, false, false] rfl rfl (by kernel_rfl) (fun _ _ _ h => h) (Or.inr ⟨by rfl, rfl⟩) ?_ ?_
  rotate_left
  · simp only [Act.put, List.setIfInBounds_toArray, List.set_cons_zero, List.set_cons_succ]
    rfl
  refine pure_ (i := 6) (N := some 20) (v := ?_) (a' := ?_) #[true, true, true, true, true, true, true, false, false] rfl rfl (by kernel_rfl) (fun _ _ _ h => h) (Or.inl ⟨by rfl, ?_⟩) ?_ ?_
  rotate_left
  · intro w'
    go_simp
    (try with_reducible rfl)
  rotate_left
  · simp only [Act.put, List.setIfInBounds_toArray, List.set_cons_zero, List.set_cons_succ]
    rfl
  refine last_ (i := 7) (N := none) #[true, true, true, true, true, true, true, true, false] rfl rfl (by kernel_rfl) (by decide) (fun K hK => ?_)
  go_simp
  refine hK.out _ _ ?_
  clear hHeld hK K
  try simp only [Act.put, List.setIfInBounds_toArray, List.set_cons_zero, List.set_cons_succ]
  refine pure_ (i := 8) (N := some 5) (v := ?_) (a' := ?_) #[true, true, true, true, true, true, true, true, true] rfl rfl (by kernel_rfl) (fun _ _ _ h => h) (Or.inl ⟨by rfl, ?_⟩) ?_ ?_
  rotate_left
  · intro w'
    go_simp
    (try with_reducible rfl)
  rotate_left
  · simp only [Act.put, List.setIfInBounds_toArray, List.set_cons_zero, List.set_cons_succ]
    rfl
  refine wpAnyLast_done (by kernel_rfl) ?_ _
  go_wp2_with fail
  (try simp only [Exit.inBlock, Exit.then])
  refine bodyPost_ret (results_ct rfl _ _ w.heap.size 30 #[.int .i64 0, .int .i64 0, .slice none 0 0] (0, 0) _ rfl (set3 HN3.out) Try.underlying30 rfl (by kernel_rfl)) rfl ?_
  have gg : ∀ (u : World) (j : Nat) (v : Value), (u.setCell ⟨w.heap.size, j, none⟩ v).heap.size = u.heap.size := fun u j v => by simp [World.setCell]
  exact ⟨rfl, bset' (bset' (bset' (below_drew B3.out) (Nat.le_refl _) B3.out.size) (Nat.le_refl _) (by rw [gg]; exact B3.out.size)) (Nat.le_refl _) (by rw [gg, gg]; exact B3.out.size)⟩
set_option maxRecDepth 100000 in
set_option maxHeartbeats 2000000 in
theorem copy_no (r : Nat) (room : Int) (A : Option Addr) (L c mb : Nat) (k : Int) (w : World) (hc : NetC w r room A L c mb) (hL : L ≤ 100000) (hk : ¬ ((0 ≤ k ∧ k < (L : Int)) ∧ (L : Int) < room)) :
    Calls Try.prog 14 #[.pointer (some ⟨r, 0, none⟩), .int .i64 k] w fun e w' => e = .returned (.bool false) ∧ Below w.heap.size w w' := by
  have hcx := hc
  obtain ⟨u0, u1, u2⟩ := net_cells hc
  have HCD := Lib.hid (fun x => has_walk (w.drewN x) r room A L c mb k (by unfold NetC at hc ⊢; exact heap_keep (pw_below_drewN (Below.refl _ _) x) hc) hL)
  have HK := Lib.hid hk
  clear hc hcx hk
  by_cases h1 : 0 ≤ k ∧ k < (L : Int)
  · have hge : room ≤ (L : Int) := by have := HK.out; omega
    rw [decide_eq_true h1] at HCD
    clear h1
    go_enter Try.func14, Try.ntmps14
    go_wp2_with fail
    go_quiet ((go_at_call 25; exact Calls.quiet_of_same ((HCD.out _).mono fun e w' he => ⟨he.1, he.2.symm⟩)))
    go_wp2_with fail
    go_ret
    exact ⟨rfl, pw_below_drewN (Below.refl _ _) _⟩
  · rw [decide_eq_false h1] at HCD
    clear h1
    go_enter Try.func14, Try.ntmps14
    go_wp2_with fail
    go_quiet ((go_at_call 25; exact Calls.quiet_of_same ((HCD.out _).mono fun e w' he => ⟨he.1, he.2.symm⟩)))
    go_wp2_with fail
    go_ret
    exact ⟨rfl, pw_below_drewN (Below.refl _ _) _⟩
/-- Cut between what are no workers. -/
theorem cut_no (r : Nat) (a b : Int) (v : Bool) (w : World) (h : ¬ (okW a ∧ okW b)) :
    Calls Try.prog 11 #[.pointer (some ⟨r, 0, none⟩), .int .i64 a, .int .i64 b, .bool v] w fun e w' => e = .returned (.tuple #[]) ∧ w = w' := by
  have HWA := Lib.hid (fun w => worker_walk a w)
  have HWB := Lib.hid (fun w => worker_walk b w)
  by_cases ha : 0 ≤ a ∧ a < 16
  · have hb : ¬ (0 ≤ b ∧ b < 16) := fun hb => h ⟨ha, hb⟩
    rw [decide_eq_true ha] at HWA
    rw [decide_eq_false hb] at HWB
    clear ha hb h
    go_enter Try.func11, Try.ntmps11
    go_wp2_with (first
      | (go_at_call 23; with_reducible refine (HWA.out _).mono ?_; rintro e w' ⟨rfl, rfl⟩)
      | (go_at_call 23; with_reducible refine (HWB.out _).mono ?_; rintro e w' ⟨rfl, rfl⟩))
    first | go_end0 | ((try simp only [Exit.inBlock, Exit.then]); refine bodyPost_ret (results_none rfl _ _ _) rfl ?_)
    exact ⟨rfl, rfl⟩
  · rw [decide_eq_false ha] at HWA
    clear ha h
    go_enter Try.func11, Try.ntmps11
    go_wp2_with (go_at_call 23; with_reducible refine (HWA.out _).mono ?_; rintro e w' ⟨rfl, rfl⟩)
    first | go_end0 | ((try simp only [Exit.inBlock, Exit.then]); refine bodyPost_ret (results_none rfl _ _ _) rfl ?_)
    exact ⟨rfl, rfl⟩
/-- Spoil of what may not be. -/
theorem spoil_miss (r : Nat) (room : Int) (A : Option Addr) (L c mb : Nat) (k i by_ : Int) (w : World) (hc : NetC w r room A L c mb) (hL : L ≤ 100000) (hk : ¬ (0 ≤ k ∧ k < (L : Int))) :
    Calls Try.prog 16 #[.pointer (some ⟨r, 0, none⟩), .int .i64 k, .int .i64 i, .int .u8 by_] w fun e w' => e = .returned (.bool false) ∧ w = w' := by
  have HH := Lib.hid (has_walk w r room A L c mb k hc hL)
  rw [decide_eq_false hk] at HH
  clear hc hk
  go_enter Try.func16, Try.ntmps16
  go_wp2_with fail
  refine HH.out.mono ?_
  rintro e w' ⟨rfl, rfl⟩
  go_wp2_with fail
  go_ret
  exact ⟨rfl, rfl⟩
set_option maxRecDepth 100000 in
set_option maxHeartbeats 4000000 in
theorem spoil_ng (base r mb : Nat) (room : Int) (m : Nat) (f : Nat → Nat → Bool) (L : List Pk) (k : Nat) (i by_ : Int) (p : Pk) (w : World) (hS : NetS w base r mb room m f L) (hp : L[k]? = some p) (hL : L.length ≤ 100000) (hb : p.b.length ≤ 32768) (hno : ¬ ((0 ≤ i ∧ i < (p.b.length : Int)) ∧ by_ ≠ 0 ∧ p.sp = false)) :
    Calls Try.prog 16 #[.pointer (some ⟨r, 0, none⟩), .int .i64 (k : Int), .int .i64 i, .int .u8 by_] w fun e w' => e = .returned (.bool false) ∧ w = w' := by
  obtain ⟨Al, cl, hc, ho⟩ := hS.cl
  have hk : k < L.length := (List.getElem?_eq_some_iff.1 hp).1
  obtain ⟨g, cap, e, hgb, hgl⟩ := ho.form (by omega)
  injection e with e1 e2 e3
  subst e1 e3
  have g2 := ho.cells (g := g) rfl (k * 4 + 2) p.val (by rw [pk_get L k p hp 2 (by decide)]; rfl)
  have g3 := ho.cells (g := g) rfl (k * 4 + 3) (.bool p.sp) (by rw [pk_get L k p hp 3 (by decide)]; rfl)
  rw [add_plain] at g2 g3
  unfold Pk.val at g2
  have HH := Lib.hid (fun u => has_walk u r room (some ⟨g, 0, none⟩) L.length cl mb (k : Int))
  have HC1 := Lib.hid hc
  have hk1 : (0 : Int) ≤ (k : Int) := Int.natCast_nonneg _
  have hk2 : (k : Int) < (L.length : Int) := by omega
  obtain ⟨u0, u1, u2⟩ := net_cells hc
  have HDK := Lib.hid (show decide ((0 : Int) ≤ (k : Int) ∧ (k : Int) < (L.length : Int)) = true from decide_eq_true ⟨hk1, hk2⟩)
  have HNO := Lib.hid hno
  clear hS hp hc ho e2 hno
  by_cases c1 : i < 0
  · clear g2 g3
    go_enter Try.func16, Try.ntmps16
    go_wp2_with fail
    refine (HH.out _ HC1.out hL).mono ?_
    rintro e w' ⟨rfl, rfl⟩
    rw [HDK.out]
    go_wp2_with fail
    go_ret
    exact ⟨rfl, rfl⟩
  by_cases c2 : (p.b.length : Int) ≤ i
  · go_enter Try.func16, Try.ntmps16
    go_wp2_with fail
    refine (HH.out _ HC1.out hL).mono ?_
    rintro e w' ⟨rfl, rfl⟩
    rw [HDK.out]
    go_wp2_with fail
    go_ret
    exact ⟨rfl, rfl⟩
  by_cases c3 : by_ = 0
  · subst c3
    go_enter Try.func16, Try.ntmps16
    go_wp2_with fail
    refine (HH.out _ HC1.out hL).mono ?_
    rintro e w' ⟨rfl, rfl⟩
    rw [HDK.out]
    go_wp2_with fail
    go_ret
    exact ⟨rfl, rfl⟩
  have hsp : p.sp = true := by
    cases hs : p.sp with
    | true => rfl
    | false => exact absurd ⟨⟨by omega, by omega⟩, c3, hs⟩ HNO.out
  rw [hsp] at g3
  have hby' : (by_ == 0) = false := by simpa using c3
  clear hsp
  go_enter Try.func16, Try.ntmps16
  go_wp2_with fail
  refine (HH.out _ HC1.out hL).mono ?_
  rintro e w' ⟨rfl, rfl⟩
  rw [HDK.out]
  go_wp2_with fail
  go_ret
  exact ⟨rfl, rfl⟩
end Go.Proofs.Ytenbjmgmgdkapaa
