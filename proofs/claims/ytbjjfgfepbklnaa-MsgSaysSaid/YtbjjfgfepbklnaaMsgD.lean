/- Walks of wide.Put and of the reference's WPut (printed by a program of mine, mkwput.py). -/
import Derived.Test.YtbjjfgfepbklnaaMsgC
import Derived.Test.YtbjjfgfepbklnaaWLast
set_option linter.unusedVariables false
set_option linter.unusedSimpArgs false
namespace Go.Proofs.Ytbjjfgfepbklnaa
open Go.RowKit Go.Proofs.YtbjjfgfepbklnaaW.PrintWords Go.Proofs.YtbjjfgfepbklnaaW.PrintLast Go.Proofs.Ytbjjfgfepbklnaa.K

set_option maxRecDepth 100000 in
set_option maxHeartbeats 1000000 in
theorem wput_walk (a b : Int) (h1 : (Lit.int .i64 a).wf = true) (h2 : (Lit.int .u64 b).wf = true) (W : World) :
    Calls Try.prog 29 #[.agg #[.int .i64 a, .int .u64 b]] W (Wrote W 16 (w16 (a, b))) := by
  obtain ⟨w0, hw0⟩ : ∃ w0, w0 = W.alloc (.cells #[.int .i64 a, .int .u64 b] 47) := ⟨_, rfl⟩
  have hb0 : Below W.heap.size W w0 := by rw [hw0]; exact alloc_back _
  have q0 : w0.heap[W.heap.size]? = some (.cells #[.int .i64 a, .int .u64 b] 47 (0, 0)) := by rw [hw0]; exact heap_alloc_new _ _
  have c0 : w0.cell? ⟨W.heap.size, 0, none⟩ = some (.int .i64 a) := by simp [World.cell?, q0]
  have c1 : w0.cell? ⟨W.heap.size, 1, none⟩ = some (.int .u64 b) := by simp [World.cell?, q0]
  have hr := wf_u64 h2
  have HW := Lib.hid hw0
  have HB := Lib.hid hb0
  have hm : 0 ≤ a % 18446744073709551616 ∧ a % 18446744073709551616 < 18446744073709551616 := by omega
  clear hw0 hb0 q0
  go_enter Try.func29, Try.ntmps29
  go_wp2_with fail
  rw [← HW.out]
  refine start_ (n := 8) (S := fun w' => w'.cell? ⟨W.heap.size, 0, none⟩ = some (.int .i64 a) ∧ w'.cell? ⟨W.heap.size, 1, none⟩ = some (.int .u64 b)) (ds := []) #[false, false, false, false, false, false, false, false] (by kernel_rfl) rfl rfl (⟨c0, c1⟩) (fun hHeld => ?_)
  refine pure_ (i := 0) (N := some 3) (v := ?_) (a' := ?_) #[true, false, false, false, false, false, false, false] rfl rfl (by kernel_rfl) (fun _ _ _ h => h) (Or.inl ⟨by rfl, ?_⟩) ?_ ?_
  rotate_left
  · intro w'
    go_simp
    (try with_reducible rfl)
  rotate_left
  · simp only [Act.put, List.setIfInBounds_toArray, List.set_cons_zero, List.set_cons_succ]
    rfl
  refine take_ (i := 1) (N := some 4) (v := ?_) (a' := ?_) #[true, true, false, false, false, false, false, false] rfl rfl (by kernel_rfl) (fun _ _ _ h => h) (Or.inl ⟨by rfl, ?_⟩) hHeld ?_ ?_
  rotate_left
  · rintro w' ⟨s0, s1⟩
    go_simp
    (try with_reducible rfl)
  rotate_left
  · simp only [Act.put, List.setIfInBounds_toArray, List.set_cons_zero, List.set_cons_succ]
    rfl
  refine pure_ (i := 2) (N := some 5) (v := ?_) (a' := ?_) #[true, true, true, false, false, false, false, false] rfl rfl (by kernel_rfl) (fun _ _ _ h => h) (Or.inl ⟨by rfl, ?_⟩) ?_ ?_
  rotate_left
  · intro w'
    go_simp
    (try with_reducible rfl)
  rotate_left
  · simp only [Act.put, List.setIfInBounds_toArray, List.set_cons_zero, List.set_cons_succ]
    rfl
  refine pure_ (i := 4) (N := some 7) (v := ?_) (a' := ?_) #[true, true, true, false, true, false, false, false] rfl rfl (by kernel_rfl) (fun _ _ _ h => h) (Or.inl ⟨by rfl, ?_⟩) ?_ ?_
  rotate_left
  · intro w'
    go_simp
    (try with_reducible rfl)
  rotate_left
  · simp only [Act.put, List.setIfInBounds_toArray, List.set_cons_zero, List.set_cons_succ]
    rfl
  refine take_ (i := 5) (N := some 8) (v := ?_) (a' := ?_) #[true, true, true, false, true, true, false, false] rfl rfl (by kernel_rfl) (fun _ _ _ h => h) (Or.inl ⟨by rfl, ?_⟩) hHeld ?_ ?_
  rotate_left
  · rintro w' ⟨s0, s1⟩
    go_simp
    (try with_reducible rfl)
  rotate_left
  · simp only [Act.put, List.setIfInBounds_toArray, List.set_cons_zero, List.set_cons_succ]
    rfl
  refine one_ (i := 3) (N := some 6) #[true, true, true, true, true, true, false, false] rfl rfl (by kernel_rfl) (by decide) (fun K hK => ?_)
  go_simp
  refine (wU64_walk none [] 0 0 (a % 18446744073709551616) _ (reads_nil _ _) (by decide) hm).mono ?_
  rintro e w1 ⟨A1, k1, rfl, ho1, hb1⟩
  have HO1 := Lib.hid ho1
  have hq1 : Below w0.heap.size w0 w1 := below_then (pw_below_drewN (Below.refl _ _) _) (Nat.le_refl _) hb1
  clear ho1
  try go_wp2_with fail
  refine hK.out _ _ ?_ (fun hHeld2 => ?_)
  · (try dsimp only)
    exact ⟨pw_cell_below hq1 c0, pw_cell_below hq1 c1⟩
  clear hHeld hK K
  have hHeld := hHeld2
  clear hHeld2
  try simp only [Act.put, List.setIfInBounds_toArray, List.set_cons_zero, List.set_cons_succ]
  refine one_ (i := 6) (N := some 9) #[true, true, true, true, true, true, true, false] rfl rfl (by kernel_rfl) (by decide) (fun K hK => ?_)
  go_simp
  refine (wU64_walk A1 (n8 a) 8 k1 b _ (own_info HO1.out).2.2.2.1 (by decide) hr).mono ?_
  rintro e w2 ⟨A2, k2, rfl, ho2, hb2⟩
  have HO2 := Lib.hid ho2
  have hq2 : Below w0.heap.size w0 w2 := below_then hq1 hq1.size hb2
  clear ho2
  try go_wp2_with fail
  refine hK.out _ _ ?_ (fun hHeld2 => ?_)
  · (try dsimp only)
    exact ⟨pw_cell_below hq2 c0, pw_cell_below hq2 c1⟩
  clear hHeld hK K
  have hHeld := hHeld2
  clear hHeld2
  try simp only [Act.put, List.setIfInBounds_toArray, List.set_cons_zero, List.set_cons_succ]
  refine pure_ (i := 7) (N := some 2) (v := ?_) (a' := ?_) #[true, true, true, true, true, true, true, true] rfl rfl (by kernel_rfl) (fun _ _ _ h => h) (Or.inl ⟨by rfl, ?_⟩) ?_ ?_
  rotate_left
  · intro w'
    go_simp
    (try with_reducible rfl)
  rotate_left
  · simp only [Act.put, List.setIfInBounds_toArray, List.set_cons_zero, List.set_cons_succ]
    rfl
  refine wpAnyLast_done (by kernel_rfl) ?_ _
  go_wp2_with fail
  go_ret
  have b1 := below_then HB.out HB.out.size hq1
  refine ⟨A2, k2, rfl, own_base_le HO2.out b1.size, below_then HB.out HB.out.size hq2⟩
theorem rw64_walk (A : Option Addr) (xs : List Int) (l cap : Nat) (v : Int) (w : World) (h : ReadsInt w .u8 A l xs) (hn : l ≤ 10000) (hv : 0 ≤ v ∧ v < 18446744073709551616) :
    Calls Try.prog 40 #[.slice A l cap, .int .u64 v] w (Wrote w (l + 8) (xs ++ bes v 8 8)) := by
  have C := ru64_walk A xs l cap v w h hn hv
  obtain ⟨m, rfl⟩ := Int.eq_ofNat_of_zero_le hv.1
  rw [be8_eq m (by omega)] at C
  exact C
set_option maxRecDepth 100000 in
set_option maxHeartbeats 1000000 in
theorem rwput_walk (a b : Int) (h1 : (Lit.int .i64 a).wf = true) (h2 : (Lit.int .u64 b).wf = true) (W : World) :
    Calls Try.prog 41 #[.agg #[.int .i64 a, .int .u64 b]] W (Wrote W 16 (w16 (a, b))) := by
  obtain ⟨w0, hw0⟩ : ∃ w0, w0 = W.alloc (.cells #[.int .i64 a, .int .u64 b] 47) := ⟨_, rfl⟩
  have hb0 : Below W.heap.size W w0 := by rw [hw0]; exact alloc_back _
  have q0 : w0.heap[W.heap.size]? = some (.cells #[.int .i64 a, .int .u64 b] 47 (0, 0)) := by rw [hw0]; exact heap_alloc_new _ _
  have c0 : w0.cell? ⟨W.heap.size, 0, none⟩ = some (.int .i64 a) := by simp [World.cell?, q0]
  have c1 : w0.cell? ⟨W.heap.size, 1, none⟩ = some (.int .u64 b) := by simp [World.cell?, q0]
  have hr := wf_u64 h2
  have HW := Lib.hid hw0
  have HB := Lib.hid hb0
  have hm : 0 ≤ a % 18446744073709551616 ∧ a % 18446744073709551616 < 18446744073709551616 := by omega
  clear hw0 hb0 q0
  go_enter Try.func41, Try.ntmps41
  go_wp2_with fail
  rw [← HW.out]
  refine start_ (n := 8) (S := fun w' => w'.cell? ⟨W.heap.size, 0, none⟩ = some (.int .i64 a) ∧ w'.cell? ⟨W.heap.size, 1, none⟩ = some (.int .u64 b)) (ds := []) #[false, false, false, false, false, false, false, false] (by kernel_rfl) rfl rfl (⟨c0, c1⟩) (fun hHeld => ?_)
  refine pure_ (i := 0) (N := some 3) (v := ?_) (a' := ?_) #[true, false, false, false, false, false, false, false] rfl rfl (by kernel_rfl) (fun _ _ _ h => h) (Or.inl ⟨by rfl, ?_⟩) ?_ ?_
  rotate_left
  · intro w'
    go_simp
    (try with_reducible rfl)
  rotate_left
  · simp only [Act.put, List.setIfInBounds_toArray, List.set_cons_zero, List.set_cons_succ]
    rfl
  refine take_ (i := 1) (N := some 4) (v := ?_) (a' := ?_) #[true, true, false, false, false, false, false, false] rfl rfl (by kernel_rfl) (fun _ _ _ h => h) (Or.inl ⟨by rfl, ?_⟩) hHeld ?_ ?_
  rotate_left
  · rintro w' ⟨s0, s1⟩
    go_simp
    (try with_reducible rfl)
  rotate_left
  · simp only [Act.put, List.setIfInBounds_toArray, List.set_cons_zero, List.set_cons_succ]
    rfl
  refine pure_ (i := 2) (N := some 5) (v := ?_) (a' := ?_) #[true, true, true, false, false, false, false, false] rfl rfl (by kernel_rfl) (fun _ _ _ h => h) (Or.inl ⟨by rfl, ?_⟩) ?_ ?_
  rotate_left
  · intro w'
    go_simp
    (try with_reducible rfl)
  rotate_left
  · simp only [Act.put, List.setIfInBounds_toArray, List.set_cons_zero, List.set_cons_succ]
    rfl
  refine pure_ (i := 4) (N := some 7) (v := ?_) (a' := ?_) #[true, true, true, false, true, false, false, false] rfl rfl (by kernel_rfl) (fun _ _ _ h => h) (Or.inl ⟨by rfl, ?_⟩) ?_ ?_
  rotate_left
  · intro w'
    go_simp
    (try with_reducible rfl)
  rotate_left
  · simp only [Act.put, List.setIfInBounds_toArray, List.set_cons_zero, List.set_cons_succ]
    rfl
  refine take_ (i := 5) (N := some 8) (v := ?_) (a' := ?_) #[true, true, true, false, true, true, false, false] rfl rfl (by kernel_rfl) (fun _ _ _ h => h) (Or.inl ⟨by rfl, ?_⟩) hHeld ?_ ?_
  rotate_left
  · rintro w' ⟨s0, s1⟩
    go_simp
    (try with_reducible rfl)
  rotate_left
  · simp only [Act.put, List.setIfInBounds_toArray, List.set_cons_zero, List.set_cons_succ]
    rfl
  refine one_ (i := 3) (N := some 6) #[true, true, true, true, true, true, false, false] rfl rfl (by kernel_rfl) (by decide) (fun K hK => ?_)
  go_simp
  refine (rw64_walk none [] 0 0 (a % 18446744073709551616) _ (reads_nil _ _) (by decide) hm).mono ?_
  rintro e w1 ⟨A1, k1, rfl, ho1, hb1⟩
  have HO1 := Lib.hid ho1
  have hq1 : Below w0.heap.size w0 w1 := below_then (pw_below_drewN (Below.refl _ _) _) (Nat.le_refl _) hb1
  clear ho1
  try go_wp2_with fail
  refine hK.out _ _ ?_ (fun hHeld2 => ?_)
  · (try dsimp only)
    exact ⟨pw_cell_below hq1 c0, pw_cell_below hq1 c1⟩
  clear hHeld hK K
  have hHeld := hHeld2
  clear hHeld2
  try simp only [Act.put, List.setIfInBounds_toArray, List.set_cons_zero, List.set_cons_succ]
  refine one_ (i := 6) (N := some 9) #[true, true, true, true, true, true, true, false] rfl rfl (by kernel_rfl) (by decide) (fun K hK => ?_)
  go_simp
  refine (rw64_walk A1 (n8 a) 8 k1 b _ (own_info HO1.out).2.2.2.1 (by decide) hr).mono ?_
  rintro e w2 ⟨A2, k2, rfl, ho2, hb2⟩
  have HO2 := Lib.hid ho2
  have hq2 : Below w0.heap.size w0 w2 := below_then hq1 hq1.size hb2
  clear ho2
  try go_wp2_with fail
  refine hK.out _ _ ?_ (fun hHeld2 => ?_)
  · (try dsimp only)
    exact ⟨pw_cell_below hq2 c0, pw_cell_below hq2 c1⟩
  clear hHeld hK K
  have hHeld := hHeld2
  clear hHeld2
  try simp only [Act.put, List.setIfInBounds_toArray, List.set_cons_zero, List.set_cons_succ]
  refine pure_ (i := 7) (N := some 2) (v := ?_) (a' := ?_) #[true, true, true, true, true, true, true, true] rfl rfl (by kernel_rfl) (fun _ _ _ h => h) (Or.inl ⟨by rfl, ?_⟩) ?_ ?_
  rotate_left
  · intro w'
    go_simp
    (try with_reducible rfl)
  rotate_left
  · simp only [Act.put, List.setIfInBounds_toArray, List.set_cons_zero, List.set_cons_succ]
    rfl
  refine wpAnyLast_done (by kernel_rfl) ?_ _
  go_wp2_with fail
  go_ret
  have b1 := below_then HB.out HB.out.size hq1
  refine ⟨A2, k2, rfl, own_base_le HO2.out b1.size, below_then HB.out HB.out.size hq2⟩
end Go.Proofs.Ytbjjfgfepbklnaa
