/- The walk of MsgBack (printed by a program of mine, mkmsgback.py). -/
import Derived.Test.YtbjjfgfepbklnaaMsgR
import Derived.Test.YtbjjfgfepbklnaaWLast
set_option linter.unusedVariables false
set_option linter.unusedSimpArgs false
namespace Go.Proofs.Ytbjjfgfepbklnaa
open Go.RowKit Go.Proofs.YtbjjfgfepbklnaaW.PrintWords Go.Proofs.YtbjjfgfepbklnaaW.PrintLast Go.Proofs.Ytbjjfgfepbklnaa.K

set_option maxRecDepth 100000 in
set_option maxHeartbeats 8000000 in
theorem back_walk (W : World) (v : Value) (o : ∃ x A n c B m d, v = .agg (msC x.k x.f x.t x.v x.s (.slice A n c) (.slice B m d)) ∧ MsArg W x A n c B m d) (v' : Value) (o' : ∃ x A n c B m d, v' = .agg (msC x.k x.f x.t x.v x.s (.slice A n c) (.slice B m d)) ∧ MsArg W x A n c B m d) :
    Calls Try.prog 5 #[v, v'] W fun e w' => e = .returned (.bool true) ∧ Below W.heap.size W w' := by
  obtain ⟨x, A, n, c, B, m, d, rfl, hx⟩ := o
  obtain ⟨y, A', n', c', B', m', d', rfl, hy⟩ := o'
  have HX := Lib.hid hx; have HY := Lib.hid hy
  clear hx hy
  obtain ⟨W0, hW0⟩ : ∃ W0, W0 = (W.alloc (.cells (msC x.k x.f x.t x.v x.s (.slice A n c) (.slice B m d)) 27)).alloc (.cells (msC y.k y.f y.t y.v y.s (.slice A' n' c') (.slice B' m' d')) 27) := ⟨_, rfl⟩
  have hb0 : Below W.heap.size W W0 := by rw [hW0]; exact alloc_back2 _ _
  have q0 : W0.heap[W.heap.size]? = some (.cells (msC x.k x.f x.t x.v x.s (.slice A n c) (.slice B m d)) 27 (0, 0)) := by rw [hW0]; exact two_old _ _ _
  have p0 : W0.heap[W.heap.size + 1]? = some (.cells (msC y.k y.f y.t y.v y.s (.slice A' n' c') (.slice B' m' d')) 27 (0, 0)) := by rw [hW0]; exact two_new _ _ _
  have B0 := Lib.hid hb0; have Q0 := Lib.hid q0; have P0 := Lib.hid p0; have HW0 := Lib.hid hW0
  obtain ⟨x0, x1, x2, x3, x4, x5, x6⟩ := msC_cells q0
  obtain ⟨y0, y1, y2, y3, y4, y5, y6⟩ := msC_cells p0
  clear hb0 q0 p0 hW0
  go_enter Try.func5, Try.ntmps5
  go_wp2_with fail
  rw [← HW0.out]
  refine (awake_walk W0).mono ?_
  rintro e w1 ⟨rfl, hb1⟩
  have B1 := Lib.hid (below_then B0.out B0.out.size hb1); have Q1 := Lib.hid (heap_keep' hb1 Q0.out); have P1 := Lib.hid (heap_keep' hb1 P0.out)
  clear x0 x1 x2 x3 x4 x5 x6 y0 y1 y2 y3 y4 y5 y6 hb1
  obtain ⟨x0, x1, x2, x3, x4, x5, x6⟩ := msC_cells Q1.out
  obtain ⟨y0, y1, y2, y3, y4, y5, y6⟩ := msC_cells P1.out
  go_wp2_with fail
  refine (heavy_walk x.k x.f x.t x.v x.s A B n c m d w1).mono ?_
  rintro e w2 ⟨rfl, hb2⟩
  have B2 := Lib.hid (below_then B1.out B1.out.size hb2); have Q2 := Lib.hid (heap_keep' hb2 Q1.out); have P2 := Lib.hid (heap_keep' hb2 P1.out)
  clear x0 x1 x2 x3 x4 x5 x6 y0 y1 y2 y3 y4 y5 y6 hb2
  obtain ⟨x0, x1, x2, x3, x4, x5, x6⟩ := msC_cells Q2.out
  obtain ⟨y0, y1, y2, y3, y4, y5, y6⟩ := msC_cells P2.out
  by_cases h1 : n ≤ 520 ∧ m ≤ 520
  · rw [show heavyB n m = false by unfold heavyB; rw [decide_eq_false (by omega), decide_eq_false (by omega)]; rfl]
    go_wp2_with fail
    refine (heavy_walk y.k y.f y.t y.v y.s A' B' n' c' m' d' w2).mono ?_
    rintro e w3 ⟨rfl, hb3⟩
    have B3 := Lib.hid (below_then B2.out B2.out.size hb3); have Q3 := Lib.hid (heap_keep' hb3 Q2.out); have P3 := Lib.hid (heap_keep' hb3 P2.out)
    clear x0 x1 x2 x3 x4 x5 x6 y0 y1 y2 y3 y4 y5 y6 hb3
    obtain ⟨x0, x1, x2, x3, x4, x5, x6⟩ := msC_cells Q3.out
    obtain ⟨y0, y1, y2, y3, y4, y5, y6⟩ := msC_cells P3.out
    by_cases h2 : n' ≤ 520 ∧ m' ≤ 520
    · rw [show heavyB n' m' = false by unfold heavyB; rw [decide_eq_false (by omega), decide_eq_false (by omega)]; rfl]
      go_wp2_with fail
      refine (mgood_walk x.k x.f x.t x.v x.s A B n c m d (by omega) (by omega) w3).mono ?_
      rintro e w4 ⟨rfl, hb4⟩
      have B4 := Lib.hid (below_then B3.out B3.out.size hb4); have Q4 := Lib.hid (heap_keep' hb4 Q3.out); have P4 := Lib.hid (heap_keep' hb4 P3.out)
      clear x0 x1 x2 x3 x4 x5 x6 y0 y1 y2 y3 y4 y5 y6 hb4
      obtain ⟨x0, x1, x2, x3, x4, x5, x6⟩ := msC_cells Q4.out
      obtain ⟨y0, y1, y2, y3, y4, y5, y6⟩ := msC_cells P4.out
      by_cases hg : x.good
      · rw [show msB x.k x.f x.t n m = true by rw [← HX.out.rd.1, ← HX.out.wd.1]; exact (msB_iff x).2 hg]
        have HG := Lib.hid hg
        clear hg
        go_wp2_with fail
        refine (mgood_walk y.k y.f y.t y.v y.s A' B' n' c' m' d' (by omega) (by omega) w4).mono ?_
        rintro e w5 ⟨rfl, hb5⟩
        have B5 := Lib.hid (below_then B4.out B4.out.size hb5); have Q5 := Lib.hid (heap_keep' hb5 Q4.out); have P5 := Lib.hid (heap_keep' hb5 P4.out)
        clear x0 x1 x2 x3 x4 x5 x6 y0 y1 y2 y3 y4 y5 y6 hb5
        obtain ⟨x0, x1, x2, x3, x4, x5, x6⟩ := msC_cells Q5.out
        obtain ⟨y0, y1, y2, y3, y4, y5, y6⟩ := msC_cells P5.out
        by_cases hg' : y.good
        · rw [show msB y.k y.f y.t n' m' = true by rw [← HY.out.rd.1, ← HY.out.wd.1]; exact (msB_iff y).2 hg']
          have HG' := Lib.hid hg'
          clear hg' h1 h2
          go_wp2_with fail
          refine start_ (n := 6) (S := fun w' => w'.cell? ⟨W.heap.size, 0, none⟩ = some (.int .i64 x.k) ∧ w'.cell? ⟨W.heap.size, 1, none⟩ = some (.int .i64 x.f) ∧ w'.cell? ⟨W.heap.size, 2, none⟩ = some (.int .i64 x.t) ∧ w'.cell? ⟨W.heap.size, 3, none⟩ = some (.int .u32 x.v) ∧ w'.cell? ⟨W.heap.size, 4, none⟩ = some (.int .u32 x.s) ∧ w'.cell? ⟨W.heap.size, 5, none⟩ = some (.slice A n c) ∧ w'.cell? ⟨W.heap.size, 6, none⟩ = some (.slice B m d) ∧ w'.cell? ⟨W.heap.size + 1, 0, none⟩ = some (.int .i64 y.k) ∧ w'.cell? ⟨W.heap.size + 1, 1, none⟩ = some (.int .i64 y.f) ∧ w'.cell? ⟨W.heap.size + 1, 2, none⟩ = some (.int .i64 y.t) ∧ w'.cell? ⟨W.heap.size + 1, 3, none⟩ = some (.int .u32 y.v) ∧ w'.cell? ⟨W.heap.size + 1, 4, none⟩ = some (.int .u32 y.s) ∧ w'.cell? ⟨W.heap.size + 1, 5, none⟩ = some (.slice A' n' c') ∧ w'.cell? ⟨W.heap.size + 1, 6, none⟩ = some (.slice B' m' d')) (ds := []) #[false, false, false, false, false, false] (by kernel_rfl) rfl rfl (⟨x0, x1, x2, x3, x4, x5, x6, y0, y1, y2, y3, y4, y5, y6⟩) (fun hHeld => ?_)
          refine take_ (i := 0) (N := some 27) (v := ?_) (a' := ?_) #[true, false, false, false, false, false] rfl rfl (by kernel_rfl) (fun _ _ _ h => h) (Or.inl ⟨by rfl, ?_⟩) hHeld ?_ ?_
          rotate_left
          · rintro w' ⟨s0, s1, s2, s3, s4, s5, s6, s7, s8, s9, s10, s11, s12, s13⟩
            go_simp
            (try with_reducible rfl)
          rotate_left
          · simp only [Act.put, List.setIfInBounds_toArray, List.set_cons_zero, List.set_cons_succ]
            rfl
          refine take_ (i := 2) (N := some 29) (v := ?_) (a' := ?_) #[true, false, true, false, false, false] rfl rfl (by kernel_rfl) (fun _ _ _ h => h) (Or.inl ⟨by rfl, ?_⟩) hHeld ?_ ?_
          rotate_left
          · rintro w' ⟨s0, s1, s2, s3, s4, s5, s6, s7, s8, s9, s10, s11, s12, s13⟩
            go_simp
            (try with_reducible rfl)
          rotate_left
          · simp only [Act.put, List.setIfInBounds_toArray, List.set_cons_zero, List.set_cons_succ]
            rfl
          refine one_ (i := 1) (N := some 28) #[true, true, true, false, false, false] rfl rfl (by kernel_rfl) (by decide) (fun K hK => ?_)
          go_simp
          refine (mput_walk x HG.out HX.out.wf A B n c m d _ (HX.out.rd.below (pw_below_drewN B5.out _)) (HX.out.wd.below (pw_below_drewN B5.out _))).mono ?_
          rintro e w6 ⟨A6, c6, rfl, ho6, hb6⟩
          have hq : Below w5.heap.size w5 w6 := below_then (pw_below_drewN (Below.refl _ _) _) (Nat.le_refl _) hb6
          have HQ6 := Lib.hid hq
          have R6 := Lib.hid (own_info ho6).2.2.2.1
          clear ho6 hb6
          try go_wp2_with fail
          refine hK.out _ _ ?_ (fun hHeld2 => ?_)
          · (try dsimp only)
            exact ⟨pw_cell_below hq x0, pw_cell_below hq x1, pw_cell_below hq x2, pw_cell_below hq x3, pw_cell_below hq x4, pw_cell_below hq x5, pw_cell_below hq x6, pw_cell_below hq y0, pw_cell_below hq y1, pw_cell_below hq y2, pw_cell_below hq y3, pw_cell_below hq y4, pw_cell_below hq y5, pw_cell_below hq y6⟩
          clear hHeld hK K
          have hHeld := hHeld2
          clear hHeld2
          try simp only [Act.put, List.setIfInBounds_toArray, List.set_cons_zero, List.set_cons_succ]
          refine one_ (i := 3) (N := some 30) #[true, true, true, true, false, false] rfl rfl (by kernel_rfl) (by decide) (fun K hK => ?_)
          go_simp
          refine (mput_walk y HG'.out HY.out.wf A' B' n' c' m' d' _ (HY.out.rd.below (below_then B5.out B5.out.size HQ6.out)) (HY.out.wd.below (below_then B5.out B5.out.size HQ6.out))).mono ?_
          rintro e w7 ⟨A7, c7, rfl, ho7, hb7⟩
          have hq7 : Below w5.heap.size w5 w7 := below_then HQ6.out HQ6.out.size hb7
          have R7 := Lib.hid (own_info ho7).2.2.2.1
          have R6' := Lib.hid (R6.out.below hb7)
          have HQ7 := Lib.hid hq7
          clear ho7 hb7
          try go_wp2_with fail
          refine hK.out _ _ ?_ (fun hHeld2 => ?_)
          · (try dsimp only)
            exact ⟨pw_cell_below hq7 x0, pw_cell_below hq7 x1, pw_cell_below hq7 x2, pw_cell_below hq7 x3, pw_cell_below hq7 x4, pw_cell_below hq7 x5, pw_cell_below hq7 x6, pw_cell_below hq7 y0, pw_cell_below hq7 y1, pw_cell_below hq7 y2, pw_cell_below hq7 y3, pw_cell_below hq7 y4, pw_cell_below hq7 y5, pw_cell_below hq7 y6⟩
          clear hHeld hK K
          have hHeld := hHeld2
          clear hHeld2
          try simp only [Act.put, List.setIfInBounds_toArray, List.set_cons_zero, List.set_cons_succ]
          refine pure_ (i := 4) (N := some 5) (v := ?_) (a' := ?_) #[true, true, true, true, true, false] rfl rfl (by kernel_rfl) (fun _ _ _ h => h) (Or.inl ⟨by rfl, ?_⟩) ?_ ?_
          rotate_left
          · intro w'
            go_simp
            (try with_reducible rfl)
          rotate_left
          · simp only [Act.put, List.setIfInBounds_toArray, List.set_cons_zero, List.set_cons_succ]
            rfl
          refine pure_ (i := 5) (N := some 6) (v := ?_) (a' := ?_) #[true, true, true, true, true, true] rfl rfl (by kernel_rfl) (fun _ _ _ h => h) (Or.inl ⟨by rfl, ?_⟩) ?_ ?_
          rotate_left
          · intro w'
            go_simp
            (try with_reducible rfl)
          rotate_left
          · simp only [Act.put, List.setIfInBounds_toArray, List.set_cons_zero, List.set_cons_succ]
            rfl
          refine wpAnyLast_done (by kernel_rfl) ?_ _
          go_wp2_with fail
          refine (mget_back x HG.out HX.out.wf A6 (23 + 8 * n + 16 * m) c6 w7 R6'.out).mono ?_
          rintro e w8 ⟨A8, n8, c8, B8, m8, d8, rfl, hr8, hw8, hb8⟩
          have B8' := Lib.hid (below_then B5.out B5.out.size HQ7.out)
          obtain ⟨w9, hw9⟩ : ∃ w9, w9 = w8.alloc (.cells (msC x.k x.f x.t x.v x.s (.slice A8 n8 c8) (.slice B8 m8 d8)) 27) := ⟨_, rfl⟩
          have hb9 : Below w8.heap.size w8 w9 := by rw [hw9]; exact alloc_back _
          have q9 : w9.heap[w8.heap.size]? = some (.cells (msC x.k x.f x.t x.v x.s (.slice A8 n8 c8) (.slice B8 m8 d8)) 27 (0, 0)) := by rw [hw9]; exact heap_alloc_new _ _
          have hb79 : Below w7.heap.size w7 w9 := below_then hb8 hb8.size hb9
          have BZ := Lib.hid (below_then B8'.out B8'.out.size hb79)
          have R8 := Lib.hid (hr8.below hb9); have W8 := Lib.hid (hw8.below hb9)
          have hb59 : Below w5.heap.size w5 w9 := below_then HQ7.out HQ7.out.size hb79
          have QX := Lib.hid (heap_keep' hb59 Q5.out); have QY := Lib.hid (heap_keep' hb59 P5.out)
          have r6 := R6'.out.below hb79; have r7 := R7.out.below hb79
          clear x0 x1 x2 x3 x4 x5 x6 y0 y1 y2 y3 y4 y5 y6
          obtain ⟨x0, x1, x2, x3, x4, x5, x6⟩ := msC_cells QX.out
          obtain ⟨y0, y1, y2, y3, y4, y5, y6⟩ := msC_cells QY.out
          obtain ⟨z0, z1, z2, z3, z4, z5, z6⟩ := msC_cells q9
          obtain ⟨S6, hS6⟩ : ∃ S : ByteArray, S = strOfNums (menc x) := ⟨_, rfl⟩
          obtain ⟨S7, hS7⟩ : ∃ S : ByteArray, S = strOfNums (menc y) := ⟨_, rfl⟩
          have KS6 := Lib.hid (fun w hb => by rw [hS6]; exact str_of (r6.below hb) : ∀ w, Below w9.heap.size w9 w → (convert 31 9 (.slice A6 (23 + 8 * n + 16 * m) c6)).run Try.prog w = .ok (.string S6) w)
          have KS7 := Lib.hid (fun w hb => by rw [hS7]; exact str_of (r7.below hb) : ∀ w, Below w9.heap.size w9 w → (convert 31 9 (.slice A7 (23 + 8 * n' + 16 * m') c7)).run Try.prog w = .ok (.string S7) w)
          have HST := Lib.hid (show (S6.toList == S7.toList) = decide (menc x = menc y) by rw [hS6, hS7]; exact strOf_eqb (menc_wf HG.out HX.out.wf) (menc_wf HG'.out HY.out.wf))
          clear hS6 hS7 hb8 hb9 hb79 hb59 q9 hr8 hw8 r6 r7
          by_cases hxy : x = y
          · have HEQ := Lib.hid (show x.eqb y = true from (Ms.eqb_iff x y).2 hxy)
            have hss : (S6.toList == S7.toList) = true := by rw [HST.out, hxy]; simp
            clear hxy
            go_wp2_with fail
            rw [← hw9]
            clear hw9
            refine start_ (n := 19) (S := fun w' => w'.cell? ⟨w8.heap.size, 0, none⟩ = some (.int .i64 x.k) ∧ w'.cell? ⟨w8.heap.size, 1, none⟩ = some (.int .i64 x.f) ∧ w'.cell? ⟨w8.heap.size, 2, none⟩ = some (.int .i64 x.t) ∧ w'.cell? ⟨w8.heap.size, 3, none⟩ = some (.int .u32 x.v) ∧ w'.cell? ⟨w8.heap.size, 4, none⟩ = some (.int .u32 x.s) ∧ w'.cell? ⟨w8.heap.size, 5, none⟩ = some (.slice A8 n8 c8) ∧ w'.cell? ⟨w8.heap.size, 6, none⟩ = some (.slice B8 m8 d8) ∧ w'.cell? ⟨W.heap.size, 0, none⟩ = some (.int .i64 x.k) ∧ w'.cell? ⟨W.heap.size, 1, none⟩ = some (.int .i64 x.f) ∧ w'.cell? ⟨W.heap.size, 2, none⟩ = some (.int .i64 x.t) ∧ w'.cell? ⟨W.heap.size, 3, none⟩ = some (.int .u32 x.v) ∧ w'.cell? ⟨W.heap.size, 4, none⟩ = some (.int .u32 x.s) ∧ w'.cell? ⟨W.heap.size, 5, none⟩ = some (.slice A n c) ∧ w'.cell? ⟨W.heap.size, 6, none⟩ = some (.slice B m d) ∧ w'.cell? ⟨W.heap.size + 1, 0, none⟩ = some (.int .i64 y.k) ∧ w'.cell? ⟨W.heap.size + 1, 1, none⟩ = some (.int .i64 y.f) ∧ w'.cell? ⟨W.heap.size + 1, 2, none⟩ = some (.int .i64 y.t) ∧ w'.cell? ⟨W.heap.size + 1, 3, none⟩ = some (.int .u32 y.v) ∧ w'.cell? ⟨W.heap.size + 1, 4, none⟩ = some (.int .u32 y.s) ∧ w'.cell? ⟨W.heap.size + 1, 5, none⟩ = some (.slice A' n' c') ∧ w'.cell? ⟨W.heap.size + 1, 6, none⟩ = some (.slice B' m' d') ∧ (convert 31 9 (.slice A6 (23 + 8 * n + 16 * m) c6)).run Try.prog w' = .ok (.string S6) w' ∧ (convert 31 9 (.slice A7 (23 + 8 * n' + 16 * m') c7)).run Try.prog w' = .ok (.string S7) w') (ds := []) #[false, false, false, false, false, false, false, false, false, false, false, false, false, false, false, false, false, false, false] (by kernel_rfl) rfl rfl (⟨z0, z1, z2, z3, z4, z5, z6, x0, x1, x2, x3, x4, x5, x6, y0, y1, y2, y3, y4, y5, y6, KS6.out _ (below_drew (Below.refl _ _)), KS7.out _ (below_drew (Below.refl _ _))⟩) (fun hHeld => ?_)
            refine pure_ (i := 0) (N := some 36) (v := ?_) (a' := ?_) #[true, false, false, false, false, false, false, false, false, false, false, false, false, false, false, false, false, false, false] rfl rfl (by kernel_rfl) (fun _ _ _ h => h) (Or.inl ⟨by rfl, ?_⟩) ?_ ?_
            rotate_left
            · intro w'
              go_simp
              (try with_reducible rfl)
            rotate_left
            · simp only [Act.put, List.setIfInBounds_toArray, List.set_cons_zero, List.set_cons_succ]
              rfl
            refine pure_ (i := 1) (N := some 37) (v := ?_) (a' := ?_) #[true, true, false, false, false, false, false, false, false, false, false, false, false, false, false, false, false, false, false] rfl rfl (by kernel_rfl) (fun _ _ _ h => h) (Or.inl ⟨by rfl, ?_⟩) ?_ ?_
            rotate_left
            · intro w'
              go_simp
              (try with_reducible rfl)
            rotate_left
            · simp only [Act.put, List.setIfInBounds_toArray, List.set_cons_zero, List.set_cons_succ]
              rfl
            refine pure_ (i := 2) (N := some 38) (v := ?_) (a' := ?_) #[true, true, true, false, false, false, false, false, false, false, false, false, false, false, false, false, false, false, false] rfl rfl (by kernel_rfl) (fun _ _ _ h => h) (Or.inl ⟨by rfl, ?_⟩) ?_ ?_
            rotate_left
            · intro w'
              go_simp
              (try with_reducible rfl)
            rotate_left
            · simp only [Act.put, List.setIfInBounds_toArray, List.set_cons_zero, List.set_cons_succ]
              rfl
            refine take_ (i := 3) (N := some 39) (v := ?_) (a' := ?_) #[true, true, true, true, false, false, false, false, false, false, false, false, false, false, false, false, false, false, false] rfl rfl (by kernel_rfl) (fun _ _ _ h => h) (Or.inl ⟨by rfl, ?_⟩) hHeld ?_ ?_
            rotate_left
            · rintro w' ⟨s0, s1, s2, s3, s4, s5, s6, s7, s8, s9, s10, s11, s12, s13, s14, s15, s16, s17, s18, s19, s20, s21, s22⟩
              go_simp
              (try with_reducible rfl)
            rotate_left
            · simp only [Act.put, List.setIfInBounds_toArray, List.set_cons_zero, List.set_cons_succ]
              rfl
            refine take_ (i := 4) (N := some 40) (v := ?_) (a' := ?_) #[true, true, true, true, true, false, false, false, false, false, false, false, false, false, false, false, false, false, false] rfl rfl (by kernel_rfl) (fun _ _ _ h => h) (Or.inl ⟨by rfl, ?_⟩) hHeld ?_ ?_
            rotate_left
            · rintro w' ⟨s0, s1, s2, s3, s4, s5, s6, s7, s8, s9, s10, s11, s12, s13, s14, s15, s16, s17, s18, s19, s20, s21, s22⟩
              go_simp
              (try with_reducible rfl)
            rotate_left
            · simp only [Act.put, List.setIfInBounds_toArray, List.set_cons_zero, List.set_cons_succ]
              rfl
            refine one_ (i := 5) (N := some 41) #[true, true, true, true, true, true, false, false, false, false, false, false, false, false, false, false, false, false, false] rfl rfl (by kernel_rfl) (by decide) (fun K hK => ?_)
            go_simp
            refine (same_walk x x _ _ _ _ _ _ _ _ _ _ _ _ _ (R8.out.below (pw_below_drewN (Below.refl _ _) _)) (HX.out.rd.below (pw_below_drewN BZ.out _)) (W8.out.below (pw_below_drewN (Below.refl _ _) _)) (HX.out.wd.below (pw_below_drewN BZ.out _))).mono ?_
            rintro e w10 ⟨rfl, hb10⟩
            rw [(Ms.eqb_iff x x).2 rfl]
            have hq : Below w9.heap.size w9 w10 := below_then (pw_below_drewN (Below.refl _ _) _) (Nat.le_refl _) hb10
            have HQ10 := Lib.hid hq
            clear hb10
            try go_wp2_with fail
            refine hK.out _ _ ?_ (fun hHeld2 => ?_)
            · (try dsimp only)
              exact ⟨pw_cell_below hq z0, pw_cell_below hq z1, pw_cell_below hq z2, pw_cell_below hq z3, pw_cell_below hq z4, pw_cell_below hq z5, pw_cell_below hq z6, pw_cell_below hq x0, pw_cell_below hq x1, pw_cell_below hq x2, pw_cell_below hq x3, pw_cell_below hq x4, pw_cell_below hq x5, pw_cell_below hq x6, pw_cell_below hq y0, pw_cell_below hq y1, pw_cell_below hq y2, pw_cell_below hq y3, pw_cell_below hq y4, pw_cell_below hq y5, pw_cell_below hq y6, KS6.out _ hq, KS7.out _ hq⟩
            clear hHeld hK K
            have hHeld := hHeld2
            clear hHeld2
            try simp only [Act.put, List.setIfInBounds_toArray, List.set_cons_zero, List.set_cons_succ]
            refine pure_ (i := 6) (N := some 42) (v := ?_) (a' := ?_) #[true, true, true, true, true, true, true, false, false, false, false, false, false, false, false, false, false, false, false] rfl rfl (by kernel_rfl) (fun _ _ _ h => h) (Or.inl ⟨by rfl, ?_⟩) ?_ ?_
            rotate_left
            · intro w'
              go_simp
              (try with_reducible rfl)
            rotate_left
            · simp only [Act.put, List.setIfInBounds_toArray, List.set_cons_zero, List.set_cons_succ]
              rfl
            refine pure_ (i := 7) (N := some 43) (v := ?_) (a' := ?_) #[true, true, true, true, true, true, true, true, false, false, false, false, false, false, false, false, false, false, false] rfl rfl (by kernel_rfl) (fun _ _ _ h => h) (Or.inl ⟨by rfl, ?_⟩) ?_ ?_
            rotate_left
            · intro w'
              go_simp
              (try with_reducible rfl)
            rotate_left
            · simp only [Act.put, List.setIfInBounds_toArray, List.set_cons_zero, List.set_cons_succ]
              rfl
            refine pure_ (i := 8) (N := some 44) (v := ?_) (a' := ?_) #[true, true, true, true, true, true, true, true, true, false, false, false, false, false, false, false, false, false, false] rfl rfl (by kernel_rfl) (fun _ _ _ h => h) (Or.inl ⟨by rfl, ?_⟩) ?_ ?_
            rotate_left
            · intro w'
              go_simp
              (try with_reducible rfl)
            rotate_left
            · simp only [Act.put, List.setIfInBounds_toArray, List.set_cons_zero, List.set_cons_succ]
              rfl
            refine take_ (i := 9) (N := some 45) (v := ?_) (a' := ?_) #[true, true, true, true, true, true, true, true, true, true, false, false, false, false, false, false, false, false, false] rfl rfl (by kernel_rfl) (fun _ _ _ h => h) (Or.inl ⟨by rfl, ?_⟩) hHeld ?_ ?_
            rotate_left
            · rintro w' ⟨s0, s1, s2, s3, s4, s5, s6, s7, s8, s9, s10, s11, s12, s13, s14, s15, s16, s17, s18, s19, s20, s21, s22⟩
              go_simp
              (try with_reducible rfl)
            rotate_left
            · simp only [Act.put, List.setIfInBounds_toArray, List.set_cons_zero, List.set_cons_succ]
              rfl
            refine pure_ (i := 10) (N := some 46) (v := ?_) (a' := ?_) #[true, true, true, true, true, true, true, true, true, true, true, false, false, false, false, false, false, false, false] rfl rfl (by kernel_rfl) (fun _ _ _ h => h) (Or.inl ⟨by rfl, ?_⟩) ?_ ?_
            rotate_left
            · intro w'
              go_simp
              (try with_reducible rfl)
            rotate_left
            · simp only [Act.put, List.setIfInBounds_toArray, List.set_cons_zero, List.set_cons_succ]
              rfl
            refine take_ (i := 11) (N := some 47) (v := ?_) (a' := ?_) #[true, true, true, true, true, true, true, true, true, true, true, true, false, false, false, false, false, false, false] rfl rfl (by kernel_rfl) (fun _ _ _ h => h) (Or.inl ⟨by rfl, ?_⟩) hHeld ?_ ?_
            rotate_left
            · rintro w' ⟨s0, s1, s2, s3, s4, s5, s6, s7, s8, s9, s10, s11, s12, s13, s14, s15, s16, s17, s18, s19, s20, s21, s22⟩
              go_simp
              (try with_reducible rfl)
            rotate_left
            · simp only [Act.put, List.setIfInBounds_toArray, List.set_cons_zero, List.set_cons_succ]
              rfl
            refine pure_ (i := 12) (N := some 48) (v := ?_) (a' := ?_) #[true, true, true, true, true, true, true, true, true, true, true, true, true, false, false, false, false, false, false] rfl rfl (by kernel_rfl) (fun _ _ _ h => h) (Or.inl ⟨by rfl, ?_⟩) ?_ ?_
            rotate_left
            · intro w'
              go_simp
              (try with_reducible rfl)
            rotate_left
            · simp only [Act.put, List.setIfInBounds_toArray, List.set_cons_zero, List.set_cons_succ]
              rfl
            refine take_ (i := 13) (N := some 49) (v := ?_) (a' := ?_) #[true, true, true, true, true, true, true, true, true, true, true, true, true, true, false, false, false, false, false] rfl rfl (by kernel_rfl) (fun _ _ _ h => h) (Or.inl ⟨by rfl, ?_⟩) hHeld ?_ ?_
            rotate_left
            · rintro w' ⟨s0, s1, s2, s3, s4, s5, s6, s7, s8, s9, s10, s11, s12, s13, s14, s15, s16, s17, s18, s19, s20, s21, s22⟩
              go_simp
              (try with_reducible rfl)
            rotate_left
            · simp only [Act.put, List.setIfInBounds_toArray, List.set_cons_zero, List.set_cons_succ]
              rfl
            refine take_ (i := 14) (N := some 50) (v := ?_) (a' := ?_) #[true, true, true, true, true, true, true, true, true, true, true, true, true, true, true, false, false, false, false] rfl rfl (by kernel_rfl) (fun _ _ _ h => h) (Or.inl ⟨by rfl, ?_⟩) hHeld ?_ ?_
            rotate_left
            · rintro w' ⟨s0, s1, s2, s3, s4, s5, s6, s7, s8, s9, s10, s11, s12, s13, s14, s15, s16, s17, s18, s19, s20, s21, s22⟩
              go_simp
              (try with_reducible rfl)
            rotate_left
            · simp only [Act.put, List.setIfInBounds_toArray, List.set_cons_zero, List.set_cons_succ]
              rfl
            refine one_ (i := 15) (N := some 51) #[true, true, true, true, true, true, true, true, true, true, true, true, true, true, true, true, false, false, false] rfl rfl (by kernel_rfl) (by decide) (fun K hK => ?_)
            go_simp
            refine (same_walk x y _ _ _ _ _ _ _ _ _ _ _ _ _ (HX.out.rd.below (below_then BZ.out BZ.out.size HQ10.out)) (HY.out.rd.below (below_then BZ.out BZ.out.size HQ10.out)) (HX.out.wd.below (below_then BZ.out BZ.out.size HQ10.out)) (HY.out.wd.below (below_then BZ.out BZ.out.size HQ10.out))).mono ?_
            rintro e w11 ⟨rfl, hb11⟩
            rw [HEQ.out]
            have hq11 : Below w9.heap.size w9 w11 := below_then HQ10.out HQ10.out.size hb11
            have HQ11 := Lib.hid hq11
            clear hb11
            try go_wp2_with fail
            refine hK.out _ _ ?_ (fun hHeld2 => ?_)
            · (try dsimp only)
              exact ⟨pw_cell_below hq11 z0, pw_cell_below hq11 z1, pw_cell_below hq11 z2, pw_cell_below hq11 z3, pw_cell_below hq11 z4, pw_cell_below hq11 z5, pw_cell_below hq11 z6, pw_cell_below hq11 x0, pw_cell_below hq11 x1, pw_cell_below hq11 x2, pw_cell_below hq11 x3, pw_cell_below hq11 x4, pw_cell_below hq11 x5, pw_cell_below hq11 x6, pw_cell_below hq11 y0, pw_cell_below hq11 y1, pw_cell_below hq11 y2, pw_cell_below hq11 y3, pw_cell_below hq11 y4, pw_cell_below hq11 y5, pw_cell_below hq11 y6, KS6.out _ hq11, KS7.out _ hq11⟩
            clear hHeld hK K
            have hHeld := hHeld2
            clear hHeld2
            try simp only [Act.put, List.setIfInBounds_toArray, List.set_cons_zero, List.set_cons_succ]
            refine pure_ (i := 16) (N := some 52) (v := ?_) (a' := ?_) #[true, true, true, true, true, true, true, true, true, true, true, true, true, true, true, true, true, false, false] rfl rfl (by kernel_rfl) (fun _ _ _ h => h) (Or.inl ⟨by rfl, ?_⟩) ?_ ?_
            rotate_left
            · intro w'
              go_simp
              (try with_reducible rfl)
            rotate_left
            · simp only [Act.put, List.setIfInBounds_toArray, List.set_cons_zero, List.set_cons_succ]
              rfl
            refine pure_ (i := 17) (N := some 53) (v := ?_) (a' := ?_) #[true, true, true, true, true, true, true, true, true, true, true, true, true, true, true, true, true, true, false] rfl rfl (by kernel_rfl) (fun _ _ _ h => h) (Or.inl ⟨by rfl, ?_⟩) ?_ ?_
            rotate_left
            · intro w'
              go_simp
              (try with_reducible rfl)
            rotate_left
            · simp only [Act.put, List.setIfInBounds_toArray, List.set_cons_zero, List.set_cons_succ]
              rfl
            refine pure_ (i := 18) (N := some 4) (v := ?_) (a' := ?_) #[true, true, true, true, true, true, true, true, true, true, true, true, true, true, true, true, true, true, true] rfl rfl (by kernel_rfl) (fun _ _ _ h => h) (Or.inl ⟨by rfl, ?_⟩) ?_ ?_
            rotate_left
            · intro w'
              go_simp
              (try with_reducible rfl)
            rotate_left
            · simp only [Act.put, List.setIfInBounds_toArray, List.set_cons_zero, List.set_cons_succ]
              rfl
            refine wpAnyLast_done (by kernel_rfl) ?_ _
            go_wp2_with fail
            go_ret
            exact ⟨by first | rfl | simp, below_then BZ.out BZ.out.size HQ11.out⟩
          · have HEQ := Lib.hid (show x.eqb y = false from Ms.eqb_ne hxy)
            have hss : (S6.toList == S7.toList) = false := by rw [HST.out]; exact decide_eq_false (fun e => hxy (menc_inj HG.out HG'.out HX.out.wf HY.out.wf e))
            clear hxy
            go_wp2_with fail
            rw [← hw9]
            clear hw9
            refine start_ (n := 19) (S := fun w' => w'.cell? ⟨w8.heap.size, 0, none⟩ = some (.int .i64 x.k) ∧ w'.cell? ⟨w8.heap.size, 1, none⟩ = some (.int .i64 x.f) ∧ w'.cell? ⟨w8.heap.size, 2, none⟩ = some (.int .i64 x.t) ∧ w'.cell? ⟨w8.heap.size, 3, none⟩ = some (.int .u32 x.v) ∧ w'.cell? ⟨w8.heap.size, 4, none⟩ = some (.int .u32 x.s) ∧ w'.cell? ⟨w8.heap.size, 5, none⟩ = some (.slice A8 n8 c8) ∧ w'.cell? ⟨w8.heap.size, 6, none⟩ = some (.slice B8 m8 d8) ∧ w'.cell? ⟨W.heap.size, 0, none⟩ = some (.int .i64 x.k) ∧ w'.cell? ⟨W.heap.size, 1, none⟩ = some (.int .i64 x.f) ∧ w'.cell? ⟨W.heap.size, 2, none⟩ = some (.int .i64 x.t) ∧ w'.cell? ⟨W.heap.size, 3, none⟩ = some (.int .u32 x.v) ∧ w'.cell? ⟨W.heap.size, 4, none⟩ = some (.int .u32 x.s) ∧ w'.cell? ⟨W.heap.size, 5, none⟩ = some (.slice A n c) ∧ w'.cell? ⟨W.heap.size, 6, none⟩ = some (.slice B m d) ∧ w'.cell? ⟨W.heap.size + 1, 0, none⟩ = some (.int .i64 y.k) ∧ w'.cell? ⟨W.heap.size + 1, 1, none⟩ = some (.int .i64 y.f) ∧ w'.cell? ⟨W.heap.size + 1, 2, none⟩ = some (.int .i64 y.t) ∧ w'.cell? ⟨W.heap.size + 1, 3, none⟩ = some (.int .u32 y.v) ∧ w'.cell? ⟨W.heap.size + 1, 4, none⟩ = some (.int .u32 y.s) ∧ w'.cell? ⟨W.heap.size + 1, 5, none⟩ = some (.slice A' n' c') ∧ w'.cell? ⟨W.heap.size + 1, 6, none⟩ = some (.slice B' m' d') ∧ (convert 31 9 (.slice A6 (23 + 8 * n + 16 * m) c6)).run Try.prog w' = .ok (.string S6) w' ∧ (convert 31 9 (.slice A7 (23 + 8 * n' + 16 * m') c7)).run Try.prog w' = .ok (.string S7) w') (ds := []) #[false, false, false, false, false, false, false, false, false, false, false, false, false, false, false, false, false, false, false] (by kernel_rfl) rfl rfl (⟨z0, z1, z2, z3, z4, z5, z6, x0, x1, x2, x3, x4, x5, x6, y0, y1, y2, y3, y4, y5, y6, KS6.out _ (below_drew (Below.refl _ _)), KS7.out _ (below_drew (Below.refl _ _))⟩) (fun hHeld => ?_)
            refine pure_ (i := 0) (N := some 36) (v := ?_) (a' := ?_) #[true, false, false, false, false, false, false, false, false, false, false, false, false, false, false, false, false, false, false] rfl rfl (by kernel_rfl) (fun _ _ _ h => h) (Or.inl ⟨by rfl, ?_⟩) ?_ ?_
            rotate_left
            · intro w'
              go_simp
              (try with_reducible rfl)
            rotate_left
            · simp only [Act.put, List.setIfInBounds_toArray, List.set_cons_zero, List.set_cons_succ]
              rfl
            refine pure_ (i := 1) (N := some 37) (v := ?_) (a' := ?_) #[true, true, false, false, false, false, false, false, false, false, false, false, false, false, false, false, false, false, false] rfl rfl (by kernel_rfl) (fun _ _ _ h => h) (Or.inl ⟨by rfl, ?_⟩) ?_ ?_
            rotate_left
            · intro w'
              go_simp
              (try with_reducible rfl)
            rotate_left
            · simp only [Act.put, List.setIfInBounds_toArray, List.set_cons_zero, List.set_cons_succ]
              rfl
            refine pure_ (i := 2) (N := some 38) (v := ?_) (a' := ?_) #[true, true, true, false, false, false, false, false, false, false, false, false, false, false, false, false, false, false, false] rfl rfl (by kernel_rfl) (fun _ _ _ h => h) (Or.inl ⟨by rfl, ?_⟩) ?_ ?_
            rotate_left
            · intro w'
              go_simp
              (try with_reducible rfl)
            rotate_left
            · simp only [Act.put, List.setIfInBounds_toArray, List.set_cons_zero, List.set_cons_succ]
              rfl
            refine take_ (i := 3) (N := some 39) (v := ?_) (a' := ?_) #[true, true, true, true, false, false, false, false, false, false, false, false, false, false, false, false, false, false, false] rfl rfl (by kernel_rfl) (fun _ _ _ h => h) (Or.inl ⟨by rfl, ?_⟩) hHeld ?_ ?_
            rotate_left
            · rintro w' ⟨s0, s1, s2, s3, s4, s5, s6, s7, s8, s9, s10, s11, s12, s13, s14, s15, s16, s17, s18, s19, s20, s21, s22⟩
              go_simp
              (try with_reducible rfl)
            rotate_left
            · simp only [Act.put, List.setIfInBounds_toArray, List.set_cons_zero, List.set_cons_succ]
              rfl
            refine take_ (i := 4) (N := some 40) (v := ?_) (a' := ?_) #[true, true, true, true, true, false, false, false, false, false, false, false, false, false, false, false, false, false, false] rfl rfl (by kernel_rfl) (fun _ _ _ h => h) (Or.inl ⟨by rfl, ?_⟩) hHeld ?_ ?_
            rotate_left
            · rintro w' ⟨s0, s1, s2, s3, s4, s5, s6, s7, s8, s9, s10, s11, s12, s13, s14, s15, s16, s17, s18, s19, s20, s21, s22⟩
              go_simp
              (try with_reducible rfl)
            rotate_left
            · simp only [Act.put, List.setIfInBounds_toArray, List.set_cons_zero, List.set_cons_succ]
              rfl
            refine one_ (i := 5) (N := some 41) #[true, true, true, true, true, true, false, false, false, false, false, false, false, false, false, false, false, false, false] rfl rfl (by kernel_rfl) (by decide) (fun K hK => ?_)
            go_simp
            refine (same_walk x x _ _ _ _ _ _ _ _ _ _ _ _ _ (R8.out.below (pw_below_drewN (Below.refl _ _) _)) (HX.out.rd.below (pw_below_drewN BZ.out _)) (W8.out.below (pw_below_drewN (Below.refl _ _) _)) (HX.out.wd.below (pw_below_drewN BZ.out _))).mono ?_
            rintro e w10 ⟨rfl, hb10⟩
            rw [(Ms.eqb_iff x x).2 rfl]
            have hq : Below w9.heap.size w9 w10 := below_then (pw_below_drewN (Below.refl _ _) _) (Nat.le_refl _) hb10
            have HQ10 := Lib.hid hq
            clear hb10
            try go_wp2_with fail
            refine hK.out _ _ ?_ (fun hHeld2 => ?_)
            · (try dsimp only)
              exact ⟨pw_cell_below hq z0, pw_cell_below hq z1, pw_cell_below hq z2, pw_cell_below hq z3, pw_cell_below hq z4, pw_cell_below hq z5, pw_cell_below hq z6, pw_cell_below hq x0, pw_cell_below hq x1, pw_cell_below hq x2, pw_cell_below hq x3, pw_cell_below hq x4, pw_cell_below hq x5, pw_cell_below hq x6, pw_cell_below hq y0, pw_cell_below hq y1, pw_cell_below hq y2, pw_cell_below hq y3, pw_cell_below hq y4, pw_cell_below hq y5, pw_cell_below hq y6, KS6.out _ hq, KS7.out _ hq⟩
            clear hHeld hK K
            have hHeld := hHeld2
            clear hHeld2
            try simp only [Act.put, List.setIfInBounds_toArray, List.set_cons_zero, List.set_cons_succ]
            refine pure_ (i := 6) (N := some 42) (v := ?_) (a' := ?_) #[true, true, true, true, true, true, true, false, false, false, false, false, false, false, false, false, false, false, false] rfl rfl (by kernel_rfl) (fun _ _ _ h => h) (Or.inl ⟨by rfl, ?_⟩) ?_ ?_
            rotate_left
            · intro w'
              go_simp
              (try with_reducible rfl)
            rotate_left
            · simp only [Act.put, List.setIfInBounds_toArray, List.set_cons_zero, List.set_cons_succ]
              rfl
            refine pure_ (i := 7) (N := some 43) (v := ?_) (a' := ?_) #[true, true, true, true, true, true, true, true, false, false, false, false, false, false, false, false, false, false, false] rfl rfl (by kernel_rfl) (fun _ _ _ h => h) (Or.inl ⟨by rfl, ?_⟩) ?_ ?_
            rotate_left
            · intro w'
              go_simp
              (try with_reducible rfl)
            rotate_left
            · simp only [Act.put, List.setIfInBounds_toArray, List.set_cons_zero, List.set_cons_succ]
              rfl
            refine pure_ (i := 8) (N := some 44) (v := ?_) (a' := ?_) #[true, true, true, true, true, true, true, true, true, false, false, false, false, false, false, false, false, false, false] rfl rfl (by kernel_rfl) (fun _ _ _ h => h) (Or.inl ⟨by rfl, ?_⟩) ?_ ?_
            rotate_left
            · intro w'
              go_simp
              (try with_reducible rfl)
            rotate_left
            · simp only [Act.put, List.setIfInBounds_toArray, List.set_cons_zero, List.set_cons_succ]
              rfl
            refine take_ (i := 9) (N := some 45) (v := ?_) (a' := ?_) #[true, true, true, true, true, true, true, true, true, true, false, false, false, false, false, false, false, false, false] rfl rfl (by kernel_rfl) (fun _ _ _ h => h) (Or.inl ⟨by rfl, ?_⟩) hHeld ?_ ?_
            rotate_left
            · rintro w' ⟨s0, s1, s2, s3, s4, s5, s6, s7, s8, s9, s10, s11, s12, s13, s14, s15, s16, s17, s18, s19, s20, s21, s22⟩
              go_simp
              (try with_reducible rfl)
            rotate_left
            · simp only [Act.put, List.setIfInBounds_toArray, List.set_cons_zero, List.set_cons_succ]
              rfl
            refine pure_ (i := 10) (N := some 46) (v := ?_) (a' := ?_) #[true, true, true, true, true, true, true, true, true, true, true, false, false, false, false, false, false, false, false] rfl rfl (by kernel_rfl) (fun _ _ _ h => h) (Or.inl ⟨by rfl, ?_⟩) ?_ ?_
            rotate_left
            · intro w'
              go_simp
              (try with_reducible rfl)
            rotate_left
            · simp only [Act.put, List.setIfInBounds_toArray, List.set_cons_zero, List.set_cons_succ]
              rfl
            refine take_ (i := 11) (N := some 47) (v := ?_) (a' := ?_) #[true, true, true, true, true, true, true, true, true, true, true, true, false, false, false, false, false, false, false] rfl rfl (by kernel_rfl) (fun _ _ _ h => h) (Or.inl ⟨by rfl, ?_⟩) hHeld ?_ ?_
            rotate_left
            · rintro w' ⟨s0, s1, s2, s3, s4, s5, s6, s7, s8, s9, s10, s11, s12, s13, s14, s15, s16, s17, s18, s19, s20, s21, s22⟩
              go_simp
              (try with_reducible rfl)
            rotate_left
            · simp only [Act.put, List.setIfInBounds_toArray, List.set_cons_zero, List.set_cons_succ]
              rfl
            refine pure_ (i := 12) (N := some 48) (v := ?_) (a' := ?_) #[true, true, true, true, true, true, true, true, true, true, true, true, true, false, false, false, false, false, false] rfl rfl (by kernel_rfl) (fun _ _ _ h => h) (Or.inl ⟨by rfl, ?_⟩) ?_ ?_
            rotate_left
            · intro w'
              go_simp
              (try with_reducible rfl)
            rotate_left
            · simp only [Act.put, List.setIfInBounds_toArray, List.set_cons_zero, List.set_cons_succ]
              rfl
            refine take_ (i := 13) (N := some 49) (v := ?_) (a' := ?_) #[true, true, true, true, true, true, true, true, true, true, true, true, true, true, false, false, false, false, false] rfl rfl (by kernel_rfl) (fun _ _ _ h => h) (Or.inl ⟨by rfl, ?_⟩) hHeld ?_ ?_
            rotate_left
            · rintro w' ⟨s0, s1, s2, s3, s4, s5, s6, s7, s8, s9, s10, s11, s12, s13, s14, s15, s16, s17, s18, s19, s20, s21, s22⟩
              go_simp
              (try with_reducible rfl)
            rotate_left
            · simp only [Act.put, List.setIfInBounds_toArray, List.set_cons_zero, List.set_cons_succ]
              rfl
            refine take_ (i := 14) (N := some 50) (v := ?_) (a' := ?_) #[true, true, true, true, true, true, true, true, true, true, true, true, true, true, true, false, false, false, false] rfl rfl (by kernel_rfl) (fun _ _ _ h => h) (Or.inl ⟨by rfl, ?_⟩) hHeld ?_ ?_
            rotate_left
            · rintro w' ⟨s0, s1, s2, s3, s4, s5, s6, s7, s8, s9, s10, s11, s12, s13, s14, s15, s16, s17, s18, s19, s20, s21, s22⟩
              go_simp
              (try with_reducible rfl)
            rotate_left
            · simp only [Act.put, List.setIfInBounds_toArray, List.set_cons_zero, List.set_cons_succ]
              rfl
            refine one_ (i := 15) (N := some 51) #[true, true, true, true, true, true, true, true, true, true, true, true, true, true, true, true, false, false, false] rfl rfl (by kernel_rfl) (by decide) (fun K hK => ?_)
            go_simp
            refine (same_walk x y _ _ _ _ _ _ _ _ _ _ _ _ _ (HX.out.rd.below (below_then BZ.out BZ.out.size HQ10.out)) (HY.out.rd.below (below_then BZ.out BZ.out.size HQ10.out)) (HX.out.wd.below (below_then BZ.out BZ.out.size HQ10.out)) (HY.out.wd.below (below_then BZ.out BZ.out.size HQ10.out))).mono ?_
            rintro e w11 ⟨rfl, hb11⟩
            rw [HEQ.out]
            have hq11 : Below w9.heap.size w9 w11 := below_then HQ10.out HQ10.out.size hb11
            have HQ11 := Lib.hid hq11
            clear hb11
            try go_wp2_with fail
            refine hK.out _ _ ?_ (fun hHeld2 => ?_)
            · (try dsimp only)
              exact ⟨pw_cell_below hq11 z0, pw_cell_below hq11 z1, pw_cell_below hq11 z2, pw_cell_below hq11 z3, pw_cell_below hq11 z4, pw_cell_below hq11 z5, pw_cell_below hq11 z6, pw_cell_below hq11 x0, pw_cell_below hq11 x1, pw_cell_below hq11 x2, pw_cell_below hq11 x3, pw_cell_below hq11 x4, pw_cell_below hq11 x5, pw_cell_below hq11 x6, pw_cell_below hq11 y0, pw_cell_below hq11 y1, pw_cell_below hq11 y2, pw_cell_below hq11 y3, pw_cell_below hq11 y4, pw_cell_below hq11 y5, pw_cell_below hq11 y6, KS6.out _ hq11, KS7.out _ hq11⟩
            clear hHeld hK K
            have hHeld := hHeld2
            clear hHeld2
            try simp only [Act.put, List.setIfInBounds_toArray, List.set_cons_zero, List.set_cons_succ]
            refine pure_ (i := 16) (N := some 52) (v := ?_) (a' := ?_) #[true, true, true, true, true, true, true, true, true, true, true, true, true, true, true, true, true, false, false] rfl rfl (by kernel_rfl) (fun _ _ _ h => h) (Or.inl ⟨by rfl, ?_⟩) ?_ ?_
            rotate_left
            · intro w'
              go_simp
              (try with_reducible rfl)
            rotate_left
            · simp only [Act.put, List.setIfInBounds_toArray, List.set_cons_zero, List.set_cons_succ]
              rfl
            refine pure_ (i := 17) (N := some 53) (v := ?_) (a' := ?_) #[true, true, true, true, true, true, true, true, true, true, true, true, true, true, true, true, true, true, false] rfl rfl (by kernel_rfl) (fun _ _ _ h => h) (Or.inl ⟨by rfl, ?_⟩) ?_ ?_
            rotate_left
            · intro w'
              go_simp
              (try with_reducible rfl)
            rotate_left
            · simp only [Act.put, List.setIfInBounds_toArray, List.set_cons_zero, List.set_cons_succ]
              rfl
            refine pure_ (i := 18) (N := some 4) (v := ?_) (a' := ?_) #[true, true, true, true, true, true, true, true, true, true, true, true, true, true, true, true, true, true, true] rfl rfl (by kernel_rfl) (fun _ _ _ h => h) (Or.inl ⟨by rfl, ?_⟩) ?_ ?_
            rotate_left
            · intro w'
              go_simp
              (try with_reducible rfl)
            rotate_left
            · simp only [Act.put, List.setIfInBounds_toArray, List.set_cons_zero, List.set_cons_succ]
              rfl
            refine wpAnyLast_done (by kernel_rfl) ?_ _
            go_wp2_with fail
            go_ret
            exact ⟨by first | rfl | simp, below_then BZ.out BZ.out.size HQ11.out⟩
        · rw [show msB y.k y.f y.t n' m' = false by rw [← HY.out.rd.1, ← HY.out.wd.1, Bool.eq_false_iff]; exact fun h => hg' ((msB_iff y).1 h)]
          go_wp2_with fail
          go_ret
          exact ⟨rfl, B5.out⟩
      · rw [show msB x.k x.f x.t n m = false by rw [← HX.out.rd.1, ← HX.out.wd.1, Bool.eq_false_iff]; exact fun h => hg ((msB_iff x).1 h)]
        go_wp2_with fail
        go_ret
        exact ⟨rfl, B4.out⟩
    · rw [show heavyB n' m' = true by unfold heavyB; rw [← Bool.decide_or]; exact decide_eq_true (by omega)]
      go_wp2_with fail
      go_ret
      exact ⟨rfl, B3.out⟩
  · rw [show heavyB n m = true by unfold heavyB; rw [← Bool.decide_or]; exact decide_eq_true (by omega)]
    go_wp2_with fail
    go_ret
    exact ⟨rfl, B2.out⟩
end Go.Proofs.Ytbjjfgfepbklnaa
