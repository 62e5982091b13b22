/- The walk of FrameApart (printed by a program of mine, mkback.py). -/
import Derived.Test.YtdcbpkhogpjfeaaFrameN
import Derived.Test.YtdcbpkhogpjfeaaWLast
import Derived.Deep.DeepCutAuto
set_option linter.unusedVariables false
set_option linter.unusedSimpArgs false
namespace Go.Proofs.Ytdcbpkhogpjfeaa
open Go.RowKit Go.Proofs.YtdcbpkhogpjfeaaW.PrintWords Go.Proofs.YtdcbpkhogpjfeaaW.PrintLast Go.Proofs.Ytdcbpkhogpjfeaa.K

set_option maxRecDepth 100000 in
set_option maxHeartbeats 40000000 in
theorem apart_walk (W : World) (y : Fr) (A' : Option Addr) (n' c' : Nat) (hy : FrArg W y A' n' c') (x : Fr) (A : Option Addr) (n c : Nat) (hx : FrArg W x A n c) :
    Calls Try.prog 7 #[.agg (frC y.k y.f y.t y.v y.s (.slice A' n' c')), .agg (frC x.k x.f x.t x.v x.s (.slice A n c))] W fun e w' => e = .returned (.bool true) ∧ Below W.heap.size W w' := by
  have HY := Lib.hid hy
  have HX := Lib.hid hx
  have HYW := Lib.hid hy.wf
  have HXW := Lib.hid hx.wf
  have hn := hx.rd.2.1
  have hn' := hy.rd.2.1
  clear hx hy
  have hbx : ∀ w1, Below ((W.alloc (.cells (frC y.k y.f y.t y.v y.s (.slice A' n' c')) 26)).alloc (.cells (frC x.k x.f x.t x.v x.s (.slice A n c)) 26)).heap.size ((W.alloc (.cells (frC y.k y.f y.t y.v y.s (.slice A' n' c')) 26)).alloc (.cells (frC x.k x.f x.t x.v x.s (.slice A n c)) 26)) w1 → Below W.heap.size W w1 ∧ w1.heap[W.heap.size]? = some (.cells (frC y.k y.f y.t y.v y.s (.slice A' n' c')) 26 (0, 0)) ∧ w1.heap[W.heap.size + 1]? = some (.cells (frC x.k x.f x.t x.v x.s (.slice A n c)) 26 (0, 0)) := fun w1 hb =>
    ⟨below_then (alloc_back2 _ _) (alloc_back2 _ _).size hb, heap_keep hb (by simp only [hal]; exact hpush3 _ _ _), heap_keep hb (by simp only [hal]; exact hpush2 _ _ _)⟩
  have HBX := Lib.hid hbx; clear hbx
  by_cases q1 : 600 < n'
  · skip
    go_enter Try.func7, Try.ntmps7
    go_wp2_with (first | (go_at_call 8; refine (awake_walk _).mono ?_; rintro e w1 ⟨rfl, hb1⟩; have BB := Lib.hid (HBX.out _ hb1); clear hb1; obtain ⟨x0, x1, x2, x3, x4, x5⟩ := box_cells BB.out.2.1; obtain ⟨y0, y1, y2, y3, y4, y5⟩ := box_cells BB.out.2.2))
    go_ret
    exact ⟨rfl, BB.out.1⟩
  by_cases q2 : 600 < n
  · skip
    go_enter Try.func7, Try.ntmps7
    go_wp2_with (first | (go_at_call 8; refine (awake_walk _).mono ?_; rintro e w1 ⟨rfl, hb1⟩; have BB := Lib.hid (HBX.out _ hb1); clear hb1; obtain ⟨x0, x1, x2, x3, x4, x5⟩ := box_cells BB.out.2.1; obtain ⟨y0, y1, y2, y3, y4, y5⟩ := box_cells BB.out.2.2))
    go_ret
    exact ⟨rfl, BB.out.1⟩
  by_cases g1 : ¬ goodB y.k y.f y.t n'
  · skip
    have HG1 := Lib.hid (decide_eq_false g1)
    clear g1
    go_enter Try.func7, Try.ntmps7
    go_wp2_with (first | (go_at_call 8; refine (awake_walk _).mono ?_; rintro e w1 ⟨rfl, hb1⟩; have BB := Lib.hid (HBX.out _ hb1); clear hb1; obtain ⟨x0, x1, x2, x3, x4, x5⟩ := box_cells BB.out.2.1; obtain ⟨y0, y1, y2, y3, y4, y5⟩ := box_cells BB.out.2.2) | (go_at_call 11; with_reducible refine (good_walk y.k y.f y.t y.v y.s A' n' c' (by omega) _).mono ?_; rintro e w2 ⟨rfl, hw2⟩; rw [HG1.out]; have BN := Lib.hid (show Below W.heap.size W w2 ∧ w2.heap[W.heap.size]? = some (.cells (frC y.k y.f y.t y.v y.s (.slice A' n' c')) 26 (0, 0)) ∧ w2.heap[W.heap.size + 1]? = some (.cells (frC x.k x.f x.t x.v x.s (.slice A n c)) 26 (0, 0)) from ⟨by rw [← hw2]; exact BB.out.1.alloc BB.out.1.size _, by rw [← hw2]; exact heap_alloc_keep _ BB.out.2.1, by rw [← hw2]; exact heap_alloc_keep _ BB.out.2.2⟩); clear hw2 x0 x1 x2 x3 x4 x5 y0 y1 y2 y3 y4 y5 BB; have BB := BN; clear BN; obtain ⟨x0, x1, x2, x3, x4, x5⟩ := box_cells BB.out.2.1; obtain ⟨y0, y1, y2, y3, y4, y5⟩ := box_cells BB.out.2.2))
    go_ret
    exact ⟨rfl, BB.out.1⟩
  have HG1 := Lib.hid (decide_eq_true (Decidable.not_not.1 g1))
  have HGY := Lib.hid ((goodB_iff y n' HY.out.rd.1).1 (Decidable.not_not.1 g1))
  clear g1
  by_cases g2 : ¬ goodB x.k x.f x.t n
  · skip
    have HG2 := Lib.hid (decide_eq_false g2)
    clear g2
    go_enter Try.func7, Try.ntmps7
    go_wp2_with (first | (go_at_call 8; refine (awake_walk _).mono ?_; rintro e w1 ⟨rfl, hb1⟩; have BB := Lib.hid (HBX.out _ hb1); clear hb1; obtain ⟨x0, x1, x2, x3, x4, x5⟩ := box_cells BB.out.2.1; obtain ⟨y0, y1, y2, y3, y4, y5⟩ := box_cells BB.out.2.2) | (go_at_call 11; with_reducible refine (good_walk y.k y.f y.t y.v y.s A' n' c' (by omega) _).mono ?_; rintro e w2 ⟨rfl, hw2⟩; rw [HG1.out]; have BN := Lib.hid (show Below W.heap.size W w2 ∧ w2.heap[W.heap.size]? = some (.cells (frC y.k y.f y.t y.v y.s (.slice A' n' c')) 26 (0, 0)) ∧ w2.heap[W.heap.size + 1]? = some (.cells (frC x.k x.f x.t x.v x.s (.slice A n c)) 26 (0, 0)) from ⟨by rw [← hw2]; exact BB.out.1.alloc BB.out.1.size _, by rw [← hw2]; exact heap_alloc_keep _ BB.out.2.1, by rw [← hw2]; exact heap_alloc_keep _ BB.out.2.2⟩); clear hw2 x0 x1 x2 x3 x4 x5 y0 y1 y2 y3 y4 y5 BB; have BB := BN; clear BN; obtain ⟨x0, x1, x2, x3, x4, x5⟩ := box_cells BB.out.2.1; obtain ⟨y0, y1, y2, y3, y4, y5⟩ := box_cells BB.out.2.2) | (go_at_call 11; with_reducible refine (good_walk x.k x.f x.t x.v x.s A n c (by omega) _).mono ?_; rintro e w2 ⟨rfl, hw2⟩; rw [HG2.out]; have BN := Lib.hid (show Below W.heap.size W w2 ∧ w2.heap[W.heap.size]? = some (.cells (frC y.k y.f y.t y.v y.s (.slice A' n' c')) 26 (0, 0)) ∧ w2.heap[W.heap.size + 1]? = some (.cells (frC x.k x.f x.t x.v x.s (.slice A n c)) 26 (0, 0)) from ⟨by rw [← hw2]; exact BB.out.1.alloc BB.out.1.size _, by rw [← hw2]; exact heap_alloc_keep _ BB.out.2.1, by rw [← hw2]; exact heap_alloc_keep _ BB.out.2.2⟩); clear hw2 x0 x1 x2 x3 x4 x5 y0 y1 y2 y3 y4 y5 BB; have BB := BN; clear BN; obtain ⟨x0, x1, x2, x3, x4, x5⟩ := box_cells BB.out.2.1; obtain ⟨y0, y1, y2, y3, y4, y5⟩ := box_cells BB.out.2.2))
    go_ret
    exact ⟨rfl, BB.out.1⟩
  have HG2 := Lib.hid (decide_eq_true (Decidable.not_not.1 g2))
  have HGX := Lib.hid ((goodB_iff x n HX.out.rd.1).1 (Decidable.not_not.1 g2))
  clear g2
  have EY := Lib.hid (show ∀ w : World, ReadsInt w .u8 A' n' y.b → Calls Try.prog 10 #[.agg #[.int .i64 y.k, .int .i64 y.f, .int .i64 y.t, .int .u32 y.v, .int .u32 y.s, .slice A' n' c']] w (Wrote w (19 + n') (enc y)) from fun w h => encode_walk y HGY.out HYW.out A' n' c' w h)
  have EX := Lib.hid (show ∀ w : World, ReadsInt w .u8 A n x.b → Calls Try.prog 10 #[.agg #[.int .i64 x.k, .int .i64 x.f, .int .i64 x.t, .int .u32 x.v, .int .u32 x.s, .slice A n c]] w (Wrote w (19 + n) (enc x)) from fun w h => encode_walk x HGX.out HXW.out A n c w h)
  obtain ⟨bb, hbb⟩ : ∃ bb : Bool, bb = y.eqb x := ⟨_, rfl⟩
  have HBB := Lib.hid hbb; clear hbb
  go_enter Try.func7, Try.ntmps7
  go_wp2_with (first | (go_at_call 8; refine (awake_walk _).mono ?_; rintro e w1 ⟨rfl, hb1⟩; have BB := Lib.hid (HBX.out _ hb1); clear hb1; obtain ⟨x0, x1, x2, x3, x4, x5⟩ := box_cells BB.out.2.1; obtain ⟨y0, y1, y2, y3, y4, y5⟩ := box_cells BB.out.2.2) | (go_at_call 11; with_reducible refine (good_walk y.k y.f y.t y.v y.s A' n' c' (by omega) _).mono ?_; rintro e w2 ⟨rfl, hw2⟩; rw [HG1.out]; have BN := Lib.hid (show Below W.heap.size W w2 ∧ w2.heap[W.heap.size]? = some (.cells (frC y.k y.f y.t y.v y.s (.slice A' n' c')) 26 (0, 0)) ∧ w2.heap[W.heap.size + 1]? = some (.cells (frC x.k x.f x.t x.v x.s (.slice A n c)) 26 (0, 0)) from ⟨by rw [← hw2]; exact BB.out.1.alloc BB.out.1.size _, by rw [← hw2]; exact heap_alloc_keep _ BB.out.2.1, by rw [← hw2]; exact heap_alloc_keep _ BB.out.2.2⟩); clear hw2 x0 x1 x2 x3 x4 x5 y0 y1 y2 y3 y4 y5 BB; have BB := BN; clear BN; obtain ⟨x0, x1, x2, x3, x4, x5⟩ := box_cells BB.out.2.1; obtain ⟨y0, y1, y2, y3, y4, y5⟩ := box_cells BB.out.2.2) | (go_at_call 11; with_reducible refine (good_walk x.k x.f x.t x.v x.s A n c (by omega) _).mono ?_; rintro e w2 ⟨rfl, hw2⟩; rw [HG2.out]; have BN := Lib.hid (show Below W.heap.size W w2 ∧ w2.heap[W.heap.size]? = some (.cells (frC y.k y.f y.t y.v y.s (.slice A' n' c')) 26 (0, 0)) ∧ w2.heap[W.heap.size + 1]? = some (.cells (frC x.k x.f x.t x.v x.s (.slice A n c)) 26 (0, 0)) from ⟨by rw [← hw2]; exact BB.out.1.alloc BB.out.1.size _, by rw [← hw2]; exact heap_alloc_keep _ BB.out.2.1, by rw [← hw2]; exact heap_alloc_keep _ BB.out.2.2⟩); clear hw2 x0 x1 x2 x3 x4 x5 y0 y1 y2 y3 y4 y5 BB; have BB := BN; clear BN; obtain ⟨x0, x1, x2, x3, x4, x5⟩ := box_cells BB.out.2.1; obtain ⟨y0, y1, y2, y3, y4, y5⟩ := box_cells BB.out.2.2))
  clear x0 x1 x2 x3 x4 x5 y0 y1 y2 y3 y4 y5
  go_cut [5, 6] (fun s5 s6 wx => ∃ A5 c5 A6 c6, s5 = .slice A5 (19 + n') c5 ∧ s6 = .slice A6 (19 + n) c6 ∧ Aside0 (Below W.heap.size W wx ∧ wx.heap[W.heap.size]? = some (.cells (frC y.k y.f y.t y.v y.s (.slice A' n' c')) 26 (0, 0)) ∧ wx.heap[W.heap.size + 1]? = some (.cells (frC x.k x.f x.t x.v x.s (.slice A n c)) 26 (0, 0)) ∧ ReadsInt wx .u8 A5 (19 + n') (enc y) ∧ ReadsInt wx .u8 A6 (19 + n) (enc x)))
  case first =>
    generalize hwa : w2 = wa at *
    obtain ⟨x0, x1, x2, x3, x4, x5⟩ := box_cells BB.out.2.1
    obtain ⟨y0, y1, y2, y3, y4, y5⟩ := box_cells BB.out.2.2
    refine start_ (n := 6) (S := fun w' => w'.cell? ⟨W.heap.size, 0, none⟩ = some (.int .i64 y.k) ∧ w'.cell? ⟨W.heap.size, 1, none⟩ = some (.int .i64 y.f) ∧ w'.cell? ⟨W.heap.size, 2, none⟩ = some (.int .i64 y.t) ∧ w'.cell? ⟨W.heap.size, 3, none⟩ = some (.int .u32 y.v) ∧ w'.cell? ⟨W.heap.size, 4, none⟩ = some (.int .u32 y.s) ∧ w'.cell? ⟨W.heap.size, 5, none⟩ = some (.slice A' n' c') ∧ w'.cell? ⟨W.heap.size + 1, 0, none⟩ = some (.int .i64 x.k) ∧ w'.cell? ⟨W.heap.size + 1, 1, none⟩ = some (.int .i64 x.f) ∧ w'.cell? ⟨W.heap.size + 1, 2, none⟩ = some (.int .i64 x.t) ∧ w'.cell? ⟨W.heap.size + 1, 3, none⟩ = some (.int .u32 x.v) ∧ w'.cell? ⟨W.heap.size + 1, 4, none⟩ = some (.int .u32 x.s) ∧ w'.cell? ⟨W.heap.size + 1, 5, none⟩ = some (.slice A n c)) (ds := []) #[false, false, false, false, false, false] (by kernel_rfl) rfl rfl (⟨x0, x1, x2, x3, x4, x5, y0, y1, y2, y3, y4, y5⟩) (fun hHeld => ?_)
    refine take_ (i := 0) (N := some 29) (v := ?_) (a' := ?_) #[true, false, false, false, false, false] rfl rfl (by kernel_rfl) (fun _ _ _ h => h) (Or.inl ⟨by rfl, ?_⟩) hHeld ?_ ?_
    rotate_left
    · rintro w' ⟨s0, s1, s2, s3, s4, s5, s6, s7, s8, s9, s10, s11⟩
      go_simp
      (try with_reducible rfl)
    rotate_left
    · simp only [Act.put, List.setIfInBounds_toArray, List.set_cons_zero, List.set_cons_succ]
      rfl
    refine take_ (i := 2) (N := some 31) (v := ?_) (a' := ?_) #[true, false, true, false, false, false] rfl rfl (by kernel_rfl) (fun _ _ _ h => h) (Or.inl ⟨by rfl, ?_⟩) hHeld ?_ ?_
    rotate_left
    · rintro w' ⟨s0, s1, s2, s3, s4, s5, s6, s7, s8, s9, s10, s11⟩
      go_simp
      (try with_reducible rfl)
    rotate_left
    · simp only [Act.put, List.setIfInBounds_toArray, List.set_cons_zero, List.set_cons_succ]
      rfl
    refine one_ (i := 1) (N := some 30) #[true, true, true, false, false, false] rfl rfl (by kernel_rfl) (by decide) (fun K hK => ?_)
    go_simp
    refine (EY.out _ (by first | exact HY.out.rd.below (below_then BB.out.1 BB.out.1.size (below_drew (Below.refl _ _))) | exact HY.out.rd.below BB.out.1)).mono ?_
    rintro e w3 ⟨A5, c5, rfl, ho5, hb3⟩
    have HR5 := Lib.hid (own_info ho5).2.2.2.1
    have hq3 : Below wa.heap.size wa w3 := (by first | exact below_then (below_drew (Below.refl _ _)) (Nat.le_refl _) hb3 | exact hb3)
    have BQ3 := Lib.hid (below_then BB.out.1 BB.out.1.size hq3)
    clear ho5
    try go_wp2_with fail
    refine hK.out _ _ ?_ (fun hHeld2 => ?_)
    · (try dsimp only)
      first | with_reducible exact hHeld | (exact ⟨pw_cell_below hq4 x0, pw_cell_below hq4 x1, pw_cell_below hq4 x2, pw_cell_below hq4 x3, pw_cell_below hq4 x4, pw_cell_below hq4 x5, pw_cell_below hq4 y0, pw_cell_below hq4 y1, pw_cell_below hq4 y2, pw_cell_below hq4 y3, pw_cell_below hq4 y4, pw_cell_below hq4 y5⟩) | (exact ⟨pw_cell_below hq3 x0, pw_cell_below hq3 x1, pw_cell_below hq3 x2, pw_cell_below hq3 x3, pw_cell_below hq3 x4, pw_cell_below hq3 x5, pw_cell_below hq3 y0, pw_cell_below hq3 y1, pw_cell_below hq3 y2, pw_cell_below hq3 y3, pw_cell_below hq3 y4, pw_cell_below hq3 y5⟩)
    clear hHeld hK K
    have hHeld := hHeld2
    clear hHeld2
    try simp only [Act.put, List.setIfInBounds_toArray, List.set_cons_zero, List.set_cons_succ]
    refine one_ (i := 3) (N := some 32) #[true, true, true, true, false, false] rfl rfl (by kernel_rfl) (by decide) (fun K hK => ?_)
    go_simp
    refine (EX.out _ (by first | exact HX.out.rd.below BQ3.out | exact HX.out.rd.below (below_drew BQ3.out))).mono ?_
    rintro e w4 ⟨A6, c6, rfl, ho6, hb4⟩
    have HR6 := Lib.hid (own_info ho6).2.2.2.1
    have HR5' := Lib.hid (by first | exact HR5.out.below hb4 | exact (rd_drew HR5.out).below hb4 : ReadsInt w4 .u8 A5 (19 + n') (enc y))
    have hq4 : Below wa.heap.size wa w4 := (by first | exact below_then hq3 hq3.size hb4 | exact below_then (below_drew hq3) (below_drew hq3).size hb4)
    clear ho6
    try go_wp2_with fail
    refine hK.out _ _ ?_ (fun hHeld2 => ?_)
    · (try dsimp only)
      first | with_reducible exact hHeld | (exact ⟨pw_cell_below hq4 x0, pw_cell_below hq4 x1, pw_cell_below hq4 x2, pw_cell_below hq4 x3, pw_cell_below hq4 x4, pw_cell_below hq4 x5, pw_cell_below hq4 y0, pw_cell_below hq4 y1, pw_cell_below hq4 y2, pw_cell_below hq4 y3, pw_cell_below hq4 y4, pw_cell_below hq4 y5⟩) | (exact ⟨pw_cell_below hq3 x0, pw_cell_below hq3 x1, pw_cell_below hq3 x2, pw_cell_below hq3 x3, pw_cell_below hq3 x4, pw_cell_below hq3 x5, pw_cell_below hq3 y0, pw_cell_below hq3 y1, pw_cell_below hq3 y2, pw_cell_below hq3 y3, pw_cell_below hq3 y4, pw_cell_below hq3 y5⟩)
    clear hHeld hK K
    have hHeld := hHeld2
    clear hHeld2
    try simp only [Act.put, List.setIfInBounds_toArray, List.set_cons_zero, List.set_cons_succ]
    refine pure_ (i := 4) (N := some 5) (v := ?_) (a' := ?_) #[true, true, true, true, true, false] rfl rfl (by kernel_rfl) (fun _ _ _ h => h) (Or.inl ⟨by rfl, ?_⟩) ?_ ?_
    rotate_left
    · intro w'
      go_simp
      (try with_reducible rfl)
    rotate_left
    · simp only [Act.put, List.setIfInBounds_toArray, List.set_cons_zero, List.set_cons_succ]
      rfl
    refine pure_ (i := 5) (N := some 6) (v := ?_) (a' := ?_) #[true, true, true, true, true, true] rfl rfl (by kernel_rfl) (fun _ _ _ h => h) (Or.inl ⟨by rfl, ?_⟩) ?_ ?_
    rotate_left
    · intro w'
      go_simp
      (try with_reducible rfl)
    rotate_left
    · simp only [Act.put, List.setIfInBounds_toArray, List.set_cons_zero, List.set_cons_succ]
      rfl
    refine wpAnyLast_done (by kernel_rfl) ?_ _
    go_wp2_with fail
    go_meet
    exact ⟨_, _, _, _, rfl, rfl, ⟨below_then BB.out.1 BB.out.1.size hq4, heap_keep hq4 BB.out.2.1, heap_keep hq4 BB.out.2.2, HR5'.out, HR6.out⟩⟩
  case rest =>
    obtain ⟨A5, c5, A6, c6, rfl, rfl, HK⟩ := hcut
    obtain ⟨S5, hS5⟩ : ∃ S : ByteArray, S = strOfNums (enc y) := ⟨_, rfl⟩
    obtain ⟨S6, hS6⟩ : ∃ S : ByteArray, S = strOfNums (enc x) := ⟨_, rfl⟩
    have HS5 := Lib.hid hS5
    have HS6 := Lib.hid hS6
    have hss : (S5.toList == S6.toList) = bb := by
      rw [HBB.out, hS5, hS6, strOf_eqb (enc_wf HGY.out HYW.out) (enc_wf HGX.out HXW.out), Bool.eq_iff_iff, decide_eq_true_iff, Fr.eqb_iff]
      exact ⟨fun h => enc_inj HGY.out HGX.out HYW.out HXW.out h, fun h => by rw [h]⟩
    have HSS := Lib.hid hss
    clear hS5 hS6
    generalize hwz : wc = wz at *
    have HKA := Lib.hid (show ∀ w, Below wz.heap.size wz w → (convert 24 9 (.slice A5 (19 + n') c5)).run Try.prog w = .ok (.string S5) w from fun w hb => by rw [HS5.out]; exact str_of (HK.out.2.2.2.1.below hb))
    have HKB := Lib.hid (show ∀ w, Below wz.heap.size wz w → (convert 24 9 (.slice A6 (19 + n) c6)).run Try.prog w = .ok (.string S6) w from fun w hb => by rw [HS6.out]; exact str_of (HK.out.2.2.2.2.below hb))
    have HRY := Lib.hid (HY.out.rd.below HK.out.1)
    have HRX := Lib.hid (HX.out.rd.below HK.out.1)
    have hw1 : IntKind.i64.wrap (19 + (n' : Int)) = 19 + (n' : Int) := by rw [IntKind.wrap_i64]; omega
    have hlb : (((19 + n' : Nat) : Int) == 19 + (n' : Int)) = true := by simp
    go_wp2_with fail
    obtain ⟨x0, x1, x2, x3, x4, x5⟩ := box_cells HK.out.2.1
    obtain ⟨y0, y1, y2, y3, y4, y5⟩ := box_cells HK.out.2.2.1
    have hq : Below wz.heap.size wz wz := Below.refl _ _
    have ka := HKA.out _ (below_drew hq)
    have kb := HKB.out _ (below_drew hq)
    refine start_ (n := 21) (S := fun w' => w'.cell? ⟨W.heap.size, 0, none⟩ = some (.int .i64 y.k) ∧ w'.cell? ⟨W.heap.size, 1, none⟩ = some (.int .i64 y.f) ∧ w'.cell? ⟨W.heap.size, 2, none⟩ = some (.int .i64 y.t) ∧ w'.cell? ⟨W.heap.size, 3, none⟩ = some (.int .u32 y.v) ∧ w'.cell? ⟨W.heap.size, 4, none⟩ = some (.int .u32 y.s) ∧ w'.cell? ⟨W.heap.size, 5, none⟩ = some (.slice A' n' c') ∧ w'.cell? ⟨W.heap.size + 1, 0, none⟩ = some (.int .i64 x.k) ∧ w'.cell? ⟨W.heap.size + 1, 1, none⟩ = some (.int .i64 x.f) ∧ w'.cell? ⟨W.heap.size + 1, 2, none⟩ = some (.int .i64 x.t) ∧ w'.cell? ⟨W.heap.size + 1, 3, none⟩ = some (.int .u32 x.v) ∧ w'.cell? ⟨W.heap.size + 1, 4, none⟩ = some (.int .u32 x.s) ∧ w'.cell? ⟨W.heap.size + 1, 5, none⟩ = some (.slice A n c) ∧ (convert 24 9 (.slice A5 (19 + n') c5)).run Try.prog w' = .ok (.string S5) w' ∧ (convert 24 9 (.slice A6 (19 + n) c6)).run Try.prog w' = .ok (.string S6) w') (ds := []) #[false, false, false, false, false, false, false, false, false, false, false, false, false, false, false, false, false, false, false, false, false] (by kernel_rfl) rfl rfl (⟨x0, x1, x2, x3, x4, x5, y0, y1, y2, y3, y4, y5, ka, kb⟩) (fun hHeld => ?_)
    refine pure_ (i := 0) (N := some 33) (v := ?_) (a' := ?_) #[true, false, false, false, false, false, false, false, false, false, false, false, false, false, false, false, false, false, false, false, false] rfl rfl (by kernel_rfl) (fun _ _ _ h => h) (Or.inl ⟨by rfl, ?_⟩) ?_ ?_
    rotate_left
    · intro w'
      go_simp
      (try with_reducible rfl)
    rotate_left
    · simp only [Act.put, List.setIfInBounds_toArray, List.set_cons_zero, List.set_cons_succ]
      rfl
    refine pure_ (i := 1) (N := some 34) (v := ?_) (a' := ?_) #[true, true, false, false, false, false, false, false, false, false, false, false, false, false, false, false, false, false, false, false, false] rfl rfl (by kernel_rfl) (fun _ _ _ h => h) (Or.inl ⟨by rfl, ?_⟩) ?_ ?_
    rotate_left
    · intro w'
      go_simp
      (try with_reducible rfl)
    rotate_left
    · simp only [Act.put, List.setIfInBounds_toArray, List.set_cons_zero, List.set_cons_succ]
      rfl
    refine pure_ (i := 2) (N := some 35) (v := ?_) (a' := ?_) #[true, true, true, false, false, false, false, false, false, false, false, false, false, false, false, false, false, false, false, false, false] rfl rfl (by kernel_rfl) (fun _ _ _ h => h) (Or.inl ⟨by rfl, ?_⟩) ?_ ?_
    rotate_left
    · intro w'
      go_simp
      (try with_reducible rfl)
    rotate_left
    · simp only [Act.put, List.setIfInBounds_toArray, List.set_cons_zero, List.set_cons_succ]
      rfl
    refine take_ (i := 3) (N := some 36) (v := ?_) (a' := ?_) #[true, true, true, true, false, false, false, false, false, false, false, false, false, false, false, false, false, false, false, false, false] rfl rfl (by kernel_rfl) (fun _ _ _ h => h) (Or.inl ⟨by rfl, ?_⟩) hHeld ?_ ?_
    rotate_left
    · rintro w' ⟨s0, s1, s2, s3, s4, s5, s6, s7, s8, s9, s10, s11, s12, s13⟩
      go_simp
      (try with_reducible rfl)
    rotate_left
    · simp only [Act.put, List.setIfInBounds_toArray, List.set_cons_zero, List.set_cons_succ]
      rfl
    refine pure_ (i := 4) (N := some 37) (v := ?_) (a' := ?_) #[true, true, true, true, true, false, false, false, false, false, false, false, false, false, false, false, false, false, false, false, false] rfl rfl (by kernel_rfl) (fun _ _ _ h => h) (Or.inl ⟨by rfl, ?_⟩) ?_ ?_
    rotate_left
    · intro w'
      go_simp
      (try with_reducible rfl)
    rotate_left
    · simp only [Act.put, List.setIfInBounds_toArray, List.set_cons_zero, List.set_cons_succ]
      rfl
    refine pure_ (i := 5) (N := some 38) (v := ?_) (a' := ?_) #[true, true, true, true, true, true, false, false, false, false, false, false, false, false, false, false, false, false, false, false, false] rfl rfl (by kernel_rfl) (fun _ _ _ h => h) (Or.inl ⟨by rfl, ?_⟩) ?_ ?_
    rotate_left
    · intro w'
      go_simp
      (try with_reducible rfl)
    rotate_left
    · simp only [Act.put, List.setIfInBounds_toArray, List.set_cons_zero, List.set_cons_succ]
      rfl
    refine pure_ (i := 6) (N := some 39) (v := ?_) (a' := ?_) #[true, true, true, true, true, true, true, false, false, false, false, false, false, false, false, false, false, false, false, false, false] rfl rfl (by kernel_rfl) (fun _ _ _ h => h) (Or.inl ⟨by rfl, ?_⟩) ?_ ?_
    rotate_left
    · intro w'
      go_simp
      (try with_reducible rfl)
    rotate_left
    · simp only [Act.put, List.setIfInBounds_toArray, List.set_cons_zero, List.set_cons_succ]
      rfl
    refine pure_ (i := 7) (N := some 40) (v := ?_) (a' := ?_) #[true, true, true, true, true, true, true, true, false, false, false, false, false, false, false, false, false, false, false, false, false] rfl rfl (by kernel_rfl) (fun _ _ _ h => h) (Or.inl ⟨by rfl, ?_⟩) ?_ ?_
    rotate_left
    · intro w'
      go_simp
      (try with_reducible rfl)
    rotate_left
    · simp only [Act.put, List.setIfInBounds_toArray, List.set_cons_zero, List.set_cons_succ]
      rfl
    refine pure_ (i := 8) (N := some 41) (v := ?_) (a' := ?_) #[true, true, true, true, true, true, true, true, true, false, false, false, false, false, false, false, false, false, false, false, false] rfl rfl (by kernel_rfl) (fun _ _ _ h => h) (Or.inl ⟨by rfl, ?_⟩) ?_ ?_
    rotate_left
    · intro w'
      go_simp
      (try with_reducible rfl)
    rotate_left
    · simp only [Act.put, List.setIfInBounds_toArray, List.set_cons_zero, List.set_cons_succ]
      rfl
    refine take_ (i := 9) (N := some 42) (v := ?_) (a' := ?_) #[true, true, true, true, true, true, true, true, true, true, false, false, false, false, false, false, false, false, false, false, false] rfl rfl (by kernel_rfl) (fun _ _ _ h => h) (Or.inl ⟨by rfl, ?_⟩) hHeld ?_ ?_
    rotate_left
    · rintro w' ⟨s0, s1, s2, s3, s4, s5, s6, s7, s8, s9, s10, s11, s12, s13⟩
      go_simp
      (try with_reducible rfl)
    rotate_left
    · simp only [Act.put, List.setIfInBounds_toArray, List.set_cons_zero, List.set_cons_succ]
      rfl
    refine pure_ (i := 10) (N := some 43) (v := ?_) (a' := ?_) #[true, true, true, true, true, true, true, true, true, true, true, false, false, false, false, false, false, false, false, false, false] rfl rfl (by kernel_rfl) (fun _ _ _ h => h) (Or.inl ⟨by rfl, ?_⟩) ?_ ?_
    rotate_left
    · intro w'
      go_simp
      (try with_reducible rfl)
    rotate_left
    · simp only [Act.put, List.setIfInBounds_toArray, List.set_cons_zero, List.set_cons_succ]
      rfl
    refine take_ (i := 11) (N := some 44) (v := ?_) (a' := ?_) #[true, true, true, true, true, true, true, true, true, true, true, true, false, false, false, false, false, false, false, false, false] rfl rfl (by kernel_rfl) (fun _ _ _ h => h) (Or.inl ⟨by rfl, ?_⟩) hHeld ?_ ?_
    rotate_left
    · rintro w' ⟨s0, s1, s2, s3, s4, s5, s6, s7, s8, s9, s10, s11, s12, s13⟩
      go_simp
      (try with_reducible rfl)
    rotate_left
    · simp only [Act.put, List.setIfInBounds_toArray, List.set_cons_zero, List.set_cons_succ]
      rfl
    refine pure_ (i := 12) (N := some 45) (v := ?_) (a' := ?_) #[true, true, true, true, true, true, true, true, true, true, true, true, true, false, false, false, false, false, false, false, false] rfl rfl (by kernel_rfl) (fun _ _ _ h => h) (Or.inl ⟨by rfl, ?_⟩) ?_ ?_
    rotate_left
    · intro w'
      go_simp
      (try with_reducible rfl)
    rotate_left
    · simp only [Act.put, List.setIfInBounds_toArray, List.set_cons_zero, List.set_cons_succ]
      rfl
    refine take_ (i := 13) (N := some 46) (v := ?_) (a' := ?_) #[true, true, true, true, true, true, true, true, true, true, true, true, true, true, false, false, false, false, false, false, false] rfl rfl (by kernel_rfl) (fun _ _ _ h => h) (Or.inl ⟨by rfl, ?_⟩) hHeld ?_ ?_
    rotate_left
    · rintro w' ⟨s0, s1, s2, s3, s4, s5, s6, s7, s8, s9, s10, s11, s12, s13⟩
      go_simp
      (try with_reducible rfl)
    rotate_left
    · simp only [Act.put, List.setIfInBounds_toArray, List.set_cons_zero, List.set_cons_succ]
      rfl
    refine take_ (i := 15) (N := some 48) (v := ?_) (a' := ?_) #[true, true, true, true, true, true, true, true, true, true, true, true, true, true, false, true, false, false, false, false, false] rfl rfl (by kernel_rfl) (fun _ _ _ h => h) (Or.inl ⟨by rfl, ?_⟩) hHeld ?_ ?_
    rotate_left
    · rintro w' ⟨s0, s1, s2, s3, s4, s5, s6, s7, s8, s9, s10, s11, s12, s13⟩
      go_simp
      (try with_reducible rfl)
    rotate_left
    · simp only [Act.put, List.setIfInBounds_toArray, List.set_cons_zero, List.set_cons_succ]
      rfl
    refine one_ (i := 14) (N := some 47) #[true, true, true, true, true, true, true, true, true, true, true, true, true, true, true, true, false, false, false, false, false] rfl rfl (by kernel_rfl) (by decide) (fun K hK => ?_)
    go_simp
    refine (own_walk _ _ _ _ _ _ _ _ _).mono ?_
    rintro e wN ⟨rfl, hbN⟩
    have hq : Below wz.heap.size wz wN := (by first | exact below_then hq hq.size hbN | exact below_then (below_drew hq) (below_drew hq).size hbN | exact below_then (below_drew (below_drew hq)) (below_drew (below_drew hq)).size hbN)
    have ka := HKA.out _ hq
    have kb := HKB.out _ hq
    try go_wp2_with fail
    refine hK.out _ _ ?_ (fun hHeld2 => ?_)
    · (try dsimp only)
      first | with_reducible exact hHeld | (exact ⟨pw_cell_below hq x0, pw_cell_below hq x1, pw_cell_below hq x2, pw_cell_below hq x3, pw_cell_below hq x4, pw_cell_below hq x5, pw_cell_below hq y0, pw_cell_below hq y1, pw_cell_below hq y2, pw_cell_below hq y3, pw_cell_below hq y4, pw_cell_below hq y5, ka, kb⟩)
    clear hHeld hK K
    have hHeld := hHeld2
    clear hHeld2
    try simp only [Act.put, List.setIfInBounds_toArray, List.set_cons_zero, List.set_cons_succ]
    refine one_ (i := 16) (N := some 49) #[true, true, true, true, true, true, true, true, true, true, true, true, true, true, true, true, true, false, false, false, false] rfl rfl (by kernel_rfl) (by decide) (fun K hK => ?_)
    go_simp
    refine (own_walk _ _ _ _ _ _ _ _ _).mono ?_
    rintro e wN ⟨rfl, hbN⟩
    have hq : Below wz.heap.size wz wN := (by first | exact below_then hq hq.size hbN | exact below_then (below_drew hq) (below_drew hq).size hbN | exact below_then (below_drew (below_drew hq)) (below_drew (below_drew hq)).size hbN)
    have ka := HKA.out _ hq
    have kb := HKB.out _ hq
    try go_wp2_with fail
    refine hK.out _ _ ?_ (fun hHeld2 => ?_)
    · (try dsimp only)
      first | with_reducible exact hHeld | (exact ⟨pw_cell_below hq x0, pw_cell_below hq x1, pw_cell_below hq x2, pw_cell_below hq x3, pw_cell_below hq x4, pw_cell_below hq x5, pw_cell_below hq y0, pw_cell_below hq y1, pw_cell_below hq y2, pw_cell_below hq y3, pw_cell_below hq y4, pw_cell_below hq y5, ka, kb⟩)
    clear hHeld hK K
    have hHeld := hHeld2
    clear hHeld2
    try simp only [Act.put, List.setIfInBounds_toArray, List.set_cons_zero, List.set_cons_succ]
    refine one_ (i := 17) (N := some 50) #[true, true, true, true, true, true, true, true, true, true, true, true, true, true, true, true, true, true, false, false, false] rfl rfl (by kernel_rfl) (by decide) (fun K hK => ?_)
    go_simp
    refine (same_walk y x _ _ _ _ _ _ HYW.out.2.2 HXW.out.2.2 _ (by first | exact HRY.out.below hq | exact HRY.out.below (below_drew hq) | exact HRY.out.below (below_drew (below_drew hq))) (by first | exact HRX.out.below hq | exact HRX.out.below (below_drew hq) | exact HRX.out.below (below_drew (below_drew hq)))).mono ?_
    rintro e wN ⟨rfl, hbN⟩
    rw [← HBB.out]
    have hq : Below wz.heap.size wz wN := (by first | exact below_then hq hq.size hbN | exact below_then (below_drew hq) (below_drew hq).size hbN | exact below_then (below_drew (below_drew hq)) (below_drew (below_drew hq)).size hbN)
    have ka := HKA.out _ hq
    have kb := HKB.out _ hq
    try go_wp2_with fail
    refine hK.out _ _ ?_ (fun hHeld2 => ?_)
    · (try dsimp only)
      first | with_reducible exact hHeld | (exact ⟨pw_cell_below hq x0, pw_cell_below hq x1, pw_cell_below hq x2, pw_cell_below hq x3, pw_cell_below hq x4, pw_cell_below hq x5, pw_cell_below hq y0, pw_cell_below hq y1, pw_cell_below hq y2, pw_cell_below hq y3, pw_cell_below hq y4, pw_cell_below hq y5, ka, kb⟩)
    clear hHeld hK K
    have hHeld := hHeld2
    clear hHeld2
    try simp only [Act.put, List.setIfInBounds_toArray, List.set_cons_zero, List.set_cons_succ]
    refine pure_ (i := 18) (N := some 51) (v := ?_) (a' := ?_) #[true, true, true, true, true, true, true, true, true, true, true, true, true, true, true, true, true, true, true, false, false] rfl rfl (by kernel_rfl) (fun _ _ _ h => h) (Or.inl ⟨by rfl, ?_⟩) ?_ ?_
    rotate_left
    · intro w'
      go_simp
      (try with_reducible rfl)
    rotate_left
    · simp only [Act.put, List.setIfInBounds_toArray, List.set_cons_zero, List.set_cons_succ]
      rfl
    refine pure_ (i := 19) (N := some 52) (v := ?_) (a' := ?_) #[true, true, true, true, true, true, true, true, true, true, true, true, true, true, true, true, true, true, true, true, false] rfl rfl (by kernel_rfl) (fun _ _ _ h => h) (Or.inl ⟨by rfl, ?_⟩) ?_ ?_
    rotate_left
    · intro w'
      go_simp
      (try with_reducible rfl)
    rotate_left
    · simp only [Act.put, List.setIfInBounds_toArray, List.set_cons_zero, List.set_cons_succ]
      rfl
    refine pure_ (i := 20) (N := some 4) (v := ?_) (a' := ?_) #[true, true, true, true, true, true, true, true, true, true, true, true, true, true, true, true, true, true, true, true, true] rfl rfl (by kernel_rfl) (fun _ _ _ h => h) (Or.inl ⟨by rfl, ?_⟩) ?_ ?_
    rotate_left
    · intro w'
      go_simp
      (try with_reducible rfl)
    rotate_left
    · simp only [Act.put, List.setIfInBounds_toArray, List.set_cons_zero, List.set_cons_succ]
      rfl
    refine wpAnyLast_done (by kernel_rfl) ?_ _
    go_wp2_with fail
    go_ret
    exact ⟨by first | rfl | simp | (rw [HSS.out]; simp), by first | exact below_then HK.out.1 HK.out.1.size hq | exact below_then HK.out.1 HK.out.1.size (below_drew hq)⟩
end Go.Proofs.Ytdcbpkhogpjfeaa
