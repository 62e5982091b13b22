/- The walk of FrameBack (printed by a program of mine, mkback.py). -/
import Derived.Test.YtdcbpkhogpjfeaaFrameN
import Derived.Test.YtdcbpkhogpjfeaaWLast
import Derived.Deep.DeepCutAuto
set_option linter.unusedVariables false
set_option linter.unusedSimpArgs false
namespace Go.Proofs.Ytdcbpkhogpjfeaa
open Go.RowKit Go.Proofs.YtdcbpkhogpjfeaaW.PrintWords Go.Proofs.YtdcbpkhogpjfeaaW.PrintLast Go.Proofs.Ytdcbpkhogpjfeaa.K

set_option maxRecDepth 100000 in
set_option maxHeartbeats 40000000 in
theorem back_walk (W : World) (y : Fr) (A' : Option Addr) (n' c' : Nat) (hy : FrArg W y A' n' c') (A : Option Addr) (n c : Nat) (xs : List Int) (h : ReadsInt W .u8 A n xs) (hw : ∀ z ∈ xs, (Lit.int .u8 z).wf = true) :
    Calls Try.prog 5 #[.agg (frC y.k y.f y.t y.v y.s (.slice A' n' c')), .slice A n c] W fun e w' => e = .returned (.bool true) ∧ Below W.heap.size W w' := by
  have HL := Lib.hid h
  have HW := Lib.hid hw
  have HY := Lib.hid hy
  have HYW := Lib.hid hy.wf
  have hn := h.2.1
  have hn' := hy.rd.2.1
  obtain ⟨S0, hS0⟩ : ∃ S : ByteArray, S = strOfNums xs := ⟨_, rfl⟩
  have HS0 := Lib.hid hS0
  have HKB := Lib.hid (show ∀ w, Below W.heap.size W w → (convert 24 9 (.slice A n c)).run Try.prog w = .ok (.string S0) w from fun w hb => by rw [HS0.out]; exact str_of (HL.out.below hb))
  clear h hw hy hS0
  have hbx : ∀ w1, Below (W.alloc (.cells (frC y.k y.f y.t y.v y.s (.slice A' n' c')) 26)).heap.size (W.alloc (.cells (frC y.k y.f y.t y.v y.s (.slice A' n' c')) 26)) w1 → Below W.heap.size W w1 ∧ w1.heap[W.heap.size]? = some (.cells (frC y.k y.f y.t y.v y.s (.slice A' n' c')) 26 (0, 0)) := fun w1 hb => ⟨below_box hb, heap_keep hb (heap_alloc_new _ _)⟩
  have HBX := Lib.hid hbx; clear hbx
  by_cases q1 : 1000 < n'
  · go_enter Try.func5, Try.ntmps5
    go_wp2_with (go_at_call 8; refine (awake_walk _).mono ?_; rintro e w1 ⟨rfl, hb1⟩; have B1 := Lib.hid (HBX.out _ hb1); clear hb1; obtain ⟨x0, x1, x2, x3, x4, x5⟩ := box_cells B1.out.2)
    go_ret
    exact ⟨rfl, B1.out.1⟩
  by_cases q2 : 1000 < n
  · go_enter Try.func5, Try.ntmps5
    go_wp2_with (go_at_call 8; refine (awake_walk _).mono ?_; rintro e w1 ⟨rfl, hb1⟩; have B1 := Lib.hid (HBX.out _ hb1); clear hb1; obtain ⟨x0, x1, x2, x3, x4, x5⟩ := box_cells B1.out.2)
    go_ret
    exact ⟨rfl, B1.out.1⟩
  by_cases hgb : goodB y.k y.f y.t n'
  · have HGB := Lib.hid (decide_eq_true hgb)
    have HGOOD := Lib.hid ((goodB_iff y n' HY.out.rd.1).1 hgb)
    clear hgb
    go_enter Try.func5, Try.ntmps5
    go_wp2_with (go_at_call 8; refine (awake_walk _).mono ?_; rintro e w1 ⟨rfl, hb1⟩; have B1 := Lib.hid (HBX.out _ hb1); clear hb1; obtain ⟨x0, x1, x2, x3, x4, x5⟩ := box_cells B1.out.2)
    refine (encode_walk y HGOOD.out HYW.out A' n' c' _ (HY.out.rd.below B1.out.1)).mono ?_
    rintro e w3 ⟨A5, c5, rfl, ho5, hb3⟩
    have HR5 := Lib.hid (own_info ho5).2.2.2.1
    have B3 := Lib.hid (And.intro (below_then B1.out.1 B1.out.1.size hb3) (heap_keep hb3 B1.out.2))
    clear ho5 hb3 B1 x0 x1 x2 x3 x4 x5
    go_wp2_with fail
    refine (decode_any A5 (19 + n') c5 (enc y) _ HR5.out (enc_wf HGOOD.out HYW.out)).mono ?_
    rintro e w4 ⟨hd, hb4⟩
    have B4 := Lib.hid (And.intro (below_then B3.out.1 B3.out.1.size hb4) (heap_keep hb4 B3.out.2))
    clear hb4 B3
    rcases hd with ⟨x, hx, Ag, cg, rfl, hrg⟩ | ⟨hnx, _⟩
    · obtain rfl := (enc_inj hx.1 HGOOD.out hx.2.1 HYW.out hx.2.2).symm
      have HRG0 := Lib.hid hrg
      clear hx hrg
      go_wp2_with fail
      have B5 := Lib.hid (show Below W.heap.size W (w4.alloc (.cells (frC y.k y.f y.t y.v y.s (.slice Ag y.b.length cg)) 26)) from B4.out.1.alloc B4.out.1.size _)
      refine (decode_any A n c xs _ (HL.out.below B5.out) HW.out).mono ?_
      rintro e w5 ⟨hd, hb5⟩
      rcases hd with ⟨z, hz, Ah, ch, rfl, hrh⟩ | ⟨hnz, rfl⟩
      · have ZF := Lib.hid (show (w5.alloc (.cells (frC z.k z.f z.t z.v z.s (.slice Ah z.b.length ch)) 26)).heap[W.heap.size]? = some (.cells (frC y.k y.f y.t y.v y.s (.slice A' n' c')) 26 (0, 0)) from heap_alloc_keep _ (heap_keep hb5 (heap_alloc_keep _ B4.out.2)))
        have ZG := Lib.hid (show (w5.alloc (.cells (frC z.k z.f z.t z.v z.s (.slice Ah z.b.length ch)) 26)).heap[w4.heap.size]? = some (.cells (frC y.k y.f y.t y.v y.s (.slice Ag y.b.length cg)) 26 (0, 0)) from heap_alloc_keep _ (heap_keep hb5 (heap_alloc_new w4 _)))
        have ZH := Lib.hid (show (w5.alloc (.cells (frC z.k z.f z.t z.v z.s (.slice Ah z.b.length ch)) 26)).heap[w5.heap.size]? = some (.cells (frC z.k z.f z.t z.v z.s (.slice Ah z.b.length ch)) 26 (0, 0)) from heap_alloc_new _ _)
        have BZ := Lib.hid (show Below W.heap.size W (w5.alloc (.cells (frC z.k z.f z.t z.v z.s (.slice Ah z.b.length ch)) 26)) from (below_then B5.out B5.out.size hb5).alloc (below_then B5.out B5.out.size hb5).size _)
        have HRG := Lib.hid (show ReadsInt (w5.alloc (.cells (frC z.k z.f z.t z.v z.s (.slice Ah z.b.length ch)) 26)) .u8 Ag y.b.length y.b from rd_alloc ((rd_alloc HRG0.out _).below hb5) _)
        have HRH := Lib.hid (show ReadsInt (w5.alloc (.cells (frC z.k z.f z.t z.v z.s (.slice Ah z.b.length ch)) 26)) .u8 Ah z.b.length z.b from rd_alloc hrh _)
        have HZI := Lib.hid hz
        clear hz hrh
        clear hb5
        go_wp2_with fail
        generalize hwz : (w5.alloc (.cells (frC z.k z.f z.t z.v z.s (.slice Ah z.b.length ch)) 26)) = wz at *
        obtain ⟨d0, d1, d2, d3, d4, d5⟩ := box_cells ZF.out
        obtain ⟨a0, a1, a2, a3, a4, a5⟩ := box_cells ZG.out
        obtain ⟨b0, b1, b2, b3, b4, b5⟩ := box_cells ZH.out
        have HRY := Lib.hid (HY.out.rd.below BZ.out)
        clear hwz ZF ZG ZH B4 B5
        have hq : Below wz.heap.size wz wz := Below.refl _ _
        have kb := HKB.out _ (below_drew BZ.out)
        refine start_ (n := 29) (S := fun w' => w'.cell? ⟨W.heap.size, 0, none⟩ = some (.int .i64 y.k) ∧ w'.cell? ⟨W.heap.size, 1, none⟩ = some (.int .i64 y.f) ∧ w'.cell? ⟨W.heap.size, 2, none⟩ = some (.int .i64 y.t) ∧ w'.cell? ⟨W.heap.size, 3, none⟩ = some (.int .u32 y.v) ∧ w'.cell? ⟨W.heap.size, 4, none⟩ = some (.int .u32 y.s) ∧ w'.cell? ⟨W.heap.size, 5, none⟩ = some (.slice A' n' c') ∧ w'.cell? ⟨w4.heap.size, 0, none⟩ = some (.int .i64 y.k) ∧ w'.cell? ⟨w4.heap.size, 1, none⟩ = some (.int .i64 y.f) ∧ w'.cell? ⟨w4.heap.size, 2, none⟩ = some (.int .i64 y.t) ∧ w'.cell? ⟨w4.heap.size, 3, none⟩ = some (.int .u32 y.v) ∧ w'.cell? ⟨w4.heap.size, 4, none⟩ = some (.int .u32 y.s) ∧ w'.cell? ⟨w4.heap.size, 5, none⟩ = some (.slice Ag y.b.length cg) ∧ w'.cell? ⟨w5.heap.size, 0, none⟩ = some (.int .i64 z.k) ∧ w'.cell? ⟨w5.heap.size, 1, none⟩ = some (.int .i64 z.f) ∧ w'.cell? ⟨w5.heap.size, 2, none⟩ = some (.int .i64 z.t) ∧ w'.cell? ⟨w5.heap.size, 3, none⟩ = some (.int .u32 z.v) ∧ w'.cell? ⟨w5.heap.size, 4, none⟩ = some (.int .u32 z.s) ∧ w'.cell? ⟨w5.heap.size, 5, none⟩ = some (.slice Ah z.b.length ch) ∧ (convert 24 9 (.slice A n c)).run Try.prog w' = .ok (.string S0) w') (ds := []) #[false, false, false, false, false, false, false, false, false, false, false, false, false, false, false, false, false, false, false, false, false, false, false, false, false, false, false, false, false] (by kernel_rfl) rfl rfl (⟨d0, d1, d2, d3, d4, d5, a0, a1, a2, a3, a4, a5, b0, b1, b2, b3, b4, b5, kb⟩) (fun hHeld => ?_)
        refine pure_ (i := 0) (N := some 31) (v := ?_) (a' := ?_) #[true, false, false, false, false, false, false, false, false, false, false, false, false, false, false, false, false, false, false, false, false, false, false, false, false, false, false, false, false] rfl rfl (by kernel_rfl) (fun _ _ _ h => h) (Or.inl ⟨by rfl, ?_⟩) ?_ ?_
        rotate_left
        · intro w'
          go_simp
          (try with_reducible rfl)
        rotate_left
        · simp only [Act.put, List.setIfInBounds_toArray, List.set_cons_zero, List.set_cons_succ]
          rfl
        refine pure_ (i := 1) (N := some 32) (v := ?_) (a' := ?_) #[true, true, false, false, false, false, false, false, false, false, false, false, false, false, false, false, false, false, false, false, false, false, false, false, false, false, false, false, false] rfl rfl (by kernel_rfl) (fun _ _ _ h => h) (Or.inl ⟨by rfl, ?_⟩) ?_ ?_
        rotate_left
        · intro w'
          go_simp
          (try with_reducible rfl)
        rotate_left
        · simp only [Act.put, List.setIfInBounds_toArray, List.set_cons_zero, List.set_cons_succ]
          rfl
        refine take_ (i := 2) (N := some 33) (v := ?_) (a' := ?_) #[true, true, true, false, false, false, false, false, false, false, false, false, false, false, false, false, false, false, false, false, false, false, false, false, false, false, false, false, false] rfl rfl (by kernel_rfl) (fun _ _ _ h => h) (Or.inl ⟨by rfl, ?_⟩) hHeld ?_ ?_
        rotate_left
        · rintro w' ⟨s0, s1, s2, s3, s4, s5, s6, s7, s8, s9, s10, s11, s12, s13, s14, s15, s16, s17, s18⟩
          go_simp
          (try with_reducible rfl)
        rotate_left
        · simp only [Act.put, List.setIfInBounds_toArray, List.set_cons_zero, List.set_cons_succ]
          rfl
        refine one_ (i := 3) (N := some 34) #[true, true, true, true, false, false, false, false, false, false, false, false, false, false, false, false, false, false, false, false, false, false, false, false, false, false, false, false, false] rfl rfl (by kernel_rfl) (by decide) (fun K hK => ?_)
        go_simp
        refine (good_walk _ _ _ _ _ _ _ _ (by omega) _).mono ?_
        rintro e wN ⟨rfl, hwN⟩
        rw [HGB.out]
        have hq : Below wz.heap.size wz wN := (by rw [← hwN]; first | exact hq.alloc hq.size _ | exact (below_drew hq).alloc (below_drew hq).size _ | exact (below_drew (below_drew hq)).alloc (below_drew (below_drew hq)).size _)
        have kb := HKB.out _ (below_then BZ.out BZ.out.size hq)
        clear hwN
        try go_wp2_with fail
        refine hK.out _ _ ?_ (fun hHeld2 => ?_)
        · (try dsimp only)
          first | with_reducible exact hHeld | exact ⟨pw_cell_below hq d0, pw_cell_below hq d1, pw_cell_below hq d2, pw_cell_below hq d3, pw_cell_below hq d4, pw_cell_below hq d5, pw_cell_below hq a0, pw_cell_below hq a1, pw_cell_below hq a2, pw_cell_below hq a3, pw_cell_below hq a4, pw_cell_below hq a5, pw_cell_below hq b0, pw_cell_below hq b1, pw_cell_below hq b2, pw_cell_below hq b3, pw_cell_below hq b4, pw_cell_below hq b5, kb⟩
        clear hHeld hK K
        have hHeld := hHeld2
        clear hHeld2
        try simp only [Act.put, List.setIfInBounds_toArray, List.set_cons_zero, List.set_cons_succ]
        refine pure_ (i := 4) (N := some 35) (v := ?_) (a' := ?_) #[true, true, true, true, true, false, false, false, false, false, false, false, false, false, false, false, false, false, false, false, false, false, false, false, false, false, false, false, false] rfl rfl (by kernel_rfl) (fun _ _ _ h => h) (Or.inl ⟨by rfl, ?_⟩) ?_ ?_
        rotate_left
        · intro w'
          go_simp
          (try with_reducible rfl)
        rotate_left
        · simp only [Act.put, List.setIfInBounds_toArray, List.set_cons_zero, List.set_cons_succ]
          rfl
        refine pure_ (i := 5) (N := some 36) (v := ?_) (a' := ?_) #[true, true, true, true, true, true, false, false, false, false, false, false, false, false, false, false, false, false, false, false, false, false, false, false, false, false, false, false, false] rfl rfl (by kernel_rfl) (fun _ _ _ h => h) (Or.inl ⟨by rfl, ?_⟩) ?_ ?_
        rotate_left
        · intro w'
          go_simp
          (try with_reducible rfl)
        rotate_left
        · simp only [Act.put, List.setIfInBounds_toArray, List.set_cons_zero, List.set_cons_succ]
          rfl
        refine pure_ (i := 6) (N := some 37) (v := ?_) (a' := ?_) #[true, true, true, true, true, true, true, false, false, false, false, false, false, false, false, false, false, false, false, false, false, false, false, false, false, false, false, false, false] rfl rfl (by kernel_rfl) (fun _ _ _ h => h) (Or.inl ⟨by rfl, ?_⟩) ?_ ?_
        rotate_left
        · intro w'
          go_simp
          (try with_reducible rfl)
        rotate_left
        · simp only [Act.put, List.setIfInBounds_toArray, List.set_cons_zero, List.set_cons_succ]
          rfl
        refine pure_ (i := 7) (N := some 38) (v := ?_) (a' := ?_) #[true, true, true, true, true, true, true, true, false, false, false, false, false, false, false, false, false, false, false, false, false, false, false, false, false, false, false, false, false] rfl rfl (by kernel_rfl) (fun _ _ _ h => h) (Or.inl ⟨by rfl, ?_⟩) ?_ ?_
        rotate_left
        · intro w'
          go_simp
          (try with_reducible rfl)
        rotate_left
        · simp only [Act.put, List.setIfInBounds_toArray, List.set_cons_zero, List.set_cons_succ]
          rfl
        refine pure_ (i := 8) (N := some 39) (v := ?_) (a' := ?_) #[true, true, true, true, true, true, true, true, true, false, false, false, false, false, false, false, false, false, false, false, false, false, false, false, false, false, false, false, false] rfl rfl (by kernel_rfl) (fun _ _ _ h => h) (Or.inl ⟨by rfl, ?_⟩) ?_ ?_
        rotate_left
        · intro w'
          go_simp
          (try with_reducible rfl)
        rotate_left
        · simp only [Act.put, List.setIfInBounds_toArray, List.set_cons_zero, List.set_cons_succ]
          rfl
        refine take_ (i := 9) (N := some 40) (v := ?_) (a' := ?_) #[true, true, true, true, true, true, true, true, true, true, false, false, false, false, false, false, false, false, false, false, false, false, false, false, false, false, false, false, false] rfl rfl (by kernel_rfl) (fun _ _ _ h => h) (Or.inl ⟨by rfl, ?_⟩) hHeld ?_ ?_
        rotate_left
        · rintro w' ⟨s0, s1, s2, s3, s4, s5, s6, s7, s8, s9, s10, s11, s12, s13, s14, s15, s16, s17, s18⟩
          go_simp
          (try with_reducible rfl)
        rotate_left
        · simp only [Act.put, List.setIfInBounds_toArray, List.set_cons_zero, List.set_cons_succ]
          rfl
        refine take_ (i := 11) (N := some 42) (v := ?_) (a' := ?_) #[true, true, true, true, true, true, true, true, true, true, false, true, false, false, false, false, false, false, false, false, false, false, false, false, false, false, false, false, false] rfl rfl (by kernel_rfl) (fun _ _ _ h => h) (Or.inl ⟨by rfl, ?_⟩) hHeld ?_ ?_
        rotate_left
        · rintro w' ⟨s0, s1, s2, s3, s4, s5, s6, s7, s8, s9, s10, s11, s12, s13, s14, s15, s16, s17, s18⟩
          go_simp
          (try with_reducible rfl)
        rotate_left
        · simp only [Act.put, List.setIfInBounds_toArray, List.set_cons_zero, List.set_cons_succ]
          rfl
        refine one_ (i := 10) (N := some 41) #[true, true, true, true, true, true, true, true, true, true, true, true, false, false, false, false, false, false, false, false, false, false, false, false, false, false, false, false, false] rfl rfl (by kernel_rfl) (by decide) (fun K hK => ?_)
        go_simp
        refine (own_walk _ _ _ _ _ _ _ _ _).mono ?_
        rintro e wN ⟨rfl, hbN⟩
        have hq : Below wz.heap.size wz wN := (by first | exact below_then hq hq.size hbN | exact below_then (below_drew hq) (below_drew hq).size hbN | exact below_then (below_drew (below_drew hq)) (below_drew (below_drew hq)).size hbN)
        have kb := HKB.out _ (below_then BZ.out BZ.out.size hq)
        try go_wp2_with fail
        refine hK.out _ _ ?_ (fun hHeld2 => ?_)
        · (try dsimp only)
          first | with_reducible exact hHeld | exact ⟨pw_cell_below hq d0, pw_cell_below hq d1, pw_cell_below hq d2, pw_cell_below hq d3, pw_cell_below hq d4, pw_cell_below hq d5, pw_cell_below hq a0, pw_cell_below hq a1, pw_cell_below hq a2, pw_cell_below hq a3, pw_cell_below hq a4, pw_cell_below hq a5, pw_cell_below hq b0, pw_cell_below hq b1, pw_cell_below hq b2, pw_cell_below hq b3, pw_cell_below hq b4, pw_cell_below hq b5, kb⟩
        clear hHeld hK K
        have hHeld := hHeld2
        clear hHeld2
        try simp only [Act.put, List.setIfInBounds_toArray, List.set_cons_zero, List.set_cons_succ]
        refine one_ (i := 12) (N := some 43) #[true, true, true, true, true, true, true, true, true, true, true, true, true, false, false, false, false, false, false, false, false, false, false, false, false, false, false, false, false] rfl rfl (by kernel_rfl) (by decide) (fun K hK => ?_)
        go_simp
        refine (own_walk _ _ _ _ _ _ _ _ _).mono ?_
        rintro e wN ⟨rfl, hbN⟩
        have hq : Below wz.heap.size wz wN := (by first | exact below_then hq hq.size hbN | exact below_then (below_drew hq) (below_drew hq).size hbN | exact below_then (below_drew (below_drew hq)) (below_drew (below_drew hq)).size hbN)
        have kb := HKB.out _ (below_then BZ.out BZ.out.size hq)
        try go_wp2_with fail
        refine hK.out _ _ ?_ (fun hHeld2 => ?_)
        · (try dsimp only)
          first | with_reducible exact hHeld | exact ⟨pw_cell_below hq d0, pw_cell_below hq d1, pw_cell_below hq d2, pw_cell_below hq d3, pw_cell_below hq d4, pw_cell_below hq d5, pw_cell_below hq a0, pw_cell_below hq a1, pw_cell_below hq a2, pw_cell_below hq a3, pw_cell_below hq a4, pw_cell_below hq a5, pw_cell_below hq b0, pw_cell_below hq b1, pw_cell_below hq b2, pw_cell_below hq b3, pw_cell_below hq b4, pw_cell_below hq b5, kb⟩
        clear hHeld hK K
        have hHeld := hHeld2
        clear hHeld2
        try simp only [Act.put, List.setIfInBounds_toArray, List.set_cons_zero, List.set_cons_succ]
        refine one_ (i := 13) (N := some 44) #[true, true, true, true, true, true, true, true, true, true, true, true, true, true, false, false, false, false, false, false, false, false, false, false, false, false, false, false, false] rfl rfl (by kernel_rfl) (by decide) (fun K hK => ?_)
        go_simp
        refine (same_walk y y _ _ _ _ _ _ HYW.out.2.2 HYW.out.2.2 _ (by first | exact HRG.out.below hq | exact HRG.out.below (below_drew hq) | exact HRG.out.below (below_drew (below_drew hq))) (by first | exact HRY.out.below hq | exact HRY.out.below (below_drew hq) | exact HRY.out.below (below_drew (below_drew hq)))).mono ?_
        rintro e wN ⟨rfl, hbN⟩
        rw [eqb_self]
        have hq : Below wz.heap.size wz wN := (by first | exact below_then hq hq.size hbN | exact below_then (below_drew hq) (below_drew hq).size hbN | exact below_then (below_drew (below_drew hq)) (below_drew (below_drew hq)).size hbN)
        have kb := HKB.out _ (below_then BZ.out BZ.out.size hq)
        try go_wp2_with fail
        refine hK.out _ _ ?_ (fun hHeld2 => ?_)
        · (try dsimp only)
          first | with_reducible exact hHeld | exact ⟨pw_cell_below hq d0, pw_cell_below hq d1, pw_cell_below hq d2, pw_cell_below hq d3, pw_cell_below hq d4, pw_cell_below hq d5, pw_cell_below hq a0, pw_cell_below hq a1, pw_cell_below hq a2, pw_cell_below hq a3, pw_cell_below hq a4, pw_cell_below hq a5, pw_cell_below hq b0, pw_cell_below hq b1, pw_cell_below hq b2, pw_cell_below hq b3, pw_cell_below hq b4, pw_cell_below hq b5, kb⟩
        clear hHeld hK K
        have hHeld := hHeld2
        clear hHeld2
        try simp only [Act.put, List.setIfInBounds_toArray, List.set_cons_zero, List.set_cons_succ]
        refine pure_ (i := 14) (N := some 45) (v := ?_) (a' := ?_) #[true, true, true, true, true, true, true, true, true, true, true, true, true, true, true, false, false, false, false, false, false, false, false, false, false, false, false, false, false] rfl rfl (by kernel_rfl) (fun _ _ _ h => h) (Or.inl ⟨by rfl, ?_⟩) ?_ ?_
        rotate_left
        · intro w'
          go_simp
          (try with_reducible rfl)
        rotate_left
        · simp only [Act.put, List.setIfInBounds_toArray, List.set_cons_zero, List.set_cons_succ]
          rfl
        refine pure_ (i := 15) (N := some 46) (v := ?_) (a' := ?_) #[true, true, true, true, true, true, true, true, true, true, true, true, true, true, true, true, false, false, false, false, false, false, false, false, false, false, false, false, false] rfl rfl (by kernel_rfl) (fun _ _ _ h => h) (Or.inl ⟨by rfl, ?_⟩) ?_ ?_
        rotate_left
        · intro w'
          go_simp
          (try with_reducible rfl)
        rotate_left
        · simp only [Act.put, List.setIfInBounds_toArray, List.set_cons_zero, List.set_cons_succ]
          rfl
        refine pure_ (i := 16) (N := some 47) (v := ?_) (a' := ?_) #[true, true, true, true, true, true, true, true, true, true, true, true, true, true, true, true, true, false, false, false, false, false, false, false, false, false, false, false, false] rfl rfl (by kernel_rfl) (fun _ _ _ h => h) (Or.inl ⟨by rfl, ?_⟩) ?_ ?_
        rotate_left
        · intro w'
          go_simp
          (try with_reducible rfl)
        rotate_left
        · simp only [Act.put, List.setIfInBounds_toArray, List.set_cons_zero, List.set_cons_succ]
          rfl
        refine pure_ (i := 17) (N := some 48) (v := ?_) (a' := ?_) #[true, true, true, true, true, true, true, true, true, true, true, true, true, true, true, true, true, true, false, false, false, false, false, false, false, false, false, false, false] rfl rfl (by kernel_rfl) (fun _ _ _ h => h) (Or.inl ⟨by rfl, ?_⟩) ?_ ?_
        rotate_left
        · intro w'
          go_simp
          (try with_reducible rfl)
        rotate_left
        · simp only [Act.put, List.setIfInBounds_toArray, List.set_cons_zero, List.set_cons_succ]
          rfl
        refine pure_ (i := 18) (N := some 49) (v := ?_) (a' := ?_) #[true, true, true, true, true, true, true, true, true, true, true, true, true, true, true, true, true, true, true, false, false, false, false, false, false, false, false, false, false] rfl rfl (by kernel_rfl) (fun _ _ _ h => h) (Or.inl ⟨by rfl, ?_⟩) ?_ ?_
        rotate_left
        · intro w'
          go_simp
          (try with_reducible rfl)
        rotate_left
        · simp only [Act.put, List.setIfInBounds_toArray, List.set_cons_zero, List.set_cons_succ]
          rfl
        refine pure_ (i := 19) (N := some 50) (v := ?_) (a' := ?_) #[true, true, true, true, true, true, true, true, true, true, true, true, true, true, true, true, true, true, true, true, false, false, false, false, false, false, false, false, false] rfl rfl (by kernel_rfl) (fun _ _ _ h => h) (Or.inl ⟨by rfl, ?_⟩) ?_ ?_
        rotate_left
        · intro w'
          go_simp
          (try with_reducible rfl)
        rotate_left
        · simp only [Act.put, List.setIfInBounds_toArray, List.set_cons_zero, List.set_cons_succ]
          rfl
        refine take_ (i := 20) (N := some 51) (v := ?_) (a' := ?_) #[true, true, true, true, true, true, true, true, true, true, true, true, true, true, true, true, true, true, true, true, true, false, false, false, false, false, false, false, false] rfl rfl (by kernel_rfl) (fun _ _ _ h => h) (Or.inl ⟨by rfl, ?_⟩) hHeld ?_ ?_
        rotate_left
        · rintro w' ⟨s0, s1, s2, s3, s4, s5, s6, s7, s8, s9, s10, s11, s12, s13, s14, s15, s16, s17, s18⟩
          go_simp
          (try with_reducible rfl)
        rotate_left
        · simp only [Act.put, List.setIfInBounds_toArray, List.set_cons_zero, List.set_cons_succ]
          rfl
        refine pure_ (i := 23) (N := some 54) (v := ?_) (a' := ?_) #[true, true, true, true, true, true, true, true, true, true, true, true, true, true, true, true, true, true, true, true, true, false, false, true, false, false, false, false, false] rfl rfl (by kernel_rfl) (fun _ _ _ h => h) (Or.inl ⟨by rfl, ?_⟩) ?_ ?_
        rotate_left
        · intro w'
          go_simp
          (try with_reducible rfl)
        rotate_left
        · simp only [Act.put, List.setIfInBounds_toArray, List.set_cons_zero, List.set_cons_succ]
          rfl
        refine take_ (i := 24) (N := some 55) (v := ?_) (a' := ?_) #[true, true, true, true, true, true, true, true, true, true, true, true, true, true, true, true, true, true, true, true, true, false, false, true, true, false, false, false, false] rfl rfl (by kernel_rfl) (fun _ _ _ h => h) (Or.inl ⟨by rfl, ?_⟩) hHeld ?_ ?_
        rotate_left
        · rintro w' ⟨s0, s1, s2, s3, s4, s5, s6, s7, s8, s9, s10, s11, s12, s13, s14, s15, s16, s17, s18⟩
          go_simp
          (try with_reducible rfl)
        rotate_left
        · simp only [Act.put, List.setIfInBounds_toArray, List.set_cons_zero, List.set_cons_succ]
          rfl
        refine one_ (i := 21) (N := some 52) #[true, true, true, true, true, true, true, true, true, true, true, true, true, true, true, true, true, true, true, true, true, true, false, true, true, false, false, false, false] rfl rfl (by kernel_rfl) (by decide) (fun K hK => ?_)
        go_simp
        refine (encode_walk z HZI.out.1 HZI.out.2.1 Ah z.b.length ch _ (by first | exact HRH.out.below hq | exact HRH.out.below (below_drew hq) | exact HRH.out.below (below_drew (below_drew hq)))).mono ?_
        rintro e wN ⟨A6, c6, rfl, ho6, hbN⟩
        have hq : Below wz.heap.size wz wN := (by first | exact below_then hq hq.size hbN | exact below_then (below_drew hq) (below_drew hq).size hbN | exact below_then (below_drew (below_drew hq)) (below_drew (below_drew hq)).size hbN)
        have kb := HKB.out _ (below_then BZ.out BZ.out.size hq)
        have kx : (convert 24 9 (.slice A6 (19 + z.b.length) c6)).run Try.prog wN = .ok (.string S0) wN := (by rw [HS0.out, ← HZI.out.2.2]; exact str_of (own_info ho6).2.2.2.1)
        clear ho6
        try go_wp2_with fail
        refine hK.out _ _ ?_ (fun hHeld2 => ?_)
        · (try dsimp only)
          first | with_reducible exact hHeld | exact ⟨pw_cell_below hq d0, pw_cell_below hq d1, pw_cell_below hq d2, pw_cell_below hq d3, pw_cell_below hq d4, pw_cell_below hq d5, pw_cell_below hq a0, pw_cell_below hq a1, pw_cell_below hq a2, pw_cell_below hq a3, pw_cell_below hq a4, pw_cell_below hq a5, pw_cell_below hq b0, pw_cell_below hq b1, pw_cell_below hq b2, pw_cell_below hq b3, pw_cell_below hq b4, pw_cell_below hq b5, kb⟩
        clear hHeld hK K
        have hHeld := hHeld2
        clear hHeld2
        try simp only [Act.put, List.setIfInBounds_toArray, List.set_cons_zero, List.set_cons_succ]
        refine one_ (i := 22) (N := some 53) #[true, true, true, true, true, true, true, true, true, true, true, true, true, true, true, true, true, true, true, true, true, true, true, true, true, false, false, false, false] rfl rfl (by kernel_rfl) (by decide) (fun K hK => ?_)
        go_simp
        refine hK.out _ _ ?_ (fun hHeld2 => ?_)
        · (try dsimp only)
          first | with_reducible exact hHeld | exact ⟨pw_cell_below hq d0, pw_cell_below hq d1, pw_cell_below hq d2, pw_cell_below hq d3, pw_cell_below hq d4, pw_cell_below hq d5, pw_cell_below hq a0, pw_cell_below hq a1, pw_cell_below hq a2, pw_cell_below hq a3, pw_cell_below hq a4, pw_cell_below hq a5, pw_cell_below hq b0, pw_cell_below hq b1, pw_cell_below hq b2, pw_cell_below hq b3, pw_cell_below hq b4, pw_cell_below hq b5, kb⟩
        clear hHeld hK K
        have hHeld := hHeld2
        clear hHeld2
        try simp only [Act.put, List.setIfInBounds_toArray, List.set_cons_zero, List.set_cons_succ]
        refine pure_ (i := 25) (N := some 56) (v := ?_) (a' := ?_) #[true, true, true, true, true, true, true, true, true, true, true, true, true, true, true, true, true, true, true, true, true, true, true, true, true, true, false, false, false] rfl rfl (by kernel_rfl) (fun _ _ _ h => h) (Or.inl ⟨by rfl, ?_⟩) ?_ ?_
        rotate_left
        · intro w'
          go_simp
          (try with_reducible rfl)
        rotate_left
        · simp only [Act.put, List.setIfInBounds_toArray, List.set_cons_zero, List.set_cons_succ]
          rfl
        refine pure_ (i := 26) (N := some 57) (v := ?_) (a' := ?_) #[true, true, true, true, true, true, true, true, true, true, true, true, true, true, true, true, true, true, true, true, true, true, true, true, true, true, true, false, false] rfl rfl (by kernel_rfl) (fun _ _ _ h => h) (Or.inl ⟨by rfl, ?_⟩) ?_ ?_
        rotate_left
        · intro w'
          go_simp
          (try with_reducible rfl)
        rotate_left
        · simp only [Act.put, List.setIfInBounds_toArray, List.set_cons_zero, List.set_cons_succ]
          rfl
        refine pure_ (i := 27) (N := some 58) (v := ?_) (a' := ?_) #[true, true, true, true, true, true, true, true, true, true, true, true, true, true, true, true, true, true, true, true, true, true, true, true, true, true, true, true, false] rfl rfl (by kernel_rfl) (fun _ _ _ h => h) (Or.inl ⟨by rfl, ?_⟩) ?_ ?_
        rotate_left
        · intro w'
          go_simp
          (try with_reducible rfl)
        rotate_left
        · simp only [Act.put, List.setIfInBounds_toArray, List.set_cons_zero, List.set_cons_succ]
          rfl
        refine pure_ (i := 28) (N := some 4) (v := ?_) (a' := ?_) #[true, true, true, true, true, true, true, true, true, true, true, true, true, true, true, true, true, true, true, true, true, true, true, true, true, true, true, true, true] rfl rfl (by kernel_rfl) (fun _ _ _ h => h) (Or.inl ⟨by rfl, ?_⟩) ?_ ?_
        rotate_left
        · intro w'
          go_simp
          (try with_reducible rfl)
        rotate_left
        · simp only [Act.put, List.setIfInBounds_toArray, List.set_cons_zero, List.set_cons_succ]
          rfl
        refine wpAnyLast_done (by kernel_rfl) ?_ _
        go_wp2_with fail
        go_ret
        exact ⟨by first | rfl | simp, by first | exact below_then BZ.out BZ.out.size hq | exact below_then BZ.out BZ.out.size (below_drew hq) | exact below_then BZ.out BZ.out.size (below_drew (below_drew hq))⟩
      · have ZF := Lib.hid (show (w5.alloc (.cells (frC 0 0 0 0 0 (.slice none 0 0)) 26)).heap[W.heap.size]? = some (.cells (frC y.k y.f y.t y.v y.s (.slice A' n' c')) 26 (0, 0)) from heap_alloc_keep _ (heap_keep hb5 (heap_alloc_keep _ B4.out.2)))
        have ZG := Lib.hid (show (w5.alloc (.cells (frC 0 0 0 0 0 (.slice none 0 0)) 26)).heap[w4.heap.size]? = some (.cells (frC y.k y.f y.t y.v y.s (.slice Ag y.b.length cg)) 26 (0, 0)) from heap_alloc_keep _ (heap_keep hb5 (heap_alloc_new w4 _)))
        have ZH := Lib.hid (show (w5.alloc (.cells (frC 0 0 0 0 0 (.slice none 0 0)) 26)).heap[w5.heap.size]? = some (.cells (frC 0 0 0 0 0 (.slice none 0 0)) 26 (0, 0)) from heap_alloc_new _ _)
        have BZ := Lib.hid (show Below W.heap.size W (w5.alloc (.cells (frC 0 0 0 0 0 (.slice none 0 0)) 26)) from (below_then B5.out B5.out.size hb5).alloc (below_then B5.out B5.out.size hb5).size _)
        have HRG := Lib.hid (show ReadsInt (w5.alloc (.cells (frC 0 0 0 0 0 (.slice none 0 0)) 26)) .u8 Ag y.b.length y.b from rd_alloc ((rd_alloc HRG0.out _).below hb5) _)
        clear hnz
        clear hb5
        go_wp2_with fail
        generalize hwz : (w5.alloc (.cells (frC 0 0 0 0 0 (.slice none 0 0)) 26)) = wz at *
        obtain ⟨d0, d1, d2, d3, d4, d5⟩ := box_cells ZF.out
        obtain ⟨a0, a1, a2, a3, a4, a5⟩ := box_cells ZG.out
        obtain ⟨b0, b1, b2, b3, b4, b5⟩ := box_cells ZH.out
        have HRY := Lib.hid (HY.out.rd.below BZ.out)
        clear hwz ZF ZG ZH B4 B5
        have hq : Below wz.heap.size wz wz := Below.refl _ _
        have kb := HKB.out _ (below_drew BZ.out)
        refine start_ (n := 29) (S := fun w' => w'.cell? ⟨W.heap.size, 0, none⟩ = some (.int .i64 y.k) ∧ w'.cell? ⟨W.heap.size, 1, none⟩ = some (.int .i64 y.f) ∧ w'.cell? ⟨W.heap.size, 2, none⟩ = some (.int .i64 y.t) ∧ w'.cell? ⟨W.heap.size, 3, none⟩ = some (.int .u32 y.v) ∧ w'.cell? ⟨W.heap.size, 4, none⟩ = some (.int .u32 y.s) ∧ w'.cell? ⟨W.heap.size, 5, none⟩ = some (.slice A' n' c') ∧ w'.cell? ⟨w4.heap.size, 0, none⟩ = some (.int .i64 y.k) ∧ w'.cell? ⟨w4.heap.size, 1, none⟩ = some (.int .i64 y.f) ∧ w'.cell? ⟨w4.heap.size, 2, none⟩ = some (.int .i64 y.t) ∧ w'.cell? ⟨w4.heap.size, 3, none⟩ = some (.int .u32 y.v) ∧ w'.cell? ⟨w4.heap.size, 4, none⟩ = some (.int .u32 y.s) ∧ w'.cell? ⟨w4.heap.size, 5, none⟩ = some (.slice Ag y.b.length cg) ∧ w'.cell? ⟨w5.heap.size, 0, none⟩ = some (.int .i64 0) ∧ w'.cell? ⟨w5.heap.size, 1, none⟩ = some (.int .i64 0) ∧ w'.cell? ⟨w5.heap.size, 2, none⟩ = some (.int .i64 0) ∧ w'.cell? ⟨w5.heap.size, 3, none⟩ = some (.int .u32 0) ∧ w'.cell? ⟨w5.heap.size, 4, none⟩ = some (.int .u32 0) ∧ w'.cell? ⟨w5.heap.size, 5, none⟩ = some (.slice none 0 0) ∧ (convert 24 9 (.slice A n c)).run Try.prog w' = .ok (.string S0) w') (ds := []) #[false, false, false, false, false, false, false, false, false, false, false, false, false, false, false, false, false, false, false, false, false, false, false, false, false, false, false, false, false] (by kernel_rfl) rfl rfl (⟨d0, d1, d2, d3, d4, d5, a0, a1, a2, a3, a4, a5, b0, b1, b2, b3, b4, b5, kb⟩) (fun hHeld => ?_)
        refine pure_ (i := 0) (N := some 31) (v := ?_) (a' := ?_) #[true, false, false, false, false, false, false, false, false, false, false, false, false, false, false, false, false, false, false, false, false, false, false, false, false, false, false, false, false] rfl rfl (by kernel_rfl) (fun _ _ _ h => h) (Or.inl ⟨by rfl, ?_⟩) ?_ ?_
        rotate_left
        · intro w'
          go_simp
          (try with_reducible rfl)
        rotate_left
        · simp only [Act.put, List.setIfInBounds_toArray, List.set_cons_zero, List.set_cons_succ]
          rfl
        refine pure_ (i := 1) (N := some 32) (v := ?_) (a' := ?_) #[true, true, false, false, false, false, false, false, false, false, false, false, false, false, false, false, false, false, false, false, false, false, false, false, false, false, false, false, false] rfl rfl (by kernel_rfl) (fun _ _ _ h => h) (Or.inl ⟨by rfl, ?_⟩) ?_ ?_
        rotate_left
        · intro w'
          go_simp
          (try with_reducible rfl)
        rotate_left
        · simp only [Act.put, List.setIfInBounds_toArray, List.set_cons_zero, List.set_cons_succ]
          rfl
        refine take_ (i := 2) (N := some 33) (v := ?_) (a' := ?_) #[true, true, true, false, false, false, false, false, false, false, false, false, false, false, false, false, false, false, false, false, false, false, false, false, false, false, false, false, false] rfl rfl (by kernel_rfl) (fun _ _ _ h => h) (Or.inl ⟨by rfl, ?_⟩) hHeld ?_ ?_
        rotate_left
        · rintro w' ⟨s0, s1, s2, s3, s4, s5, s6, s7, s8, s9, s10, s11, s12, s13, s14, s15, s16, s17, s18⟩
          go_simp
          (try with_reducible rfl)
        rotate_left
        · simp only [Act.put, List.setIfInBounds_toArray, List.set_cons_zero, List.set_cons_succ]
          rfl
        refine one_ (i := 3) (N := some 34) #[true, true, true, true, false, false, false, false, false, false, false, false, false, false, false, false, false, false, false, false, false, false, false, false, false, false, false, false, false] rfl rfl (by kernel_rfl) (by decide) (fun K hK => ?_)
        go_simp
        refine (good_walk _ _ _ _ _ _ _ _ (by omega) _).mono ?_
        rintro e wN ⟨rfl, hwN⟩
        rw [HGB.out]
        have hq : Below wz.heap.size wz wN := (by rw [← hwN]; first | exact hq.alloc hq.size _ | exact (below_drew hq).alloc (below_drew hq).size _ | exact (below_drew (below_drew hq)).alloc (below_drew (below_drew hq)).size _)
        have kb := HKB.out _ (below_then BZ.out BZ.out.size hq)
        clear hwN
        try go_wp2_with fail
        refine hK.out _ _ ?_ (fun hHeld2 => ?_)
        · (try dsimp only)
          first | with_reducible exact hHeld | exact ⟨pw_cell_below hq d0, pw_cell_below hq d1, pw_cell_below hq d2, pw_cell_below hq d3, pw_cell_below hq d4, pw_cell_below hq d5, pw_cell_below hq a0, pw_cell_below hq a1, pw_cell_below hq a2, pw_cell_below hq a3, pw_cell_below hq a4, pw_cell_below hq a5, pw_cell_below hq b0, pw_cell_below hq b1, pw_cell_below hq b2, pw_cell_below hq b3, pw_cell_below hq b4, pw_cell_below hq b5, kb⟩
        clear hHeld hK K
        have hHeld := hHeld2
        clear hHeld2
        try simp only [Act.put, List.setIfInBounds_toArray, List.set_cons_zero, List.set_cons_succ]
        refine pure_ (i := 4) (N := some 35) (v := ?_) (a' := ?_) #[true, true, true, true, true, false, false, false, false, false, false, false, false, false, false, false, false, false, false, false, false, false, false, false, false, false, false, false, false] rfl rfl (by kernel_rfl) (fun _ _ _ h => h) (Or.inl ⟨by rfl, ?_⟩) ?_ ?_
        rotate_left
        · intro w'
          go_simp
          (try with_reducible rfl)
        rotate_left
        · simp only [Act.put, List.setIfInBounds_toArray, List.set_cons_zero, List.set_cons_succ]
          rfl
        refine pure_ (i := 5) (N := some 36) (v := ?_) (a' := ?_) #[true, true, true, true, true, true, false, false, false, false, false, false, false, false, false, false, false, false, false, false, false, false, false, false, false, false, false, false, false] rfl rfl (by kernel_rfl) (fun _ _ _ h => h) (Or.inl ⟨by rfl, ?_⟩) ?_ ?_
        rotate_left
        · intro w'
          go_simp
          (try with_reducible rfl)
        rotate_left
        · simp only [Act.put, List.setIfInBounds_toArray, List.set_cons_zero, List.set_cons_succ]
          rfl
        refine pure_ (i := 6) (N := some 37) (v := ?_) (a' := ?_) #[true, true, true, true, true, true, true, false, false, false, false, false, false, false, false, false, false, false, false, false, false, false, false, false, false, false, false, false, false] rfl rfl (by kernel_rfl) (fun _ _ _ h => h) (Or.inl ⟨by rfl, ?_⟩) ?_ ?_
        rotate_left
        · intro w'
          go_simp
          (try with_reducible rfl)
        rotate_left
        · simp only [Act.put, List.setIfInBounds_toArray, List.set_cons_zero, List.set_cons_succ]
          rfl
        refine pure_ (i := 7) (N := some 38) (v := ?_) (a' := ?_) #[true, true, true, true, true, true, true, true, false, false, false, false, false, false, false, false, false, false, false, false, false, false, false, false, false, false, false, false, false] rfl rfl (by kernel_rfl) (fun _ _ _ h => h) (Or.inl ⟨by rfl, ?_⟩) ?_ ?_
        rotate_left
        · intro w'
          go_simp
          (try with_reducible rfl)
        rotate_left
        · simp only [Act.put, List.setIfInBounds_toArray, List.set_cons_zero, List.set_cons_succ]
          rfl
        refine pure_ (i := 8) (N := some 39) (v := ?_) (a' := ?_) #[true, true, true, true, true, true, true, true, true, false, false, false, false, false, false, false, false, false, false, false, false, false, false, false, false, false, false, false, false] rfl rfl (by kernel_rfl) (fun _ _ _ h => h) (Or.inl ⟨by rfl, ?_⟩) ?_ ?_
        rotate_left
        · intro w'
          go_simp
          (try with_reducible rfl)
        rotate_left
        · simp only [Act.put, List.setIfInBounds_toArray, List.set_cons_zero, List.set_cons_succ]
          rfl
        refine take_ (i := 9) (N := some 40) (v := ?_) (a' := ?_) #[true, true, true, true, true, true, true, true, true, true, false, false, false, false, false, false, false, false, false, false, false, false, false, false, false, false, false, false, false] rfl rfl (by kernel_rfl) (fun _ _ _ h => h) (Or.inl ⟨by rfl, ?_⟩) hHeld ?_ ?_
        rotate_left
        · rintro w' ⟨s0, s1, s2, s3, s4, s5, s6, s7, s8, s9, s10, s11, s12, s13, s14, s15, s16, s17, s18⟩
          go_simp
          (try with_reducible rfl)
        rotate_left
        · simp only [Act.put, List.setIfInBounds_toArray, List.set_cons_zero, List.set_cons_succ]
          rfl
        refine take_ (i := 11) (N := some 42) (v := ?_) (a' := ?_) #[true, true, true, true, true, true, true, true, true, true, false, true, false, false, false, false, false, false, false, false, false, false, false, false, false, false, false, false, false] rfl rfl (by kernel_rfl) (fun _ _ _ h => h) (Or.inl ⟨by rfl, ?_⟩) hHeld ?_ ?_
        rotate_left
        · rintro w' ⟨s0, s1, s2, s3, s4, s5, s6, s7, s8, s9, s10, s11, s12, s13, s14, s15, s16, s17, s18⟩
          go_simp
          (try with_reducible rfl)
        rotate_left
        · simp only [Act.put, List.setIfInBounds_toArray, List.set_cons_zero, List.set_cons_succ]
          rfl
        refine one_ (i := 10) (N := some 41) #[true, true, true, true, true, true, true, true, true, true, true, true, false, false, false, false, false, false, false, false, false, false, false, false, false, false, false, false, false] rfl rfl (by kernel_rfl) (by decide) (fun K hK => ?_)
        go_simp
        refine (own_walk _ _ _ _ _ _ _ _ _).mono ?_
        rintro e wN ⟨rfl, hbN⟩
        have hq : Below wz.heap.size wz wN := (by first | exact below_then hq hq.size hbN | exact below_then (below_drew hq) (below_drew hq).size hbN | exact below_then (below_drew (below_drew hq)) (below_drew (below_drew hq)).size hbN)
        have kb := HKB.out _ (below_then BZ.out BZ.out.size hq)
        try go_wp2_with fail
        refine hK.out _ _ ?_ (fun hHeld2 => ?_)
        · (try dsimp only)
          first | with_reducible exact hHeld | exact ⟨pw_cell_below hq d0, pw_cell_below hq d1, pw_cell_below hq d2, pw_cell_below hq d3, pw_cell_below hq d4, pw_cell_below hq d5, pw_cell_below hq a0, pw_cell_below hq a1, pw_cell_below hq a2, pw_cell_below hq a3, pw_cell_below hq a4, pw_cell_below hq a5, pw_cell_below hq b0, pw_cell_below hq b1, pw_cell_below hq b2, pw_cell_below hq b3, pw_cell_below hq b4, pw_cell_below hq b5, kb⟩
        clear hHeld hK K
        have hHeld := hHeld2
        clear hHeld2
        try simp only [Act.put, List.setIfInBounds_toArray, List.set_cons_zero, List.set_cons_succ]
        refine one_ (i := 12) (N := some 43) #[true, true, true, true, true, true, true, true, true, true, true, true, true, false, false, false, false, false, false, false, false, false, false, false, false, false, false, false, false] rfl rfl (by kernel_rfl) (by decide) (fun K hK => ?_)
        go_simp
        refine (own_walk _ _ _ _ _ _ _ _ _).mono ?_
        rintro e wN ⟨rfl, hbN⟩
        have hq : Below wz.heap.size wz wN := (by first | exact below_then hq hq.size hbN | exact below_then (below_drew hq) (below_drew hq).size hbN | exact below_then (below_drew (below_drew hq)) (below_drew (below_drew hq)).size hbN)
        have kb := HKB.out _ (below_then BZ.out BZ.out.size hq)
        try go_wp2_with fail
        refine hK.out _ _ ?_ (fun hHeld2 => ?_)
        · (try dsimp only)
          first | with_reducible exact hHeld | exact ⟨pw_cell_below hq d0, pw_cell_below hq d1, pw_cell_below hq d2, pw_cell_below hq d3, pw_cell_below hq d4, pw_cell_below hq d5, pw_cell_below hq a0, pw_cell_below hq a1, pw_cell_below hq a2, pw_cell_below hq a3, pw_cell_below hq a4, pw_cell_below hq a5, pw_cell_below hq b0, pw_cell_below hq b1, pw_cell_below hq b2, pw_cell_below hq b3, pw_cell_below hq b4, pw_cell_below hq b5, kb⟩
        clear hHeld hK K
        have hHeld := hHeld2
        clear hHeld2
        try simp only [Act.put, List.setIfInBounds_toArray, List.set_cons_zero, List.set_cons_succ]
        refine one_ (i := 13) (N := some 44) #[true, true, true, true, true, true, true, true, true, true, true, true, true, true, false, false, false, false, false, false, false, false, false, false, false, false, false, false, false] rfl rfl (by kernel_rfl) (by decide) (fun K hK => ?_)
        go_simp
        refine (same_walk y y _ _ _ _ _ _ HYW.out.2.2 HYW.out.2.2 _ (by first | exact HRG.out.below hq | exact HRG.out.below (below_drew hq) | exact HRG.out.below (below_drew (below_drew hq))) (by first | exact HRY.out.below hq | exact HRY.out.below (below_drew hq) | exact HRY.out.below (below_drew (below_drew hq)))).mono ?_
        rintro e wN ⟨rfl, hbN⟩
        rw [eqb_self]
        have hq : Below wz.heap.size wz wN := (by first | exact below_then hq hq.size hbN | exact below_then (below_drew hq) (below_drew hq).size hbN | exact below_then (below_drew (below_drew hq)) (below_drew (below_drew hq)).size hbN)
        have kb := HKB.out _ (below_then BZ.out BZ.out.size hq)
        try go_wp2_with fail
        refine hK.out _ _ ?_ (fun hHeld2 => ?_)
        · (try dsimp only)
          first | with_reducible exact hHeld | exact ⟨pw_cell_below hq d0, pw_cell_below hq d1, pw_cell_below hq d2, pw_cell_below hq d3, pw_cell_below hq d4, pw_cell_below hq d5, pw_cell_below hq a0, pw_cell_below hq a1, pw_cell_below hq a2, pw_cell_below hq a3, pw_cell_below hq a4, pw_cell_below hq a5, pw_cell_below hq b0, pw_cell_below hq b1, pw_cell_below hq b2, pw_cell_below hq b3, pw_cell_below hq b4, pw_cell_below hq b5, kb⟩
        clear hHeld hK K
        have hHeld := hHeld2
        clear hHeld2
        try simp only [Act.put, List.setIfInBounds_toArray, List.set_cons_zero, List.set_cons_succ]
        refine pure_ (i := 14) (N := some 45) (v := ?_) (a' := ?_) #[true, true, true, true, true, true, true, true, true, true, true, true, true, true, true, false, false, false, false, false, false, false, false, false, false, false, false, false, false] rfl rfl (by kernel_rfl) (fun _ _ _ h => h) (Or.inl ⟨by rfl, ?_⟩) ?_ ?_
        rotate_left
        · intro w'
          go_simp
          (try with_reducible rfl)
        rotate_left
        · simp only [Act.put, List.setIfInBounds_toArray, List.set_cons_zero, List.set_cons_succ]
          rfl
        refine pure_ (i := 15) (N := some 46) (v := ?_) (a' := ?_) #[true, true, true, true, true, true, true, true, true, true, true, true, true, true, true, true, false, false, false, false, false, false, false, false, false, false, false, false, false] rfl rfl (by kernel_rfl) (fun _ _ _ h => h) (Or.inl ⟨by rfl, ?_⟩) ?_ ?_
        rotate_left
        · intro w'
          go_simp
          (try with_reducible rfl)
        rotate_left
        · simp only [Act.put, List.setIfInBounds_toArray, List.set_cons_zero, List.set_cons_succ]
          rfl
        refine pure_ (i := 16) (N := some 47) (v := ?_) (a' := ?_) #[true, true, true, true, true, true, true, true, true, true, true, true, true, true, true, true, true, false, false, false, false, false, false, false, false, false, false, false, false] rfl rfl (by kernel_rfl) (fun _ _ _ h => h) (Or.inl ⟨by rfl, ?_⟩) ?_ ?_
        rotate_left
        · intro w'
          go_simp
          (try with_reducible rfl)
        rotate_left
        · simp only [Act.put, List.setIfInBounds_toArray, List.set_cons_zero, List.set_cons_succ]
          rfl
        refine pure_ (i := 17) (N := some 48) (v := ?_) (a' := ?_) #[true, true, true, true, true, true, true, true, true, true, true, true, true, true, true, true, true, true, false, false, false, false, false, false, false, false, false, false, false] rfl rfl (by kernel_rfl) (fun _ _ _ h => h) (Or.inl ⟨by rfl, ?_⟩) ?_ ?_
        rotate_left
        · intro w'
          go_simp
          (try with_reducible rfl)
        rotate_left
        · simp only [Act.put, List.setIfInBounds_toArray, List.set_cons_zero, List.set_cons_succ]
          rfl
        refine pure_ (i := 18) (N := some 49) (v := ?_) (a' := ?_) #[true, true, true, true, true, true, true, true, true, true, true, true, true, true, true, true, true, true, true, false, false, false, false, false, false, false, false, false, false] rfl rfl (by kernel_rfl) (fun _ _ _ h => h) (Or.inl ⟨by rfl, ?_⟩) ?_ ?_
        rotate_left
        · intro w'
          go_simp
          (try with_reducible rfl)
        rotate_left
        · simp only [Act.put, List.setIfInBounds_toArray, List.set_cons_zero, List.set_cons_succ]
          rfl
        refine pure_ (i := 19) (N := some 50) (v := ?_) (a' := ?_) #[true, true, true, true, true, true, true, true, true, true, true, true, true, true, true, true, true, true, true, true, false, false, false, false, false, false, false, false, false] rfl rfl (by kernel_rfl) (fun _ _ _ h => h) (Or.inl ⟨by rfl, ?_⟩) ?_ ?_
        rotate_left
        · intro w'
          go_simp
          (try with_reducible rfl)
        rotate_left
        · simp only [Act.put, List.setIfInBounds_toArray, List.set_cons_zero, List.set_cons_succ]
          rfl
        refine pure_ (i := 20) (N := some 51) (v := undef) (a' := ?_) #[true, true, true, true, true, true, true, true, true, true, true, true, true, true, true, true, true, true, true, true, true, false, false, false, false, false, false, false, false] rfl rfl (by kernel_rfl) (fun _ _ _ h => h) (Or.inr ⟨by rfl, rfl⟩) ?_ ?_
        rotate_left
        · simp only [Act.put, List.setIfInBounds_toArray, List.set_cons_zero, List.set_cons_succ]
          rfl
        refine pure_ (i := 21) (N := some 52) (v := undef) (a' := ?_) #[true, true, true, true, true, true, true, true, true, true, true, true, true, true, true, true, true, true, true, true, true, true, false, false, false, false, false, false, false] rfl rfl (by kernel_rfl) (fun _ _ _ h => h) (Or.inr ⟨by rfl, rfl⟩) ?_ ?_
        rotate_left
        · simp only [Act.put, List.setIfInBounds_toArray, List.set_cons_zero, List.set_cons_succ]
          rfl
        refine pure_ (i := 22) (N := some 53) (v := undef) (a' := ?_) #[true, true, true, true, true, true, true, true, true, true, true, true, true, true, true, true, true, true, true, true, true, true, true, false, false, false, false, false, false] rfl rfl (by kernel_rfl) (fun _ _ _ h => h) (Or.inr ⟨by rfl, rfl⟩) ?_ ?_
        rotate_left
        · simp only [Act.put, List.setIfInBounds_toArray, List.set_cons_zero, List.set_cons_succ]
          rfl
        refine pure_ (i := 23) (N := some 54) (v := undef) (a' := ?_) #[true, true, true, true, true, true, true, true, true, true, true, true, true, true, true, true, true, true, true, true, true, true, true, true, false, false, false, false, false] rfl rfl (by kernel_rfl) (fun _ _ _ h => h) (Or.inr ⟨by rfl, rfl⟩) ?_ ?_
        rotate_left
        · simp only [Act.put, List.setIfInBounds_toArray, List.set_cons_zero, List.set_cons_succ]
          rfl
        refine pure_ (i := 24) (N := some 55) (v := undef) (a' := ?_) #[true, true, true, true, true, true, true, true, true, true, true, true, true, true, true, true, true, true, true, true, true, true, true, true, true, false, false, false, false] rfl rfl (by kernel_rfl) (fun _ _ _ h => h) (Or.inr ⟨by rfl, rfl⟩) ?_ ?_
        rotate_left
        · simp only [Act.put, List.setIfInBounds_toArray, List.set_cons_zero, List.set_cons_succ]
          rfl
        refine pure_ (i := 25) (N := some 56) (v := undef) (a' := ?_) #[true, true, true, true, true, true, true, true, true, true, true, true, true, true, true, true, true, true, true, true, true, true, true, true, true, true, false, false, false] rfl rfl (by kernel_rfl) (fun _ _ _ h => h) (Or.inr ⟨by rfl, rfl⟩) ?_ ?_
        rotate_left
        · simp only [Act.put, List.setIfInBounds_toArray, List.set_cons_zero, List.set_cons_succ]
          rfl
        refine pure_ (i := 26) (N := some 57) (v := ?_) (a' := ?_) #[true, true, true, true, true, true, true, true, true, true, true, true, true, true, true, true, true, true, true, true, true, true, true, true, true, true, true, false, false] rfl rfl (by kernel_rfl) (fun _ _ _ h => h) (Or.inl ⟨by rfl, ?_⟩) ?_ ?_
        rotate_left
        · intro w'
          go_simp
          (try with_reducible rfl)
        rotate_left
        · simp only [Act.put, List.setIfInBounds_toArray, List.set_cons_zero, List.set_cons_succ]
          rfl
        refine pure_ (i := 27) (N := some 58) (v := ?_) (a' := ?_) #[true, true, true, true, true, true, true, true, true, true, true, true, true, true, true, true, true, true, true, true, true, true, true, true, true, true, true, true, false] rfl rfl (by kernel_rfl) (fun _ _ _ h => h) (Or.inl ⟨by rfl, ?_⟩) ?_ ?_
        rotate_left
        · intro w'
          go_simp
          (try with_reducible rfl)
        rotate_left
        · simp only [Act.put, List.setIfInBounds_toArray, List.set_cons_zero, List.set_cons_succ]
          rfl
        refine pure_ (i := 28) (N := some 4) (v := ?_) (a' := ?_) #[true, true, true, true, true, true, true, true, true, true, true, true, true, true, true, true, true, true, true, true, true, true, true, true, true, true, true, true, true] rfl rfl (by kernel_rfl) (fun _ _ _ h => h) (Or.inl ⟨by rfl, ?_⟩) ?_ ?_
        rotate_left
        · intro w'
          go_simp
          (try with_reducible rfl)
        rotate_left
        · simp only [Act.put, List.setIfInBounds_toArray, List.set_cons_zero, List.set_cons_succ]
          rfl
        refine wpAnyLast_done (by kernel_rfl) ?_ _
        go_wp2_with fail
        go_ret
        exact ⟨by first | rfl | simp, by first | exact below_then BZ.out BZ.out.size hq | exact below_then BZ.out BZ.out.size (below_drew hq) | exact below_then BZ.out BZ.out.size (below_drew (below_drew hq))⟩
    · exact absurd ⟨y, HGOOD.out, HYW.out, rfl⟩ hnx
  · have HGB := Lib.hid (decide_eq_false hgb)
    go_enter Try.func5, Try.ntmps5
    go_wp2_with (go_at_call 8; refine (awake_walk _).mono ?_; rintro e w1 ⟨rfl, hb1⟩; have B1 := Lib.hid (HBX.out _ hb1); clear hb1; obtain ⟨x0, x1, x2, x3, x4, x5⟩ := box_cells B1.out.2)
    refine (encode_bad _ _ _ _ _ A' n' c' (by omega) hgb _).mono ?_
    rintro e w3 ⟨rfl, hb3⟩
    have B3 := Lib.hid (And.intro (below_then B1.out.1 B1.out.1.size hb3) (heap_keep hb3 B1.out.2))
    clear hb3 B1 x0 x1 x2 x3 x4 x5 hgb
    go_wp2_with fail
    refine (decode_any none 0 0 [] _ (reads_nil _ _) (by simp)).mono ?_
    rintro e w4 ⟨hd, hb4⟩
    have B4 := Lib.hid (And.intro (below_then B3.out.1 B3.out.1.size hb4) (heap_keep hb4 B3.out.2))
    clear hb4 B3
    obtain ⟨-, rfl⟩ := hd.resolve_left (fun ⟨x, hx, _⟩ => no_frame_len (xs := []) (.inl (by decide)) ⟨x, hx⟩)
    have HRG0 := Lib.hid (reads_nil W .u8)
    go_wp2_with fail
    have B5 := Lib.hid (show Below W.heap.size W (w4.alloc (.cells (frC 0 0 0 0 0 (.slice none 0 0)) 26)) from B4.out.1.alloc B4.out.1.size _)
    refine (decode_any A n c xs _ (HL.out.below B5.out) HW.out).mono ?_
    rintro e w5 ⟨hd, hb5⟩
    rcases hd with ⟨z, hz, Ah, ch, rfl, hrh⟩ | ⟨hnz, rfl⟩
    · have ZF := Lib.hid (show (w5.alloc (.cells (frC z.k z.f z.t z.v z.s (.slice Ah z.b.length ch)) 26)).heap[W.heap.size]? = some (.cells (frC y.k y.f y.t y.v y.s (.slice A' n' c')) 26 (0, 0)) from heap_alloc_keep _ (heap_keep hb5 (heap_alloc_keep _ B4.out.2)))
      have ZG := Lib.hid (show (w5.alloc (.cells (frC z.k z.f z.t z.v z.s (.slice Ah z.b.length ch)) 26)).heap[w4.heap.size]? = some (.cells (frC 0 0 0 0 0 (.slice none 0 0)) 26 (0, 0)) from heap_alloc_keep _ (heap_keep hb5 (heap_alloc_new w4 _)))
      have ZH := Lib.hid (show (w5.alloc (.cells (frC z.k z.f z.t z.v z.s (.slice Ah z.b.length ch)) 26)).heap[w5.heap.size]? = some (.cells (frC z.k z.f z.t z.v z.s (.slice Ah z.b.length ch)) 26 (0, 0)) from heap_alloc_new _ _)
      have BZ := Lib.hid (show Below W.heap.size W (w5.alloc (.cells (frC z.k z.f z.t z.v z.s (.slice Ah z.b.length ch)) 26)) from (below_then B5.out B5.out.size hb5).alloc (below_then B5.out B5.out.size hb5).size _)
      have HRG := HRG0
      have HRH := Lib.hid (show ReadsInt (w5.alloc (.cells (frC z.k z.f z.t z.v z.s (.slice Ah z.b.length ch)) 26)) .u8 Ah z.b.length z.b from rd_alloc hrh _)
      have HZI := Lib.hid hz
      clear hz hrh
      clear hb5
      go_wp2_with fail
      generalize hwz : (w5.alloc (.cells (frC z.k z.f z.t z.v z.s (.slice Ah z.b.length ch)) 26)) = wz at *
      obtain ⟨d0, d1, d2, d3, d4, d5⟩ := box_cells ZF.out
      obtain ⟨a0, a1, a2, a3, a4, a5⟩ := box_cells ZG.out
      obtain ⟨b0, b1, b2, b3, b4, b5⟩ := box_cells ZH.out
      have HRY := Lib.hid (HY.out.rd.below BZ.out)
      clear hwz ZF ZG ZH B4 B5
      have hq : Below wz.heap.size wz wz := Below.refl _ _
      have kb := HKB.out _ (below_drew BZ.out)
      refine start_ (n := 29) (S := fun w' => w'.cell? ⟨W.heap.size, 0, none⟩ = some (.int .i64 y.k) ∧ w'.cell? ⟨W.heap.size, 1, none⟩ = some (.int .i64 y.f) ∧ w'.cell? ⟨W.heap.size, 2, none⟩ = some (.int .i64 y.t) ∧ w'.cell? ⟨W.heap.size, 3, none⟩ = some (.int .u32 y.v) ∧ w'.cell? ⟨W.heap.size, 4, none⟩ = some (.int .u32 y.s) ∧ w'.cell? ⟨W.heap.size, 5, none⟩ = some (.slice A' n' c') ∧ w'.cell? ⟨w4.heap.size, 0, none⟩ = some (.int .i64 0) ∧ w'.cell? ⟨w4.heap.size, 1, none⟩ = some (.int .i64 0) ∧ w'.cell? ⟨w4.heap.size, 2, none⟩ = some (.int .i64 0) ∧ w'.cell? ⟨w4.heap.size, 3, none⟩ = some (.int .u32 0) ∧ w'.cell? ⟨w4.heap.size, 4, none⟩ = some (.int .u32 0) ∧ w'.cell? ⟨w4.heap.size, 5, none⟩ = some (.slice none 0 0) ∧ w'.cell? ⟨w5.heap.size, 0, none⟩ = some (.int .i64 z.k) ∧ w'.cell? ⟨w5.heap.size, 1, none⟩ = some (.int .i64 z.f) ∧ w'.cell? ⟨w5.heap.size, 2, none⟩ = some (.int .i64 z.t) ∧ w'.cell? ⟨w5.heap.size, 3, none⟩ = some (.int .u32 z.v) ∧ w'.cell? ⟨w5.heap.size, 4, none⟩ = some (.int .u32 z.s) ∧ w'.cell? ⟨w5.heap.size, 5, none⟩ = some (.slice Ah z.b.length ch) ∧ (convert 24 9 (.slice A n c)).run Try.prog w' = .ok (.string S0) w') (ds := []) #[false, false, false, false, false, false, false, false, false, false, false, false, false, false, false, false, false, false, false, false, false, false, false, false, false, false, false, false, false] (by kernel_rfl) rfl rfl (⟨d0, d1, d2, d3, d4, d5, a0, a1, a2, a3, a4, a5, b0, b1, b2, b3, b4, b5, kb⟩) (fun hHeld => ?_)
      refine pure_ (i := 0) (N := some 31) (v := ?_) (a' := ?_) #[true, false, false, false, false, false, false, false, false, false, false, false, false, false, false, false, false, false, false, false, false, false, false, false, false, false, false, false, false] rfl rfl (by kernel_rfl) (fun _ _ _ h => h) (Or.inl ⟨by rfl, ?_⟩) ?_ ?_
      rotate_left
      · intro w'
        go_simp
        (try with_reducible rfl)
      rotate_left
      · simp only [Act.put, List.setIfInBounds_toArray, List.set_cons_zero, List.set_cons_succ]
        rfl
      refine pure_ (i := 1) (N := some 32) (v := ?_) (a' := ?_) #[true, true, false, false, false, false, false, false, false, false, false, false, false, false, false, false, false, false, false, false, false, false, false, false, false, false, false, false, false] rfl rfl (by kernel_rfl) (fun _ _ _ h => h) (Or.inl ⟨by rfl, ?_⟩) ?_ ?_
      rotate_left
      · intro w'
        go_simp
        (try with_reducible rfl)
      rotate_left
      · simp only [Act.put, List.setIfInBounds_toArray, List.set_cons_zero, List.set_cons_succ]
        rfl
      refine take_ (i := 2) (N := some 33) (v := ?_) (a' := ?_) #[true, true, true, false, false, false, false, false, false, false, false, false, false, false, false, false, false, false, false, false, false, false, false, false, false, false, false, false, false] rfl rfl (by kernel_rfl) (fun _ _ _ h => h) (Or.inl ⟨by rfl, ?_⟩) hHeld ?_ ?_
      rotate_left
      · rintro w' ⟨s0, s1, s2, s3, s4, s5, s6, s7, s8, s9, s10, s11, s12, s13, s14, s15, s16, s17, s18⟩
        go_simp
        (try with_reducible rfl)
      rotate_left
      · simp only [Act.put, List.setIfInBounds_toArray, List.set_cons_zero, List.set_cons_succ]
        rfl
      refine one_ (i := 3) (N := some 34) #[true, true, true, true, false, false, false, false, false, false, false, false, false, false, false, false, false, false, false, false, false, false, false, false, false, false, false, false, false] rfl rfl (by kernel_rfl) (by decide) (fun K hK => ?_)
      go_simp
      refine (good_walk _ _ _ _ _ _ _ _ (by omega) _).mono ?_
      rintro e wN ⟨rfl, hwN⟩
      rw [HGB.out]
      have hq : Below wz.heap.size wz wN := (by rw [← hwN]; first | exact hq.alloc hq.size _ | exact (below_drew hq).alloc (below_drew hq).size _ | exact (below_drew (below_drew hq)).alloc (below_drew (below_drew hq)).size _)
      have kb := HKB.out _ (below_then BZ.out BZ.out.size hq)
      clear hwN
      try go_wp2_with fail
      refine hK.out _ _ ?_ (fun hHeld2 => ?_)
      · (try dsimp only)
        first | with_reducible exact hHeld | exact ⟨pw_cell_below hq d0, pw_cell_below hq d1, pw_cell_below hq d2, pw_cell_below hq d3, pw_cell_below hq d4, pw_cell_below hq d5, pw_cell_below hq a0, pw_cell_below hq a1, pw_cell_below hq a2, pw_cell_below hq a3, pw_cell_below hq a4, pw_cell_below hq a5, pw_cell_below hq b0, pw_cell_below hq b1, pw_cell_below hq b2, pw_cell_below hq b3, pw_cell_below hq b4, pw_cell_below hq b5, kb⟩
      clear hHeld hK K
      have hHeld := hHeld2
      clear hHeld2
      try simp only [Act.put, List.setIfInBounds_toArray, List.set_cons_zero, List.set_cons_succ]
      refine pure_ (i := 4) (N := some 35) (v := ?_) (a' := ?_) #[true, true, true, true, true, false, false, false, false, false, false, false, false, false, false, false, false, false, false, false, false, false, false, false, false, false, false, false, false] rfl rfl (by kernel_rfl) (fun _ _ _ h => h) (Or.inl ⟨by rfl, ?_⟩) ?_ ?_
      rotate_left
      · intro w'
        go_simp
        (try with_reducible rfl)
      rotate_left
      · simp only [Act.put, List.setIfInBounds_toArray, List.set_cons_zero, List.set_cons_succ]
        rfl
      refine pure_ (i := 5) (N := some 36) (v := ?_) (a' := ?_) #[true, true, true, true, true, true, false, false, false, false, false, false, false, false, false, false, false, false, false, false, false, false, false, false, false, false, false, false, false] rfl rfl (by kernel_rfl) (fun _ _ _ h => h) (Or.inl ⟨by rfl, ?_⟩) ?_ ?_
      rotate_left
      · intro w'
        go_simp
        (try with_reducible rfl)
      rotate_left
      · simp only [Act.put, List.setIfInBounds_toArray, List.set_cons_zero, List.set_cons_succ]
        rfl
      refine pure_ (i := 6) (N := some 37) (v := ?_) (a' := ?_) #[true, true, true, true, true, true, true, false, false, false, false, false, false, false, false, false, false, false, false, false, false, false, false, false, false, false, false, false, false] rfl rfl (by kernel_rfl) (fun _ _ _ h => h) (Or.inl ⟨by rfl, ?_⟩) ?_ ?_
      rotate_left
      · intro w'
        go_simp
        (try with_reducible rfl)
      rotate_left
      · simp only [Act.put, List.setIfInBounds_toArray, List.set_cons_zero, List.set_cons_succ]
        rfl
      refine pure_ (i := 7) (N := some 38) (v := ?_) (a' := ?_) #[true, true, true, true, true, true, true, true, false, false, false, false, false, false, false, false, false, false, false, false, false, false, false, false, false, false, false, false, false] rfl rfl (by kernel_rfl) (fun _ _ _ h => h) (Or.inl ⟨by rfl, ?_⟩) ?_ ?_
      rotate_left
      · intro w'
        go_simp
        (try with_reducible rfl)
      rotate_left
      · simp only [Act.put, List.setIfInBounds_toArray, List.set_cons_zero, List.set_cons_succ]
        rfl
      refine pure_ (i := 8) (N := some 39) (v := ?_) (a' := ?_) #[true, true, true, true, true, true, true, true, true, false, false, false, false, false, false, false, false, false, false, false, false, false, false, false, false, false, false, false, false] rfl rfl (by kernel_rfl) (fun _ _ _ h => h) (Or.inl ⟨by rfl, ?_⟩) ?_ ?_
      rotate_left
      · intro w'
        go_simp
        (try with_reducible rfl)
      rotate_left
      · simp only [Act.put, List.setIfInBounds_toArray, List.set_cons_zero, List.set_cons_succ]
        rfl
      refine pure_ (i := 9) (N := some 40) (v := undef) (a' := ?_) #[true, true, true, true, true, true, true, true, true, true, false, false, false, false, false, false, false, false, false, false, false, false, false, false, false, false, false, false, false] rfl rfl (by kernel_rfl) (fun _ _ _ h => h) (Or.inr ⟨by rfl, rfl⟩) ?_ ?_
      rotate_left
      · simp only [Act.put, List.setIfInBounds_toArray, List.set_cons_zero, List.set_cons_succ]
        rfl
      refine pure_ (i := 10) (N := some 41) (v := undef) (a' := ?_) #[true, true, true, true, true, true, true, true, true, true, true, false, false, false, false, false, false, false, false, false, false, false, false, false, false, false, false, false, false] rfl rfl (by kernel_rfl) (fun _ _ _ h => h) (Or.inr ⟨by rfl, rfl⟩) ?_ ?_
      rotate_left
      · simp only [Act.put, List.setIfInBounds_toArray, List.set_cons_zero, List.set_cons_succ]
        rfl
      refine pure_ (i := 11) (N := some 42) (v := undef) (a' := ?_) #[true, true, true, true, true, true, true, true, true, true, true, true, false, false, false, false, false, false, false, false, false, false, false, false, false, false, false, false, false] rfl rfl (by kernel_rfl) (fun _ _ _ h => h) (Or.inr ⟨by rfl, rfl⟩) ?_ ?_
      rotate_left
      · simp only [Act.put, List.setIfInBounds_toArray, List.set_cons_zero, List.set_cons_succ]
        rfl
      refine pure_ (i := 12) (N := some 43) (v := undef) (a' := ?_) #[true, true, true, true, true, true, true, true, true, true, true, true, true, false, false, false, false, false, false, false, false, false, false, false, false, false, false, false, false] rfl rfl (by kernel_rfl) (fun _ _ _ h => h) (Or.inr ⟨by rfl, rfl⟩) ?_ ?_
      rotate_left
      · simp only [Act.put, List.setIfInBounds_toArray, List.set_cons_zero, List.set_cons_succ]
        rfl
      refine pure_ (i := 13) (N := some 44) (v := undef) (a' := ?_) #[true, true, true, true, true, true, true, true, true, true, true, true, true, true, false, false, false, false, false, false, false, false, false, false, false, false, false, false, false] rfl rfl (by kernel_rfl) (fun _ _ _ h => h) (Or.inr ⟨by rfl, rfl⟩) ?_ ?_
      rotate_left
      · simp only [Act.put, List.setIfInBounds_toArray, List.set_cons_zero, List.set_cons_succ]
        rfl
      refine pure_ (i := 14) (N := some 45) (v := ?_) (a' := ?_) #[true, true, true, true, true, true, true, true, true, true, true, true, true, true, true, false, false, false, false, false, false, false, false, false, false, false, false, false, false] rfl rfl (by kernel_rfl) (fun _ _ _ h => h) (Or.inl ⟨by rfl, ?_⟩) ?_ ?_
      rotate_left
      · intro w'
        go_simp
        (try with_reducible rfl)
      rotate_left
      · simp only [Act.put, List.setIfInBounds_toArray, List.set_cons_zero, List.set_cons_succ]
        rfl
      refine pure_ (i := 15) (N := some 46) (v := ?_) (a' := ?_) #[true, true, true, true, true, true, true, true, true, true, true, true, true, true, true, true, false, false, false, false, false, false, false, false, false, false, false, false, false] rfl rfl (by kernel_rfl) (fun _ _ _ h => h) (Or.inl ⟨by rfl, ?_⟩) ?_ ?_
      rotate_left
      · intro w'
        go_simp
        (try with_reducible rfl)
      rotate_left
      · simp only [Act.put, List.setIfInBounds_toArray, List.set_cons_zero, List.set_cons_succ]
        rfl
      refine pure_ (i := 16) (N := some 47) (v := ?_) (a' := ?_) #[true, true, true, true, true, true, true, true, true, true, true, true, true, true, true, true, true, false, false, false, false, false, false, false, false, false, false, false, false] rfl rfl (by kernel_rfl) (fun _ _ _ h => h) (Or.inl ⟨by rfl, ?_⟩) ?_ ?_
      rotate_left
      · intro w'
        go_simp
        (try with_reducible rfl)
      rotate_left
      · simp only [Act.put, List.setIfInBounds_toArray, List.set_cons_zero, List.set_cons_succ]
        rfl
      refine pure_ (i := 17) (N := some 48) (v := ?_) (a' := ?_) #[true, true, true, true, true, true, true, true, true, true, true, true, true, true, true, true, true, true, false, false, false, false, false, false, false, false, false, false, false] rfl rfl (by kernel_rfl) (fun _ _ _ h => h) (Or.inl ⟨by rfl, ?_⟩) ?_ ?_
      rotate_left
      · intro w'
        go_simp
        (try with_reducible rfl)
      rotate_left
      · simp only [Act.put, List.setIfInBounds_toArray, List.set_cons_zero, List.set_cons_succ]
        rfl
      refine pure_ (i := 18) (N := some 49) (v := ?_) (a' := ?_) #[true, true, true, true, true, true, true, true, true, true, true, true, true, true, true, true, true, true, true, false, false, false, false, false, false, false, false, false, false] rfl rfl (by kernel_rfl) (fun _ _ _ h => h) (Or.inl ⟨by rfl, ?_⟩) ?_ ?_
      rotate_left
      · intro w'
        go_simp
        (try with_reducible rfl)
      rotate_left
      · simp only [Act.put, List.setIfInBounds_toArray, List.set_cons_zero, List.set_cons_succ]
        rfl
      refine pure_ (i := 19) (N := some 50) (v := ?_) (a' := ?_) #[true, true, true, true, true, true, true, true, true, true, true, true, true, true, true, true, true, true, true, true, false, false, false, false, false, false, false, false, false] rfl rfl (by kernel_rfl) (fun _ _ _ h => h) (Or.inl ⟨by rfl, ?_⟩) ?_ ?_
      rotate_left
      · intro w'
        go_simp
        (try with_reducible rfl)
      rotate_left
      · simp only [Act.put, List.setIfInBounds_toArray, List.set_cons_zero, List.set_cons_succ]
        rfl
      refine take_ (i := 20) (N := some 51) (v := ?_) (a' := ?_) #[true, true, true, true, true, true, true, true, true, true, true, true, true, true, true, true, true, true, true, true, true, false, false, false, false, false, false, false, false] rfl rfl (by kernel_rfl) (fun _ _ _ h => h) (Or.inl ⟨by rfl, ?_⟩) hHeld ?_ ?_
      rotate_left
      · rintro w' ⟨s0, s1, s2, s3, s4, s5, s6, s7, s8, s9, s10, s11, s12, s13, s14, s15, s16, s17, s18⟩
        go_simp
        (try with_reducible rfl)
      rotate_left
      · simp only [Act.put, List.setIfInBounds_toArray, List.set_cons_zero, List.set_cons_succ]
        rfl
      refine pure_ (i := 23) (N := some 54) (v := ?_) (a' := ?_) #[true, true, true, true, true, true, true, true, true, true, true, true, true, true, true, true, true, true, true, true, true, false, false, true, false, false, false, false, false] rfl rfl (by kernel_rfl) (fun _ _ _ h => h) (Or.inl ⟨by rfl, ?_⟩) ?_ ?_
      rotate_left
      · intro w'
        go_simp
        (try with_reducible rfl)
      rotate_left
      · simp only [Act.put, List.setIfInBounds_toArray, List.set_cons_zero, List.set_cons_succ]
        rfl
      refine take_ (i := 24) (N := some 55) (v := ?_) (a' := ?_) #[true, true, true, true, true, true, true, true, true, true, true, true, true, true, true, true, true, true, true, true, true, false, false, true, true, false, false, false, false] rfl rfl (by kernel_rfl) (fun _ _ _ h => h) (Or.inl ⟨by rfl, ?_⟩) hHeld ?_ ?_
      rotate_left
      · rintro w' ⟨s0, s1, s2, s3, s4, s5, s6, s7, s8, s9, s10, s11, s12, s13, s14, s15, s16, s17, s18⟩
        go_simp
        (try with_reducible rfl)
      rotate_left
      · simp only [Act.put, List.setIfInBounds_toArray, List.set_cons_zero, List.set_cons_succ]
        rfl
      refine one_ (i := 21) (N := some 52) #[true, true, true, true, true, true, true, true, true, true, true, true, true, true, true, true, true, true, true, true, true, true, false, true, true, false, false, false, false] rfl rfl (by kernel_rfl) (by decide) (fun K hK => ?_)
      go_simp
      refine (encode_walk z HZI.out.1 HZI.out.2.1 Ah z.b.length ch _ (by first | exact HRH.out.below hq | exact HRH.out.below (below_drew hq) | exact HRH.out.below (below_drew (below_drew hq)))).mono ?_
      rintro e wN ⟨A6, c6, rfl, ho6, hbN⟩
      have hq : Below wz.heap.size wz wN := (by first | exact below_then hq hq.size hbN | exact below_then (below_drew hq) (below_drew hq).size hbN | exact below_then (below_drew (below_drew hq)) (below_drew (below_drew hq)).size hbN)
      have kb := HKB.out _ (below_then BZ.out BZ.out.size hq)
      have kx : (convert 24 9 (.slice A6 (19 + z.b.length) c6)).run Try.prog wN = .ok (.string S0) wN := (by rw [HS0.out, ← HZI.out.2.2]; exact str_of (own_info ho6).2.2.2.1)
      clear ho6
      try go_wp2_with fail
      refine hK.out _ _ ?_ (fun hHeld2 => ?_)
      · (try dsimp only)
        first | with_reducible exact hHeld | exact ⟨pw_cell_below hq d0, pw_cell_below hq d1, pw_cell_below hq d2, pw_cell_below hq d3, pw_cell_below hq d4, pw_cell_below hq d5, pw_cell_below hq a0, pw_cell_below hq a1, pw_cell_below hq a2, pw_cell_below hq a3, pw_cell_below hq a4, pw_cell_below hq a5, pw_cell_below hq b0, pw_cell_below hq b1, pw_cell_below hq b2, pw_cell_below hq b3, pw_cell_below hq b4, pw_cell_below hq b5, kb⟩
      clear hHeld hK K
      have hHeld := hHeld2
      clear hHeld2
      try simp only [Act.put, List.setIfInBounds_toArray, List.set_cons_zero, List.set_cons_succ]
      refine one_ (i := 22) (N := some 53) #[true, true, true, true, true, true, true, true, true, true, true, true, true, true, true, true, true, true, true, true, true, true, true, true, true, false, false, false, false] rfl rfl (by kernel_rfl) (by decide) (fun K hK => ?_)
      go_simp
      refine hK.out _ _ ?_ (fun hHeld2 => ?_)
      · (try dsimp only)
        first | with_reducible exact hHeld | exact ⟨pw_cell_below hq d0, pw_cell_below hq d1, pw_cell_below hq d2, pw_cell_below hq d3, pw_cell_below hq d4, pw_cell_below hq d5, pw_cell_below hq a0, pw_cell_below hq a1, pw_cell_below hq a2, pw_cell_below hq a3, pw_cell_below hq a4, pw_cell_below hq a5, pw_cell_below hq b0, pw_cell_below hq b1, pw_cell_below hq b2, pw_cell_below hq b3, pw_cell_below hq b4, pw_cell_below hq b5, kb⟩
      clear hHeld hK K
      have hHeld := hHeld2
      clear hHeld2
      try simp only [Act.put, List.setIfInBounds_toArray, List.set_cons_zero, List.set_cons_succ]
      refine pure_ (i := 25) (N := some 56) (v := ?_) (a' := ?_) #[true, true, true, true, true, true, true, true, true, true, true, true, true, true, true, true, true, true, true, true, true, true, true, true, true, true, false, false, false] rfl rfl (by kernel_rfl) (fun _ _ _ h => h) (Or.inl ⟨by rfl, ?_⟩) ?_ ?_
      rotate_left
      · intro w'
        go_simp
        (try with_reducible rfl)
      rotate_left
      · simp only [Act.put, List.setIfInBounds_toArray, List.set_cons_zero, List.set_cons_succ]
        rfl
      refine pure_ (i := 26) (N := some 57) (v := ?_) (a' := ?_) #[true, true, true, true, true, true, true, true, true, true, true, true, true, true, true, true, true, true, true, true, true, true, true, true, true, true, true, false, false] rfl rfl (by kernel_rfl) (fun _ _ _ h => h) (Or.inl ⟨by rfl, ?_⟩) ?_ ?_
      rotate_left
      · intro w'
        go_simp
        (try with_reducible rfl)
      rotate_left
      · simp only [Act.put, List.setIfInBounds_toArray, List.set_cons_zero, List.set_cons_succ]
        rfl
      refine pure_ (i := 27) (N := some 58) (v := ?_) (a' := ?_) #[true, true, true, true, true, true, true, true, true, true, true, true, true, true, true, true, true, true, true, true, true, true, true, true, true, true, true, true, false] rfl rfl (by kernel_rfl) (fun _ _ _ h => h) (Or.inl ⟨by rfl, ?_⟩) ?_ ?_
      rotate_left
      · intro w'
        go_simp
        (try with_reducible rfl)
      rotate_left
      · simp only [Act.put, List.setIfInBounds_toArray, List.set_cons_zero, List.set_cons_succ]
        rfl
      refine pure_ (i := 28) (N := some 4) (v := ?_) (a' := ?_) #[true, true, true, true, true, true, true, true, true, true, true, true, true, true, true, true, true, true, true, true, true, true, true, true, true, true, true, true, true] rfl rfl (by kernel_rfl) (fun _ _ _ h => h) (Or.inl ⟨by rfl, ?_⟩) ?_ ?_
      rotate_left
      · intro w'
        go_simp
        (try with_reducible rfl)
      rotate_left
      · simp only [Act.put, List.setIfInBounds_toArray, List.set_cons_zero, List.set_cons_succ]
        rfl
      refine wpAnyLast_done (by kernel_rfl) ?_ _
      go_wp2_with fail
      go_ret
      exact ⟨by first | rfl | simp, by first | exact below_then BZ.out BZ.out.size hq | exact below_then BZ.out BZ.out.size (below_drew hq) | exact below_then BZ.out BZ.out.size (below_drew (below_drew hq))⟩
    · have ZF := Lib.hid (show (w5.alloc (.cells (frC 0 0 0 0 0 (.slice none 0 0)) 26)).heap[W.heap.size]? = some (.cells (frC y.k y.f y.t y.v y.s (.slice A' n' c')) 26 (0, 0)) from heap_alloc_keep _ (heap_keep hb5 (heap_alloc_keep _ B4.out.2)))
      have ZG := Lib.hid (show (w5.alloc (.cells (frC 0 0 0 0 0 (.slice none 0 0)) 26)).heap[w4.heap.size]? = some (.cells (frC 0 0 0 0 0 (.slice none 0 0)) 26 (0, 0)) from heap_alloc_keep _ (heap_keep hb5 (heap_alloc_new w4 _)))
      have ZH := Lib.hid (show (w5.alloc (.cells (frC 0 0 0 0 0 (.slice none 0 0)) 26)).heap[w5.heap.size]? = some (.cells (frC 0 0 0 0 0 (.slice none 0 0)) 26 (0, 0)) from heap_alloc_new _ _)
      have BZ := Lib.hid (show Below W.heap.size W (w5.alloc (.cells (frC 0 0 0 0 0 (.slice none 0 0)) 26)) from (below_then B5.out B5.out.size hb5).alloc (below_then B5.out B5.out.size hb5).size _)
      have HRG := HRG0
      clear hnz
      clear hb5
      go_wp2_with fail
      generalize hwz : (w5.alloc (.cells (frC 0 0 0 0 0 (.slice none 0 0)) 26)) = wz at *
      obtain ⟨d0, d1, d2, d3, d4, d5⟩ := box_cells ZF.out
      obtain ⟨a0, a1, a2, a3, a4, a5⟩ := box_cells ZG.out
      obtain ⟨b0, b1, b2, b3, b4, b5⟩ := box_cells ZH.out
      have HRY := Lib.hid (HY.out.rd.below BZ.out)
      clear hwz ZF ZG ZH B4 B5
      have hq : Below wz.heap.size wz wz := Below.refl _ _
      have kb := HKB.out _ (below_drew BZ.out)
      refine start_ (n := 29) (S := fun w' => w'.cell? ⟨W.heap.size, 0, none⟩ = some (.int .i64 y.k) ∧ w'.cell? ⟨W.heap.size, 1, none⟩ = some (.int .i64 y.f) ∧ w'.cell? ⟨W.heap.size, 2, none⟩ = some (.int .i64 y.t) ∧ w'.cell? ⟨W.heap.size, 3, none⟩ = some (.int .u32 y.v) ∧ w'.cell? ⟨W.heap.size, 4, none⟩ = some (.int .u32 y.s) ∧ w'.cell? ⟨W.heap.size, 5, none⟩ = some (.slice A' n' c') ∧ w'.cell? ⟨w4.heap.size, 0, none⟩ = some (.int .i64 0) ∧ w'.cell? ⟨w4.heap.size, 1, none⟩ = some (.int .i64 0) ∧ w'.cell? ⟨w4.heap.size, 2, none⟩ = some (.int .i64 0) ∧ w'.cell? ⟨w4.heap.size, 3, none⟩ = some (.int .u32 0) ∧ w'.cell? ⟨w4.heap.size, 4, none⟩ = some (.int .u32 0) ∧ w'.cell? ⟨w4.heap.size, 5, none⟩ = some (.slice none 0 0) ∧ w'.cell? ⟨w5.heap.size, 0, none⟩ = some (.int .i64 0) ∧ w'.cell? ⟨w5.heap.size, 1, none⟩ = some (.int .i64 0) ∧ w'.cell? ⟨w5.heap.size, 2, none⟩ = some (.int .i64 0) ∧ w'.cell? ⟨w5.heap.size, 3, none⟩ = some (.int .u32 0) ∧ w'.cell? ⟨w5.heap.size, 4, none⟩ = some (.int .u32 0) ∧ w'.cell? ⟨w5.heap.size, 5, none⟩ = some (.slice none 0 0) ∧ (convert 24 9 (.slice A n c)).run Try.prog w' = .ok (.string S0) w') (ds := []) #[false, false, false, false, false, false, false, false, false, false, false, false, false, false, false, false, false, false, false, false, false, false, false, false, false, false, false, false, false] (by kernel_rfl) rfl rfl (⟨d0, d1, d2, d3, d4, d5, a0, a1, a2, a3, a4, a5, b0, b1, b2, b3, b4, b5, kb⟩) (fun hHeld => ?_)
      refine pure_ (i := 0) (N := some 31) (v := ?_) (a' := ?_) #[true, false, false, false, false, false, false, false, false, false, false, false, false, false, false, false, false, false, false, false, false, false, false, false, false, false, false, false, false] rfl rfl (by kernel_rfl) (fun _ _ _ h => h) (Or.inl ⟨by rfl, ?_⟩) ?_ ?_
      rotate_left
      · intro w'
        go_simp
        (try with_reducible rfl)
      rotate_left
      · simp only [Act.put, List.setIfInBounds_toArray, List.set_cons_zero, List.set_cons_succ]
        rfl
      refine pure_ (i := 1) (N := some 32) (v := ?_) (a' := ?_) #[true, true, false, false, false, false, false, false, false, false, false, false, false, false, false, false, false, false, false, false, false, false, false, false, false, false, false, false, false] rfl rfl (by kernel_rfl) (fun _ _ _ h => h) (Or.inl ⟨by rfl, ?_⟩) ?_ ?_
      rotate_left
      · intro w'
        go_simp
        (try with_reducible rfl)
      rotate_left
      · simp only [Act.put, List.setIfInBounds_toArray, List.set_cons_zero, List.set_cons_succ]
        rfl
      refine take_ (i := 2) (N := some 33) (v := ?_) (a' := ?_) #[true, true, true, false, false, false, false, false, false, false, false, false, false, false, false, false, false, false, false, false, false, false, false, false, false, false, false, false, false] rfl rfl (by kernel_rfl) (fun _ _ _ h => h) (Or.inl ⟨by rfl, ?_⟩) hHeld ?_ ?_
      rotate_left
      · rintro w' ⟨s0, s1, s2, s3, s4, s5, s6, s7, s8, s9, s10, s11, s12, s13, s14, s15, s16, s17, s18⟩
        go_simp
        (try with_reducible rfl)
      rotate_left
      · simp only [Act.put, List.setIfInBounds_toArray, List.set_cons_zero, List.set_cons_succ]
        rfl
      refine one_ (i := 3) (N := some 34) #[true, true, true, true, false, false, false, false, false, false, false, false, false, false, false, false, false, false, false, false, false, false, false, false, false, false, false, false, false] rfl rfl (by kernel_rfl) (by decide) (fun K hK => ?_)
      go_simp
      refine (good_walk _ _ _ _ _ _ _ _ (by omega) _).mono ?_
      rintro e wN ⟨rfl, hwN⟩
      rw [HGB.out]
      have hq : Below wz.heap.size wz wN := (by rw [← hwN]; first | exact hq.alloc hq.size _ | exact (below_drew hq).alloc (below_drew hq).size _ | exact (below_drew (below_drew hq)).alloc (below_drew (below_drew hq)).size _)
      have kb := HKB.out _ (below_then BZ.out BZ.out.size hq)
      clear hwN
      try go_wp2_with fail
      refine hK.out _ _ ?_ (fun hHeld2 => ?_)
      · (try dsimp only)
        first | with_reducible exact hHeld | exact ⟨pw_cell_below hq d0, pw_cell_below hq d1, pw_cell_below hq d2, pw_cell_below hq d3, pw_cell_below hq d4, pw_cell_below hq d5, pw_cell_below hq a0, pw_cell_below hq a1, pw_cell_below hq a2, pw_cell_below hq a3, pw_cell_below hq a4, pw_cell_below hq a5, pw_cell_below hq b0, pw_cell_below hq b1, pw_cell_below hq b2, pw_cell_below hq b3, pw_cell_below hq b4, pw_cell_below hq b5, kb⟩
      clear hHeld hK K
      have hHeld := hHeld2
      clear hHeld2
      try simp only [Act.put, List.setIfInBounds_toArray, List.set_cons_zero, List.set_cons_succ]
      refine pure_ (i := 4) (N := some 35) (v := ?_) (a' := ?_) #[true, true, true, true, true, false, false, false, false, false, false, false, false, false, false, false, false, false, false, false, false, false, false, false, false, false, false, false, false] rfl rfl (by kernel_rfl) (fun _ _ _ h => h) (Or.inl ⟨by rfl, ?_⟩) ?_ ?_
      rotate_left
      · intro w'
        go_simp
        (try with_reducible rfl)
      rotate_left
      · simp only [Act.put, List.setIfInBounds_toArray, List.set_cons_zero, List.set_cons_succ]
        rfl
      refine pure_ (i := 5) (N := some 36) (v := ?_) (a' := ?_) #[true, true, true, true, true, true, false, false, false, false, false, false, false, false, false, false, false, false, false, false, false, false, false, false, false, false, false, false, false] rfl rfl (by kernel_rfl) (fun _ _ _ h => h) (Or.inl ⟨by rfl, ?_⟩) ?_ ?_
      rotate_left
      · intro w'
        go_simp
        (try with_reducible rfl)
      rotate_left
      · simp only [Act.put, List.setIfInBounds_toArray, List.set_cons_zero, List.set_cons_succ]
        rfl
      refine pure_ (i := 6) (N := some 37) (v := ?_) (a' := ?_) #[true, true, true, true, true, true, true, false, false, false, false, false, false, false, false, false, false, false, false, false, false, false, false, false, false, false, false, false, false] rfl rfl (by kernel_rfl) (fun _ _ _ h => h) (Or.inl ⟨by rfl, ?_⟩) ?_ ?_
      rotate_left
      · intro w'
        go_simp
        (try with_reducible rfl)
      rotate_left
      · simp only [Act.put, List.setIfInBounds_toArray, List.set_cons_zero, List.set_cons_succ]
        rfl
      refine pure_ (i := 7) (N := some 38) (v := ?_) (a' := ?_) #[true, true, true, true, true, true, true, true, false, false, false, false, false, false, false, false, false, false, false, false, false, false, false, false, false, false, false, false, false] rfl rfl (by kernel_rfl) (fun _ _ _ h => h) (Or.inl ⟨by rfl, ?_⟩) ?_ ?_
      rotate_left
      · intro w'
        go_simp
        (try with_reducible rfl)
      rotate_left
      · simp only [Act.put, List.setIfInBounds_toArray, List.set_cons_zero, List.set_cons_succ]
        rfl
      refine pure_ (i := 8) (N := some 39) (v := ?_) (a' := ?_) #[true, true, true, true, true, true, true, true, true, false, false, false, false, false, false, false, false, false, false, false, false, false, false, false, false, false, false, false, false] rfl rfl (by kernel_rfl) (fun _ _ _ h => h) (Or.inl ⟨by rfl, ?_⟩) ?_ ?_
      rotate_left
      · intro w'
        go_simp
        (try with_reducible rfl)
      rotate_left
      · simp only [Act.put, List.setIfInBounds_toArray, List.set_cons_zero, List.set_cons_succ]
        rfl
      refine pure_ (i := 9) (N := some 40) (v := undef) (a' := ?_) #[true, true, true, true, true, true, true, true, true, true, false, false, false, false, false, false, false, false, false, false, false, false, false, false, false, false, false, false, false] rfl rfl (by kernel_rfl) (fun _ _ _ h => h) (Or.inr ⟨by rfl, rfl⟩) ?_ ?_
      rotate_left
      · simp only [Act.put, List.setIfInBounds_toArray, List.set_cons_zero, List.set_cons_succ]
        rfl
      refine pure_ (i := 10) (N := some 41) (v := undef) (a' := ?_) #[true, true, true, true, true, true, true, true, true, true, true, false, false, false, false, false, false, false, false, false, false, false, false, false, false, false, false, false, false] rfl rfl (by kernel_rfl) (fun _ _ _ h => h) (Or.inr ⟨by rfl, rfl⟩) ?_ ?_
      rotate_left
      · simp only [Act.put, List.setIfInBounds_toArray, List.set_cons_zero, List.set_cons_succ]
        rfl
      refine pure_ (i := 11) (N := some 42) (v := undef) (a' := ?_) #[true, true, true, true, true, true, true, true, true, true, true, true, false, false, false, false, false, false, false, false, false, false, false, false, false, false, false, false, false] rfl rfl (by kernel_rfl) (fun _ _ _ h => h) (Or.inr ⟨by rfl, rfl⟩) ?_ ?_
      rotate_left
      · simp only [Act.put, List.setIfInBounds_toArray, List.set_cons_zero, List.set_cons_succ]
        rfl
      refine pure_ (i := 12) (N := some 43) (v := undef) (a' := ?_) #[true, true, true, true, true, true, true, true, true, true, true, true, true, false, false, false, false, false, false, false, false, false, false, false, false, false, false, false, false] rfl rfl (by kernel_rfl) (fun _ _ _ h => h) (Or.inr ⟨by rfl, rfl⟩) ?_ ?_
      rotate_left
      · simp only [Act.put, List.setIfInBounds_toArray, List.set_cons_zero, List.set_cons_succ]
        rfl
      refine pure_ (i := 13) (N := some 44) (v := undef) (a' := ?_) #[true, true, true, true, true, true, true, true, true, true, true, true, true, true, false, false, false, false, false, false, false, false, false, false, false, false, false, false, false] rfl rfl (by kernel_rfl) (fun _ _ _ h => h) (Or.inr ⟨by rfl, rfl⟩) ?_ ?_
      rotate_left
      · simp only [Act.put, List.setIfInBounds_toArray, List.set_cons_zero, List.set_cons_succ]
        rfl
      refine pure_ (i := 14) (N := some 45) (v := ?_) (a' := ?_) #[true, true, true, true, true, true, true, true, true, true, true, true, true, true, true, false, false, false, false, false, false, false, false, false, false, false, false, false, false] rfl rfl (by kernel_rfl) (fun _ _ _ h => h) (Or.inl ⟨by rfl, ?_⟩) ?_ ?_
      rotate_left
      · intro w'
        go_simp
        (try with_reducible rfl)
      rotate_left
      · simp only [Act.put, List.setIfInBounds_toArray, List.set_cons_zero, List.set_cons_succ]
        rfl
      refine pure_ (i := 15) (N := some 46) (v := ?_) (a' := ?_) #[true, true, true, true, true, true, true, true, true, true, true, true, true, true, true, true, false, false, false, false, false, false, false, false, false, false, false, false, false] rfl rfl (by kernel_rfl) (fun _ _ _ h => h) (Or.inl ⟨by rfl, ?_⟩) ?_ ?_
      rotate_left
      · intro w'
        go_simp
        (try with_reducible rfl)
      rotate_left
      · simp only [Act.put, List.setIfInBounds_toArray, List.set_cons_zero, List.set_cons_succ]
        rfl
      refine pure_ (i := 16) (N := some 47) (v := ?_) (a' := ?_) #[true, true, true, true, true, true, true, true, true, true, true, true, true, true, true, true, true, false, false, false, false, false, false, false, false, false, false, false, false] rfl rfl (by kernel_rfl) (fun _ _ _ h => h) (Or.inl ⟨by rfl, ?_⟩) ?_ ?_
      rotate_left
      · intro w'
        go_simp
        (try with_reducible rfl)
      rotate_left
      · simp only [Act.put, List.setIfInBounds_toArray, List.set_cons_zero, List.set_cons_succ]
        rfl
      refine pure_ (i := 17) (N := some 48) (v := ?_) (a' := ?_) #[true, true, true, true, true, true, true, true, true, true, true, true, true, true, true, true, true, true, false, false, false, false, false, false, false, false, false, false, false] rfl rfl (by kernel_rfl) (fun _ _ _ h => h) (Or.inl ⟨by rfl, ?_⟩) ?_ ?_
      rotate_left
      · intro w'
        go_simp
        (try with_reducible rfl)
      rotate_left
      · simp only [Act.put, List.setIfInBounds_toArray, List.set_cons_zero, List.set_cons_succ]
        rfl
      refine pure_ (i := 18) (N := some 49) (v := ?_) (a' := ?_) #[true, true, true, true, true, true, true, true, true, true, true, true, true, true, true, true, true, true, true, false, false, false, false, false, false, false, false, false, false] rfl rfl (by kernel_rfl) (fun _ _ _ h => h) (Or.inl ⟨by rfl, ?_⟩) ?_ ?_
      rotate_left
      · intro w'
        go_simp
        (try with_reducible rfl)
      rotate_left
      · simp only [Act.put, List.setIfInBounds_toArray, List.set_cons_zero, List.set_cons_succ]
        rfl
      refine pure_ (i := 19) (N := some 50) (v := ?_) (a' := ?_) #[true, true, true, true, true, true, true, true, true, true, true, true, true, true, true, true, true, true, true, true, false, false, false, false, false, false, false, false, false] rfl rfl (by kernel_rfl) (fun _ _ _ h => h) (Or.inl ⟨by rfl, ?_⟩) ?_ ?_
      rotate_left
      · intro w'
        go_simp
        (try with_reducible rfl)
      rotate_left
      · simp only [Act.put, List.setIfInBounds_toArray, List.set_cons_zero, List.set_cons_succ]
        rfl
      refine pure_ (i := 20) (N := some 51) (v := undef) (a' := ?_) #[true, true, true, true, true, true, true, true, true, true, true, true, true, true, true, true, true, true, true, true, true, false, false, false, false, false, false, false, false] rfl rfl (by kernel_rfl) (fun _ _ _ h => h) (Or.inr ⟨by rfl, rfl⟩) ?_ ?_
      rotate_left
      · simp only [Act.put, List.setIfInBounds_toArray, List.set_cons_zero, List.set_cons_succ]
        rfl
      refine pure_ (i := 21) (N := some 52) (v := undef) (a' := ?_) #[true, true, true, true, true, true, true, true, true, true, true, true, true, true, true, true, true, true, true, true, true, true, false, false, false, false, false, false, false] rfl rfl (by kernel_rfl) (fun _ _ _ h => h) (Or.inr ⟨by rfl, rfl⟩) ?_ ?_
      rotate_left
      · simp only [Act.put, List.setIfInBounds_toArray, List.set_cons_zero, List.set_cons_succ]
        rfl
      refine pure_ (i := 22) (N := some 53) (v := undef) (a' := ?_) #[true, true, true, true, true, true, true, true, true, true, true, true, true, true, true, true, true, true, true, true, true, true, true, false, false, false, false, false, false] rfl rfl (by kernel_rfl) (fun _ _ _ h => h) (Or.inr ⟨by rfl, rfl⟩) ?_ ?_
      rotate_left
      · simp only [Act.put, List.setIfInBounds_toArray, List.set_cons_zero, List.set_cons_succ]
        rfl
      refine pure_ (i := 23) (N := some 54) (v := undef) (a' := ?_) #[true, true, true, true, true, true, true, true, true, true, true, true, true, true, true, true, true, true, true, true, true, true, true, true, false, false, false, false, false] rfl rfl (by kernel_rfl) (fun _ _ _ h => h) (Or.inr ⟨by rfl, rfl⟩) ?_ ?_
      rotate_left
      · simp only [Act.put, List.setIfInBounds_toArray, List.set_cons_zero, List.set_cons_succ]
        rfl
      refine pure_ (i := 24) (N := some 55) (v := undef) (a' := ?_) #[true, true, true, true, true, true, true, true, true, true, true, true, true, true, true, true, true, true, true, true, true, true, true, true, true, false, false, false, false] rfl rfl (by kernel_rfl) (fun _ _ _ h => h) (Or.inr ⟨by rfl, rfl⟩) ?_ ?_
      rotate_left
      · simp only [Act.put, List.setIfInBounds_toArray, List.set_cons_zero, List.set_cons_succ]
        rfl
      refine pure_ (i := 25) (N := some 56) (v := undef) (a' := ?_) #[true, true, true, true, true, true, true, true, true, true, true, true, true, true, true, true, true, true, true, true, true, true, true, true, true, true, false, false, false] rfl rfl (by kernel_rfl) (fun _ _ _ h => h) (Or.inr ⟨by rfl, rfl⟩) ?_ ?_
      rotate_left
      · simp only [Act.put, List.setIfInBounds_toArray, List.set_cons_zero, List.set_cons_succ]
        rfl
      refine pure_ (i := 26) (N := some 57) (v := ?_) (a' := ?_) #[true, true, true, true, true, true, true, true, true, true, true, true, true, true, true, true, true, true, true, true, true, true, true, true, true, true, true, false, false] rfl rfl (by kernel_rfl) (fun _ _ _ h => h) (Or.inl ⟨by rfl, ?_⟩) ?_ ?_
      rotate_left
      · intro w'
        go_simp
        (try with_reducible rfl)
      rotate_left
      · simp only [Act.put, List.setIfInBounds_toArray, List.set_cons_zero, List.set_cons_succ]
        rfl
      refine pure_ (i := 27) (N := some 58) (v := ?_) (a' := ?_) #[true, true, true, true, true, true, true, true, true, true, true, true, true, true, true, true, true, true, true, true, true, true, true, true, true, true, true, true, false] rfl rfl (by kernel_rfl) (fun _ _ _ h => h) (Or.inl ⟨by rfl, ?_⟩) ?_ ?_
      rotate_left
      · intro w'
        go_simp
        (try with_reducible rfl)
      rotate_left
      · simp only [Act.put, List.setIfInBounds_toArray, List.set_cons_zero, List.set_cons_succ]
        rfl
      refine pure_ (i := 28) (N := some 4) (v := ?_) (a' := ?_) #[true, true, true, true, true, true, true, true, true, true, true, true, true, true, true, true, true, true, true, true, true, true, true, true, true, true, true, true, true] rfl rfl (by kernel_rfl) (fun _ _ _ h => h) (Or.inl ⟨by rfl, ?_⟩) ?_ ?_
      rotate_left
      · intro w'
        go_simp
        (try with_reducible rfl)
      rotate_left
      · simp only [Act.put, List.setIfInBounds_toArray, List.set_cons_zero, List.set_cons_succ]
        rfl
      refine wpAnyLast_done (by kernel_rfl) ?_ _
      go_wp2_with fail
      go_ret
      exact ⟨by first | rfl | simp, by first | exact below_then BZ.out BZ.out.size hq | exact below_then BZ.out BZ.out.size (below_drew hq) | exact below_then BZ.out BZ.out.size (below_drew (below_drew hq))⟩
end Go.Proofs.Ytdcbpkhogpjfeaa
