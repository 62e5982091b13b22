/- The walk of FrameSays (printed by a program of mine, mkframe.py). -/
import Derived.Test.YtdcbpkhogpjfeaaFrameN
import Derived.Test.YtdcbpkhogpjfeaaWLast
set_option linter.unusedVariables false
set_option linter.unusedSimpArgs false
namespace Go.Proofs.Ytdcbpkhogpjfeaa
open Go.RowKit Go.Proofs.YtdcbpkhogpjfeaaW.PrintWords Go.Proofs.YtdcbpkhogpjfeaaW.PrintLast Go.Proofs.Ytdcbpkhogpjfeaa.K

theorem rdecode_any (A : Option Addr) (n c : Nat) (xs : List Int) (W : World) (h : ReadsInt W .u8 A n xs) (hw : ∀ y ∈ xs, (Lit.int .u8 y).wf = true) (hm : n ≤ 1000000) (hc : n ≤ c) :
    Calls Try.prog 12 #[.slice A n c] W (Recd W xs) := by
  by_cases h1 : 19 ≤ n
  · exact rdecode_walk A n c xs W h hw h1 hm hc
  · exact rdecode_short A n c xs W h (by omega)
theorem is_inj {xs : List Int} {x y : Fr} (hx : Is xs x) (hy : Is xs y) : x = y := enc_inj hx.1 hy.1 hx.2.1 hy.2.1 (hx.2.2.trans hy.2.2.symm)
set_option maxRecDepth 100000 in
set_option maxHeartbeats 40000000 in
theorem says_walk (W : World) (A : Option Addr) (n c : Nat) (xs : List Int) (h : ReadsInt W .u8 A n xs) (hw : ∀ z ∈ xs, (Lit.int .u8 z).wf = true) (hc : n ≤ c) (y : Fr) (A' : Option Addr) (n' c' : Nat) (hy : FrArg W y A' n' c') :
    Calls Try.prog 4 #[.slice A n c, .agg (frC y.k y.f y.t y.v y.s (.slice A' n' c'))] W fun e w' => e = .returned (.bool true) ∧ Below W.heap.size W w' := by
  have HL := Lib.hid h
  have HW := Lib.hid hw
  have HY := Lib.hid hy
  have hn := h.2.1
  have hn' := hy.rd.2.1
  have hl := Lib.hid h.1
  clear h hw hy
  have hbx : ∀ w1, Below (W.alloc (.cells (frC y.k y.f y.t y.v y.s (.slice A' n' c')) 26)).heap.size (W.alloc (.cells (frC y.k y.f y.t y.v y.s (.slice A' n' c')) 26)) w1 → Below W.heap.size W w1 ∧ w1.heap[W.heap.size]? = some (.cells (frC y.k y.f y.t y.v y.s (.slice A' n' c')) 26 (0, 0)) := fun w1 hb =>
    ⟨below_box hb, heap_keep hb (heap_alloc_new _ _)⟩
  have HBX := Lib.hid hbx; clear hbx
  by_cases h1 : n ≤ 1000
  · by_cases h2 : n' ≤ 1000
    · go_enter Try.func4, Try.ntmps4
      go_wp2_with fail
      refine (awake_walk _).mono ?_
      rintro e w1 ⟨rfl, hb1⟩
      have B1 := Lib.hid (HBX.out _ hb1); clear hb1
      obtain ⟨x0, x1, x2, x3, x4, x5⟩ := box_cells B1.out.2
      go_wp2_with fail
      refine (decode_any A n c xs _ (HL.out.below B1.out.1) HW.out).mono ?_
      rintro e w2 ⟨hd, hb2⟩
      have B2 := Lib.hid (show Below W.heap.size W w2 ∧ w2.heap[W.heap.size]? = some (.cells (frC y.k y.f y.t y.v y.s (.slice A' n' c')) 26 (0, 0)) from ⟨below_then B1.out.1 B1.out.1.size hb2, heap_keep hb2 B1.out.2⟩)
      clear hb2 B1 x0 x1 x2 x3 x4 x5
      rcases hd with ⟨x, hx, Ag, cg, rfl, hrg⟩ | ⟨hnx, rfl⟩
      · have HXI := Lib.hid hx
        have HRG0 := Lib.hid hrg
        clear hx hrg
        go_wp2_with fail
        have B3 := Lib.hid (show Below W.heap.size W (w2.alloc (.cells (frC x.k x.f x.t x.v x.s (.slice Ag x.b.length cg)) 26)) from B2.out.1.alloc B2.out.1.size _)
        refine (rdecode_any A n c xs _ (HL.out.below B3.out) HW.out (by omega) hc).mono ?_
        rintro e w3 ⟨hd, hb3⟩
        rcases hd with ⟨x', hx', Ah, ch, rfl, hrh⟩ | ⟨hnx, rfl⟩
        · obtain rfl := is_inj HXI.out hx'
          have ZG := Lib.hid (show (w3.alloc (.cells (frC x.k x.f x.t x.v x.s (.slice Ah x.b.length ch)) 32)).heap[w2.heap.size]? = some (.cells (frC x.k x.f x.t x.v x.s (.slice Ag x.b.length cg)) 26 (0, 0)) from heap_alloc_keep _ (heap_keep hb3 (heap_alloc_new w2 _)))
          have ZH := Lib.hid (show (w3.alloc (.cells (frC x.k x.f x.t x.v x.s (.slice Ah x.b.length ch)) 32)).heap[w3.heap.size]? = some (.cells (frC x.k x.f x.t x.v x.s (.slice Ah x.b.length ch)) 32 (0, 0)) from heap_alloc_new _ _)
          have ZY := Lib.hid (show (w3.alloc (.cells (frC x.k x.f x.t x.v x.s (.slice Ah x.b.length ch)) 32)).heap[W.heap.size]? = some (.cells (frC y.k y.f y.t y.v y.s (.slice A' n' c')) 26 (0, 0)) from heap_alloc_keep _ (heap_keep hb3 (heap_alloc_keep _ B2.out.2)))
          have BZ := Lib.hid (show Below W.heap.size W (w3.alloc (.cells (frC x.k x.f x.t x.v x.s (.slice Ah x.b.length ch)) 32)) from (below_then B3.out B3.out.size hb3).alloc (below_then B3.out B3.out.size hb3).size _)
          have HRY := Lib.hid (HY.out.rd.below BZ.out)
          have HRG := Lib.hid (((HRG0.out.below (alloc_back _)).below hb3).below (alloc_back (.cells (frC x.k x.f x.t x.v x.s (.slice Ah x.b.length ch)) 32)))
          have HRH := Lib.hid (hrh.below (alloc_back (.cells (frC x.k x.f x.t x.v x.s (.slice Ah x.b.length ch)) 32)))
          have HXW := Lib.hid HXI.out.2.1.2.2
          clear hrh hx' HRG0 hb3 B2 B3
          go_wp2_with fail
          generalize hwz : w3.alloc (.cells (frC x.k x.f x.t x.v x.s (.slice Ah x.b.length ch)) 32) = wz at *
          obtain ⟨a0, a1, a2, a3, a4, a5⟩ := box_cells ZG.out
          obtain ⟨b0, b1, b2, b3, b4, b5⟩ := box_cells ZH.out
          obtain ⟨d0, d1, d2, d3, d4, d5⟩ := box_cells ZY.out
          have HYW := Lib.hid HY.out.wf
          clear hwz ZG ZH ZY
          by_cases hgb : goodB y.k y.f y.t n'
          · have HGB := Lib.hid (decide_eq_true hgb)
            have HGOOD := Lib.hid ((goodB_iff y n' HY.out.rd.1).1 hgb)
            obtain ⟨S1, hS1⟩ : ∃ S : ByteArray, S = strOfNums (enc y) := ⟨_, rfl⟩
            have HS1 := Lib.hid hS1
            clear hgb hS1
            have hq : Below wz.heap.size wz wz := Below.refl _ _
            refine start_ (n := 36) (S := fun w' => w'.cell? ⟨w2.heap.size, 0, none⟩ = some (.int .i64 x.k) ∧ w'.cell? ⟨w2.heap.size, 1, none⟩ = some (.int .i64 x.f) ∧ w'.cell? ⟨w2.heap.size, 2, none⟩ = some (.int .i64 x.t) ∧ w'.cell? ⟨w2.heap.size, 3, none⟩ = some (.int .u32 x.v) ∧ w'.cell? ⟨w2.heap.size, 4, none⟩ = some (.int .u32 x.s) ∧ w'.cell? ⟨w2.heap.size, 5, none⟩ = some (.slice Ag x.b.length cg) ∧ w'.cell? ⟨w3.heap.size, 0, none⟩ = some (.int .i64 x.k) ∧ w'.cell? ⟨w3.heap.size, 1, none⟩ = some (.int .i64 x.f) ∧ w'.cell? ⟨w3.heap.size, 2, none⟩ = some (.int .i64 x.t) ∧ w'.cell? ⟨w3.heap.size, 3, none⟩ = some (.int .u32 x.v) ∧ w'.cell? ⟨w3.heap.size, 4, none⟩ = some (.int .u32 x.s) ∧ w'.cell? ⟨w3.heap.size, 5, none⟩ = some (.slice Ah x.b.length ch) ∧ w'.cell? ⟨W.heap.size, 0, none⟩ = some (.int .i64 y.k) ∧ w'.cell? ⟨W.heap.size, 1, none⟩ = some (.int .i64 y.f) ∧ w'.cell? ⟨W.heap.size, 2, none⟩ = some (.int .i64 y.t) ∧ w'.cell? ⟨W.heap.size, 3, none⟩ = some (.int .u32 y.v) ∧ w'.cell? ⟨W.heap.size, 4, none⟩ = some (.int .u32 y.s) ∧ w'.cell? ⟨W.heap.size, 5, none⟩ = some (.slice A' n' c')) (ds := []) #[false, false, false, false, false, false, false, false, false, false, false, false, false, false, false, false, false, false, false, false, false, false, false, false, false, false, false, false, false, false, false, false, false, false, false, false] (by kernel_rfl) rfl rfl (⟨a0, a1, a2, a3, a4, a5, b0, b1, b2, b3, b4, b5, d0, d1, d2, d3, d4, d5⟩) (fun hHeld => ?_)
            refine pure_ (i := 0) (N := some 30) (v := ?_) (a' := ?_) #[true, false, false, false, false, false, false, false, false, false, false, false, false, false, false, false, false, false, false, false, false, false, false, false, false, false, false, false, false, false, false, false, false, false, false, false] rfl rfl (by kernel_rfl) (fun _ _ _ h => h) (Or.inl ⟨by rfl, ?_⟩) ?_ ?_
            rotate_left
            · intro w'
              go_simp
              (try with_reducible rfl)
            rotate_left
            · simp only [Act.put, List.setIfInBounds_toArray, List.set_cons_zero, List.set_cons_succ]
              rfl
            refine pure_ (i := 1) (N := some 31) (v := ?_) (a' := ?_) #[true, true, false, false, false, false, false, false, false, false, false, false, false, false, false, false, false, false, false, false, false, false, false, false, false, false, false, false, false, false, false, false, false, false, false, false] rfl rfl (by kernel_rfl) (fun _ _ _ h => h) (Or.inl ⟨by rfl, ?_⟩) ?_ ?_
            rotate_left
            · intro w'
              go_simp
              (try with_reducible rfl)
            rotate_left
            · simp only [Act.put, List.setIfInBounds_toArray, List.set_cons_zero, List.set_cons_succ]
              rfl
            refine pure_ (i := 2) (N := some 32) (v := ?_) (a' := ?_) #[true, true, true, false, false, false, false, false, false, false, false, false, false, false, false, false, false, false, false, false, false, false, false, false, false, false, false, false, false, false, false, false, false, false, false, false] rfl rfl (by kernel_rfl) (fun _ _ _ h => h) (Or.inl ⟨by rfl, ?_⟩) ?_ ?_
            rotate_left
            · intro w'
              go_simp
              (try with_reducible rfl)
            rotate_left
            · simp only [Act.put, List.setIfInBounds_toArray, List.set_cons_zero, List.set_cons_succ]
              rfl
            refine pure_ (i := 3) (N := some 33) (v := ?_) (a' := ?_) #[true, true, true, true, false, false, false, false, false, false, false, false, false, false, false, false, false, false, false, false, false, false, false, false, false, false, false, false, false, false, false, false, false, false, false, false] rfl rfl (by kernel_rfl) (fun _ _ _ h => h) (Or.inl ⟨by rfl, ?_⟩) ?_ ?_
            rotate_left
            · intro w'
              go_simp
              (try with_reducible rfl)
            rotate_left
            · simp only [Act.put, List.setIfInBounds_toArray, List.set_cons_zero, List.set_cons_succ]
              rfl
            refine pure_ (i := 4) (N := some 34) (v := ?_) (a' := ?_) #[true, true, true, true, true, false, false, false, false, false, false, false, false, false, false, false, false, false, false, false, false, false, false, false, false, false, false, false, false, false, false, false, false, false, false, false] rfl rfl (by kernel_rfl) (fun _ _ _ h => h) (Or.inl ⟨by rfl, ?_⟩) ?_ ?_
            rotate_left
            · intro w'
              go_simp
              (try with_reducible rfl)
            rotate_left
            · simp only [Act.put, List.setIfInBounds_toArray, List.set_cons_zero, List.set_cons_succ]
              rfl
            refine pure_ (i := 5) (N := some 35) (v := ?_) (a' := ?_) #[true, true, true, true, true, true, false, false, false, false, false, false, false, false, false, false, false, false, false, false, false, false, false, false, false, false, false, false, false, false, false, false, false, false, false, false] rfl rfl (by kernel_rfl) (fun _ _ _ h => h) (Or.inl ⟨by rfl, ?_⟩) ?_ ?_
            rotate_left
            · intro w'
              go_simp
              (try with_reducible rfl)
            rotate_left
            · simp only [Act.put, List.setIfInBounds_toArray, List.set_cons_zero, List.set_cons_succ]
              rfl
            refine pure_ (i := 6) (N := some 36) (v := ?_) (a' := ?_) #[true, true, true, true, true, true, true, false, false, false, false, false, false, false, false, false, false, false, false, false, false, false, false, false, false, false, false, false, false, false, false, false, false, false, false, false] rfl rfl (by kernel_rfl) (fun _ _ _ h => h) (Or.inl ⟨by rfl, ?_⟩) ?_ ?_
            rotate_left
            · intro w'
              go_simp
              (try with_reducible rfl)
            rotate_left
            · simp only [Act.put, List.setIfInBounds_toArray, List.set_cons_zero, List.set_cons_succ]
              rfl
            refine pure_ (i := 7) (N := some 37) (v := undef) (a' := ?_) #[true, true, true, true, true, true, true, true, false, false, false, false, false, false, false, false, false, false, false, false, false, false, false, false, false, false, false, false, false, false, false, false, false, false, false, false] rfl rfl (by kernel_rfl) (fun _ _ _ h => h) (Or.inr ⟨by rfl, rfl⟩) ?_ ?_
            rotate_left
            · simp only [Act.put, List.setIfInBounds_toArray, List.set_cons_zero, List.set_cons_succ]
              rfl
            refine pure_ (i := 8) (N := some 38) (v := undef) (a' := ?_) #[true, true, true, true, true, true, true, true, true, false, false, false, false, false, false, false, false, false, false, false, false, false, false, false, false, false, false, false, false, false, false, false, false, false, false, false] rfl rfl (by kernel_rfl) (fun _ _ _ h => h) (Or.inr ⟨by rfl, rfl⟩) ?_ ?_
            rotate_left
            · simp only [Act.put, List.setIfInBounds_toArray, List.set_cons_zero, List.set_cons_succ]
              rfl
            refine pure_ (i := 9) (N := some 39) (v := ?_) (a' := ?_) #[true, true, true, true, true, true, true, true, true, true, false, false, false, false, false, false, false, false, false, false, false, false, false, false, false, false, false, false, false, false, false, false, false, false, false, false] rfl rfl (by kernel_rfl) (fun _ _ _ h => h) (Or.inl ⟨by rfl, ?_⟩) ?_ ?_
            rotate_left
            · intro w'
              go_simp
              (try with_reducible rfl)
            rotate_left
            · simp only [Act.put, List.setIfInBounds_toArray, List.set_cons_zero, List.set_cons_succ]
              rfl
            refine pure_ (i := 10) (N := some 40) (v := ?_) (a' := ?_) #[true, true, true, true, true, true, true, true, true, true, true, false, false, false, false, false, false, false, false, false, false, false, false, false, false, false, false, false, false, false, false, false, false, false, false, false] rfl rfl (by kernel_rfl) (fun _ _ _ h => h) (Or.inl ⟨by rfl, ?_⟩) ?_ ?_
            rotate_left
            · intro w'
              go_simp
              (try with_reducible rfl)
            rotate_left
            · simp only [Act.put, List.setIfInBounds_toArray, List.set_cons_zero, List.set_cons_succ]
              rfl
            refine pure_ (i := 11) (N := some 41) (v := ?_) (a' := ?_) #[true, true, true, true, true, true, true, true, true, true, true, true, false, false, false, false, false, false, false, false, false, false, false, false, false, false, false, false, false, false, false, false, false, false, false, false] rfl rfl (by kernel_rfl) (fun _ _ _ h => h) (Or.inl ⟨by rfl, ?_⟩) ?_ ?_
            rotate_left
            · intro w'
              go_simp
              (try with_reducible rfl)
            rotate_left
            · simp only [Act.put, List.setIfInBounds_toArray, List.set_cons_zero, List.set_cons_succ]
              rfl
            refine take_ (i := 12) (N := some 42) (v := ?_) (a' := ?_) #[true, true, true, true, true, true, true, true, true, true, true, true, true, false, false, false, false, false, false, false, false, false, false, false, false, false, false, false, false, false, false, false, false, false, false, false] rfl rfl (by kernel_rfl) (fun _ _ _ h => h) (Or.inl ⟨by rfl, ?_⟩) hHeld ?_ ?_
            rotate_left
            · rintro w' ⟨s0, s1, s2, s3, s4, s5, s6, s7, s8, s9, s10, s11, s12, s13, s14, s15, s16, s17⟩
              go_simp
              (try with_reducible rfl)
            rotate_left
            · simp only [Act.put, List.setIfInBounds_toArray, List.set_cons_zero, List.set_cons_succ]
              rfl
            refine take_ (i := 14) (N := some 44) (v := ?_) (a' := ?_) #[true, true, true, true, true, true, true, true, true, true, true, true, true, false, true, false, false, false, false, false, false, false, false, false, false, false, false, false, false, false, false, false, false, false, false, false] rfl rfl (by kernel_rfl) (fun _ _ _ h => h) (Or.inl ⟨by rfl, ?_⟩) hHeld ?_ ?_
            rotate_left
            · rintro w' ⟨s0, s1, s2, s3, s4, s5, s6, s7, s8, s9, s10, s11, s12, s13, s14, s15, s16, s17⟩
              go_simp
              (try with_reducible rfl)
            rotate_left
            · simp only [Act.put, List.setIfInBounds_toArray, List.set_cons_zero, List.set_cons_succ]
              rfl
            refine one_ (i := 13) (N := some 43) #[true, true, true, true, true, true, true, true, true, true, true, true, true, true, true, false, false, false, false, false, false, false, false, false, false, false, false, false, false, false, false, false, false, false, false, false] rfl rfl (by kernel_rfl) (by decide) (fun K hK => ?_)
            go_simp
            refine (own_walk _ _ _ _ _ _ _ _ _).mono ?_
            rintro e wN ⟨rfl, hbN⟩
            have hq : Below wz.heap.size wz wN := (by first | exact below_then hq hq.size hbN | exact below_then (below_drew hq) (below_drew hq).size hbN | exact below_then (below_drew (below_drew hq)) (below_drew (below_drew hq)).size hbN)
            try go_wp2_with fail
            refine hK.out _ _ ?_ (fun hHeld2 => ?_)
            · (try dsimp only)
              first | with_reducible exact hHeld | exact ⟨pw_cell_below hq a0, pw_cell_below hq a1, pw_cell_below hq a2, pw_cell_below hq a3, pw_cell_below hq a4, pw_cell_below hq a5, pw_cell_below hq b0, pw_cell_below hq b1, pw_cell_below hq b2, pw_cell_below hq b3, pw_cell_below hq b4, pw_cell_below hq b5, pw_cell_below hq d0, pw_cell_below hq d1, pw_cell_below hq d2, pw_cell_below hq d3, pw_cell_below hq d4, pw_cell_below hq d5⟩
            clear hHeld hK K
            have hHeld := hHeld2
            clear hHeld2
            try simp only [Act.put, List.setIfInBounds_toArray, List.set_cons_zero, List.set_cons_succ]
            refine one_ (i := 15) (N := some 45) #[true, true, true, true, true, true, true, true, true, true, true, true, true, true, true, true, false, false, false, false, false, false, false, false, false, false, false, false, false, false, false, false, false, false, false, false] rfl rfl (by kernel_rfl) (by decide) (fun K hK => ?_)
            go_simp
            refine (same_walk x x _ _ _ _ _ _ HXW.out HXW.out _ (by first | exact HRG.out.below hq | exact HRG.out.below (below_drew hq) | exact HRG.out.below (below_drew (below_drew hq))) (by first | exact HRH.out.below hq | exact HRH.out.below (below_drew hq) | exact HRH.out.below (below_drew (below_drew hq)))).mono ?_
            rintro e wN ⟨rfl, hbN⟩
            rw [eqb_self]
            have hq : Below wz.heap.size wz wN := (by first | exact below_then hq hq.size hbN | exact below_then (below_drew hq) (below_drew hq).size hbN | exact below_then (below_drew (below_drew hq)) (below_drew (below_drew hq)).size hbN)
            try go_wp2_with fail
            refine hK.out _ _ ?_ (fun hHeld2 => ?_)
            · (try dsimp only)
              first | with_reducible exact hHeld | exact ⟨pw_cell_below hq a0, pw_cell_below hq a1, pw_cell_below hq a2, pw_cell_below hq a3, pw_cell_below hq a4, pw_cell_below hq a5, pw_cell_below hq b0, pw_cell_below hq b1, pw_cell_below hq b2, pw_cell_below hq b3, pw_cell_below hq b4, pw_cell_below hq b5, pw_cell_below hq d0, pw_cell_below hq d1, pw_cell_below hq d2, pw_cell_below hq d3, pw_cell_below hq d4, pw_cell_below hq d5⟩
            clear hHeld hK K
            have hHeld := hHeld2
            clear hHeld2
            try simp only [Act.put, List.setIfInBounds_toArray, List.set_cons_zero, List.set_cons_succ]
            refine pure_ (i := 16) (N := some 46) (v := ?_) (a' := ?_) #[true, true, true, true, true, true, true, true, true, true, true, true, true, true, true, true, true, false, false, false, false, false, false, false, false, false, false, false, false, false, false, false, false, false, false, false] rfl rfl (by kernel_rfl) (fun _ _ _ h => h) (Or.inl ⟨by rfl, ?_⟩) ?_ ?_
            rotate_left
            · intro w'
              go_simp
              (try with_reducible rfl)
            rotate_left
            · simp only [Act.put, List.setIfInBounds_toArray, List.set_cons_zero, List.set_cons_succ]
              rfl
            refine pure_ (i := 17) (N := some 47) (v := ?_) (a' := ?_) #[true, true, true, true, true, true, true, true, true, true, true, true, true, true, true, true, true, true, false, false, false, false, false, false, false, false, false, false, false, false, false, false, false, false, false, false] rfl rfl (by kernel_rfl) (fun _ _ _ h => h) (Or.inl ⟨by rfl, ?_⟩) ?_ ?_
            rotate_left
            · intro w'
              go_simp
              (try with_reducible rfl)
            rotate_left
            · simp only [Act.put, List.setIfInBounds_toArray, List.set_cons_zero, List.set_cons_succ]
              rfl
            refine take_ (i := 18) (N := some 48) (v := ?_) (a' := ?_) #[true, true, true, true, true, true, true, true, true, true, true, true, true, true, true, true, true, true, true, false, false, false, false, false, false, false, false, false, false, false, false, false, false, false, false, false] rfl rfl (by kernel_rfl) (fun _ _ _ h => h) (Or.inl ⟨by rfl, ?_⟩) hHeld ?_ ?_
            rotate_left
            · rintro w' ⟨s0, s1, s2, s3, s4, s5, s6, s7, s8, s9, s10, s11, s12, s13, s14, s15, s16, s17⟩
              go_simp
              (try with_reducible rfl)
            rotate_left
            · simp only [Act.put, List.setIfInBounds_toArray, List.set_cons_zero, List.set_cons_succ]
              rfl
            refine take_ (i := 20) (N := some 50) (v := ?_) (a' := ?_) #[true, true, true, true, true, true, true, true, true, true, true, true, true, true, true, true, true, true, true, false, true, false, false, false, false, false, false, false, false, false, false, false, false, false, false, false] rfl rfl (by kernel_rfl) (fun _ _ _ h => h) (Or.inl ⟨by rfl, ?_⟩) hHeld ?_ ?_
            rotate_left
            · rintro w' ⟨s0, s1, s2, s3, s4, s5, s6, s7, s8, s9, s10, s11, s12, s13, s14, s15, s16, s17⟩
              go_simp
              (try with_reducible rfl)
            rotate_left
            · simp only [Act.put, List.setIfInBounds_toArray, List.set_cons_zero, List.set_cons_succ]
              rfl
            refine one_ (i := 19) (N := some 49) #[true, true, true, true, true, true, true, true, true, true, true, true, true, true, true, true, true, true, true, true, true, false, false, false, false, false, false, false, false, false, false, false, false, false, false, false] rfl rfl (by kernel_rfl) (by decide) (fun K hK => ?_)
            go_simp
            refine (good_walk _ _ _ _ _ _ _ _ (by omega) _).mono ?_
            rintro e wN ⟨rfl, hwN⟩
            rw [HGB.out]
            have hq : Below wz.heap.size wz wN := (by rw [← hwN]; first | exact hq.alloc hq.size _ | exact (below_drew hq).alloc (below_drew hq).size _ | exact (below_drew (below_drew hq)).alloc (below_drew (below_drew hq)).size _)
            clear hwN
            try go_wp2_with fail
            refine hK.out _ _ ?_ (fun hHeld2 => ?_)
            · (try dsimp only)
              first | with_reducible exact hHeld | exact ⟨pw_cell_below hq a0, pw_cell_below hq a1, pw_cell_below hq a2, pw_cell_below hq a3, pw_cell_below hq a4, pw_cell_below hq a5, pw_cell_below hq b0, pw_cell_below hq b1, pw_cell_below hq b2, pw_cell_below hq b3, pw_cell_below hq b4, pw_cell_below hq b5, pw_cell_below hq d0, pw_cell_below hq d1, pw_cell_below hq d2, pw_cell_below hq d3, pw_cell_below hq d4, pw_cell_below hq d5⟩
            clear hHeld hK K
            have hHeld := hHeld2
            clear hHeld2
            try simp only [Act.put, List.setIfInBounds_toArray, List.set_cons_zero, List.set_cons_succ]
            refine one_ (i := 21) (N := some 51) #[true, true, true, true, true, true, true, true, true, true, true, true, true, true, true, true, true, true, true, true, true, true, false, false, false, false, false, false, false, false, false, false, false, false, false, false] rfl rfl (by kernel_rfl) (by decide) (fun K hK => ?_)
            go_simp
            refine (own_walk _ _ _ _ _ _ _ _ _).mono ?_
            rintro e wN ⟨rfl, hbN⟩
            have hq : Below wz.heap.size wz wN := (by first | exact below_then hq hq.size hbN | exact below_then (below_drew hq) (below_drew hq).size hbN | exact below_then (below_drew (below_drew hq)) (below_drew (below_drew hq)).size hbN)
            try go_wp2_with fail
            refine hK.out _ _ ?_ (fun hHeld2 => ?_)
            · (try dsimp only)
              first | with_reducible exact hHeld | exact ⟨pw_cell_below hq a0, pw_cell_below hq a1, pw_cell_below hq a2, pw_cell_below hq a3, pw_cell_below hq a4, pw_cell_below hq a5, pw_cell_below hq b0, pw_cell_below hq b1, pw_cell_below hq b2, pw_cell_below hq b3, pw_cell_below hq b4, pw_cell_below hq b5, pw_cell_below hq d0, pw_cell_below hq d1, pw_cell_below hq d2, pw_cell_below hq d3, pw_cell_below hq d4, pw_cell_below hq d5⟩
            clear hHeld hK K
            have hHeld := hHeld2
            clear hHeld2
            try simp only [Act.put, List.setIfInBounds_toArray, List.set_cons_zero, List.set_cons_succ]
            refine one_ (i := 22) (N := some 52) #[true, true, true, true, true, true, true, true, true, true, true, true, true, true, true, true, true, true, true, true, true, true, true, false, false, false, false, false, false, false, false, false, false, false, false, false] rfl rfl (by kernel_rfl) (by decide) (fun K hK => ?_)
            go_simp
            refine (rgood_walk _ _ _ _ _ _ _ _ (by omega) _).mono ?_
            rintro e wN ⟨rfl, hwN⟩
            rw [HGB.out]
            have hq : Below wz.heap.size wz wN := (by rw [← hwN]; first | exact hq.alloc hq.size _ | exact (below_drew hq).alloc (below_drew hq).size _ | exact (below_drew (below_drew hq)).alloc (below_drew (below_drew hq)).size _)
            clear hwN
            try go_wp2_with fail
            refine hK.out _ _ ?_ (fun hHeld2 => ?_)
            · (try dsimp only)
              first | with_reducible exact hHeld | exact ⟨pw_cell_below hq a0, pw_cell_below hq a1, pw_cell_below hq a2, pw_cell_below hq a3, pw_cell_below hq a4, pw_cell_below hq a5, pw_cell_below hq b0, pw_cell_below hq b1, pw_cell_below hq b2, pw_cell_below hq b3, pw_cell_below hq b4, pw_cell_below hq b5, pw_cell_below hq d0, pw_cell_below hq d1, pw_cell_below hq d2, pw_cell_below hq d3, pw_cell_below hq d4, pw_cell_below hq d5⟩
            clear hHeld hK K
            have hHeld := hHeld2
            clear hHeld2
            try simp only [Act.put, List.setIfInBounds_toArray, List.set_cons_zero, List.set_cons_succ]
            refine pure_ (i := 23) (N := some 53) (v := ?_) (a' := ?_) #[true, true, true, true, true, true, true, true, true, true, true, true, true, true, true, true, true, true, true, true, true, true, true, true, false, false, false, false, false, false, false, false, false, false, false, false] rfl rfl (by kernel_rfl) (fun _ _ _ h => h) (Or.inl ⟨by rfl, ?_⟩) ?_ ?_
            rotate_left
            · intro w'
              go_simp
              (try with_reducible rfl)
            rotate_left
            · simp only [Act.put, List.setIfInBounds_toArray, List.set_cons_zero, List.set_cons_succ]
              rfl
            refine pure_ (i := 24) (N := some 54) (v := ?_) (a' := ?_) #[true, true, true, true, true, true, true, true, true, true, true, true, true, true, true, true, true, true, true, true, true, true, true, true, true, false, false, false, false, false, false, false, false, false, false, false] rfl rfl (by kernel_rfl) (fun _ _ _ h => h) (Or.inl ⟨by rfl, ?_⟩) ?_ ?_
            rotate_left
            · intro w'
              go_simp
              (try with_reducible rfl)
            rotate_left
            · simp only [Act.put, List.setIfInBounds_toArray, List.set_cons_zero, List.set_cons_succ]
              rfl
            refine pure_ (i := 25) (N := some 55) (v := ?_) (a' := ?_) #[true, true, true, true, true, true, true, true, true, true, true, true, true, true, true, true, true, true, true, true, true, true, true, true, true, true, false, false, false, false, false, false, false, false, false, false] rfl rfl (by kernel_rfl) (fun _ _ _ h => h) (Or.inl ⟨by rfl, ?_⟩) ?_ ?_
            rotate_left
            · intro w'
              go_simp
              (try with_reducible rfl)
            rotate_left
            · simp only [Act.put, List.setIfInBounds_toArray, List.set_cons_zero, List.set_cons_succ]
              rfl
            refine take_ (i := 26) (N := some 56) (v := ?_) (a' := ?_) #[true, true, true, true, true, true, true, true, true, true, true, true, true, true, true, true, true, true, true, true, true, true, true, true, true, true, true, false, false, false, false, false, false, false, false, false] rfl rfl (by kernel_rfl) (fun _ _ _ h => h) (Or.inl ⟨by rfl, ?_⟩) hHeld ?_ ?_
            rotate_left
            · rintro w' ⟨s0, s1, s2, s3, s4, s5, s6, s7, s8, s9, s10, s11, s12, s13, s14, s15, s16, s17⟩
              go_simp
              (try with_reducible rfl)
            rotate_left
            · simp only [Act.put, List.setIfInBounds_toArray, List.set_cons_zero, List.set_cons_succ]
              rfl
            refine take_ (i := 29) (N := some 59) (v := ?_) (a' := ?_) #[true, true, true, true, true, true, true, true, true, true, true, true, true, true, true, true, true, true, true, true, true, true, true, true, true, true, true, false, false, true, false, false, false, false, false, false] rfl rfl (by kernel_rfl) (fun _ _ _ h => h) (Or.inl ⟨by rfl, ?_⟩) hHeld ?_ ?_
            rotate_left
            · rintro w' ⟨s0, s1, s2, s3, s4, s5, s6, s7, s8, s9, s10, s11, s12, s13, s14, s15, s16, s17⟩
              go_simp
              (try with_reducible rfl)
            rotate_left
            · simp only [Act.put, List.setIfInBounds_toArray, List.set_cons_zero, List.set_cons_succ]
              rfl
            refine one_ (i := 27) (N := some 57) #[true, true, true, true, true, true, true, true, true, true, true, true, true, true, true, true, true, true, true, true, true, true, true, true, true, true, true, true, false, true, false, false, false, false, false, false] rfl rfl (by kernel_rfl) (by decide) (fun K hK => ?_)
            go_simp
            refine (encode_walk y HGOOD.out HYW.out A' n' c' _ (by first | exact HRY.out.below hq | exact HRY.out.below (below_drew hq) | exact HRY.out.below (below_drew (below_drew hq)))).mono ?_
            rintro e wN ⟨A5, c5, rfl, ho5, hbN⟩
            have hq : Below wz.heap.size wz wN := (by first | exact below_then hq hq.size hbN | exact below_then (below_drew hq) (below_drew hq).size hbN | exact below_then (below_drew (below_drew hq)) (below_drew (below_drew hq)).size hbN)
            have HE5 := Lib.hid (own_info ho5).2.2.2.1
            clear ho5
            try go_wp2_with fail
            refine hK.out _ _ ?_ (fun hHeld2 => ?_)
            · (try dsimp only)
              first | with_reducible exact hHeld | exact ⟨pw_cell_below hq a0, pw_cell_below hq a1, pw_cell_below hq a2, pw_cell_below hq a3, pw_cell_below hq a4, pw_cell_below hq a5, pw_cell_below hq b0, pw_cell_below hq b1, pw_cell_below hq b2, pw_cell_below hq b3, pw_cell_below hq b4, pw_cell_below hq b5, pw_cell_below hq d0, pw_cell_below hq d1, pw_cell_below hq d2, pw_cell_below hq d3, pw_cell_below hq d4, pw_cell_below hq d5⟩
            clear hHeld hK K
            have hHeld := hHeld2
            clear hHeld2
            try simp only [Act.put, List.setIfInBounds_toArray, List.set_cons_zero, List.set_cons_succ]
            refine two_ (i := 28) (j := 30) (Ni := some 58) (Nj := some 60) #[true, true, true, true, true, true, true, true, true, true, true, true, true, true, true, true, true, true, true, true, true, true, true, true, true, true, true, true, true, true, false, false, false, false, false, false] #[true, true, true, true, true, true, true, true, true, true, true, true, true, true, true, true, true, true, true, true, true, true, true, true, true, true, true, true, false, true, true, false, false, false, false, false] rfl rfl rfl rfl (by kernel_rfl) (by decide) (by decide) (fun K hK => ?_) (fun K hK => ?_)
            · skip
              have kx : (convert 24 9 (.slice A5 (19 + n') c5)).run Try.prog wN = .ok (.string S1) wN := (by rw [HS1.out]; exact str_of HE5.out)
              go_simp
              refine hK.out _ _ ?_ (fun hHeld2 => ?_)
              · (try dsimp only)
                first | with_reducible exact hHeld | exact ⟨pw_cell_below hq a0, pw_cell_below hq a1, pw_cell_below hq a2, pw_cell_below hq a3, pw_cell_below hq a4, pw_cell_below hq a5, pw_cell_below hq b0, pw_cell_below hq b1, pw_cell_below hq b2, pw_cell_below hq b3, pw_cell_below hq b4, pw_cell_below hq b5, pw_cell_below hq d0, pw_cell_below hq d1, pw_cell_below hq d2, pw_cell_below hq d3, pw_cell_below hq d4, pw_cell_below hq d5⟩
              clear hHeld hK K
              have hHeld := hHeld2
              clear hHeld2
              try simp only [Act.put, List.setIfInBounds_toArray, List.set_cons_zero, List.set_cons_succ]
              refine one_ (i := 30) (N := some 60) #[true, true, true, true, true, true, true, true, true, true, true, true, true, true, true, true, true, true, true, true, true, true, true, true, true, true, true, true, true, true, true, false, false, false, false, false] rfl rfl (by kernel_rfl) (by decide) (fun K hK => ?_)
              go_simp
              refine (own_walk _ _ _ _ _ _ _ _ _).mono ?_
              rintro e wN ⟨rfl, hbN⟩
              have hq : Below wz.heap.size wz wN := (by first | exact below_then hq hq.size hbN | exact below_then (below_drew hq) (below_drew hq).size hbN | exact below_then (below_drew (below_drew hq)) (below_drew (below_drew hq)).size hbN)
              have HE5 := Lib.hid (by first | exact HE5.out.below hbN | exact (rd_drew HE5.out).below hbN : ReadsInt wN .u8 A5 (19 + n') (enc y))
              try go_wp2_with fail
              refine hK.out _ _ ?_ (fun hHeld2 => ?_)
              · (try dsimp only)
                first | with_reducible exact hHeld | exact ⟨pw_cell_below hq a0, pw_cell_below hq a1, pw_cell_below hq a2, pw_cell_below hq a3, pw_cell_below hq a4, pw_cell_below hq a5, pw_cell_below hq b0, pw_cell_below hq b1, pw_cell_below hq b2, pw_cell_below hq b3, pw_cell_below hq b4, pw_cell_below hq b5, pw_cell_below hq d0, pw_cell_below hq d1, pw_cell_below hq d2, pw_cell_below hq d3, pw_cell_below hq d4, pw_cell_below hq d5⟩
              clear hHeld hK K
              have hHeld := hHeld2
              clear hHeld2
              try simp only [Act.put, List.setIfInBounds_toArray, List.set_cons_zero, List.set_cons_succ]
              refine one_ (i := 31) (N := some 61) #[true, true, true, true, true, true, true, true, true, true, true, true, true, true, true, true, true, true, true, true, true, true, true, true, true, true, true, true, true, true, true, true, false, false, false, false] rfl rfl (by kernel_rfl) (by decide) (fun K hK => ?_)
              go_simp
              refine (rencode_walk y HGOOD.out HYW.out A' n' c' _ (by first | exact HRY.out.below hq | exact HRY.out.below (below_drew hq) | exact HRY.out.below (below_drew (below_drew hq)))).mono ?_
              rintro e wN ⟨A6, c6, rfl, ho6, hbN⟩
              have hq : Below wz.heap.size wz wN := (by first | exact below_then hq hq.size hbN | exact below_then (below_drew hq) (below_drew hq).size hbN | exact below_then (below_drew (below_drew hq)) (below_drew (below_drew hq)).size hbN)
              have HE5 := Lib.hid (by first | exact HE5.out.below hbN | exact (rd_drew HE5.out).below hbN : ReadsInt wN .u8 A5 (19 + n') (enc y))
              have HE6 := Lib.hid (own_info ho6).2.2.2.1
              clear ho6
              try go_wp2_with fail
              refine hK.out _ _ ?_ (fun hHeld2 => ?_)
              · (try dsimp only)
                first | with_reducible exact hHeld | exact ⟨pw_cell_below hq a0, pw_cell_below hq a1, pw_cell_below hq a2, pw_cell_below hq a3, pw_cell_below hq a4, pw_cell_below hq a5, pw_cell_below hq b0, pw_cell_below hq b1, pw_cell_below hq b2, pw_cell_below hq b3, pw_cell_below hq b4, pw_cell_below hq b5, pw_cell_below hq d0, pw_cell_below hq d1, pw_cell_below hq d2, pw_cell_below hq d3, pw_cell_below hq d4, pw_cell_below hq d5⟩
              clear hHeld hK K
              have hHeld := hHeld2
              clear hHeld2
              try simp only [Act.put, List.setIfInBounds_toArray, List.set_cons_zero, List.set_cons_succ]
              refine one_ (i := 32) (N := some 62) #[true, true, true, true, true, true, true, true, true, true, true, true, true, true, true, true, true, true, true, true, true, true, true, true, true, true, true, true, true, true, true, true, true, false, false, false] rfl rfl (by kernel_rfl) (by decide) (fun K hK => ?_)
              have ky : (convert 24 9 (.slice A6 (19 + n') c6)).run Try.prog wN = .ok (.string S1) wN := (by rw [HS1.out]; exact str_of HE6.out)
              go_simp
              refine hK.out _ _ ?_ (fun hHeld2 => ?_)
              · (try dsimp only)
                first | with_reducible exact hHeld | exact ⟨pw_cell_below hq a0, pw_cell_below hq a1, pw_cell_below hq a2, pw_cell_below hq a3, pw_cell_below hq a4, pw_cell_below hq a5, pw_cell_below hq b0, pw_cell_below hq b1, pw_cell_below hq b2, pw_cell_below hq b3, pw_cell_below hq b4, pw_cell_below hq b5, pw_cell_below hq d0, pw_cell_below hq d1, pw_cell_below hq d2, pw_cell_below hq d3, pw_cell_below hq d4, pw_cell_below hq d5⟩
              clear hHeld hK K
              have hHeld := hHeld2
              clear hHeld2
              try simp only [Act.put, List.setIfInBounds_toArray, List.set_cons_zero, List.set_cons_succ]
              refine pure_ (i := 33) (N := some 63) (v := ?_) (a' := ?_) #[true, true, true, true, true, true, true, true, true, true, true, true, true, true, true, true, true, true, true, true, true, true, true, true, true, true, true, true, true, true, true, true, true, true, false, false] rfl rfl (by kernel_rfl) (fun _ _ _ h => h) (Or.inl ⟨by rfl, ?_⟩) ?_ ?_
              rotate_left
              · intro w'
                go_simp
                (try with_reducible rfl)
              rotate_left
              · simp only [Act.put, List.setIfInBounds_toArray, List.set_cons_zero, List.set_cons_succ]
                rfl
              refine pure_ (i := 34) (N := some 64) (v := ?_) (a' := ?_) #[true, true, true, true, true, true, true, true, true, true, true, true, true, true, true, true, true, true, true, true, true, true, true, true, true, true, true, true, true, true, true, true, true, true, true, false] rfl rfl (by kernel_rfl) (fun _ _ _ h => h) (Or.inl ⟨by rfl, ?_⟩) ?_ ?_
              rotate_left
              · intro w'
                go_simp
                (try with_reducible rfl)
              rotate_left
              · simp only [Act.put, List.setIfInBounds_toArray, List.set_cons_zero, List.set_cons_succ]
                rfl
              refine pure_ (i := 35) (N := some 4) (v := ?_) (a' := ?_) #[true, true, true, true, true, true, true, true, true, true, true, true, true, true, true, true, true, true, true, true, true, true, true, true, true, true, true, true, true, true, true, true, true, true, true, true] rfl rfl (by kernel_rfl) (fun _ _ _ h => h) (Or.inl ⟨by rfl, ?_⟩) ?_ ?_
              rotate_left
              · intro w'
                go_simp
                (try with_reducible rfl)
              rotate_left
              · simp only [Act.put, List.setIfInBounds_toArray, List.set_cons_zero, List.set_cons_succ]
                rfl
              refine wpAnyLast_done (by kernel_rfl) ?_ _
              go_wp2_with fail
              go_ret
              exact ⟨by first | rfl | simp, by first | exact below_then BZ.out BZ.out.size hq | exact below_then BZ.out BZ.out.size (below_drew hq) | exact below_then BZ.out BZ.out.size (below_drew (below_drew hq))⟩
            go_simp
            refine (own_walk _ _ _ _ _ _ _ _ _).mono ?_
            rintro e wN ⟨rfl, hbN⟩
            have hq : Below wz.heap.size wz wN := (by first | exact below_then hq hq.size hbN | exact below_then (below_drew hq) (below_drew hq).size hbN | exact below_then (below_drew (below_drew hq)) (below_drew (below_drew hq)).size hbN)
            have HE5 := Lib.hid (by first | exact HE5.out.below hbN | exact (rd_drew HE5.out).below hbN : ReadsInt wN .u8 A5 (19 + n') (enc y))
            try go_wp2_with fail
            refine hK.out _ _ ?_ (fun hHeld2 => ?_)
            · (try dsimp only)
              first | with_reducible exact hHeld | exact ⟨pw_cell_below hq a0, pw_cell_below hq a1, pw_cell_below hq a2, pw_cell_below hq a3, pw_cell_below hq a4, pw_cell_below hq a5, pw_cell_below hq b0, pw_cell_below hq b1, pw_cell_below hq b2, pw_cell_below hq b3, pw_cell_below hq b4, pw_cell_below hq b5, pw_cell_below hq d0, pw_cell_below hq d1, pw_cell_below hq d2, pw_cell_below hq d3, pw_cell_below hq d4, pw_cell_below hq d5⟩
            clear hHeld hK K
            have hHeld := hHeld2
            clear hHeld2
            try simp only [Act.put, List.setIfInBounds_toArray, List.set_cons_zero, List.set_cons_succ]
            refine two_ (i := 28) (j := 31) (Ni := some 58) (Nj := some 61) #[true, true, true, true, true, true, true, true, true, true, true, true, true, true, true, true, true, true, true, true, true, true, true, true, true, true, true, true, true, true, true, false, false, false, false, false] #[true, true, true, true, true, true, true, true, true, true, true, true, true, true, true, true, true, true, true, true, true, true, true, true, true, true, true, true, false, true, true, true, false, false, false, false] rfl rfl rfl rfl (by kernel_rfl) (by decide) (by decide) (fun K hK => ?_) (fun K hK => ?_)
            · skip
              have kx : (convert 24 9 (.slice A5 (19 + n') c5)).run Try.prog wN = .ok (.string S1) wN := (by rw [HS1.out]; exact str_of HE5.out)
              go_simp
              refine hK.out _ _ ?_ (fun hHeld2 => ?_)
              · (try dsimp only)
                first | with_reducible exact hHeld | exact ⟨pw_cell_below hq a0, pw_cell_below hq a1, pw_cell_below hq a2, pw_cell_below hq a3, pw_cell_below hq a4, pw_cell_below hq a5, pw_cell_below hq b0, pw_cell_below hq b1, pw_cell_below hq b2, pw_cell_below hq b3, pw_cell_below hq b4, pw_cell_below hq b5, pw_cell_below hq d0, pw_cell_below hq d1, pw_cell_below hq d2, pw_cell_below hq d3, pw_cell_below hq d4, pw_cell_below hq d5⟩
              clear hHeld hK K
              have hHeld := hHeld2
              clear hHeld2
              try simp only [Act.put, List.setIfInBounds_toArray, List.set_cons_zero, List.set_cons_succ]
              refine one_ (i := 31) (N := some 61) #[true, true, true, true, true, true, true, true, true, true, true, true, true, true, true, true, true, true, true, true, true, true, true, true, true, true, true, true, true, true, true, true, false, false, false, false] rfl rfl (by kernel_rfl) (by decide) (fun K hK => ?_)
              go_simp
              refine (rencode_walk y HGOOD.out HYW.out A' n' c' _ (by first | exact HRY.out.below hq | exact HRY.out.below (below_drew hq) | exact HRY.out.below (below_drew (below_drew hq)))).mono ?_
              rintro e wN ⟨A6, c6, rfl, ho6, hbN⟩
              have hq : Below wz.heap.size wz wN := (by first | exact below_then hq hq.size hbN | exact below_then (below_drew hq) (below_drew hq).size hbN | exact below_then (below_drew (below_drew hq)) (below_drew (below_drew hq)).size hbN)
              have HE5 := Lib.hid (by first | exact HE5.out.below hbN | exact (rd_drew HE5.out).below hbN : ReadsInt wN .u8 A5 (19 + n') (enc y))
              have HE6 := Lib.hid (own_info ho6).2.2.2.1
              clear ho6
              try go_wp2_with fail
              refine hK.out _ _ ?_ (fun hHeld2 => ?_)
              · (try dsimp only)
                first | with_reducible exact hHeld | exact ⟨pw_cell_below hq a0, pw_cell_below hq a1, pw_cell_below hq a2, pw_cell_below hq a3, pw_cell_below hq a4, pw_cell_below hq a5, pw_cell_below hq b0, pw_cell_below hq b1, pw_cell_below hq b2, pw_cell_below hq b3, pw_cell_below hq b4, pw_cell_below hq b5, pw_cell_below hq d0, pw_cell_below hq d1, pw_cell_below hq d2, pw_cell_below hq d3, pw_cell_below hq d4, pw_cell_below hq d5⟩
              clear hHeld hK K
              have hHeld := hHeld2
              clear hHeld2
              try simp only [Act.put, List.setIfInBounds_toArray, List.set_cons_zero, List.set_cons_succ]
              refine one_ (i := 32) (N := some 62) #[true, true, true, true, true, true, true, true, true, true, true, true, true, true, true, true, true, true, true, true, true, true, true, true, true, true, true, true, true, true, true, true, true, false, false, false] rfl rfl (by kernel_rfl) (by decide) (fun K hK => ?_)
              have ky : (convert 24 9 (.slice A6 (19 + n') c6)).run Try.prog wN = .ok (.string S1) wN := (by rw [HS1.out]; exact str_of HE6.out)
              go_simp
              refine hK.out _ _ ?_ (fun hHeld2 => ?_)
              · (try dsimp only)
                first | with_reducible exact hHeld | exact ⟨pw_cell_below hq a0, pw_cell_below hq a1, pw_cell_below hq a2, pw_cell_below hq a3, pw_cell_below hq a4, pw_cell_below hq a5, pw_cell_below hq b0, pw_cell_below hq b1, pw_cell_below hq b2, pw_cell_below hq b3, pw_cell_below hq b4, pw_cell_below hq b5, pw_cell_below hq d0, pw_cell_below hq d1, pw_cell_below hq d2, pw_cell_below hq d3, pw_cell_below hq d4, pw_cell_below hq d5⟩
              clear hHeld hK K
              have hHeld := hHeld2
              clear hHeld2
              try simp only [Act.put, List.setIfInBounds_toArray, List.set_cons_zero, List.set_cons_succ]
              refine pure_ (i := 33) (N := some 63) (v := ?_) (a' := ?_) #[true, true, true, true, true, true, true, true, true, true, true, true, true, true, true, true, true, true, true, true, true, true, true, true, true, true, true, true, true, true, true, true, true, true, false, false] rfl rfl (by kernel_rfl) (fun _ _ _ h => h) (Or.inl ⟨by rfl, ?_⟩) ?_ ?_
              rotate_left
              · intro w'
                go_simp
                (try with_reducible rfl)
              rotate_left
              · simp only [Act.put, List.setIfInBounds_toArray, List.set_cons_zero, List.set_cons_succ]
                rfl
              refine pure_ (i := 34) (N := some 64) (v := ?_) (a' := ?_) #[true, true, true, true, true, true, true, true, true, true, true, true, true, true, true, true, true, true, true, true, true, true, true, true, true, true, true, true, true, true, true, true, true, true, true, false] rfl rfl (by kernel_rfl) (fun _ _ _ h => h) (Or.inl ⟨by rfl, ?_⟩) ?_ ?_
              rotate_left
              · intro w'
                go_simp
                (try with_reducible rfl)
              rotate_left
              · simp only [Act.put, List.setIfInBounds_toArray, List.set_cons_zero, List.set_cons_succ]
                rfl
              refine pure_ (i := 35) (N := some 4) (v := ?_) (a' := ?_) #[true, true, true, true, true, true, true, true, true, true, true, true, true, true, true, true, true, true, true, true, true, true, true, true, true, true, true, true, true, true, true, true, true, true, true, true] rfl rfl (by kernel_rfl) (fun _ _ _ h => h) (Or.inl ⟨by rfl, ?_⟩) ?_ ?_
              rotate_left
              · intro w'
                go_simp
                (try with_reducible rfl)
              rotate_left
              · simp only [Act.put, List.setIfInBounds_toArray, List.set_cons_zero, List.set_cons_succ]
                rfl
              refine wpAnyLast_done (by kernel_rfl) ?_ _
              go_wp2_with fail
              go_ret
              exact ⟨by first | rfl | simp, by first | exact below_then BZ.out BZ.out.size hq | exact below_then BZ.out BZ.out.size (below_drew hq) | exact below_then BZ.out BZ.out.size (below_drew (below_drew hq))⟩
            go_simp
            refine (rencode_walk y HGOOD.out HYW.out A' n' c' _ (by first | exact HRY.out.below hq | exact HRY.out.below (below_drew hq) | exact HRY.out.below (below_drew (below_drew hq)))).mono ?_
            rintro e wN ⟨A6, c6, rfl, ho6, hbN⟩
            have hq : Below wz.heap.size wz wN := (by first | exact below_then hq hq.size hbN | exact below_then (below_drew hq) (below_drew hq).size hbN | exact below_then (below_drew (below_drew hq)) (below_drew (below_drew hq)).size hbN)
            have HE5 := Lib.hid (by first | exact HE5.out.below hbN | exact (rd_drew HE5.out).below hbN : ReadsInt wN .u8 A5 (19 + n') (enc y))
            have HE6 := Lib.hid (own_info ho6).2.2.2.1
            clear ho6
            try go_wp2_with fail
            refine hK.out _ _ ?_ (fun hHeld2 => ?_)
            · (try dsimp only)
              first | with_reducible exact hHeld | exact ⟨pw_cell_below hq a0, pw_cell_below hq a1, pw_cell_below hq a2, pw_cell_below hq a3, pw_cell_below hq a4, pw_cell_below hq a5, pw_cell_below hq b0, pw_cell_below hq b1, pw_cell_below hq b2, pw_cell_below hq b3, pw_cell_below hq b4, pw_cell_below hq b5, pw_cell_below hq d0, pw_cell_below hq d1, pw_cell_below hq d2, pw_cell_below hq d3, pw_cell_below hq d4, pw_cell_below hq d5⟩
            clear hHeld hK K
            have hHeld := hHeld2
            clear hHeld2
            try simp only [Act.put, List.setIfInBounds_toArray, List.set_cons_zero, List.set_cons_succ]
            refine two_ (i := 28) (j := 32) (Ni := some 58) (Nj := some 62) #[true, true, true, true, true, true, true, true, true, true, true, true, true, true, true, true, true, true, true, true, true, true, true, true, true, true, true, true, true, true, true, true, false, false, false, false] #[true, true, true, true, true, true, true, true, true, true, true, true, true, true, true, true, true, true, true, true, true, true, true, true, true, true, true, true, false, true, true, true, true, false, false, false] rfl rfl rfl rfl (by kernel_rfl) (by decide) (by decide) (fun K hK => ?_) (fun K hK => ?_)
            · skip
              have kx : (convert 24 9 (.slice A5 (19 + n') c5)).run Try.prog wN = .ok (.string S1) wN := (by rw [HS1.out]; exact str_of HE5.out)
              go_simp
              refine hK.out _ _ ?_ (fun hHeld2 => ?_)
              · (try dsimp only)
                first | with_reducible exact hHeld | exact ⟨pw_cell_below hq a0, pw_cell_below hq a1, pw_cell_below hq a2, pw_cell_below hq a3, pw_cell_below hq a4, pw_cell_below hq a5, pw_cell_below hq b0, pw_cell_below hq b1, pw_cell_below hq b2, pw_cell_below hq b3, pw_cell_below hq b4, pw_cell_below hq b5, pw_cell_below hq d0, pw_cell_below hq d1, pw_cell_below hq d2, pw_cell_below hq d3, pw_cell_below hq d4, pw_cell_below hq d5⟩
              clear hHeld hK K
              have hHeld := hHeld2
              clear hHeld2
              try simp only [Act.put, List.setIfInBounds_toArray, List.set_cons_zero, List.set_cons_succ]
              refine one_ (i := 32) (N := some 62) #[true, true, true, true, true, true, true, true, true, true, true, true, true, true, true, true, true, true, true, true, true, true, true, true, true, true, true, true, true, true, true, true, true, false, false, false] rfl rfl (by kernel_rfl) (by decide) (fun K hK => ?_)
              have ky : (convert 24 9 (.slice A6 (19 + n') c6)).run Try.prog wN = .ok (.string S1) wN := (by rw [HS1.out]; exact str_of HE6.out)
              go_simp
              refine hK.out _ _ ?_ (fun hHeld2 => ?_)
              · (try dsimp only)
                first | with_reducible exact hHeld | exact ⟨pw_cell_below hq a0, pw_cell_below hq a1, pw_cell_below hq a2, pw_cell_below hq a3, pw_cell_below hq a4, pw_cell_below hq a5, pw_cell_below hq b0, pw_cell_below hq b1, pw_cell_below hq b2, pw_cell_below hq b3, pw_cell_below hq b4, pw_cell_below hq b5, pw_cell_below hq d0, pw_cell_below hq d1, pw_cell_below hq d2, pw_cell_below hq d3, pw_cell_below hq d4, pw_cell_below hq d5⟩
              clear hHeld hK K
              have hHeld := hHeld2
              clear hHeld2
              try simp only [Act.put, List.setIfInBounds_toArray, List.set_cons_zero, List.set_cons_succ]
              refine pure_ (i := 33) (N := some 63) (v := ?_) (a' := ?_) #[true, true, true, true, true, true, true, true, true, true, true, true, true, true, true, true, true, true, true, true, true, true, true, true, true, true, true, true, true, true, true, true, true, true, false, false] rfl rfl (by kernel_rfl) (fun _ _ _ h => h) (Or.inl ⟨by rfl, ?_⟩) ?_ ?_
              rotate_left
              · intro w'
                go_simp
                (try with_reducible rfl)
              rotate_left
              · simp only [Act.put, List.setIfInBounds_toArray, List.set_cons_zero, List.set_cons_succ]
                rfl
              refine pure_ (i := 34) (N := some 64) (v := ?_) (a' := ?_) #[true, true, true, true, true, true, true, true, true, true, true, true, true, true, true, true, true, true, true, true, true, true, true, true, true, true, true, true, true, true, true, true, true, true, true, false] rfl rfl (by kernel_rfl) (fun _ _ _ h => h) (Or.inl ⟨by rfl, ?_⟩) ?_ ?_
              rotate_left
              · intro w'
                go_simp
                (try with_reducible rfl)
              rotate_left
              · simp only [Act.put, List.setIfInBounds_toArray, List.set_cons_zero, List.set_cons_succ]
                rfl
              refine pure_ (i := 35) (N := some 4) (v := ?_) (a' := ?_) #[true, true, true, true, true, true, true, true, true, true, true, true, true, true, true, true, true, true, true, true, true, true, true, true, true, true, true, true, true, true, true, true, true, true, true, true] rfl rfl (by kernel_rfl) (fun _ _ _ h => h) (Or.inl ⟨by rfl, ?_⟩) ?_ ?_
              rotate_left
              · intro w'
                go_simp
                (try with_reducible rfl)
              rotate_left
              · simp only [Act.put, List.setIfInBounds_toArray, List.set_cons_zero, List.set_cons_succ]
                rfl
              refine wpAnyLast_done (by kernel_rfl) ?_ _
              go_wp2_with fail
              go_ret
              exact ⟨by first | rfl | simp, by first | exact below_then BZ.out BZ.out.size hq | exact below_then BZ.out BZ.out.size (below_drew hq) | exact below_then BZ.out BZ.out.size (below_drew (below_drew hq))⟩
            have ky : (convert 24 9 (.slice A6 (19 + n') c6)).run Try.prog wN = .ok (.string S1) wN := (by rw [HS1.out]; exact str_of HE6.out)
            go_simp
            refine hK.out _ _ ?_ (fun hHeld2 => ?_)
            · (try dsimp only)
              first | with_reducible exact hHeld | exact ⟨pw_cell_below hq a0, pw_cell_below hq a1, pw_cell_below hq a2, pw_cell_below hq a3, pw_cell_below hq a4, pw_cell_below hq a5, pw_cell_below hq b0, pw_cell_below hq b1, pw_cell_below hq b2, pw_cell_below hq b3, pw_cell_below hq b4, pw_cell_below hq b5, pw_cell_below hq d0, pw_cell_below hq d1, pw_cell_below hq d2, pw_cell_below hq d3, pw_cell_below hq d4, pw_cell_below hq d5⟩
            clear hHeld hK K
            have hHeld := hHeld2
            clear hHeld2
            try simp only [Act.put, List.setIfInBounds_toArray, List.set_cons_zero, List.set_cons_succ]
            refine one_ (i := 28) (N := some 58) #[true, true, true, true, true, true, true, true, true, true, true, true, true, true, true, true, true, true, true, true, true, true, true, true, true, true, true, true, true, true, true, true, true, false, false, false] rfl rfl (by kernel_rfl) (by decide) (fun K hK => ?_)
            have kx : (convert 24 9 (.slice A5 (19 + n') c5)).run Try.prog wN = .ok (.string S1) wN := (by rw [HS1.out]; exact str_of HE5.out)
            go_simp
            refine hK.out _ _ ?_ (fun hHeld2 => ?_)
            · (try dsimp only)
              first | with_reducible exact hHeld | exact ⟨pw_cell_below hq a0, pw_cell_below hq a1, pw_cell_below hq a2, pw_cell_below hq a3, pw_cell_below hq a4, pw_cell_below hq a5, pw_cell_below hq b0, pw_cell_below hq b1, pw_cell_below hq b2, pw_cell_below hq b3, pw_cell_below hq b4, pw_cell_below hq b5, pw_cell_below hq d0, pw_cell_below hq d1, pw_cell_below hq d2, pw_cell_below hq d3, pw_cell_below hq d4, pw_cell_below hq d5⟩
            clear hHeld hK K
            have hHeld := hHeld2
            clear hHeld2
            try simp only [Act.put, List.setIfInBounds_toArray, List.set_cons_zero, List.set_cons_succ]
            refine pure_ (i := 33) (N := some 63) (v := ?_) (a' := ?_) #[true, true, true, true, true, true, true, true, true, true, true, true, true, true, true, true, true, true, true, true, true, true, true, true, true, true, true, true, true, true, true, true, true, true, false, false] rfl rfl (by kernel_rfl) (fun _ _ _ h => h) (Or.inl ⟨by rfl, ?_⟩) ?_ ?_
            rotate_left
            · intro w'
              go_simp
              (try with_reducible rfl)
            rotate_left
            · simp only [Act.put, List.setIfInBounds_toArray, List.set_cons_zero, List.set_cons_succ]
              rfl
            refine pure_ (i := 34) (N := some 64) (v := ?_) (a' := ?_) #[true, true, true, true, true, true, true, true, true, true, true, true, true, true, true, true, true, true, true, true, true, true, true, true, true, true, true, true, true, true, true, true, true, true, true, false] rfl rfl (by kernel_rfl) (fun _ _ _ h => h) (Or.inl ⟨by rfl, ?_⟩) ?_ ?_
            rotate_left
            · intro w'
              go_simp
              (try with_reducible rfl)
            rotate_left
            · simp only [Act.put, List.setIfInBounds_toArray, List.set_cons_zero, List.set_cons_succ]
              rfl
            refine pure_ (i := 35) (N := some 4) (v := ?_) (a' := ?_) #[true, true, true, true, true, true, true, true, true, true, true, true, true, true, true, true, true, true, true, true, true, true, true, true, true, true, true, true, true, true, true, true, true, true, true, true] rfl rfl (by kernel_rfl) (fun _ _ _ h => h) (Or.inl ⟨by rfl, ?_⟩) ?_ ?_
            rotate_left
            · intro w'
              go_simp
              (try with_reducible rfl)
            rotate_left
            · simp only [Act.put, List.setIfInBounds_toArray, List.set_cons_zero, List.set_cons_succ]
              rfl
            refine wpAnyLast_done (by kernel_rfl) ?_ _
            go_wp2_with fail
            go_ret
            exact ⟨by first | rfl | simp, by first | exact below_then BZ.out BZ.out.size hq | exact below_then BZ.out BZ.out.size (below_drew hq) | exact below_then BZ.out BZ.out.size (below_drew (below_drew hq))⟩
          · have HGB := Lib.hid (decide_eq_false hgb)
            have HBAD := Lib.hid hgb
            have kn : ∀ w : World, (convert 24 9 (.slice none 0 0)).run Try.prog w = .ok (.string (strOfNums [])) w := fun w => str_of (reads_nil w .u8)
            clear hgb
            have hq : Below wz.heap.size wz wz := Below.refl _ _
            refine start_ (n := 36) (S := fun w' => w'.cell? ⟨w2.heap.size, 0, none⟩ = some (.int .i64 x.k) ∧ w'.cell? ⟨w2.heap.size, 1, none⟩ = some (.int .i64 x.f) ∧ w'.cell? ⟨w2.heap.size, 2, none⟩ = some (.int .i64 x.t) ∧ w'.cell? ⟨w2.heap.size, 3, none⟩ = some (.int .u32 x.v) ∧ w'.cell? ⟨w2.heap.size, 4, none⟩ = some (.int .u32 x.s) ∧ w'.cell? ⟨w2.heap.size, 5, none⟩ = some (.slice Ag x.b.length cg) ∧ w'.cell? ⟨w3.heap.size, 0, none⟩ = some (.int .i64 x.k) ∧ w'.cell? ⟨w3.heap.size, 1, none⟩ = some (.int .i64 x.f) ∧ w'.cell? ⟨w3.heap.size, 2, none⟩ = some (.int .i64 x.t) ∧ w'.cell? ⟨w3.heap.size, 3, none⟩ = some (.int .u32 x.v) ∧ w'.cell? ⟨w3.heap.size, 4, none⟩ = some (.int .u32 x.s) ∧ w'.cell? ⟨w3.heap.size, 5, none⟩ = some (.slice Ah x.b.length ch) ∧ w'.cell? ⟨W.heap.size, 0, none⟩ = some (.int .i64 y.k) ∧ w'.cell? ⟨W.heap.size, 1, none⟩ = some (.int .i64 y.f) ∧ w'.cell? ⟨W.heap.size, 2, none⟩ = some (.int .i64 y.t) ∧ w'.cell? ⟨W.heap.size, 3, none⟩ = some (.int .u32 y.v) ∧ w'.cell? ⟨W.heap.size, 4, none⟩ = some (.int .u32 y.s) ∧ w'.cell? ⟨W.heap.size, 5, none⟩ = some (.slice A' n' c')) (ds := []) #[false, false, false, false, false, false, false, false, false, false, false, false, false, false, false, false, false, false, false, false, false, false, false, false, false, false, false, false, false, false, false, false, false, false, false, false] (by kernel_rfl) rfl rfl (⟨a0, a1, a2, a3, a4, a5, b0, b1, b2, b3, b4, b5, d0, d1, d2, d3, d4, d5⟩) (fun hHeld => ?_)
            refine pure_ (i := 0) (N := some 30) (v := ?_) (a' := ?_) #[true, false, false, false, false, false, false, false, false, false, false, false, false, false, false, false, false, false, false, false, false, false, false, false, false, false, false, false, false, false, false, false, false, false, false, false] rfl rfl (by kernel_rfl) (fun _ _ _ h => h) (Or.inl ⟨by rfl, ?_⟩) ?_ ?_
            rotate_left
            · intro w'
              go_simp
              (try with_reducible rfl)
            rotate_left
            · simp only [Act.put, List.setIfInBounds_toArray, List.set_cons_zero, List.set_cons_succ]
              rfl
            refine pure_ (i := 1) (N := some 31) (v := ?_) (a' := ?_) #[true, true, false, false, false, false, false, false, false, false, false, false, false, false, false, false, false, false, false, false, false, false, false, false, false, false, false, false, false, false, false, false, false, false, false, false] rfl rfl (by kernel_rfl) (fun _ _ _ h => h) (Or.inl ⟨by rfl, ?_⟩) ?_ ?_
            rotate_left
            · intro w'
              go_simp
              (try with_reducible rfl)
            rotate_left
            · simp only [Act.put, List.setIfInBounds_toArray, List.set_cons_zero, List.set_cons_succ]
              rfl
            refine pure_ (i := 2) (N := some 32) (v := ?_) (a' := ?_) #[true, true, true, false, false, false, false, false, false, false, false, false, false, false, false, false, false, false, false, false, false, false, false, false, false, false, false, false, false, false, false, false, false, false, false, false] rfl rfl (by kernel_rfl) (fun _ _ _ h => h) (Or.inl ⟨by rfl, ?_⟩) ?_ ?_
            rotate_left
            · intro w'
              go_simp
              (try with_reducible rfl)
            rotate_left
            · simp only [Act.put, List.setIfInBounds_toArray, List.set_cons_zero, List.set_cons_succ]
              rfl
            refine pure_ (i := 3) (N := some 33) (v := ?_) (a' := ?_) #[true, true, true, true, false, false, false, false, false, false, false, false, false, false, false, false, false, false, false, false, false, false, false, false, false, false, false, false, false, false, false, false, false, false, false, false] rfl rfl (by kernel_rfl) (fun _ _ _ h => h) (Or.inl ⟨by rfl, ?_⟩) ?_ ?_
            rotate_left
            · intro w'
              go_simp
              (try with_reducible rfl)
            rotate_left
            · simp only [Act.put, List.setIfInBounds_toArray, List.set_cons_zero, List.set_cons_succ]
              rfl
            refine pure_ (i := 4) (N := some 34) (v := ?_) (a' := ?_) #[true, true, true, true, true, false, false, false, false, false, false, false, false, false, false, false, false, false, false, false, false, false, false, false, false, false, false, false, false, false, false, false, false, false, false, false] rfl rfl (by kernel_rfl) (fun _ _ _ h => h) (Or.inl ⟨by rfl, ?_⟩) ?_ ?_
            rotate_left
            · intro w'
              go_simp
              (try with_reducible rfl)
            rotate_left
            · simp only [Act.put, List.setIfInBounds_toArray, List.set_cons_zero, List.set_cons_succ]
              rfl
            refine pure_ (i := 5) (N := some 35) (v := ?_) (a' := ?_) #[true, true, true, true, true, true, false, false, false, false, false, false, false, false, false, false, false, false, false, false, false, false, false, false, false, false, false, false, false, false, false, false, false, false, false, false] rfl rfl (by kernel_rfl) (fun _ _ _ h => h) (Or.inl ⟨by rfl, ?_⟩) ?_ ?_
            rotate_left
            · intro w'
              go_simp
              (try with_reducible rfl)
            rotate_left
            · simp only [Act.put, List.setIfInBounds_toArray, List.set_cons_zero, List.set_cons_succ]
              rfl
            refine pure_ (i := 6) (N := some 36) (v := ?_) (a' := ?_) #[true, true, true, true, true, true, true, false, false, false, false, false, false, false, false, false, false, false, false, false, false, false, false, false, false, false, false, false, false, false, false, false, false, false, false, false] rfl rfl (by kernel_rfl) (fun _ _ _ h => h) (Or.inl ⟨by rfl, ?_⟩) ?_ ?_
            rotate_left
            · intro w'
              go_simp
              (try with_reducible rfl)
            rotate_left
            · simp only [Act.put, List.setIfInBounds_toArray, List.set_cons_zero, List.set_cons_succ]
              rfl
            refine pure_ (i := 7) (N := some 37) (v := undef) (a' := ?_) #[true, true, true, true, true, true, true, true, false, false, false, false, false, false, false, false, false, false, false, false, false, false, false, false, false, false, false, false, false, false, false, false, false, false, false, false] rfl rfl (by kernel_rfl) (fun _ _ _ h => h) (Or.inr ⟨by rfl, rfl⟩) ?_ ?_
            rotate_left
            · simp only [Act.put, List.setIfInBounds_toArray, List.set_cons_zero, List.set_cons_succ]
              rfl
            refine pure_ (i := 8) (N := some 38) (v := undef) (a' := ?_) #[true, true, true, true, true, true, true, true, true, false, false, false, false, false, false, false, false, false, false, false, false, false, false, false, false, false, false, false, false, false, false, false, false, false, false, false] rfl rfl (by kernel_rfl) (fun _ _ _ h => h) (Or.inr ⟨by rfl, rfl⟩) ?_ ?_
            rotate_left
            · simp only [Act.put, List.setIfInBounds_toArray, List.set_cons_zero, List.set_cons_succ]
              rfl
            refine pure_ (i := 9) (N := some 39) (v := ?_) (a' := ?_) #[true, true, true, true, true, true, true, true, true, true, false, false, false, false, false, false, false, false, false, false, false, false, false, false, false, false, false, false, false, false, false, false, false, false, false, false] rfl rfl (by kernel_rfl) (fun _ _ _ h => h) (Or.inl ⟨by rfl, ?_⟩) ?_ ?_
            rotate_left
            · intro w'
              go_simp
              (try with_reducible rfl)
            rotate_left
            · simp only [Act.put, List.setIfInBounds_toArray, List.set_cons_zero, List.set_cons_succ]
              rfl
            refine pure_ (i := 10) (N := some 40) (v := ?_) (a' := ?_) #[true, true, true, true, true, true, true, true, true, true, true, false, false, false, false, false, false, false, false, false, false, false, false, false, false, false, false, false, false, false, false, false, false, false, false, false] rfl rfl (by kernel_rfl) (fun _ _ _ h => h) (Or.inl ⟨by rfl, ?_⟩) ?_ ?_
            rotate_left
            · intro w'
              go_simp
              (try with_reducible rfl)
            rotate_left
            · simp only [Act.put, List.setIfInBounds_toArray, List.set_cons_zero, List.set_cons_succ]
              rfl
            refine pure_ (i := 11) (N := some 41) (v := ?_) (a' := ?_) #[true, true, true, true, true, true, true, true, true, true, true, true, false, false, false, false, false, false, false, false, false, false, false, false, false, false, false, false, false, false, false, false, false, false, false, false] rfl rfl (by kernel_rfl) (fun _ _ _ h => h) (Or.inl ⟨by rfl, ?_⟩) ?_ ?_
            rotate_left
            · intro w'
              go_simp
              (try with_reducible rfl)
            rotate_left
            · simp only [Act.put, List.setIfInBounds_toArray, List.set_cons_zero, List.set_cons_succ]
              rfl
            refine take_ (i := 12) (N := some 42) (v := ?_) (a' := ?_) #[true, true, true, true, true, true, true, true, true, true, true, true, true, false, false, false, false, false, false, false, false, false, false, false, false, false, false, false, false, false, false, false, false, false, false, false] rfl rfl (by kernel_rfl) (fun _ _ _ h => h) (Or.inl ⟨by rfl, ?_⟩) hHeld ?_ ?_
            rotate_left
            · rintro w' ⟨s0, s1, s2, s3, s4, s5, s6, s7, s8, s9, s10, s11, s12, s13, s14, s15, s16, s17⟩
              go_simp
              (try with_reducible rfl)
            rotate_left
            · simp only [Act.put, List.setIfInBounds_toArray, List.set_cons_zero, List.set_cons_succ]
              rfl
            refine take_ (i := 14) (N := some 44) (v := ?_) (a' := ?_) #[true, true, true, true, true, true, true, true, true, true, true, true, true, false, true, false, false, false, false, false, false, false, false, false, false, false, false, false, false, false, false, false, false, false, false, false] rfl rfl (by kernel_rfl) (fun _ _ _ h => h) (Or.inl ⟨by rfl, ?_⟩) hHeld ?_ ?_
            rotate_left
            · rintro w' ⟨s0, s1, s2, s3, s4, s5, s6, s7, s8, s9, s10, s11, s12, s13, s14, s15, s16, s17⟩
              go_simp
              (try with_reducible rfl)
            rotate_left
            · simp only [Act.put, List.setIfInBounds_toArray, List.set_cons_zero, List.set_cons_succ]
              rfl
            refine one_ (i := 13) (N := some 43) #[true, true, true, true, true, true, true, true, true, true, true, true, true, true, true, false, false, false, false, false, false, false, false, false, false, false, false, false, false, false, false, false, false, false, false, false] rfl rfl (by kernel_rfl) (by decide) (fun K hK => ?_)
            go_simp
            refine (own_walk _ _ _ _ _ _ _ _ _).mono ?_
            rintro e wN ⟨rfl, hbN⟩
            have hq : Below wz.heap.size wz wN := (by first | exact below_then hq hq.size hbN | exact below_then (below_drew hq) (below_drew hq).size hbN | exact below_then (below_drew (below_drew hq)) (below_drew (below_drew hq)).size hbN)
            try go_wp2_with fail
            refine hK.out _ _ ?_ (fun hHeld2 => ?_)
            · (try dsimp only)
              first | with_reducible exact hHeld | exact ⟨pw_cell_below hq a0, pw_cell_below hq a1, pw_cell_below hq a2, pw_cell_below hq a3, pw_cell_below hq a4, pw_cell_below hq a5, pw_cell_below hq b0, pw_cell_below hq b1, pw_cell_below hq b2, pw_cell_below hq b3, pw_cell_below hq b4, pw_cell_below hq b5, pw_cell_below hq d0, pw_cell_below hq d1, pw_cell_below hq d2, pw_cell_below hq d3, pw_cell_below hq d4, pw_cell_below hq d5⟩
            clear hHeld hK K
            have hHeld := hHeld2
            clear hHeld2
            try simp only [Act.put, List.setIfInBounds_toArray, List.set_cons_zero, List.set_cons_succ]
            refine one_ (i := 15) (N := some 45) #[true, true, true, true, true, true, true, true, true, true, true, true, true, true, true, true, false, false, false, false, false, false, false, false, false, false, false, false, false, false, false, false, false, false, false, false] rfl rfl (by kernel_rfl) (by decide) (fun K hK => ?_)
            go_simp
            refine (same_walk x x _ _ _ _ _ _ HXW.out HXW.out _ (by first | exact HRG.out.below hq | exact HRG.out.below (below_drew hq) | exact HRG.out.below (below_drew (below_drew hq))) (by first | exact HRH.out.below hq | exact HRH.out.below (below_drew hq) | exact HRH.out.below (below_drew (below_drew hq)))).mono ?_
            rintro e wN ⟨rfl, hbN⟩
            rw [eqb_self]
            have hq : Below wz.heap.size wz wN := (by first | exact below_then hq hq.size hbN | exact below_then (below_drew hq) (below_drew hq).size hbN | exact below_then (below_drew (below_drew hq)) (below_drew (below_drew hq)).size hbN)
            try go_wp2_with fail
            refine hK.out _ _ ?_ (fun hHeld2 => ?_)
            · (try dsimp only)
              first | with_reducible exact hHeld | exact ⟨pw_cell_below hq a0, pw_cell_below hq a1, pw_cell_below hq a2, pw_cell_below hq a3, pw_cell_below hq a4, pw_cell_below hq a5, pw_cell_below hq b0, pw_cell_below hq b1, pw_cell_below hq b2, pw_cell_below hq b3, pw_cell_below hq b4, pw_cell_below hq b5, pw_cell_below hq d0, pw_cell_below hq d1, pw_cell_below hq d2, pw_cell_below hq d3, pw_cell_below hq d4, pw_cell_below hq d5⟩
            clear hHeld hK K
            have hHeld := hHeld2
            clear hHeld2
            try simp only [Act.put, List.setIfInBounds_toArray, List.set_cons_zero, List.set_cons_succ]
            refine pure_ (i := 16) (N := some 46) (v := ?_) (a' := ?_) #[true, true, true, true, true, true, true, true, true, true, true, true, true, true, true, true, true, false, false, false, false, false, false, false, false, false, false, false, false, false, false, false, false, false, false, false] rfl rfl (by kernel_rfl) (fun _ _ _ h => h) (Or.inl ⟨by rfl, ?_⟩) ?_ ?_
            rotate_left
            · intro w'
              go_simp
              (try with_reducible rfl)
            rotate_left
            · simp only [Act.put, List.setIfInBounds_toArray, List.set_cons_zero, List.set_cons_succ]
              rfl
            refine pure_ (i := 17) (N := some 47) (v := ?_) (a' := ?_) #[true, true, true, true, true, true, true, true, true, true, true, true, true, true, true, true, true, true, false, false, false, false, false, false, false, false, false, false, false, false, false, false, false, false, false, false] rfl rfl (by kernel_rfl) (fun _ _ _ h => h) (Or.inl ⟨by rfl, ?_⟩) ?_ ?_
            rotate_left
            · intro w'
              go_simp
              (try with_reducible rfl)
            rotate_left
            · simp only [Act.put, List.setIfInBounds_toArray, List.set_cons_zero, List.set_cons_succ]
              rfl
            refine take_ (i := 18) (N := some 48) (v := ?_) (a' := ?_) #[true, true, true, true, true, true, true, true, true, true, true, true, true, true, true, true, true, true, true, false, false, false, false, false, false, false, false, false, false, false, false, false, false, false, false, false] rfl rfl (by kernel_rfl) (fun _ _ _ h => h) (Or.inl ⟨by rfl, ?_⟩) hHeld ?_ ?_
            rotate_left
            · rintro w' ⟨s0, s1, s2, s3, s4, s5, s6, s7, s8, s9, s10, s11, s12, s13, s14, s15, s16, s17⟩
              go_simp
              (try with_reducible rfl)
            rotate_left
            · simp only [Act.put, List.setIfInBounds_toArray, List.set_cons_zero, List.set_cons_succ]
              rfl
            refine take_ (i := 20) (N := some 50) (v := ?_) (a' := ?_) #[true, true, true, true, true, true, true, true, true, true, true, true, true, true, true, true, true, true, true, false, true, false, false, false, false, false, false, false, false, false, false, false, false, false, false, false] rfl rfl (by kernel_rfl) (fun _ _ _ h => h) (Or.inl ⟨by rfl, ?_⟩) hHeld ?_ ?_
            rotate_left
            · rintro w' ⟨s0, s1, s2, s3, s4, s5, s6, s7, s8, s9, s10, s11, s12, s13, s14, s15, s16, s17⟩
              go_simp
              (try with_reducible rfl)
            rotate_left
            · simp only [Act.put, List.setIfInBounds_toArray, List.set_cons_zero, List.set_cons_succ]
              rfl
            refine one_ (i := 19) (N := some 49) #[true, true, true, true, true, true, true, true, true, true, true, true, true, true, true, true, true, true, true, true, true, false, false, false, false, false, false, false, false, false, false, false, false, false, false, false] rfl rfl (by kernel_rfl) (by decide) (fun K hK => ?_)
            go_simp
            refine (good_walk _ _ _ _ _ _ _ _ (by omega) _).mono ?_
            rintro e wN ⟨rfl, hwN⟩
            rw [HGB.out]
            have hq : Below wz.heap.size wz wN := (by rw [← hwN]; first | exact hq.alloc hq.size _ | exact (below_drew hq).alloc (below_drew hq).size _ | exact (below_drew (below_drew hq)).alloc (below_drew (below_drew hq)).size _)
            clear hwN
            try go_wp2_with fail
            refine hK.out _ _ ?_ (fun hHeld2 => ?_)
            · (try dsimp only)
              first | with_reducible exact hHeld | exact ⟨pw_cell_below hq a0, pw_cell_below hq a1, pw_cell_below hq a2, pw_cell_below hq a3, pw_cell_below hq a4, pw_cell_below hq a5, pw_cell_below hq b0, pw_cell_below hq b1, pw_cell_below hq b2, pw_cell_below hq b3, pw_cell_below hq b4, pw_cell_below hq b5, pw_cell_below hq d0, pw_cell_below hq d1, pw_cell_below hq d2, pw_cell_below hq d3, pw_cell_below hq d4, pw_cell_below hq d5⟩
            clear hHeld hK K
            have hHeld := hHeld2
            clear hHeld2
            try simp only [Act.put, List.setIfInBounds_toArray, List.set_cons_zero, List.set_cons_succ]
            refine one_ (i := 21) (N := some 51) #[true, true, true, true, true, true, true, true, true, true, true, true, true, true, true, true, true, true, true, true, true, true, false, false, false, false, false, false, false, false, false, false, false, false, false, false] rfl rfl (by kernel_rfl) (by decide) (fun K hK => ?_)
            go_simp
            refine (own_walk _ _ _ _ _ _ _ _ _).mono ?_
            rintro e wN ⟨rfl, hbN⟩
            have hq : Below wz.heap.size wz wN := (by first | exact below_then hq hq.size hbN | exact below_then (below_drew hq) (below_drew hq).size hbN | exact below_then (below_drew (below_drew hq)) (below_drew (below_drew hq)).size hbN)
            try go_wp2_with fail
            refine hK.out _ _ ?_ (fun hHeld2 => ?_)
            · (try dsimp only)
              first | with_reducible exact hHeld | exact ⟨pw_cell_below hq a0, pw_cell_below hq a1, pw_cell_below hq a2, pw_cell_below hq a3, pw_cell_below hq a4, pw_cell_below hq a5, pw_cell_below hq b0, pw_cell_below hq b1, pw_cell_below hq b2, pw_cell_below hq b3, pw_cell_below hq b4, pw_cell_below hq b5, pw_cell_below hq d0, pw_cell_below hq d1, pw_cell_below hq d2, pw_cell_below hq d3, pw_cell_below hq d4, pw_cell_below hq d5⟩
            clear hHeld hK K
            have hHeld := hHeld2
            clear hHeld2
            try simp only [Act.put, List.setIfInBounds_toArray, List.set_cons_zero, List.set_cons_succ]
            refine one_ (i := 22) (N := some 52) #[true, true, true, true, true, true, true, true, true, true, true, true, true, true, true, true, true, true, true, true, true, true, true, false, false, false, false, false, false, false, false, false, false, false, false, false] rfl rfl (by kernel_rfl) (by decide) (fun K hK => ?_)
            go_simp
            refine (rgood_walk _ _ _ _ _ _ _ _ (by omega) _).mono ?_
            rintro e wN ⟨rfl, hwN⟩
            rw [HGB.out]
            have hq : Below wz.heap.size wz wN := (by rw [← hwN]; first | exact hq.alloc hq.size _ | exact (below_drew hq).alloc (below_drew hq).size _ | exact (below_drew (below_drew hq)).alloc (below_drew (below_drew hq)).size _)
            clear hwN
            try go_wp2_with fail
            refine hK.out _ _ ?_ (fun hHeld2 => ?_)
            · (try dsimp only)
              first | with_reducible exact hHeld | exact ⟨pw_cell_below hq a0, pw_cell_below hq a1, pw_cell_below hq a2, pw_cell_below hq a3, pw_cell_below hq a4, pw_cell_below hq a5, pw_cell_below hq b0, pw_cell_below hq b1, pw_cell_below hq b2, pw_cell_below hq b3, pw_cell_below hq b4, pw_cell_below hq b5, pw_cell_below hq d0, pw_cell_below hq d1, pw_cell_below hq d2, pw_cell_below hq d3, pw_cell_below hq d4, pw_cell_below hq d5⟩
            clear hHeld hK K
            have hHeld := hHeld2
            clear hHeld2
            try simp only [Act.put, List.setIfInBounds_toArray, List.set_cons_zero, List.set_cons_succ]
            refine pure_ (i := 23) (N := some 53) (v := ?_) (a' := ?_) #[true, true, true, true, true, true, true, true, true, true, true, true, true, true, true, true, true, true, true, true, true, true, true, true, false, false, false, false, false, false, false, false, false, false, false, false] rfl rfl (by kernel_rfl) (fun _ _ _ h => h) (Or.inl ⟨by rfl, ?_⟩) ?_ ?_
            rotate_left
            · intro w'
              go_simp
              (try with_reducible rfl)
            rotate_left
            · simp only [Act.put, List.setIfInBounds_toArray, List.set_cons_zero, List.set_cons_succ]
              rfl
            refine pure_ (i := 24) (N := some 54) (v := ?_) (a' := ?_) #[true, true, true, true, true, true, true, true, true, true, true, true, true, true, true, true, true, true, true, true, true, true, true, true, true, false, false, false, false, false, false, false, false, false, false, false] rfl rfl (by kernel_rfl) (fun _ _ _ h => h) (Or.inl ⟨by rfl, ?_⟩) ?_ ?_
            rotate_left
            · intro w'
              go_simp
              (try with_reducible rfl)
            rotate_left
            · simp only [Act.put, List.setIfInBounds_toArray, List.set_cons_zero, List.set_cons_succ]
              rfl
            refine pure_ (i := 25) (N := some 55) (v := ?_) (a' := ?_) #[true, true, true, true, true, true, true, true, true, true, true, true, true, true, true, true, true, true, true, true, true, true, true, true, true, true, false, false, false, false, false, false, false, false, false, false] rfl rfl (by kernel_rfl) (fun _ _ _ h => h) (Or.inl ⟨by rfl, ?_⟩) ?_ ?_
            rotate_left
            · intro w'
              go_simp
              (try with_reducible rfl)
            rotate_left
            · simp only [Act.put, List.setIfInBounds_toArray, List.set_cons_zero, List.set_cons_succ]
              rfl
            refine take_ (i := 26) (N := some 56) (v := ?_) (a' := ?_) #[true, true, true, true, true, true, true, true, true, true, true, true, true, true, true, true, true, true, true, true, true, true, true, true, true, true, true, false, false, false, false, false, false, false, false, false] rfl rfl (by kernel_rfl) (fun _ _ _ h => h) (Or.inl ⟨by rfl, ?_⟩) hHeld ?_ ?_
            rotate_left
            · rintro w' ⟨s0, s1, s2, s3, s4, s5, s6, s7, s8, s9, s10, s11, s12, s13, s14, s15, s16, s17⟩
              go_simp
              (try with_reducible rfl)
            rotate_left
            · simp only [Act.put, List.setIfInBounds_toArray, List.set_cons_zero, List.set_cons_succ]
              rfl
            refine take_ (i := 29) (N := some 59) (v := ?_) (a' := ?_) #[true, true, true, true, true, true, true, true, true, true, true, true, true, true, true, true, true, true, true, true, true, true, true, true, true, true, true, false, false, true, false, false, false, false, false, false] rfl rfl (by kernel_rfl) (fun _ _ _ h => h) (Or.inl ⟨by rfl, ?_⟩) hHeld ?_ ?_
            rotate_left
            · rintro w' ⟨s0, s1, s2, s3, s4, s5, s6, s7, s8, s9, s10, s11, s12, s13, s14, s15, s16, s17⟩
              go_simp
              (try with_reducible rfl)
            rotate_left
            · simp only [Act.put, List.setIfInBounds_toArray, List.set_cons_zero, List.set_cons_succ]
              rfl
            refine one_ (i := 27) (N := some 57) #[true, true, true, true, true, true, true, true, true, true, true, true, true, true, true, true, true, true, true, true, true, true, true, true, true, true, true, true, false, true, false, false, false, false, false, false] rfl rfl (by kernel_rfl) (by decide) (fun K hK => ?_)
            go_simp
            refine (encode_bad _ _ _ _ _ A' n' c' (by omega) HBAD.out _).mono ?_
            rintro e wN ⟨rfl, hbN⟩
            have hq : Below wz.heap.size wz wN := (by first | exact below_then hq hq.size hbN | exact below_then (below_drew hq) (below_drew hq).size hbN | exact below_then (below_drew (below_drew hq)) (below_drew (below_drew hq)).size hbN)
            try go_wp2_with fail
            refine hK.out _ _ ?_ (fun hHeld2 => ?_)
            · (try dsimp only)
              first | with_reducible exact hHeld | exact ⟨pw_cell_below hq a0, pw_cell_below hq a1, pw_cell_below hq a2, pw_cell_below hq a3, pw_cell_below hq a4, pw_cell_below hq a5, pw_cell_below hq b0, pw_cell_below hq b1, pw_cell_below hq b2, pw_cell_below hq b3, pw_cell_below hq b4, pw_cell_below hq b5, pw_cell_below hq d0, pw_cell_below hq d1, pw_cell_below hq d2, pw_cell_below hq d3, pw_cell_below hq d4, pw_cell_below hq d5⟩
            clear hHeld hK K
            have hHeld := hHeld2
            clear hHeld2
            try simp only [Act.put, List.setIfInBounds_toArray, List.set_cons_zero, List.set_cons_succ]
            refine pure_ (i := 28) (N := some 58) (v := ?_) (a' := ?_) #[true, true, true, true, true, true, true, true, true, true, true, true, true, true, true, true, true, true, true, true, true, true, true, true, true, true, true, true, true, true, false, false, false, false, false, false] rfl rfl (by kernel_rfl) (fun _ _ _ h => h) (Or.inl ⟨by rfl, ?_⟩) ?_ ?_
            rotate_left
            · intro w'
              go_simp
              (try with_reducible rfl)
            rotate_left
            · simp only [Act.put, List.setIfInBounds_toArray, List.set_cons_zero, List.set_cons_succ]
              rfl
            refine one_ (i := 30) (N := some 60) #[true, true, true, true, true, true, true, true, true, true, true, true, true, true, true, true, true, true, true, true, true, true, true, true, true, true, true, true, true, true, true, false, false, false, false, false] rfl rfl (by kernel_rfl) (by decide) (fun K hK => ?_)
            go_simp
            refine (own_walk _ _ _ _ _ _ _ _ _).mono ?_
            rintro e wN ⟨rfl, hbN⟩
            have hq : Below wz.heap.size wz wN := (by first | exact below_then hq hq.size hbN | exact below_then (below_drew hq) (below_drew hq).size hbN | exact below_then (below_drew (below_drew hq)) (below_drew (below_drew hq)).size hbN)
            try go_wp2_with fail
            refine hK.out _ _ ?_ (fun hHeld2 => ?_)
            · (try dsimp only)
              first | with_reducible exact hHeld | exact ⟨pw_cell_below hq a0, pw_cell_below hq a1, pw_cell_below hq a2, pw_cell_below hq a3, pw_cell_below hq a4, pw_cell_below hq a5, pw_cell_below hq b0, pw_cell_below hq b1, pw_cell_below hq b2, pw_cell_below hq b3, pw_cell_below hq b4, pw_cell_below hq b5, pw_cell_below hq d0, pw_cell_below hq d1, pw_cell_below hq d2, pw_cell_below hq d3, pw_cell_below hq d4, pw_cell_below hq d5⟩
            clear hHeld hK K
            have hHeld := hHeld2
            clear hHeld2
            try simp only [Act.put, List.setIfInBounds_toArray, List.set_cons_zero, List.set_cons_succ]
            refine one_ (i := 31) (N := some 61) #[true, true, true, true, true, true, true, true, true, true, true, true, true, true, true, true, true, true, true, true, true, true, true, true, true, true, true, true, true, true, true, true, false, false, false, false] rfl rfl (by kernel_rfl) (by decide) (fun K hK => ?_)
            go_simp
            refine (rencode_bad _ _ _ _ _ A' n' c' (by omega) HBAD.out _).mono ?_
            rintro e wN ⟨rfl, hbN⟩
            have hq : Below wz.heap.size wz wN := (by first | exact below_then hq hq.size hbN | exact below_then (below_drew hq) (below_drew hq).size hbN | exact below_then (below_drew (below_drew hq)) (below_drew (below_drew hq)).size hbN)
            try go_wp2_with fail
            refine hK.out _ _ ?_ (fun hHeld2 => ?_)
            · (try dsimp only)
              first | with_reducible exact hHeld | exact ⟨pw_cell_below hq a0, pw_cell_below hq a1, pw_cell_below hq a2, pw_cell_below hq a3, pw_cell_below hq a4, pw_cell_below hq a5, pw_cell_below hq b0, pw_cell_below hq b1, pw_cell_below hq b2, pw_cell_below hq b3, pw_cell_below hq b4, pw_cell_below hq b5, pw_cell_below hq d0, pw_cell_below hq d1, pw_cell_below hq d2, pw_cell_below hq d3, pw_cell_below hq d4, pw_cell_below hq d5⟩
            clear hHeld hK K
            have hHeld := hHeld2
            clear hHeld2
            try simp only [Act.put, List.setIfInBounds_toArray, List.set_cons_zero, List.set_cons_succ]
            refine pure_ (i := 32) (N := some 62) (v := ?_) (a' := ?_) #[true, true, true, true, true, true, true, true, true, true, true, true, true, true, true, true, true, true, true, true, true, true, true, true, true, true, true, true, true, true, true, true, true, false, false, false] rfl rfl (by kernel_rfl) (fun _ _ _ h => h) (Or.inl ⟨by rfl, ?_⟩) ?_ ?_
            rotate_left
            · intro w'
              go_simp
              (try with_reducible rfl)
            rotate_left
            · simp only [Act.put, List.setIfInBounds_toArray, List.set_cons_zero, List.set_cons_succ]
              rfl
            refine pure_ (i := 33) (N := some 63) (v := ?_) (a' := ?_) #[true, true, true, true, true, true, true, true, true, true, true, true, true, true, true, true, true, true, true, true, true, true, true, true, true, true, true, true, true, true, true, true, true, true, false, false] rfl rfl (by kernel_rfl) (fun _ _ _ h => h) (Or.inl ⟨by rfl, ?_⟩) ?_ ?_
            rotate_left
            · intro w'
              go_simp
              (try with_reducible rfl)
            rotate_left
            · simp only [Act.put, List.setIfInBounds_toArray, List.set_cons_zero, List.set_cons_succ]
              rfl
            refine pure_ (i := 34) (N := some 64) (v := ?_) (a' := ?_) #[true, true, true, true, true, true, true, true, true, true, true, true, true, true, true, true, true, true, true, true, true, true, true, true, true, true, true, true, true, true, true, true, true, true, true, false] rfl rfl (by kernel_rfl) (fun _ _ _ h => h) (Or.inl ⟨by rfl, ?_⟩) ?_ ?_
            rotate_left
            · intro w'
              go_simp
              (try with_reducible rfl)
            rotate_left
            · simp only [Act.put, List.setIfInBounds_toArray, List.set_cons_zero, List.set_cons_succ]
              rfl
            refine pure_ (i := 35) (N := some 4) (v := ?_) (a' := ?_) #[true, true, true, true, true, true, true, true, true, true, true, true, true, true, true, true, true, true, true, true, true, true, true, true, true, true, true, true, true, true, true, true, true, true, true, true] rfl rfl (by kernel_rfl) (fun _ _ _ h => h) (Or.inl ⟨by rfl, ?_⟩) ?_ ?_
            rotate_left
            · intro w'
              go_simp
              (try with_reducible rfl)
            rotate_left
            · simp only [Act.put, List.setIfInBounds_toArray, List.set_cons_zero, List.set_cons_succ]
              rfl
            refine wpAnyLast_done (by kernel_rfl) ?_ _
            go_wp2_with fail
            go_ret
            exact ⟨by first | rfl | simp, by first | exact below_then BZ.out BZ.out.size hq | exact below_then BZ.out BZ.out.size (below_drew hq) | exact below_then BZ.out BZ.out.size (below_drew (below_drew hq))⟩
        · exact absurd ⟨x, HXI.out⟩ hnx
      · have HNX := Lib.hid hnx; clear hnx
        go_wp2_with fail
        have B3 := Lib.hid (show Below W.heap.size W (w2.alloc (.cells (frC 0 0 0 0 0 (.slice none 0 0)) 26)) from B2.out.1.alloc B2.out.1.size _)
        refine (rdecode_any A n c xs _ (HL.out.below B3.out) HW.out (by omega) hc).mono ?_
        rintro e w3 ⟨hd, hb3⟩
        rcases hd with ⟨x', hx', Ah, ch, rfl, hrh⟩ | ⟨hnx, rfl⟩
        · exact absurd ⟨x', hx'⟩ HNX.out
        · have ZG := Lib.hid (show (w3.alloc (.cells (frC 0 0 0 0 0 (.slice none 0 0)) 32)).heap[w2.heap.size]? = some (.cells (frC 0 0 0 0 0 (.slice none 0 0)) 26 (0, 0)) from heap_alloc_keep _ (heap_keep hb3 (heap_alloc_new w2 _)))
          have ZH := Lib.hid (show (w3.alloc (.cells (frC 0 0 0 0 0 (.slice none 0 0)) 32)).heap[w3.heap.size]? = some (.cells (frC 0 0 0 0 0 (.slice none 0 0)) 32 (0, 0)) from heap_alloc_new _ _)
          have ZY := Lib.hid (show (w3.alloc (.cells (frC 0 0 0 0 0 (.slice none 0 0)) 32)).heap[W.heap.size]? = some (.cells (frC y.k y.f y.t y.v y.s (.slice A' n' c')) 26 (0, 0)) from heap_alloc_keep _ (heap_keep hb3 (heap_alloc_keep _ B2.out.2)))
          have BZ := Lib.hid (show Below W.heap.size W (w3.alloc (.cells (frC 0 0 0 0 0 (.slice none 0 0)) 32)) from (below_then B3.out B3.out.size hb3).alloc (below_then B3.out B3.out.size hb3).size _)
          have HRY := Lib.hid (HY.out.rd.below BZ.out)
          have HRG := Lib.hid (show ReadsInt (w3.alloc (.cells (frC 0 0 0 0 0 (.slice none 0 0)) 32)) .u8 none 0 frZ.b from reads_nil _ _)
          have HRH := Lib.hid (show ReadsInt (w3.alloc (.cells (frC 0 0 0 0 0 (.slice none 0 0)) 32)) .u8 none 0 frZ.b from reads_nil _ _)
          have HXW := Lib.hid (show ∀ z ∈ frZ.b, (Lit.int .u8 z).wf = true by simp [frZ])
          clear hnx hb3 B2 B3
          go_wp2_with fail
          generalize hwz : w3.alloc (.cells (frC 0 0 0 0 0 (.slice none 0 0)) 32) = wz at *
          obtain ⟨a0, a1, a2, a3, a4, a5⟩ := box_cells ZG.out
          obtain ⟨b0, b1, b2, b3, b4, b5⟩ := box_cells ZH.out
          obtain ⟨d0, d1, d2, d3, d4, d5⟩ := box_cells ZY.out
          have HYW := Lib.hid HY.out.wf
          clear hwz ZG ZH ZY
          by_cases hgb : goodB y.k y.f y.t n'
          · have HGB := Lib.hid (decide_eq_true hgb)
            have HGOOD := Lib.hid ((goodB_iff y n' HY.out.rd.1).1 hgb)
            obtain ⟨S1, hS1⟩ : ∃ S : ByteArray, S = strOfNums (enc y) := ⟨_, rfl⟩
            have HS1 := Lib.hid hS1
            clear hgb hS1
            have hq : Below wz.heap.size wz wz := Below.refl _ _
            refine start_ (n := 36) (S := fun w' => w'.cell? ⟨w2.heap.size, 0, none⟩ = some (.int .i64 0) ∧ w'.cell? ⟨w2.heap.size, 1, none⟩ = some (.int .i64 0) ∧ w'.cell? ⟨w2.heap.size, 2, none⟩ = some (.int .i64 0) ∧ w'.cell? ⟨w2.heap.size, 3, none⟩ = some (.int .u32 0) ∧ w'.cell? ⟨w2.heap.size, 4, none⟩ = some (.int .u32 0) ∧ w'.cell? ⟨w2.heap.size, 5, none⟩ = some (.slice none 0 0) ∧ w'.cell? ⟨w3.heap.size, 0, none⟩ = some (.int .i64 0) ∧ w'.cell? ⟨w3.heap.size, 1, none⟩ = some (.int .i64 0) ∧ w'.cell? ⟨w3.heap.size, 2, none⟩ = some (.int .i64 0) ∧ w'.cell? ⟨w3.heap.size, 3, none⟩ = some (.int .u32 0) ∧ w'.cell? ⟨w3.heap.size, 4, none⟩ = some (.int .u32 0) ∧ w'.cell? ⟨w3.heap.size, 5, none⟩ = some (.slice none 0 0) ∧ w'.cell? ⟨W.heap.size, 0, none⟩ = some (.int .i64 y.k) ∧ w'.cell? ⟨W.heap.size, 1, none⟩ = some (.int .i64 y.f) ∧ w'.cell? ⟨W.heap.size, 2, none⟩ = some (.int .i64 y.t) ∧ w'.cell? ⟨W.heap.size, 3, none⟩ = some (.int .u32 y.v) ∧ w'.cell? ⟨W.heap.size, 4, none⟩ = some (.int .u32 y.s) ∧ w'.cell? ⟨W.heap.size, 5, none⟩ = some (.slice A' n' c')) (ds := []) #[false, false, false, false, false, false, false, false, false, false, false, false, false, false, false, false, false, false, false, false, false, false, false, false, false, false, false, false, false, false, false, false, false, false, false, false] (by kernel_rfl) rfl rfl (⟨a0, a1, a2, a3, a4, a5, b0, b1, b2, b3, b4, b5, d0, d1, d2, d3, d4, d5⟩) (fun hHeld => ?_)
            refine pure_ (i := 0) (N := some 30) (v := ?_) (a' := ?_) #[true, false, false, false, false, false, false, false, false, false, false, false, false, false, false, false, false, false, false, false, false, false, false, false, false, false, false, false, false, false, false, false, false, false, false, false] rfl rfl (by kernel_rfl) (fun _ _ _ h => h) (Or.inl ⟨by rfl, ?_⟩) ?_ ?_
            rotate_left
            · intro w'
              go_simp
              (try with_reducible rfl)
            rotate_left
            · simp only [Act.put, List.setIfInBounds_toArray, List.set_cons_zero, List.set_cons_succ]
              rfl
            refine pure_ (i := 1) (N := some 31) (v := ?_) (a' := ?_) #[true, true, false, false, false, false, false, false, false, false, false, false, false, false, false, false, false, false, false, false, false, false, false, false, false, false, false, false, false, false, false, false, false, false, false, false] rfl rfl (by kernel_rfl) (fun _ _ _ h => h) (Or.inl ⟨by rfl, ?_⟩) ?_ ?_
            rotate_left
            · intro w'
              go_simp
              (try with_reducible rfl)
            rotate_left
            · simp only [Act.put, List.setIfInBounds_toArray, List.set_cons_zero, List.set_cons_succ]
              rfl
            refine pure_ (i := 2) (N := some 32) (v := ?_) (a' := ?_) #[true, true, true, false, false, false, false, false, false, false, false, false, false, false, false, false, false, false, false, false, false, false, false, false, false, false, false, false, false, false, false, false, false, false, false, false] rfl rfl (by kernel_rfl) (fun _ _ _ h => h) (Or.inl ⟨by rfl, ?_⟩) ?_ ?_
            rotate_left
            · intro w'
              go_simp
              (try with_reducible rfl)
            rotate_left
            · simp only [Act.put, List.setIfInBounds_toArray, List.set_cons_zero, List.set_cons_succ]
              rfl
            refine pure_ (i := 3) (N := some 33) (v := ?_) (a' := ?_) #[true, true, true, true, false, false, false, false, false, false, false, false, false, false, false, false, false, false, false, false, false, false, false, false, false, false, false, false, false, false, false, false, false, false, false, false] rfl rfl (by kernel_rfl) (fun _ _ _ h => h) (Or.inl ⟨by rfl, ?_⟩) ?_ ?_
            rotate_left
            · intro w'
              go_simp
              (try with_reducible rfl)
            rotate_left
            · simp only [Act.put, List.setIfInBounds_toArray, List.set_cons_zero, List.set_cons_succ]
              rfl
            refine pure_ (i := 4) (N := some 34) (v := ?_) (a' := ?_) #[true, true, true, true, true, false, false, false, false, false, false, false, false, false, false, false, false, false, false, false, false, false, false, false, false, false, false, false, false, false, false, false, false, false, false, false] rfl rfl (by kernel_rfl) (fun _ _ _ h => h) (Or.inl ⟨by rfl, ?_⟩) ?_ ?_
            rotate_left
            · intro w'
              go_simp
              (try with_reducible rfl)
            rotate_left
            · simp only [Act.put, List.setIfInBounds_toArray, List.set_cons_zero, List.set_cons_succ]
              rfl
            refine pure_ (i := 5) (N := some 35) (v := ?_) (a' := ?_) #[true, true, true, true, true, true, false, false, false, false, false, false, false, false, false, false, false, false, false, false, false, false, false, false, false, false, false, false, false, false, false, false, false, false, false, false] rfl rfl (by kernel_rfl) (fun _ _ _ h => h) (Or.inl ⟨by rfl, ?_⟩) ?_ ?_
            rotate_left
            · intro w'
              go_simp
              (try with_reducible rfl)
            rotate_left
            · simp only [Act.put, List.setIfInBounds_toArray, List.set_cons_zero, List.set_cons_succ]
              rfl
            refine pure_ (i := 6) (N := some 36) (v := ?_) (a' := ?_) #[true, true, true, true, true, true, true, false, false, false, false, false, false, false, false, false, false, false, false, false, false, false, false, false, false, false, false, false, false, false, false, false, false, false, false, false] rfl rfl (by kernel_rfl) (fun _ _ _ h => h) (Or.inl ⟨by rfl, ?_⟩) ?_ ?_
            rotate_left
            · intro w'
              go_simp
              (try with_reducible rfl)
            rotate_left
            · simp only [Act.put, List.setIfInBounds_toArray, List.set_cons_zero, List.set_cons_succ]
              rfl
            refine pure_ (i := 7) (N := some 37) (v := ?_) (a' := ?_) #[true, true, true, true, true, true, true, true, false, false, false, false, false, false, false, false, false, false, false, false, false, false, false, false, false, false, false, false, false, false, false, false, false, false, false, false] rfl rfl (by kernel_rfl) (fun _ _ _ h => h) (Or.inl ⟨by rfl, ?_⟩) ?_ ?_
            rotate_left
            · intro w'
              go_simp
              (try with_reducible rfl)
            rotate_left
            · simp only [Act.put, List.setIfInBounds_toArray, List.set_cons_zero, List.set_cons_succ]
              rfl
            refine pure_ (i := 8) (N := some 38) (v := ?_) (a' := ?_) #[true, true, true, true, true, true, true, true, true, false, false, false, false, false, false, false, false, false, false, false, false, false, false, false, false, false, false, false, false, false, false, false, false, false, false, false] rfl rfl (by kernel_rfl) (fun _ _ _ h => h) (Or.inl ⟨by rfl, ?_⟩) ?_ ?_
            rotate_left
            · intro w'
              go_simp
              (try with_reducible rfl)
            rotate_left
            · simp only [Act.put, List.setIfInBounds_toArray, List.set_cons_zero, List.set_cons_succ]
              rfl
            refine pure_ (i := 9) (N := some 39) (v := ?_) (a' := ?_) #[true, true, true, true, true, true, true, true, true, true, false, false, false, false, false, false, false, false, false, false, false, false, false, false, false, false, false, false, false, false, false, false, false, false, false, false] rfl rfl (by kernel_rfl) (fun _ _ _ h => h) (Or.inl ⟨by rfl, ?_⟩) ?_ ?_
            rotate_left
            · intro w'
              go_simp
              (try with_reducible rfl)
            rotate_left
            · simp only [Act.put, List.setIfInBounds_toArray, List.set_cons_zero, List.set_cons_succ]
              rfl
            refine pure_ (i := 10) (N := some 40) (v := ?_) (a' := ?_) #[true, true, true, true, true, true, true, true, true, true, true, false, false, false, false, false, false, false, false, false, false, false, false, false, false, false, false, false, false, false, false, false, false, false, false, false] rfl rfl (by kernel_rfl) (fun _ _ _ h => h) (Or.inl ⟨by rfl, ?_⟩) ?_ ?_
            rotate_left
            · intro w'
              go_simp
              (try with_reducible rfl)
            rotate_left
            · simp only [Act.put, List.setIfInBounds_toArray, List.set_cons_zero, List.set_cons_succ]
              rfl
            refine pure_ (i := 11) (N := some 41) (v := ?_) (a' := ?_) #[true, true, true, true, true, true, true, true, true, true, true, true, false, false, false, false, false, false, false, false, false, false, false, false, false, false, false, false, false, false, false, false, false, false, false, false] rfl rfl (by kernel_rfl) (fun _ _ _ h => h) (Or.inl ⟨by rfl, ?_⟩) ?_ ?_
            rotate_left
            · intro w'
              go_simp
              (try with_reducible rfl)
            rotate_left
            · simp only [Act.put, List.setIfInBounds_toArray, List.set_cons_zero, List.set_cons_succ]
              rfl
            refine take_ (i := 12) (N := some 42) (v := ?_) (a' := ?_) #[true, true, true, true, true, true, true, true, true, true, true, true, true, false, false, false, false, false, false, false, false, false, false, false, false, false, false, false, false, false, false, false, false, false, false, false] rfl rfl (by kernel_rfl) (fun _ _ _ h => h) (Or.inl ⟨by rfl, ?_⟩) hHeld ?_ ?_
            rotate_left
            · rintro w' ⟨s0, s1, s2, s3, s4, s5, s6, s7, s8, s9, s10, s11, s12, s13, s14, s15, s16, s17⟩
              go_simp
              (try with_reducible rfl)
            rotate_left
            · simp only [Act.put, List.setIfInBounds_toArray, List.set_cons_zero, List.set_cons_succ]
              rfl
            refine take_ (i := 14) (N := some 44) (v := ?_) (a' := ?_) #[true, true, true, true, true, true, true, true, true, true, true, true, true, false, true, false, false, false, false, false, false, false, false, false, false, false, false, false, false, false, false, false, false, false, false, false] rfl rfl (by kernel_rfl) (fun _ _ _ h => h) (Or.inl ⟨by rfl, ?_⟩) hHeld ?_ ?_
            rotate_left
            · rintro w' ⟨s0, s1, s2, s3, s4, s5, s6, s7, s8, s9, s10, s11, s12, s13, s14, s15, s16, s17⟩
              go_simp
              (try with_reducible rfl)
            rotate_left
            · simp only [Act.put, List.setIfInBounds_toArray, List.set_cons_zero, List.set_cons_succ]
              rfl
            refine one_ (i := 13) (N := some 43) #[true, true, true, true, true, true, true, true, true, true, true, true, true, true, true, false, false, false, false, false, false, false, false, false, false, false, false, false, false, false, false, false, false, false, false, false] rfl rfl (by kernel_rfl) (by decide) (fun K hK => ?_)
            go_simp
            refine (own_walk _ _ _ _ _ _ _ _ _).mono ?_
            rintro e wN ⟨rfl, hbN⟩
            have hq : Below wz.heap.size wz wN := (by first | exact below_then hq hq.size hbN | exact below_then (below_drew hq) (below_drew hq).size hbN | exact below_then (below_drew (below_drew hq)) (below_drew (below_drew hq)).size hbN)
            try go_wp2_with fail
            refine hK.out _ _ ?_ (fun hHeld2 => ?_)
            · (try dsimp only)
              first | with_reducible exact hHeld | exact ⟨pw_cell_below hq a0, pw_cell_below hq a1, pw_cell_below hq a2, pw_cell_below hq a3, pw_cell_below hq a4, pw_cell_below hq a5, pw_cell_below hq b0, pw_cell_below hq b1, pw_cell_below hq b2, pw_cell_below hq b3, pw_cell_below hq b4, pw_cell_below hq b5, pw_cell_below hq d0, pw_cell_below hq d1, pw_cell_below hq d2, pw_cell_below hq d3, pw_cell_below hq d4, pw_cell_below hq d5⟩
            clear hHeld hK K
            have hHeld := hHeld2
            clear hHeld2
            try simp only [Act.put, List.setIfInBounds_toArray, List.set_cons_zero, List.set_cons_succ]
            refine one_ (i := 15) (N := some 45) #[true, true, true, true, true, true, true, true, true, true, true, true, true, true, true, true, false, false, false, false, false, false, false, false, false, false, false, false, false, false, false, false, false, false, false, false] rfl rfl (by kernel_rfl) (by decide) (fun K hK => ?_)
            go_simp
            refine (same_walk frZ frZ _ _ _ _ _ _ HXW.out HXW.out _ (by first | exact HRG.out.below hq | exact HRG.out.below (below_drew hq) | exact HRG.out.below (below_drew (below_drew hq))) (by first | exact HRH.out.below hq | exact HRH.out.below (below_drew hq) | exact HRH.out.below (below_drew (below_drew hq)))).mono ?_
            rintro e wN ⟨rfl, hbN⟩
            rw [eqb_self]
            have hq : Below wz.heap.size wz wN := (by first | exact below_then hq hq.size hbN | exact below_then (below_drew hq) (below_drew hq).size hbN | exact below_then (below_drew (below_drew hq)) (below_drew (below_drew hq)).size hbN)
            try go_wp2_with fail
            refine hK.out _ _ ?_ (fun hHeld2 => ?_)
            · (try dsimp only)
              first | with_reducible exact hHeld | exact ⟨pw_cell_below hq a0, pw_cell_below hq a1, pw_cell_below hq a2, pw_cell_below hq a3, pw_cell_below hq a4, pw_cell_below hq a5, pw_cell_below hq b0, pw_cell_below hq b1, pw_cell_below hq b2, pw_cell_below hq b3, pw_cell_below hq b4, pw_cell_below hq b5, pw_cell_below hq d0, pw_cell_below hq d1, pw_cell_below hq d2, pw_cell_below hq d3, pw_cell_below hq d4, pw_cell_below hq d5⟩
            clear hHeld hK K
            have hHeld := hHeld2
            clear hHeld2
            try simp only [Act.put, List.setIfInBounds_toArray, List.set_cons_zero, List.set_cons_succ]
            refine pure_ (i := 16) (N := some 46) (v := ?_) (a' := ?_) #[true, true, true, true, true, true, true, true, true, true, true, true, true, true, true, true, true, false, false, false, false, false, false, false, false, false, false, false, false, false, false, false, false, false, false, false] rfl rfl (by kernel_rfl) (fun _ _ _ h => h) (Or.inl ⟨by rfl, ?_⟩) ?_ ?_
            rotate_left
            · intro w'
              go_simp
              (try with_reducible rfl)
            rotate_left
            · simp only [Act.put, List.setIfInBounds_toArray, List.set_cons_zero, List.set_cons_succ]
              rfl
            refine pure_ (i := 17) (N := some 47) (v := ?_) (a' := ?_) #[true, true, true, true, true, true, true, true, true, true, true, true, true, true, true, true, true, true, false, false, false, false, false, false, false, false, false, false, false, false, false, false, false, false, false, false] rfl rfl (by kernel_rfl) (fun _ _ _ h => h) (Or.inl ⟨by rfl, ?_⟩) ?_ ?_
            rotate_left
            · intro w'
              go_simp
              (try with_reducible rfl)
            rotate_left
            · simp only [Act.put, List.setIfInBounds_toArray, List.set_cons_zero, List.set_cons_succ]
              rfl
            refine take_ (i := 18) (N := some 48) (v := ?_) (a' := ?_) #[true, true, true, true, true, true, true, true, true, true, true, true, true, true, true, true, true, true, true, false, false, false, false, false, false, false, false, false, false, false, false, false, false, false, false, false] rfl rfl (by kernel_rfl) (fun _ _ _ h => h) (Or.inl ⟨by rfl, ?_⟩) hHeld ?_ ?_
            rotate_left
            · rintro w' ⟨s0, s1, s2, s3, s4, s5, s6, s7, s8, s9, s10, s11, s12, s13, s14, s15, s16, s17⟩
              go_simp
              (try with_reducible rfl)
            rotate_left
            · simp only [Act.put, List.setIfInBounds_toArray, List.set_cons_zero, List.set_cons_succ]
              rfl
            refine take_ (i := 20) (N := some 50) (v := ?_) (a' := ?_) #[true, true, true, true, true, true, true, true, true, true, true, true, true, true, true, true, true, true, true, false, true, false, false, false, false, false, false, false, false, false, false, false, false, false, false, false] rfl rfl (by kernel_rfl) (fun _ _ _ h => h) (Or.inl ⟨by rfl, ?_⟩) hHeld ?_ ?_
            rotate_left
            · rintro w' ⟨s0, s1, s2, s3, s4, s5, s6, s7, s8, s9, s10, s11, s12, s13, s14, s15, s16, s17⟩
              go_simp
              (try with_reducible rfl)
            rotate_left
            · simp only [Act.put, List.setIfInBounds_toArray, List.set_cons_zero, List.set_cons_succ]
              rfl
            refine one_ (i := 19) (N := some 49) #[true, true, true, true, true, true, true, true, true, true, true, true, true, true, true, true, true, true, true, true, true, false, false, false, false, false, false, false, false, false, false, false, false, false, false, false] rfl rfl (by kernel_rfl) (by decide) (fun K hK => ?_)
            go_simp
            refine (good_walk _ _ _ _ _ _ _ _ (by omega) _).mono ?_
            rintro e wN ⟨rfl, hwN⟩
            rw [HGB.out]
            have hq : Below wz.heap.size wz wN := (by rw [← hwN]; first | exact hq.alloc hq.size _ | exact (below_drew hq).alloc (below_drew hq).size _ | exact (below_drew (below_drew hq)).alloc (below_drew (below_drew hq)).size _)
            clear hwN
            try go_wp2_with fail
            refine hK.out _ _ ?_ (fun hHeld2 => ?_)
            · (try dsimp only)
              first | with_reducible exact hHeld | exact ⟨pw_cell_below hq a0, pw_cell_below hq a1, pw_cell_below hq a2, pw_cell_below hq a3, pw_cell_below hq a4, pw_cell_below hq a5, pw_cell_below hq b0, pw_cell_below hq b1, pw_cell_below hq b2, pw_cell_below hq b3, pw_cell_below hq b4, pw_cell_below hq b5, pw_cell_below hq d0, pw_cell_below hq d1, pw_cell_below hq d2, pw_cell_below hq d3, pw_cell_below hq d4, pw_cell_below hq d5⟩
            clear hHeld hK K
            have hHeld := hHeld2
            clear hHeld2
            try simp only [Act.put, List.setIfInBounds_toArray, List.set_cons_zero, List.set_cons_succ]
            refine one_ (i := 21) (N := some 51) #[true, true, true, true, true, true, true, true, true, true, true, true, true, true, true, true, true, true, true, true, true, true, false, false, false, false, false, false, false, false, false, false, false, false, false, false] rfl rfl (by kernel_rfl) (by decide) (fun K hK => ?_)
            go_simp
            refine (own_walk _ _ _ _ _ _ _ _ _).mono ?_
            rintro e wN ⟨rfl, hbN⟩
            have hq : Below wz.heap.size wz wN := (by first | exact below_then hq hq.size hbN | exact below_then (below_drew hq) (below_drew hq).size hbN | exact below_then (below_drew (below_drew hq)) (below_drew (below_drew hq)).size hbN)
            try go_wp2_with fail
            refine hK.out _ _ ?_ (fun hHeld2 => ?_)
            · (try dsimp only)
              first | with_reducible exact hHeld | exact ⟨pw_cell_below hq a0, pw_cell_below hq a1, pw_cell_below hq a2, pw_cell_below hq a3, pw_cell_below hq a4, pw_cell_below hq a5, pw_cell_below hq b0, pw_cell_below hq b1, pw_cell_below hq b2, pw_cell_below hq b3, pw_cell_below hq b4, pw_cell_below hq b5, pw_cell_below hq d0, pw_cell_below hq d1, pw_cell_below hq d2, pw_cell_below hq d3, pw_cell_below hq d4, pw_cell_below hq d5⟩
            clear hHeld hK K
            have hHeld := hHeld2
            clear hHeld2
            try simp only [Act.put, List.setIfInBounds_toArray, List.set_cons_zero, List.set_cons_succ]
            refine one_ (i := 22) (N := some 52) #[true, true, true, true, true, true, true, true, true, true, true, true, true, true, true, true, true, true, true, true, true, true, true, false, false, false, false, false, false, false, false, false, false, false, false, false] rfl rfl (by kernel_rfl) (by decide) (fun K hK => ?_)
            go_simp
            refine (rgood_walk _ _ _ _ _ _ _ _ (by omega) _).mono ?_
            rintro e wN ⟨rfl, hwN⟩
            rw [HGB.out]
            have hq : Below wz.heap.size wz wN := (by rw [← hwN]; first | exact hq.alloc hq.size _ | exact (below_drew hq).alloc (below_drew hq).size _ | exact (below_drew (below_drew hq)).alloc (below_drew (below_drew hq)).size _)
            clear hwN
            try go_wp2_with fail
            refine hK.out _ _ ?_ (fun hHeld2 => ?_)
            · (try dsimp only)
              first | with_reducible exact hHeld | exact ⟨pw_cell_below hq a0, pw_cell_below hq a1, pw_cell_below hq a2, pw_cell_below hq a3, pw_cell_below hq a4, pw_cell_below hq a5, pw_cell_below hq b0, pw_cell_below hq b1, pw_cell_below hq b2, pw_cell_below hq b3, pw_cell_below hq b4, pw_cell_below hq b5, pw_cell_below hq d0, pw_cell_below hq d1, pw_cell_below hq d2, pw_cell_below hq d3, pw_cell_below hq d4, pw_cell_below hq d5⟩
            clear hHeld hK K
            have hHeld := hHeld2
            clear hHeld2
            try simp only [Act.put, List.setIfInBounds_toArray, List.set_cons_zero, List.set_cons_succ]
            refine pure_ (i := 23) (N := some 53) (v := ?_) (a' := ?_) #[true, true, true, true, true, true, true, true, true, true, true, true, true, true, true, true, true, true, true, true, true, true, true, true, false, false, false, false, false, false, false, false, false, false, false, false] rfl rfl (by kernel_rfl) (fun _ _ _ h => h) (Or.inl ⟨by rfl, ?_⟩) ?_ ?_
            rotate_left
            · intro w'
              go_simp
              (try with_reducible rfl)
            rotate_left
            · simp only [Act.put, List.setIfInBounds_toArray, List.set_cons_zero, List.set_cons_succ]
              rfl
            refine pure_ (i := 24) (N := some 54) (v := ?_) (a' := ?_) #[true, true, true, true, true, true, true, true, true, true, true, true, true, true, true, true, true, true, true, true, true, true, true, true, true, false, false, false, false, false, false, false, false, false, false, false] rfl rfl (by kernel_rfl) (fun _ _ _ h => h) (Or.inl ⟨by rfl, ?_⟩) ?_ ?_
            rotate_left
            · intro w'
              go_simp
              (try with_reducible rfl)
            rotate_left
            · simp only [Act.put, List.setIfInBounds_toArray, List.set_cons_zero, List.set_cons_succ]
              rfl
            refine pure_ (i := 25) (N := some 55) (v := ?_) (a' := ?_) #[true, true, true, true, true, true, true, true, true, true, true, true, true, true, true, true, true, true, true, true, true, true, true, true, true, true, false, false, false, false, false, false, false, false, false, false] rfl rfl (by kernel_rfl) (fun _ _ _ h => h) (Or.inl ⟨by rfl, ?_⟩) ?_ ?_
            rotate_left
            · intro w'
              go_simp
              (try with_reducible rfl)
            rotate_left
            · simp only [Act.put, List.setIfInBounds_toArray, List.set_cons_zero, List.set_cons_succ]
              rfl
            refine take_ (i := 26) (N := some 56) (v := ?_) (a' := ?_) #[true, true, true, true, true, true, true, true, true, true, true, true, true, true, true, true, true, true, true, true, true, true, true, true, true, true, true, false, false, false, false, false, false, false, false, false] rfl rfl (by kernel_rfl) (fun _ _ _ h => h) (Or.inl ⟨by rfl, ?_⟩) hHeld ?_ ?_
            rotate_left
            · rintro w' ⟨s0, s1, s2, s3, s4, s5, s6, s7, s8, s9, s10, s11, s12, s13, s14, s15, s16, s17⟩
              go_simp
              (try with_reducible rfl)
            rotate_left
            · simp only [Act.put, List.setIfInBounds_toArray, List.set_cons_zero, List.set_cons_succ]
              rfl
            refine take_ (i := 29) (N := some 59) (v := ?_) (a' := ?_) #[true, true, true, true, true, true, true, true, true, true, true, true, true, true, true, true, true, true, true, true, true, true, true, true, true, true, true, false, false, true, false, false, false, false, false, false] rfl rfl (by kernel_rfl) (fun _ _ _ h => h) (Or.inl ⟨by rfl, ?_⟩) hHeld ?_ ?_
            rotate_left
            · rintro w' ⟨s0, s1, s2, s3, s4, s5, s6, s7, s8, s9, s10, s11, s12, s13, s14, s15, s16, s17⟩
              go_simp
              (try with_reducible rfl)
            rotate_left
            · simp only [Act.put, List.setIfInBounds_toArray, List.set_cons_zero, List.set_cons_succ]
              rfl
            refine one_ (i := 27) (N := some 57) #[true, true, true, true, true, true, true, true, true, true, true, true, true, true, true, true, true, true, true, true, true, true, true, true, true, true, true, true, false, true, false, false, false, false, false, false] rfl rfl (by kernel_rfl) (by decide) (fun K hK => ?_)
            go_simp
            refine (encode_walk y HGOOD.out HYW.out A' n' c' _ (by first | exact HRY.out.below hq | exact HRY.out.below (below_drew hq) | exact HRY.out.below (below_drew (below_drew hq)))).mono ?_
            rintro e wN ⟨A5, c5, rfl, ho5, hbN⟩
            have hq : Below wz.heap.size wz wN := (by first | exact below_then hq hq.size hbN | exact below_then (below_drew hq) (below_drew hq).size hbN | exact below_then (below_drew (below_drew hq)) (below_drew (below_drew hq)).size hbN)
            have HE5 := Lib.hid (own_info ho5).2.2.2.1
            clear ho5
            try go_wp2_with fail
            refine hK.out _ _ ?_ (fun hHeld2 => ?_)
            · (try dsimp only)
              first | with_reducible exact hHeld | exact ⟨pw_cell_below hq a0, pw_cell_below hq a1, pw_cell_below hq a2, pw_cell_below hq a3, pw_cell_below hq a4, pw_cell_below hq a5, pw_cell_below hq b0, pw_cell_below hq b1, pw_cell_below hq b2, pw_cell_below hq b3, pw_cell_below hq b4, pw_cell_below hq b5, pw_cell_below hq d0, pw_cell_below hq d1, pw_cell_below hq d2, pw_cell_below hq d3, pw_cell_below hq d4, pw_cell_below hq d5⟩
            clear hHeld hK K
            have hHeld := hHeld2
            clear hHeld2
            try simp only [Act.put, List.setIfInBounds_toArray, List.set_cons_zero, List.set_cons_succ]
            refine two_ (i := 28) (j := 30) (Ni := some 58) (Nj := some 60) #[true, true, true, true, true, true, true, true, true, true, true, true, true, true, true, true, true, true, true, true, true, true, true, true, true, true, true, true, true, true, false, false, false, false, false, false] #[true, true, true, true, true, true, true, true, true, true, true, true, true, true, true, true, true, true, true, true, true, true, true, true, true, true, true, true, false, true, true, false, false, false, false, false] rfl rfl rfl rfl (by kernel_rfl) (by decide) (by decide) (fun K hK => ?_) (fun K hK => ?_)
            · skip
              have kx : (convert 24 9 (.slice A5 (19 + n') c5)).run Try.prog wN = .ok (.string S1) wN := (by rw [HS1.out]; exact str_of HE5.out)
              go_simp
              refine hK.out _ _ ?_ (fun hHeld2 => ?_)
              · (try dsimp only)
                first | with_reducible exact hHeld | exact ⟨pw_cell_below hq a0, pw_cell_below hq a1, pw_cell_below hq a2, pw_cell_below hq a3, pw_cell_below hq a4, pw_cell_below hq a5, pw_cell_below hq b0, pw_cell_below hq b1, pw_cell_below hq b2, pw_cell_below hq b3, pw_cell_below hq b4, pw_cell_below hq b5, pw_cell_below hq d0, pw_cell_below hq d1, pw_cell_below hq d2, pw_cell_below hq d3, pw_cell_below hq d4, pw_cell_below hq d5⟩
              clear hHeld hK K
              have hHeld := hHeld2
              clear hHeld2
              try simp only [Act.put, List.setIfInBounds_toArray, List.set_cons_zero, List.set_cons_succ]
              refine one_ (i := 30) (N := some 60) #[true, true, true, true, true, true, true, true, true, true, true, true, true, true, true, true, true, true, true, true, true, true, true, true, true, true, true, true, true, true, true, false, false, false, false, false] rfl rfl (by kernel_rfl) (by decide) (fun K hK => ?_)
              go_simp
              refine (own_walk _ _ _ _ _ _ _ _ _).mono ?_
              rintro e wN ⟨rfl, hbN⟩
              have hq : Below wz.heap.size wz wN := (by first | exact below_then hq hq.size hbN | exact below_then (below_drew hq) (below_drew hq).size hbN | exact below_then (below_drew (below_drew hq)) (below_drew (below_drew hq)).size hbN)
              have HE5 := Lib.hid (by first | exact HE5.out.below hbN | exact (rd_drew HE5.out).below hbN : ReadsInt wN .u8 A5 (19 + n') (enc y))
              try go_wp2_with fail
              refine hK.out _ _ ?_ (fun hHeld2 => ?_)
              · (try dsimp only)
                first | with_reducible exact hHeld | exact ⟨pw_cell_below hq a0, pw_cell_below hq a1, pw_cell_below hq a2, pw_cell_below hq a3, pw_cell_below hq a4, pw_cell_below hq a5, pw_cell_below hq b0, pw_cell_below hq b1, pw_cell_below hq b2, pw_cell_below hq b3, pw_cell_below hq b4, pw_cell_below hq b5, pw_cell_below hq d0, pw_cell_below hq d1, pw_cell_below hq d2, pw_cell_below hq d3, pw_cell_below hq d4, pw_cell_below hq d5⟩
              clear hHeld hK K
              have hHeld := hHeld2
              clear hHeld2
              try simp only [Act.put, List.setIfInBounds_toArray, List.set_cons_zero, List.set_cons_succ]
              refine one_ (i := 31) (N := some 61) #[true, true, true, true, true, true, true, true, true, true, true, true, true, true, true, true, true, true, true, true, true, true, true, true, true, true, true, true, true, true, true, true, false, false, false, false] rfl rfl (by kernel_rfl) (by decide) (fun K hK => ?_)
              go_simp
              refine (rencode_walk y HGOOD.out HYW.out A' n' c' _ (by first | exact HRY.out.below hq | exact HRY.out.below (below_drew hq) | exact HRY.out.below (below_drew (below_drew hq)))).mono ?_
              rintro e wN ⟨A6, c6, rfl, ho6, hbN⟩
              have hq : Below wz.heap.size wz wN := (by first | exact below_then hq hq.size hbN | exact below_then (below_drew hq) (below_drew hq).size hbN | exact below_then (below_drew (below_drew hq)) (below_drew (below_drew hq)).size hbN)
              have HE5 := Lib.hid (by first | exact HE5.out.below hbN | exact (rd_drew HE5.out).below hbN : ReadsInt wN .u8 A5 (19 + n') (enc y))
              have HE6 := Lib.hid (own_info ho6).2.2.2.1
              clear ho6
              try go_wp2_with fail
              refine hK.out _ _ ?_ (fun hHeld2 => ?_)
              · (try dsimp only)
                first | with_reducible exact hHeld | exact ⟨pw_cell_below hq a0, pw_cell_below hq a1, pw_cell_below hq a2, pw_cell_below hq a3, pw_cell_below hq a4, pw_cell_below hq a5, pw_cell_below hq b0, pw_cell_below hq b1, pw_cell_below hq b2, pw_cell_below hq b3, pw_cell_below hq b4, pw_cell_below hq b5, pw_cell_below hq d0, pw_cell_below hq d1, pw_cell_below hq d2, pw_cell_below hq d3, pw_cell_below hq d4, pw_cell_below hq d5⟩
              clear hHeld hK K
              have hHeld := hHeld2
              clear hHeld2
              try simp only [Act.put, List.setIfInBounds_toArray, List.set_cons_zero, List.set_cons_succ]
              refine one_ (i := 32) (N := some 62) #[true, true, true, true, true, true, true, true, true, true, true, true, true, true, true, true, true, true, true, true, true, true, true, true, true, true, true, true, true, true, true, true, true, false, false, false] rfl rfl (by kernel_rfl) (by decide) (fun K hK => ?_)
              have ky : (convert 24 9 (.slice A6 (19 + n') c6)).run Try.prog wN = .ok (.string S1) wN := (by rw [HS1.out]; exact str_of HE6.out)
              go_simp
              refine hK.out _ _ ?_ (fun hHeld2 => ?_)
              · (try dsimp only)
                first | with_reducible exact hHeld | exact ⟨pw_cell_below hq a0, pw_cell_below hq a1, pw_cell_below hq a2, pw_cell_below hq a3, pw_cell_below hq a4, pw_cell_below hq a5, pw_cell_below hq b0, pw_cell_below hq b1, pw_cell_below hq b2, pw_cell_below hq b3, pw_cell_below hq b4, pw_cell_below hq b5, pw_cell_below hq d0, pw_cell_below hq d1, pw_cell_below hq d2, pw_cell_below hq d3, pw_cell_below hq d4, pw_cell_below hq d5⟩
              clear hHeld hK K
              have hHeld := hHeld2
              clear hHeld2
              try simp only [Act.put, List.setIfInBounds_toArray, List.set_cons_zero, List.set_cons_succ]
              refine pure_ (i := 33) (N := some 63) (v := ?_) (a' := ?_) #[true, true, true, true, true, true, true, true, true, true, true, true, true, true, true, true, true, true, true, true, true, true, true, true, true, true, true, true, true, true, true, true, true, true, false, false] rfl rfl (by kernel_rfl) (fun _ _ _ h => h) (Or.inl ⟨by rfl, ?_⟩) ?_ ?_
              rotate_left
              · intro w'
                go_simp
                (try with_reducible rfl)
              rotate_left
              · simp only [Act.put, List.setIfInBounds_toArray, List.set_cons_zero, List.set_cons_succ]
                rfl
              refine pure_ (i := 34) (N := some 64) (v := ?_) (a' := ?_) #[true, true, true, true, true, true, true, true, true, true, true, true, true, true, true, true, true, true, true, true, true, true, true, true, true, true, true, true, true, true, true, true, true, true, true, false] rfl rfl (by kernel_rfl) (fun _ _ _ h => h) (Or.inl ⟨by rfl, ?_⟩) ?_ ?_
              rotate_left
              · intro w'
                go_simp
                (try with_reducible rfl)
              rotate_left
              · simp only [Act.put, List.setIfInBounds_toArray, List.set_cons_zero, List.set_cons_succ]
                rfl
              refine pure_ (i := 35) (N := some 4) (v := ?_) (a' := ?_) #[true, true, true, true, true, true, true, true, true, true, true, true, true, true, true, true, true, true, true, true, true, true, true, true, true, true, true, true, true, true, true, true, true, true, true, true] rfl rfl (by kernel_rfl) (fun _ _ _ h => h) (Or.inl ⟨by rfl, ?_⟩) ?_ ?_
              rotate_left
              · intro w'
                go_simp
                (try with_reducible rfl)
              rotate_left
              · simp only [Act.put, List.setIfInBounds_toArray, List.set_cons_zero, List.set_cons_succ]
                rfl
              refine wpAnyLast_done (by kernel_rfl) ?_ _
              go_wp2_with fail
              go_ret
              exact ⟨by first | rfl | simp, by first | exact below_then BZ.out BZ.out.size hq | exact below_then BZ.out BZ.out.size (below_drew hq) | exact below_then BZ.out BZ.out.size (below_drew (below_drew hq))⟩
            go_simp
            refine (own_walk _ _ _ _ _ _ _ _ _).mono ?_
            rintro e wN ⟨rfl, hbN⟩
            have hq : Below wz.heap.size wz wN := (by first | exact below_then hq hq.size hbN | exact below_then (below_drew hq) (below_drew hq).size hbN | exact below_then (below_drew (below_drew hq)) (below_drew (below_drew hq)).size hbN)
            have HE5 := Lib.hid (by first | exact HE5.out.below hbN | exact (rd_drew HE5.out).below hbN : ReadsInt wN .u8 A5 (19 + n') (enc y))
            try go_wp2_with fail
            refine hK.out _ _ ?_ (fun hHeld2 => ?_)
            · (try dsimp only)
              first | with_reducible exact hHeld | exact ⟨pw_cell_below hq a0, pw_cell_below hq a1, pw_cell_below hq a2, pw_cell_below hq a3, pw_cell_below hq a4, pw_cell_below hq a5, pw_cell_below hq b0, pw_cell_below hq b1, pw_cell_below hq b2, pw_cell_below hq b3, pw_cell_below hq b4, pw_cell_below hq b5, pw_cell_below hq d0, pw_cell_below hq d1, pw_cell_below hq d2, pw_cell_below hq d3, pw_cell_below hq d4, pw_cell_below hq d5⟩
            clear hHeld hK K
            have hHeld := hHeld2
            clear hHeld2
            try simp only [Act.put, List.setIfInBounds_toArray, List.set_cons_zero, List.set_cons_succ]
            refine two_ (i := 28) (j := 31) (Ni := some 58) (Nj := some 61) #[true, true, true, true, true, true, true, true, true, true, true, true, true, true, true, true, true, true, true, true, true, true, true, true, true, true, true, true, true, true, true, false, false, false, false, false] #[true, true, true, true, true, true, true, true, true, true, true, true, true, true, true, true, true, true, true, true, true, true, true, true, true, true, true, true, false, true, true, true, false, false, false, false] rfl rfl rfl rfl (by kernel_rfl) (by decide) (by decide) (fun K hK => ?_) (fun K hK => ?_)
            · skip
              have kx : (convert 24 9 (.slice A5 (19 + n') c5)).run Try.prog wN = .ok (.string S1) wN := (by rw [HS1.out]; exact str_of HE5.out)
              go_simp
              refine hK.out _ _ ?_ (fun hHeld2 => ?_)
              · (try dsimp only)
                first | with_reducible exact hHeld | exact ⟨pw_cell_below hq a0, pw_cell_below hq a1, pw_cell_below hq a2, pw_cell_below hq a3, pw_cell_below hq a4, pw_cell_below hq a5, pw_cell_below hq b0, pw_cell_below hq b1, pw_cell_below hq b2, pw_cell_below hq b3, pw_cell_below hq b4, pw_cell_below hq b5, pw_cell_below hq d0, pw_cell_below hq d1, pw_cell_below hq d2, pw_cell_below hq d3, pw_cell_below hq d4, pw_cell_below hq d5⟩
              clear hHeld hK K
              have hHeld := hHeld2
              clear hHeld2
              try simp only [Act.put, List.setIfInBounds_toArray, List.set_cons_zero, List.set_cons_succ]
              refine one_ (i := 31) (N := some 61) #[true, true, true, true, true, true, true, true, true, true, true, true, true, true, true, true, true, true, true, true, true, true, true, true, true, true, true, true, true, true, true, true, false, false, false, false] rfl rfl (by kernel_rfl) (by decide) (fun K hK => ?_)
              go_simp
              refine (rencode_walk y HGOOD.out HYW.out A' n' c' _ (by first | exact HRY.out.below hq | exact HRY.out.below (below_drew hq) | exact HRY.out.below (below_drew (below_drew hq)))).mono ?_
              rintro e wN ⟨A6, c6, rfl, ho6, hbN⟩
              have hq : Below wz.heap.size wz wN := (by first | exact below_then hq hq.size hbN | exact below_then (below_drew hq) (below_drew hq).size hbN | exact below_then (below_drew (below_drew hq)) (below_drew (below_drew hq)).size hbN)
              have HE5 := Lib.hid (by first | exact HE5.out.below hbN | exact (rd_drew HE5.out).below hbN : ReadsInt wN .u8 A5 (19 + n') (enc y))
              have HE6 := Lib.hid (own_info ho6).2.2.2.1
              clear ho6
              try go_wp2_with fail
              refine hK.out _ _ ?_ (fun hHeld2 => ?_)
              · (try dsimp only)
                first | with_reducible exact hHeld | exact ⟨pw_cell_below hq a0, pw_cell_below hq a1, pw_cell_below hq a2, pw_cell_below hq a3, pw_cell_below hq a4, pw_cell_below hq a5, pw_cell_below hq b0, pw_cell_below hq b1, pw_cell_below hq b2, pw_cell_below hq b3, pw_cell_below hq b4, pw_cell_below hq b5, pw_cell_below hq d0, pw_cell_below hq d1, pw_cell_below hq d2, pw_cell_below hq d3, pw_cell_below hq d4, pw_cell_below hq d5⟩
              clear hHeld hK K
              have hHeld := hHeld2
              clear hHeld2
              try simp only [Act.put, List.setIfInBounds_toArray, List.set_cons_zero, List.set_cons_succ]
              refine one_ (i := 32) (N := some 62) #[true, true, true, true, true, true, true, true, true, true, true, true, true, true, true, true, true, true, true, true, true, true, true, true, true, true, true, true, true, true, true, true, true, false, false, false] rfl rfl (by kernel_rfl) (by decide) (fun K hK => ?_)
              have ky : (convert 24 9 (.slice A6 (19 + n') c6)).run Try.prog wN = .ok (.string S1) wN := (by rw [HS1.out]; exact str_of HE6.out)
              go_simp
              refine hK.out _ _ ?_ (fun hHeld2 => ?_)
              · (try dsimp only)
                first | with_reducible exact hHeld | exact ⟨pw_cell_below hq a0, pw_cell_below hq a1, pw_cell_below hq a2, pw_cell_below hq a3, pw_cell_below hq a4, pw_cell_below hq a5, pw_cell_below hq b0, pw_cell_below hq b1, pw_cell_below hq b2, pw_cell_below hq b3, pw_cell_below hq b4, pw_cell_below hq b5, pw_cell_below hq d0, pw_cell_below hq d1, pw_cell_below hq d2, pw_cell_below hq d3, pw_cell_below hq d4, pw_cell_below hq d5⟩
              clear hHeld hK K
              have hHeld := hHeld2
              clear hHeld2
              try simp only [Act.put, List.setIfInBounds_toArray, List.set_cons_zero, List.set_cons_succ]
              refine pure_ (i := 33) (N := some 63) (v := ?_) (a' := ?_) #[true, true, true, true, true, true, true, true, true, true, true, true, true, true, true, true, true, true, true, true, true, true, true, true, true, true, true, true, true, true, true, true, true, true, false, false] rfl rfl (by kernel_rfl) (fun _ _ _ h => h) (Or.inl ⟨by rfl, ?_⟩) ?_ ?_
              rotate_left
              · intro w'
                go_simp
                (try with_reducible rfl)
              rotate_left
              · simp only [Act.put, List.setIfInBounds_toArray, List.set_cons_zero, List.set_cons_succ]
                rfl
              refine pure_ (i := 34) (N := some 64) (v := ?_) (a' := ?_) #[true, true, true, true, true, true, true, true, true, true, true, true, true, true, true, true, true, true, true, true, true, true, true, true, true, true, true, true, true, true, true, true, true, true, true, false] rfl rfl (by kernel_rfl) (fun _ _ _ h => h) (Or.inl ⟨by rfl, ?_⟩) ?_ ?_
              rotate_left
              · intro w'
                go_simp
                (try with_reducible rfl)
              rotate_left
              · simp only [Act.put, List.setIfInBounds_toArray, List.set_cons_zero, List.set_cons_succ]
                rfl
              refine pure_ (i := 35) (N := some 4) (v := ?_) (a' := ?_) #[true, true, true, true, true, true, true, true, true, true, true, true, true, true, true, true, true, true, true, true, true, true, true, true, true, true, true, true, true, true, true, true, true, true, true, true] rfl rfl (by kernel_rfl) (fun _ _ _ h => h) (Or.inl ⟨by rfl, ?_⟩) ?_ ?_
              rotate_left
              · intro w'
                go_simp
                (try with_reducible rfl)
              rotate_left
              · simp only [Act.put, List.setIfInBounds_toArray, List.set_cons_zero, List.set_cons_succ]
                rfl
              refine wpAnyLast_done (by kernel_rfl) ?_ _
              go_wp2_with fail
              go_ret
              exact ⟨by first | rfl | simp, by first | exact below_then BZ.out BZ.out.size hq | exact below_then BZ.out BZ.out.size (below_drew hq) | exact below_then BZ.out BZ.out.size (below_drew (below_drew hq))⟩
            go_simp
            refine (rencode_walk y HGOOD.out HYW.out A' n' c' _ (by first | exact HRY.out.below hq | exact HRY.out.below (below_drew hq) | exact HRY.out.below (below_drew (below_drew hq)))).mono ?_
            rintro e wN ⟨A6, c6, rfl, ho6, hbN⟩
            have hq : Below wz.heap.size wz wN := (by first | exact below_then hq hq.size hbN | exact below_then (below_drew hq) (below_drew hq).size hbN | exact below_then (below_drew (below_drew hq)) (below_drew (below_drew hq)).size hbN)
            have HE5 := Lib.hid (by first | exact HE5.out.below hbN | exact (rd_drew HE5.out).below hbN : ReadsInt wN .u8 A5 (19 + n') (enc y))
            have HE6 := Lib.hid (own_info ho6).2.2.2.1
            clear ho6
            try go_wp2_with fail
            refine hK.out _ _ ?_ (fun hHeld2 => ?_)
            · (try dsimp only)
              first | with_reducible exact hHeld | exact ⟨pw_cell_below hq a0, pw_cell_below hq a1, pw_cell_below hq a2, pw_cell_below hq a3, pw_cell_below hq a4, pw_cell_below hq a5, pw_cell_below hq b0, pw_cell_below hq b1, pw_cell_below hq b2, pw_cell_below hq b3, pw_cell_below hq b4, pw_cell_below hq b5, pw_cell_below hq d0, pw_cell_below hq d1, pw_cell_below hq d2, pw_cell_below hq d3, pw_cell_below hq d4, pw_cell_below hq d5⟩
            clear hHeld hK K
            have hHeld := hHeld2
            clear hHeld2
            try simp only [Act.put, List.setIfInBounds_toArray, List.set_cons_zero, List.set_cons_succ]
            refine two_ (i := 28) (j := 32) (Ni := some 58) (Nj := some 62) #[true, true, true, true, true, true, true, true, true, true, true, true, true, true, true, true, true, true, true, true, true, true, true, true, true, true, true, true, true, true, true, true, false, false, false, false] #[true, true, true, true, true, true, true, true, true, true, true, true, true, true, true, true, true, true, true, true, true, true, true, true, true, true, true, true, false, true, true, true, true, false, false, false] rfl rfl rfl rfl (by kernel_rfl) (by decide) (by decide) (fun K hK => ?_) (fun K hK => ?_)
            · skip
              have kx : (convert 24 9 (.slice A5 (19 + n') c5)).run Try.prog wN = .ok (.string S1) wN := (by rw [HS1.out]; exact str_of HE5.out)
              go_simp
              refine hK.out _ _ ?_ (fun hHeld2 => ?_)
              · (try dsimp only)
                first | with_reducible exact hHeld | exact ⟨pw_cell_below hq a0, pw_cell_below hq a1, pw_cell_below hq a2, pw_cell_below hq a3, pw_cell_below hq a4, pw_cell_below hq a5, pw_cell_below hq b0, pw_cell_below hq b1, pw_cell_below hq b2, pw_cell_below hq b3, pw_cell_below hq b4, pw_cell_below hq b5, pw_cell_below hq d0, pw_cell_below hq d1, pw_cell_below hq d2, pw_cell_below hq d3, pw_cell_below hq d4, pw_cell_below hq d5⟩
              clear hHeld hK K
              have hHeld := hHeld2
              clear hHeld2
              try simp only [Act.put, List.setIfInBounds_toArray, List.set_cons_zero, List.set_cons_succ]
              refine one_ (i := 32) (N := some 62) #[true, true, true, true, true, true, true, true, true, true, true, true, true, true, true, true, true, true, true, true, true, true, true, true, true, true, true, true, true, true, true, true, true, false, false, false] rfl rfl (by kernel_rfl) (by decide) (fun K hK => ?_)
              have ky : (convert 24 9 (.slice A6 (19 + n') c6)).run Try.prog wN = .ok (.string S1) wN := (by rw [HS1.out]; exact str_of HE6.out)
              go_simp
              refine hK.out _ _ ?_ (fun hHeld2 => ?_)
              · (try dsimp only)
                first | with_reducible exact hHeld | exact ⟨pw_cell_below hq a0, pw_cell_below hq a1, pw_cell_below hq a2, pw_cell_below hq a3, pw_cell_below hq a4, pw_cell_below hq a5, pw_cell_below hq b0, pw_cell_below hq b1, pw_cell_below hq b2, pw_cell_below hq b3, pw_cell_below hq b4, pw_cell_below hq b5, pw_cell_below hq d0, pw_cell_below hq d1, pw_cell_below hq d2, pw_cell_below hq d3, pw_cell_below hq d4, pw_cell_below hq d5⟩
              clear hHeld hK K
              have hHeld := hHeld2
              clear hHeld2
              try simp only [Act.put, List.setIfInBounds_toArray, List.set_cons_zero, List.set_cons_succ]
              refine pure_ (i := 33) (N := some 63) (v := ?_) (a' := ?_) #[true, true, true, true, true, true, true, true, true, true, true, true, true, true, true, true, true, true, true, true, true, true, true, true, true, true, true, true, true, true, true, true, true, true, false, false] rfl rfl (by kernel_rfl) (fun _ _ _ h => h) (Or.inl ⟨by rfl, ?_⟩) ?_ ?_
              rotate_left
              · intro w'
                go_simp
                (try with_reducible rfl)
              rotate_left
              · simp only [Act.put, List.setIfInBounds_toArray, List.set_cons_zero, List.set_cons_succ]
                rfl
              refine pure_ (i := 34) (N := some 64) (v := ?_) (a' := ?_) #[true, true, true, true, true, true, true, true, true, true, true, true, true, true, true, true, true, true, true, true, true, true, true, true, true, true, true, true, true, true, true, true, true, true, true, false] rfl rfl (by kernel_rfl) (fun _ _ _ h => h) (Or.inl ⟨by rfl, ?_⟩) ?_ ?_
              rotate_left
              · intro w'
                go_simp
                (try with_reducible rfl)
              rotate_left
              · simp only [Act.put, List.setIfInBounds_toArray, List.set_cons_zero, List.set_cons_succ]
                rfl
              refine pure_ (i := 35) (N := some 4) (v := ?_) (a' := ?_) #[true, true, true, true, true, true, true, true, true, true, true, true, true, true, true, true, true, true, true, true, true, true, true, true, true, true, true, true, true, true, true, true, true, true, true, true] rfl rfl (by kernel_rfl) (fun _ _ _ h => h) (Or.inl ⟨by rfl, ?_⟩) ?_ ?_
              rotate_left
              · intro w'
                go_simp
                (try with_reducible rfl)
              rotate_left
              · simp only [Act.put, List.setIfInBounds_toArray, List.set_cons_zero, List.set_cons_succ]
                rfl
              refine wpAnyLast_done (by kernel_rfl) ?_ _
              go_wp2_with fail
              go_ret
              exact ⟨by first | rfl | simp, by first | exact below_then BZ.out BZ.out.size hq | exact below_then BZ.out BZ.out.size (below_drew hq) | exact below_then BZ.out BZ.out.size (below_drew (below_drew hq))⟩
            have ky : (convert 24 9 (.slice A6 (19 + n') c6)).run Try.prog wN = .ok (.string S1) wN := (by rw [HS1.out]; exact str_of HE6.out)
            go_simp
            refine hK.out _ _ ?_ (fun hHeld2 => ?_)
            · (try dsimp only)
              first | with_reducible exact hHeld | exact ⟨pw_cell_below hq a0, pw_cell_below hq a1, pw_cell_below hq a2, pw_cell_below hq a3, pw_cell_below hq a4, pw_cell_below hq a5, pw_cell_below hq b0, pw_cell_below hq b1, pw_cell_below hq b2, pw_cell_below hq b3, pw_cell_below hq b4, pw_cell_below hq b5, pw_cell_below hq d0, pw_cell_below hq d1, pw_cell_below hq d2, pw_cell_below hq d3, pw_cell_below hq d4, pw_cell_below hq d5⟩
            clear hHeld hK K
            have hHeld := hHeld2
            clear hHeld2
            try simp only [Act.put, List.setIfInBounds_toArray, List.set_cons_zero, List.set_cons_succ]
            refine one_ (i := 28) (N := some 58) #[true, true, true, true, true, true, true, true, true, true, true, true, true, true, true, true, true, true, true, true, true, true, true, true, true, true, true, true, true, true, true, true, true, false, false, false] rfl rfl (by kernel_rfl) (by decide) (fun K hK => ?_)
            have kx : (convert 24 9 (.slice A5 (19 + n') c5)).run Try.prog wN = .ok (.string S1) wN := (by rw [HS1.out]; exact str_of HE5.out)
            go_simp
            refine hK.out _ _ ?_ (fun hHeld2 => ?_)
            · (try dsimp only)
              first | with_reducible exact hHeld | exact ⟨pw_cell_below hq a0, pw_cell_below hq a1, pw_cell_below hq a2, pw_cell_below hq a3, pw_cell_below hq a4, pw_cell_below hq a5, pw_cell_below hq b0, pw_cell_below hq b1, pw_cell_below hq b2, pw_cell_below hq b3, pw_cell_below hq b4, pw_cell_below hq b5, pw_cell_below hq d0, pw_cell_below hq d1, pw_cell_below hq d2, pw_cell_below hq d3, pw_cell_below hq d4, pw_cell_below hq d5⟩
            clear hHeld hK K
            have hHeld := hHeld2
            clear hHeld2
            try simp only [Act.put, List.setIfInBounds_toArray, List.set_cons_zero, List.set_cons_succ]
            refine pure_ (i := 33) (N := some 63) (v := ?_) (a' := ?_) #[true, true, true, true, true, true, true, true, true, true, true, true, true, true, true, true, true, true, true, true, true, true, true, true, true, true, true, true, true, true, true, true, true, true, false, false] rfl rfl (by kernel_rfl) (fun _ _ _ h => h) (Or.inl ⟨by rfl, ?_⟩) ?_ ?_
            rotate_left
            · intro w'
              go_simp
              (try with_reducible rfl)
            rotate_left
            · simp only [Act.put, List.setIfInBounds_toArray, List.set_cons_zero, List.set_cons_succ]
              rfl
            refine pure_ (i := 34) (N := some 64) (v := ?_) (a' := ?_) #[true, true, true, true, true, true, true, true, true, true, true, true, true, true, true, true, true, true, true, true, true, true, true, true, true, true, true, true, true, true, true, true, true, true, true, false] rfl rfl (by kernel_rfl) (fun _ _ _ h => h) (Or.inl ⟨by rfl, ?_⟩) ?_ ?_
            rotate_left
            · intro w'
              go_simp
              (try with_reducible rfl)
            rotate_left
            · simp only [Act.put, List.setIfInBounds_toArray, List.set_cons_zero, List.set_cons_succ]
              rfl
            refine pure_ (i := 35) (N := some 4) (v := ?_) (a' := ?_) #[true, true, true, true, true, true, true, true, true, true, true, true, true, true, true, true, true, true, true, true, true, true, true, true, true, true, true, true, true, true, true, true, true, true, true, true] rfl rfl (by kernel_rfl) (fun _ _ _ h => h) (Or.inl ⟨by rfl, ?_⟩) ?_ ?_
            rotate_left
            · intro w'
              go_simp
              (try with_reducible rfl)
            rotate_left
            · simp only [Act.put, List.setIfInBounds_toArray, List.set_cons_zero, List.set_cons_succ]
              rfl
            refine wpAnyLast_done (by kernel_rfl) ?_ _
            go_wp2_with fail
            go_ret
            exact ⟨by first | rfl | simp, by first | exact below_then BZ.out BZ.out.size hq | exact below_then BZ.out BZ.out.size (below_drew hq) | exact below_then BZ.out BZ.out.size (below_drew (below_drew hq))⟩
          · have HGB := Lib.hid (decide_eq_false hgb)
            have HBAD := Lib.hid hgb
            have kn : ∀ w : World, (convert 24 9 (.slice none 0 0)).run Try.prog w = .ok (.string (strOfNums [])) w := fun w => str_of (reads_nil w .u8)
            clear hgb
            have hq : Below wz.heap.size wz wz := Below.refl _ _
            refine start_ (n := 36) (S := fun w' => w'.cell? ⟨w2.heap.size, 0, none⟩ = some (.int .i64 0) ∧ w'.cell? ⟨w2.heap.size, 1, none⟩ = some (.int .i64 0) ∧ w'.cell? ⟨w2.heap.size, 2, none⟩ = some (.int .i64 0) ∧ w'.cell? ⟨w2.heap.size, 3, none⟩ = some (.int .u32 0) ∧ w'.cell? ⟨w2.heap.size, 4, none⟩ = some (.int .u32 0) ∧ w'.cell? ⟨w2.heap.size, 5, none⟩ = some (.slice none 0 0) ∧ w'.cell? ⟨w3.heap.size, 0, none⟩ = some (.int .i64 0) ∧ w'.cell? ⟨w3.heap.size, 1, none⟩ = some (.int .i64 0) ∧ w'.cell? ⟨w3.heap.size, 2, none⟩ = some (.int .i64 0) ∧ w'.cell? ⟨w3.heap.size, 3, none⟩ = some (.int .u32 0) ∧ w'.cell? ⟨w3.heap.size, 4, none⟩ = some (.int .u32 0) ∧ w'.cell? ⟨w3.heap.size, 5, none⟩ = some (.slice none 0 0) ∧ w'.cell? ⟨W.heap.size, 0, none⟩ = some (.int .i64 y.k) ∧ w'.cell? ⟨W.heap.size, 1, none⟩ = some (.int .i64 y.f) ∧ w'.cell? ⟨W.heap.size, 2, none⟩ = some (.int .i64 y.t) ∧ w'.cell? ⟨W.heap.size, 3, none⟩ = some (.int .u32 y.v) ∧ w'.cell? ⟨W.heap.size, 4, none⟩ = some (.int .u32 y.s) ∧ w'.cell? ⟨W.heap.size, 5, none⟩ = some (.slice A' n' c')) (ds := []) #[false, false, false, false, false, false, false, false, false, false, false, false, false, false, false, false, false, false, false, false, false, false, false, false, false, false, false, false, false, false, false, false, false, false, false, false] (by kernel_rfl) rfl rfl (⟨a0, a1, a2, a3, a4, a5, b0, b1, b2, b3, b4, b5, d0, d1, d2, d3, d4, d5⟩) (fun hHeld => ?_)
            refine pure_ (i := 0) (N := some 30) (v := ?_) (a' := ?_) #[true, false, false, false, false, false, false, false, false, false, false, false, false, false, false, false, false, false, false, false, false, false, false, false, false, false, false, false, false, false, false, false, false, false, false, false] rfl rfl (by kernel_rfl) (fun _ _ _ h => h) (Or.inl ⟨by rfl, ?_⟩) ?_ ?_
            rotate_left
            · intro w'
              go_simp
              (try with_reducible rfl)
            rotate_left
            · simp only [Act.put, List.setIfInBounds_toArray, List.set_cons_zero, List.set_cons_succ]
              rfl
            refine pure_ (i := 1) (N := some 31) (v := ?_) (a' := ?_) #[true, true, false, false, false, false, false, false, false, false, false, false, false, false, false, false, false, false, false, false, false, false, false, false, false, false, false, false, false, false, false, false, false, false, false, false] rfl rfl (by kernel_rfl) (fun _ _ _ h => h) (Or.inl ⟨by rfl, ?_⟩) ?_ ?_
            rotate_left
            · intro w'
              go_simp
              (try with_reducible rfl)
            rotate_left
            · simp only [Act.put, List.setIfInBounds_toArray, List.set_cons_zero, List.set_cons_succ]
              rfl
            refine pure_ (i := 2) (N := some 32) (v := ?_) (a' := ?_) #[true, true, true, false, false, false, false, false, false, false, false, false, false, false, false, false, false, false, false, false, false, false, false, false, false, false, false, false, false, false, false, false, false, false, false, false] rfl rfl (by kernel_rfl) (fun _ _ _ h => h) (Or.inl ⟨by rfl, ?_⟩) ?_ ?_
            rotate_left
            · intro w'
              go_simp
              (try with_reducible rfl)
            rotate_left
            · simp only [Act.put, List.setIfInBounds_toArray, List.set_cons_zero, List.set_cons_succ]
              rfl
            refine pure_ (i := 3) (N := some 33) (v := ?_) (a' := ?_) #[true, true, true, true, false, false, false, false, false, false, false, false, false, false, false, false, false, false, false, false, false, false, false, false, false, false, false, false, false, false, false, false, false, false, false, false] rfl rfl (by kernel_rfl) (fun _ _ _ h => h) (Or.inl ⟨by rfl, ?_⟩) ?_ ?_
            rotate_left
            · intro w'
              go_simp
              (try with_reducible rfl)
            rotate_left
            · simp only [Act.put, List.setIfInBounds_toArray, List.set_cons_zero, List.set_cons_succ]
              rfl
            refine pure_ (i := 4) (N := some 34) (v := ?_) (a' := ?_) #[true, true, true, true, true, false, false, false, false, false, false, false, false, false, false, false, false, false, false, false, false, false, false, false, false, false, false, false, false, false, false, false, false, false, false, false] rfl rfl (by kernel_rfl) (fun _ _ _ h => h) (Or.inl ⟨by rfl, ?_⟩) ?_ ?_
            rotate_left
            · intro w'
              go_simp
              (try with_reducible rfl)
            rotate_left
            · simp only [Act.put, List.setIfInBounds_toArray, List.set_cons_zero, List.set_cons_succ]
              rfl
            refine pure_ (i := 5) (N := some 35) (v := ?_) (a' := ?_) #[true, true, true, true, true, true, false, false, false, false, false, false, false, false, false, false, false, false, false, false, false, false, false, false, false, false, false, false, false, false, false, false, false, false, false, false] rfl rfl (by kernel_rfl) (fun _ _ _ h => h) (Or.inl ⟨by rfl, ?_⟩) ?_ ?_
            rotate_left
            · intro w'
              go_simp
              (try with_reducible rfl)
            rotate_left
            · simp only [Act.put, List.setIfInBounds_toArray, List.set_cons_zero, List.set_cons_succ]
              rfl
            refine pure_ (i := 6) (N := some 36) (v := ?_) (a' := ?_) #[true, true, true, true, true, true, true, false, false, false, false, false, false, false, false, false, false, false, false, false, false, false, false, false, false, false, false, false, false, false, false, false, false, false, false, false] rfl rfl (by kernel_rfl) (fun _ _ _ h => h) (Or.inl ⟨by rfl, ?_⟩) ?_ ?_
            rotate_left
            · intro w'
              go_simp
              (try with_reducible rfl)
            rotate_left
            · simp only [Act.put, List.setIfInBounds_toArray, List.set_cons_zero, List.set_cons_succ]
              rfl
            refine pure_ (i := 7) (N := some 37) (v := ?_) (a' := ?_) #[true, true, true, true, true, true, true, true, false, false, false, false, false, false, false, false, false, false, false, false, false, false, false, false, false, false, false, false, false, false, false, false, false, false, false, false] rfl rfl (by kernel_rfl) (fun _ _ _ h => h) (Or.inl ⟨by rfl, ?_⟩) ?_ ?_
            rotate_left
            · intro w'
              go_simp
              (try with_reducible rfl)
            rotate_left
            · simp only [Act.put, List.setIfInBounds_toArray, List.set_cons_zero, List.set_cons_succ]
              rfl
            refine pure_ (i := 8) (N := some 38) (v := ?_) (a' := ?_) #[true, true, true, true, true, true, true, true, true, false, false, false, false, false, false, false, false, false, false, false, false, false, false, false, false, false, false, false, false, false, false, false, false, false, false, false] rfl rfl (by kernel_rfl) (fun _ _ _ h => h) (Or.inl ⟨by rfl, ?_⟩) ?_ ?_
            rotate_left
            · intro w'
              go_simp
              (try with_reducible rfl)
            rotate_left
            · simp only [Act.put, List.setIfInBounds_toArray, List.set_cons_zero, List.set_cons_succ]
              rfl
            refine pure_ (i := 9) (N := some 39) (v := ?_) (a' := ?_) #[true, true, true, true, true, true, true, true, true, true, false, false, false, false, false, false, false, false, false, false, false, false, false, false, false, false, false, false, false, false, false, false, false, false, false, false] rfl rfl (by kernel_rfl) (fun _ _ _ h => h) (Or.inl ⟨by rfl, ?_⟩) ?_ ?_
            rotate_left
            · intro w'
              go_simp
              (try with_reducible rfl)
            rotate_left
            · simp only [Act.put, List.setIfInBounds_toArray, List.set_cons_zero, List.set_cons_succ]
              rfl
            refine pure_ (i := 10) (N := some 40) (v := ?_) (a' := ?_) #[true, true, true, true, true, true, true, true, true, true, true, false, false, false, false, false, false, false, false, false, false, false, false, false, false, false, false, false, false, false, false, false, false, false, false, false] rfl rfl (by kernel_rfl) (fun _ _ _ h => h) (Or.inl ⟨by rfl, ?_⟩) ?_ ?_
            rotate_left
            · intro w'
              go_simp
              (try with_reducible rfl)
            rotate_left
            · simp only [Act.put, List.setIfInBounds_toArray, List.set_cons_zero, List.set_cons_succ]
              rfl
            refine pure_ (i := 11) (N := some 41) (v := ?_) (a' := ?_) #[true, true, true, true, true, true, true, true, true, true, true, true, false, false, false, false, false, false, false, false, false, false, false, false, false, false, false, false, false, false, false, false, false, false, false, false] rfl rfl (by kernel_rfl) (fun _ _ _ h => h) (Or.inl ⟨by rfl, ?_⟩) ?_ ?_
            rotate_left
            · intro w'
              go_simp
              (try with_reducible rfl)
            rotate_left
            · simp only [Act.put, List.setIfInBounds_toArray, List.set_cons_zero, List.set_cons_succ]
              rfl
            refine take_ (i := 12) (N := some 42) (v := ?_) (a' := ?_) #[true, true, true, true, true, true, true, true, true, true, true, true, true, false, false, false, false, false, false, false, false, false, false, false, false, false, false, false, false, false, false, false, false, false, false, false] rfl rfl (by kernel_rfl) (fun _ _ _ h => h) (Or.inl ⟨by rfl, ?_⟩) hHeld ?_ ?_
            rotate_left
            · rintro w' ⟨s0, s1, s2, s3, s4, s5, s6, s7, s8, s9, s10, s11, s12, s13, s14, s15, s16, s17⟩
              go_simp
              (try with_reducible rfl)
            rotate_left
            · simp only [Act.put, List.setIfInBounds_toArray, List.set_cons_zero, List.set_cons_succ]
              rfl
            refine take_ (i := 14) (N := some 44) (v := ?_) (a' := ?_) #[true, true, true, true, true, true, true, true, true, true, true, true, true, false, true, false, false, false, false, false, false, false, false, false, false, false, false, false, false, false, false, false, false, false, false, false] rfl rfl (by kernel_rfl) (fun _ _ _ h => h) (Or.inl ⟨by rfl, ?_⟩) hHeld ?_ ?_
            rotate_left
            · rintro w' ⟨s0, s1, s2, s3, s4, s5, s6, s7, s8, s9, s10, s11, s12, s13, s14, s15, s16, s17⟩
              go_simp
              (try with_reducible rfl)
            rotate_left
            · simp only [Act.put, List.setIfInBounds_toArray, List.set_cons_zero, List.set_cons_succ]
              rfl
            refine one_ (i := 13) (N := some 43) #[true, true, true, true, true, true, true, true, true, true, true, true, true, true, true, false, false, false, false, false, false, false, false, false, false, false, false, false, false, false, false, false, false, false, false, false] rfl rfl (by kernel_rfl) (by decide) (fun K hK => ?_)
            go_simp
            refine (own_walk _ _ _ _ _ _ _ _ _).mono ?_
            rintro e wN ⟨rfl, hbN⟩
            have hq : Below wz.heap.size wz wN := (by first | exact below_then hq hq.size hbN | exact below_then (below_drew hq) (below_drew hq).size hbN | exact below_then (below_drew (below_drew hq)) (below_drew (below_drew hq)).size hbN)
            try go_wp2_with fail
            refine hK.out _ _ ?_ (fun hHeld2 => ?_)
            · (try dsimp only)
              first | with_reducible exact hHeld | exact ⟨pw_cell_below hq a0, pw_cell_below hq a1, pw_cell_below hq a2, pw_cell_below hq a3, pw_cell_below hq a4, pw_cell_below hq a5, pw_cell_below hq b0, pw_cell_below hq b1, pw_cell_below hq b2, pw_cell_below hq b3, pw_cell_below hq b4, pw_cell_below hq b5, pw_cell_below hq d0, pw_cell_below hq d1, pw_cell_below hq d2, pw_cell_below hq d3, pw_cell_below hq d4, pw_cell_below hq d5⟩
            clear hHeld hK K
            have hHeld := hHeld2
            clear hHeld2
            try simp only [Act.put, List.setIfInBounds_toArray, List.set_cons_zero, List.set_cons_succ]
            refine one_ (i := 15) (N := some 45) #[true, true, true, true, true, true, true, true, true, true, true, true, true, true, true, true, false, false, false, false, false, false, false, false, false, false, false, false, false, false, false, false, false, false, false, false] rfl rfl (by kernel_rfl) (by decide) (fun K hK => ?_)
            go_simp
            refine (same_walk frZ frZ _ _ _ _ _ _ HXW.out HXW.out _ (by first | exact HRG.out.below hq | exact HRG.out.below (below_drew hq) | exact HRG.out.below (below_drew (below_drew hq))) (by first | exact HRH.out.below hq | exact HRH.out.below (below_drew hq) | exact HRH.out.below (below_drew (below_drew hq)))).mono ?_
            rintro e wN ⟨rfl, hbN⟩
            rw [eqb_self]
            have hq : Below wz.heap.size wz wN := (by first | exact below_then hq hq.size hbN | exact below_then (below_drew hq) (below_drew hq).size hbN | exact below_then (below_drew (below_drew hq)) (below_drew (below_drew hq)).size hbN)
            try go_wp2_with fail
            refine hK.out _ _ ?_ (fun hHeld2 => ?_)
            · (try dsimp only)
              first | with_reducible exact hHeld | exact ⟨pw_cell_below hq a0, pw_cell_below hq a1, pw_cell_below hq a2, pw_cell_below hq a3, pw_cell_below hq a4, pw_cell_below hq a5, pw_cell_below hq b0, pw_cell_below hq b1, pw_cell_below hq b2, pw_cell_below hq b3, pw_cell_below hq b4, pw_cell_below hq b5, pw_cell_below hq d0, pw_cell_below hq d1, pw_cell_below hq d2, pw_cell_below hq d3, pw_cell_below hq d4, pw_cell_below hq d5⟩
            clear hHeld hK K
            have hHeld := hHeld2
            clear hHeld2
            try simp only [Act.put, List.setIfInBounds_toArray, List.set_cons_zero, List.set_cons_succ]
            refine pure_ (i := 16) (N := some 46) (v := ?_) (a' := ?_) #[true, true, true, true, true, true, true, true, true, true, true, true, true, true, true, true, true, false, false, false, false, false, false, false, false, false, false, false, false, false, false, false, false, false, false, false] rfl rfl (by kernel_rfl) (fun _ _ _ h => h) (Or.inl ⟨by rfl, ?_⟩) ?_ ?_
            rotate_left
            · intro w'
              go_simp
              (try with_reducible rfl)
            rotate_left
            · simp only [Act.put, List.setIfInBounds_toArray, List.set_cons_zero, List.set_cons_succ]
              rfl
            refine pure_ (i := 17) (N := some 47) (v := ?_) (a' := ?_) #[true, true, true, true, true, true, true, true, true, true, true, true, true, true, true, true, true, true, false, false, false, false, false, false, false, false, false, false, false, false, false, false, false, false, false, false] rfl rfl (by kernel_rfl) (fun _ _ _ h => h) (Or.inl ⟨by rfl, ?_⟩) ?_ ?_
            rotate_left
            · intro w'
              go_simp
              (try with_reducible rfl)
            rotate_left
            · simp only [Act.put, List.setIfInBounds_toArray, List.set_cons_zero, List.set_cons_succ]
              rfl
            refine take_ (i := 18) (N := some 48) (v := ?_) (a' := ?_) #[true, true, true, true, true, true, true, true, true, true, true, true, true, true, true, true, true, true, true, false, false, false, false, false, false, false, false, false, false, false, false, false, false, false, false, false] rfl rfl (by kernel_rfl) (fun _ _ _ h => h) (Or.inl ⟨by rfl, ?_⟩) hHeld ?_ ?_
            rotate_left
            · rintro w' ⟨s0, s1, s2, s3, s4, s5, s6, s7, s8, s9, s10, s11, s12, s13, s14, s15, s16, s17⟩
              go_simp
              (try with_reducible rfl)
            rotate_left
            · simp only [Act.put, List.setIfInBounds_toArray, List.set_cons_zero, List.set_cons_succ]
              rfl
            refine take_ (i := 20) (N := some 50) (v := ?_) (a' := ?_) #[true, true, true, true, true, true, true, true, true, true, true, true, true, true, true, true, true, true, true, false, true, false, false, false, false, false, false, false, false, false, false, false, false, false, false, false] rfl rfl (by kernel_rfl) (fun _ _ _ h => h) (Or.inl ⟨by rfl, ?_⟩) hHeld ?_ ?_
            rotate_left
            · rintro w' ⟨s0, s1, s2, s3, s4, s5, s6, s7, s8, s9, s10, s11, s12, s13, s14, s15, s16, s17⟩
              go_simp
              (try with_reducible rfl)
            rotate_left
            · simp only [Act.put, List.setIfInBounds_toArray, List.set_cons_zero, List.set_cons_succ]
              rfl
            refine one_ (i := 19) (N := some 49) #[true, true, true, true, true, true, true, true, true, true, true, true, true, true, true, true, true, true, true, true, true, false, false, false, false, false, false, false, false, false, false, false, false, false, false, false] rfl rfl (by kernel_rfl) (by decide) (fun K hK => ?_)
            go_simp
            refine (good_walk _ _ _ _ _ _ _ _ (by omega) _).mono ?_
            rintro e wN ⟨rfl, hwN⟩
            rw [HGB.out]
            have hq : Below wz.heap.size wz wN := (by rw [← hwN]; first | exact hq.alloc hq.size _ | exact (below_drew hq).alloc (below_drew hq).size _ | exact (below_drew (below_drew hq)).alloc (below_drew (below_drew hq)).size _)
            clear hwN
            try go_wp2_with fail
            refine hK.out _ _ ?_ (fun hHeld2 => ?_)
            · (try dsimp only)
              first | with_reducible exact hHeld | exact ⟨pw_cell_below hq a0, pw_cell_below hq a1, pw_cell_below hq a2, pw_cell_below hq a3, pw_cell_below hq a4, pw_cell_below hq a5, pw_cell_below hq b0, pw_cell_below hq b1, pw_cell_below hq b2, pw_cell_below hq b3, pw_cell_below hq b4, pw_cell_below hq b5, pw_cell_below hq d0, pw_cell_below hq d1, pw_cell_below hq d2, pw_cell_below hq d3, pw_cell_below hq d4, pw_cell_below hq d5⟩
            clear hHeld hK K
            have hHeld := hHeld2
            clear hHeld2
            try simp only [Act.put, List.setIfInBounds_toArray, List.set_cons_zero, List.set_cons_succ]
            refine one_ (i := 21) (N := some 51) #[true, true, true, true, true, true, true, true, true, true, true, true, true, true, true, true, true, true, true, true, true, true, false, false, false, false, false, false, false, false, false, false, false, false, false, false] rfl rfl (by kernel_rfl) (by decide) (fun K hK => ?_)
            go_simp
            refine (own_walk _ _ _ _ _ _ _ _ _).mono ?_
            rintro e wN ⟨rfl, hbN⟩
            have hq : Below wz.heap.size wz wN := (by first | exact below_then hq hq.size hbN | exact below_then (below_drew hq) (below_drew hq).size hbN | exact below_then (below_drew (below_drew hq)) (below_drew (below_drew hq)).size hbN)
            try go_wp2_with fail
            refine hK.out _ _ ?_ (fun hHeld2 => ?_)
            · (try dsimp only)
              first | with_reducible exact hHeld | exact ⟨pw_cell_below hq a0, pw_cell_below hq a1, pw_cell_below hq a2, pw_cell_below hq a3, pw_cell_below hq a4, pw_cell_below hq a5, pw_cell_below hq b0, pw_cell_below hq b1, pw_cell_below hq b2, pw_cell_below hq b3, pw_cell_below hq b4, pw_cell_below hq b5, pw_cell_below hq d0, pw_cell_below hq d1, pw_cell_below hq d2, pw_cell_below hq d3, pw_cell_below hq d4, pw_cell_below hq d5⟩
            clear hHeld hK K
            have hHeld := hHeld2
            clear hHeld2
            try simp only [Act.put, List.setIfInBounds_toArray, List.set_cons_zero, List.set_cons_succ]
            refine one_ (i := 22) (N := some 52) #[true, true, true, true, true, true, true, true, true, true, true, true, true, true, true, true, true, true, true, true, true, true, true, false, false, false, false, false, false, false, false, false, false, false, false, false] rfl rfl (by kernel_rfl) (by decide) (fun K hK => ?_)
            go_simp
            refine (rgood_walk _ _ _ _ _ _ _ _ (by omega) _).mono ?_
            rintro e wN ⟨rfl, hwN⟩
            rw [HGB.out]
            have hq : Below wz.heap.size wz wN := (by rw [← hwN]; first | exact hq.alloc hq.size _ | exact (below_drew hq).alloc (below_drew hq).size _ | exact (below_drew (below_drew hq)).alloc (below_drew (below_drew hq)).size _)
            clear hwN
            try go_wp2_with fail
            refine hK.out _ _ ?_ (fun hHeld2 => ?_)
            · (try dsimp only)
              first | with_reducible exact hHeld | exact ⟨pw_cell_below hq a0, pw_cell_below hq a1, pw_cell_below hq a2, pw_cell_below hq a3, pw_cell_below hq a4, pw_cell_below hq a5, pw_cell_below hq b0, pw_cell_below hq b1, pw_cell_below hq b2, pw_cell_below hq b3, pw_cell_below hq b4, pw_cell_below hq b5, pw_cell_below hq d0, pw_cell_below hq d1, pw_cell_below hq d2, pw_cell_below hq d3, pw_cell_below hq d4, pw_cell_below hq d5⟩
            clear hHeld hK K
            have hHeld := hHeld2
            clear hHeld2
            try simp only [Act.put, List.setIfInBounds_toArray, List.set_cons_zero, List.set_cons_succ]
            refine pure_ (i := 23) (N := some 53) (v := ?_) (a' := ?_) #[true, true, true, true, true, true, true, true, true, true, true, true, true, true, true, true, true, true, true, true, true, true, true, true, false, false, false, false, false, false, false, false, false, false, false, false] rfl rfl (by kernel_rfl) (fun _ _ _ h => h) (Or.inl ⟨by rfl, ?_⟩) ?_ ?_
            rotate_left
            · intro w'
              go_simp
              (try with_reducible rfl)
            rotate_left
            · simp only [Act.put, List.setIfInBounds_toArray, List.set_cons_zero, List.set_cons_succ]
              rfl
            refine pure_ (i := 24) (N := some 54) (v := ?_) (a' := ?_) #[true, true, true, true, true, true, true, true, true, true, true, true, true, true, true, true, true, true, true, true, true, true, true, true, true, false, false, false, false, false, false, false, false, false, false, false] rfl rfl (by kernel_rfl) (fun _ _ _ h => h) (Or.inl ⟨by rfl, ?_⟩) ?_ ?_
            rotate_left
            · intro w'
              go_simp
              (try with_reducible rfl)
            rotate_left
            · simp only [Act.put, List.setIfInBounds_toArray, List.set_cons_zero, List.set_cons_succ]
              rfl
            refine pure_ (i := 25) (N := some 55) (v := ?_) (a' := ?_) #[true, true, true, true, true, true, true, true, true, true, true, true, true, true, true, true, true, true, true, true, true, true, true, true, true, true, false, false, false, false, false, false, false, false, false, false] rfl rfl (by kernel_rfl) (fun _ _ _ h => h) (Or.inl ⟨by rfl, ?_⟩) ?_ ?_
            rotate_left
            · intro w'
              go_simp
              (try with_reducible rfl)
            rotate_left
            · simp only [Act.put, List.setIfInBounds_toArray, List.set_cons_zero, List.set_cons_succ]
              rfl
            refine take_ (i := 26) (N := some 56) (v := ?_) (a' := ?_) #[true, true, true, true, true, true, true, true, true, true, true, true, true, true, true, true, true, true, true, true, true, true, true, true, true, true, true, false, false, false, false, false, false, false, false, false] rfl rfl (by kernel_rfl) (fun _ _ _ h => h) (Or.inl ⟨by rfl, ?_⟩) hHeld ?_ ?_
            rotate_left
            · rintro w' ⟨s0, s1, s2, s3, s4, s5, s6, s7, s8, s9, s10, s11, s12, s13, s14, s15, s16, s17⟩
              go_simp
              (try with_reducible rfl)
            rotate_left
            · simp only [Act.put, List.setIfInBounds_toArray, List.set_cons_zero, List.set_cons_succ]
              rfl
            refine take_ (i := 29) (N := some 59) (v := ?_) (a' := ?_) #[true, true, true, true, true, true, true, true, true, true, true, true, true, true, true, true, true, true, true, true, true, true, true, true, true, true, true, false, false, true, false, false, false, false, false, false] rfl rfl (by kernel_rfl) (fun _ _ _ h => h) (Or.inl ⟨by rfl, ?_⟩) hHeld ?_ ?_
            rotate_left
            · rintro w' ⟨s0, s1, s2, s3, s4, s5, s6, s7, s8, s9, s10, s11, s12, s13, s14, s15, s16, s17⟩
              go_simp
              (try with_reducible rfl)
            rotate_left
            · simp only [Act.put, List.setIfInBounds_toArray, List.set_cons_zero, List.set_cons_succ]
              rfl
            refine one_ (i := 27) (N := some 57) #[true, true, true, true, true, true, true, true, true, true, true, true, true, true, true, true, true, true, true, true, true, true, true, true, true, true, true, true, false, true, false, false, false, false, false, false] rfl rfl (by kernel_rfl) (by decide) (fun K hK => ?_)
            go_simp
            refine (encode_bad _ _ _ _ _ A' n' c' (by omega) HBAD.out _).mono ?_
            rintro e wN ⟨rfl, hbN⟩
            have hq : Below wz.heap.size wz wN := (by first | exact below_then hq hq.size hbN | exact below_then (below_drew hq) (below_drew hq).size hbN | exact below_then (below_drew (below_drew hq)) (below_drew (below_drew hq)).size hbN)
            try go_wp2_with fail
            refine hK.out _ _ ?_ (fun hHeld2 => ?_)
            · (try dsimp only)
              first | with_reducible exact hHeld | exact ⟨pw_cell_below hq a0, pw_cell_below hq a1, pw_cell_below hq a2, pw_cell_below hq a3, pw_cell_below hq a4, pw_cell_below hq a5, pw_cell_below hq b0, pw_cell_below hq b1, pw_cell_below hq b2, pw_cell_below hq b3, pw_cell_below hq b4, pw_cell_below hq b5, pw_cell_below hq d0, pw_cell_below hq d1, pw_cell_below hq d2, pw_cell_below hq d3, pw_cell_below hq d4, pw_cell_below hq d5⟩
            clear hHeld hK K
            have hHeld := hHeld2
            clear hHeld2
            try simp only [Act.put, List.setIfInBounds_toArray, List.set_cons_zero, List.set_cons_succ]
            refine pure_ (i := 28) (N := some 58) (v := ?_) (a' := ?_) #[true, true, true, true, true, true, true, true, true, true, true, true, true, true, true, true, true, true, true, true, true, true, true, true, true, true, true, true, true, true, false, false, false, false, false, false] rfl rfl (by kernel_rfl) (fun _ _ _ h => h) (Or.inl ⟨by rfl, ?_⟩) ?_ ?_
            rotate_left
            · intro w'
              go_simp
              (try with_reducible rfl)
            rotate_left
            · simp only [Act.put, List.setIfInBounds_toArray, List.set_cons_zero, List.set_cons_succ]
              rfl
            refine one_ (i := 30) (N := some 60) #[true, true, true, true, true, true, true, true, true, true, true, true, true, true, true, true, true, true, true, true, true, true, true, true, true, true, true, true, true, true, true, false, false, false, false, false] rfl rfl (by kernel_rfl) (by decide) (fun K hK => ?_)
            go_simp
            refine (own_walk _ _ _ _ _ _ _ _ _).mono ?_
            rintro e wN ⟨rfl, hbN⟩
            have hq : Below wz.heap.size wz wN := (by first | exact below_then hq hq.size hbN | exact below_then (below_drew hq) (below_drew hq).size hbN | exact below_then (below_drew (below_drew hq)) (below_drew (below_drew hq)).size hbN)
            try go_wp2_with fail
            refine hK.out _ _ ?_ (fun hHeld2 => ?_)
            · (try dsimp only)
              first | with_reducible exact hHeld | exact ⟨pw_cell_below hq a0, pw_cell_below hq a1, pw_cell_below hq a2, pw_cell_below hq a3, pw_cell_below hq a4, pw_cell_below hq a5, pw_cell_below hq b0, pw_cell_below hq b1, pw_cell_below hq b2, pw_cell_below hq b3, pw_cell_below hq b4, pw_cell_below hq b5, pw_cell_below hq d0, pw_cell_below hq d1, pw_cell_below hq d2, pw_cell_below hq d3, pw_cell_below hq d4, pw_cell_below hq d5⟩
            clear hHeld hK K
            have hHeld := hHeld2
            clear hHeld2
            try simp only [Act.put, List.setIfInBounds_toArray, List.set_cons_zero, List.set_cons_succ]
            refine one_ (i := 31) (N := some 61) #[true, true, true, true, true, true, true, true, true, true, true, true, true, true, true, true, true, true, true, true, true, true, true, true, true, true, true, true, true, true, true, true, false, false, false, false] rfl rfl (by kernel_rfl) (by decide) (fun K hK => ?_)
            go_simp
            refine (rencode_bad _ _ _ _ _ A' n' c' (by omega) HBAD.out _).mono ?_
            rintro e wN ⟨rfl, hbN⟩
            have hq : Below wz.heap.size wz wN := (by first | exact below_then hq hq.size hbN | exact below_then (below_drew hq) (below_drew hq).size hbN | exact below_then (below_drew (below_drew hq)) (below_drew (below_drew hq)).size hbN)
            try go_wp2_with fail
            refine hK.out _ _ ?_ (fun hHeld2 => ?_)
            · (try dsimp only)
              first | with_reducible exact hHeld | exact ⟨pw_cell_below hq a0, pw_cell_below hq a1, pw_cell_below hq a2, pw_cell_below hq a3, pw_cell_below hq a4, pw_cell_below hq a5, pw_cell_below hq b0, pw_cell_below hq b1, pw_cell_below hq b2, pw_cell_below hq b3, pw_cell_below hq b4, pw_cell_below hq b5, pw_cell_below hq d0, pw_cell_below hq d1, pw_cell_below hq d2, pw_cell_below hq d3, pw_cell_below hq d4, pw_cell_below hq d5⟩
            clear hHeld hK K
            have hHeld := hHeld2
            clear hHeld2
            try simp only [Act.put, List.setIfInBounds_toArray, List.set_cons_zero, List.set_cons_succ]
            refine pure_ (i := 32) (N := some 62) (v := ?_) (a' := ?_) #[true, true, true, true, true, true, true, true, true, true, true, true, true, true, true, true, true, true, true, true, true, true, true, true, true, true, true, true, true, true, true, true, true, false, false, false] rfl rfl (by kernel_rfl) (fun _ _ _ h => h) (Or.inl ⟨by rfl, ?_⟩) ?_ ?_
            rotate_left
            · intro w'
              go_simp
              (try with_reducible rfl)
            rotate_left
            · simp only [Act.put, List.setIfInBounds_toArray, List.set_cons_zero, List.set_cons_succ]
              rfl
            refine pure_ (i := 33) (N := some 63) (v := ?_) (a' := ?_) #[true, true, true, true, true, true, true, true, true, true, true, true, true, true, true, true, true, true, true, true, true, true, true, true, true, true, true, true, true, true, true, true, true, true, false, false] rfl rfl (by kernel_rfl) (fun _ _ _ h => h) (Or.inl ⟨by rfl, ?_⟩) ?_ ?_
            rotate_left
            · intro w'
              go_simp
              (try with_reducible rfl)
            rotate_left
            · simp only [Act.put, List.setIfInBounds_toArray, List.set_cons_zero, List.set_cons_succ]
              rfl
            refine pure_ (i := 34) (N := some 64) (v := ?_) (a' := ?_) #[true, true, true, true, true, true, true, true, true, true, true, true, true, true, true, true, true, true, true, true, true, true, true, true, true, true, true, true, true, true, true, true, true, true, true, false] rfl rfl (by kernel_rfl) (fun _ _ _ h => h) (Or.inl ⟨by rfl, ?_⟩) ?_ ?_
            rotate_left
            · intro w'
              go_simp
              (try with_reducible rfl)
            rotate_left
            · simp only [Act.put, List.setIfInBounds_toArray, List.set_cons_zero, List.set_cons_succ]
              rfl
            refine pure_ (i := 35) (N := some 4) (v := ?_) (a' := ?_) #[true, true, true, true, true, true, true, true, true, true, true, true, true, true, true, true, true, true, true, true, true, true, true, true, true, true, true, true, true, true, true, true, true, true, true, true] rfl rfl (by kernel_rfl) (fun _ _ _ h => h) (Or.inl ⟨by rfl, ?_⟩) ?_ ?_
            rotate_left
            · intro w'
              go_simp
              (try with_reducible rfl)
            rotate_left
            · simp only [Act.put, List.setIfInBounds_toArray, List.set_cons_zero, List.set_cons_succ]
              rfl
            refine wpAnyLast_done (by kernel_rfl) ?_ _
            go_wp2_with fail
            go_ret
            exact ⟨by first | rfl | simp, by first | exact below_then BZ.out BZ.out.size hq | exact below_then BZ.out BZ.out.size (below_drew hq) | exact below_then BZ.out BZ.out.size (below_drew (below_drew hq))⟩
    · have h2' : 1000 < n' := by omega
      clear h2
      go_enter Try.func4, Try.ntmps4
      go_wp2_with fail
      refine (awake_walk _).mono ?_
      rintro e w1 ⟨rfl, hb1⟩
      have B1 := Lib.hid (HBX.out _ hb1); clear hb1
      obtain ⟨x0, x1, x2, x3, x4, x5⟩ := box_cells B1.out.2
      go_wp2_with fail
      go_ret
      exact ⟨rfl, B1.out.1⟩
  · have h1' : 1000 < n := by omega
    clear h1
    go_enter Try.func4, Try.ntmps4
    go_wp2_with fail
    refine (awake_walk _).mono ?_
    rintro e w1 ⟨rfl, hb1⟩
    have B1 := Lib.hid (HBX.out _ hb1); clear hb1
    go_wp2_with fail
    go_ret
    exact ⟨rfl, B1.out.1⟩
end Go.Proofs.Ytdcbpkhogpjfeaa
