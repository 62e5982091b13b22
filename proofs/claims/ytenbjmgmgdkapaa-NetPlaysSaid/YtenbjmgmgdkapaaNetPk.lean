/- Net: the walk of NetPlays. -/
import Derived.Test.YtenbjmgmgdkapaaNetPj
import Derived.WalkSmall
set_option linter.unusedVariables false
set_option linter.unusedSimpArgs false
namespace Go.Proofs.Ytenbjmgmgdkapaa
open Go.RowKit Go.Proofs.YtenbjmgmgdkapaaW.PrintWords Go.Proofs.Ytenbjmgmgdkapaa.K Go.Proofs.Ytenbjmgmgdkapaa.Row Go.ChangeShapes Go.WideShapes Go.Deep

theorem box8 {w : World} {r : Nat} {a b c d e f g h : Value} {ty : TypeId} (hh : w.heap[r]? = some (.cells #[a, b, c, d, e, f, g, h] ty (0, 0))) :
    w.cell? ⟨r, 0, none⟩ = some a ∧ w.cell? ⟨r, 1, none⟩ = some b ∧ w.cell? ⟨r, 2, none⟩ = some c ∧ w.cell? ⟨r, 3, none⟩ = some d ∧ w.cell? ⟨r, 4, none⟩ = some e ∧ w.cell? ⟨r, 5, none⟩ = some f ∧ w.cell? ⟨r, 6, none⟩ = some g ∧ w.cell? ⟨r, 7, none⟩ = some h := by
  simp [World.cell?, hh]
theorem both_made (w : World) (room : Int) : Both (((w.alloc (.map #[] 0)).alloc (.cells #[.int .i64 room, .slice none 0 0, .map (some w.heap.size)] 59)).alloc (.cells (refC room (.slice none 0 0) (fun _ _ => false)) 47)) w.heap.size (w.heap.size + 1) w.heap.size (w.heap.size + 2) room 0 (fun _ _ => false) [] (fun _ _ => false) [] := by
  have h1 := (net_made w w.heap.size room (Nat.le_refl _)).below (alloc_back (.cells (refC room (.slice none 0 0) (fun _ _ => false)) 47))
  refine ⟨⟨[], [], h1, ⟨⟨none, 0, ?_, ⟨rfl, .inl ⟨rfl, rfl⟩⟩⟩, (fun p hp => by cases hp), by omega, by simp; omega⟩, rfl, rfl, (fun p hp => by cases hp)⟩⟩
  have h := heap_alloc_new ((w.alloc (.map #[] 0)).alloc (.cells #[.int .i64 room, .slice none 0 0, .map (some w.heap.size)] 59)) (.cells (refC room (.slice none 0 0) (fun _ _ => false)) 47)
  simpa using h
theorem both_ref {w : World} {base r mb R n : Nat} {room : Int} {f g : Nat → Nat → Bool} {D E : List Dat} (h : Both w base r mb R room n f D g E) : ∃ A c, w.heap[R]? = some (.cells (refC room (.slice A E.length c) g) 47 (0, 0)) ∧ ∀ j, j < E.length → ∃ g', A = some ⟨g', 0, none⟩ ∧ w.cell? ⟨g', j * 4, none⟩ = some (.int .i64 (E.getD j dz).1) ∧ w.cell? ⟨g', j * 4 + 1, none⟩ = some (.int .i64 (E.getD j dz).2.1) ∧ ∃ A' c', w.cell? ⟨g', j * 4 + 2, none⟩ = some (.slice A' (E.getD j dz).2.2.1.length c') ∧ ReadsInt w .u8 A' (E.getD j dz).2.2.1.length (E.getD j dz).2.2.1 := by
  obtain ⟨L, M, hS, hR, hD, hE, hap⟩ := h.h
  obtain ⟨A, c, h1, h2⟩ := hR.cl
  rw [dat_len hE] at h1
  refine ⟨A, c, h1, fun j hj => ?_⟩
  obtain ⟨p, hp, hd⟩ := dat_at hE hj
  obtain ⟨g', cap, e, _, _⟩ := h2.form (by rw [dat_len hE]; omega)
  injection e with e1 e2 e3
  subst e1 e3
  have y0 := h2.cells (g := g') rfl (j * 4 + 0) (.int .i64 p.f) (by rw [pk_get M j p hp 0 (by decide)]; rfl)
  have y1 := h2.cells (g := g') rfl (j * 4 + 1) (.int .i64 p.t) (by rw [pk_get M j p hp 1 (by decide)]; rfl)
  have y2 := h2.cells (g := g') rfl (j * 4 + 2) (.slice p.A p.b.length p.c) (by rw [pk_get M j p hp 2 (by decide)]; rfl)
  rw [Go.Proofs.YtenbjmgmgdkapaaW.PrintWords.add_plain] at y0 y1 y2
  rw [Nat.add_zero] at y0
  rw [← hd]
  exact ⟨g', rfl, y0, y1, p.A, p.c, y2, (own_info (hR.bd p (List.mem_of_getElem? hp))).2.2.2.1⟩
/-- Both nets behind k calls. -/
def Pls (w0 : World) (R : Nat) (room : Int) (k : Nat) (wr : World) : Prop :=
  ∃ nn f D, Both wr w0.heap.size (w0.heap.size + 1) w0.heap.size R room nn f D f D ∧ Okd D ∧ D.length ≤ k ∧ nn ≤ k ∧ Below w0.heap.size w0 wr
theorem okd_add {D : List Dat} {k : Nat} (h : Okd D) (hk : D.length ≤ k) (hk1 : k < 100) {d : Dat} (hd : d.2.2.1.length ≤ 200) : Okd (D ++ [d]) ∧ (D ++ [d]).length ≤ k + 1 := by
  refine ⟨⟨by simp; omega, fun x hx => ?_⟩, by simp; omega⟩
  rcases List.mem_append.1 hx with hx | hx
  · exact h.2 x hx
  · obtain rfl := List.mem_singleton.1 hx; exact hd
theorem getD_le {D : List Dat} (h : Okd D) (j : Nat) : (D.getD j dz).2.2.1.length ≤ 200 := by
  rcases Nat.lt_or_ge j D.length with hj | hj
  · have : D.getD j dz ∈ D := by rw [List.getD_eq_getElem?_getD, List.getElem?_eq_getElem hj]; simp
    exact h.2 _ this
  · rw [List.getD_eq_getElem?_getD, List.getElem?_eq_none hj]; simp
theorem okd_send {D : List Dat} {k : Nat} (h : Okd D) (hk : D.length ≤ k) (hk1 : k < 100) (room : Int) (f : Nat → Nat → Bool) (a b : Int) {xs : List Int} (hx : xs.length ≤ 200) : Okd (sendD room f D a b xs) ∧ (sendD room f D a b xs).length ≤ k + 1 := by
  unfold sendD
  split
  · exact okd_add h hk hk1 hx
  · exact ⟨h, by omega⟩
theorem okd_take {D : List Dat} {k : Nat} (h : Okd D) (hk : D.length ≤ k) (j : Int) : Okd (takeD D j) ∧ (takeD D j).length ≤ k + 1 := by
  unfold takeD
  split
  · have hl := List.length_eraseIdx_le D j.toNat
    exact ⟨⟨by have := h.1; omega, fun x hx => h.2 x (List.mem_of_mem_eraseIdx hx)⟩, by omega⟩
  · exact ⟨h, by omega⟩
theorem okd_copy {D : List Dat} {k : Nat} (h : Okd D) (hk : D.length ≤ k) (hk1 : k < 100) (room : Int) (j : Int) : Okd (copyD room D j) ∧ (copyD room D j).length ≤ k + 1 := by
  unfold copyD
  split
  · exact okd_add h hk hk1 (getD_le h _)
  · exact ⟨h, by omega⟩
theorem okd_spoil {D : List Dat} {k : Nat} (h : Okd D) (hk : D.length ≤ k) (j i b : Int) : Okd (spoilD D j i b) ∧ (spoilD D j i b).length ≤ k + 1 := by
  unfold spoilD
  split
  · refine ⟨⟨by simp; exact h.1, fun x hx => ?_⟩, by simp; omega⟩
    rcases List.mem_or_eq_of_mem_set hx with hx | hx
    · exact h.2 x hx
    · subst hx
      unfold spoilP
      simp only [List.length_set]
      exact getD_le h _
  · exact ⟨h, by omega⟩
theorem fr_old {W w0 w w' : World} (h0 : Below W.heap.size W w0) (hW : Below W.heap.size W w) (h : Fr w0.heap.size w w') (hs : w0.heap.size ≤ w.heap.size) : Below W.heap.size W w' := by
  have h2 := h.2.1 w (Below.refl _ _)
  exact hW.trans ⟨h2.os, h2.tape, h2.output, h2.size, fun k hk => h2.block k (Nat.lt_of_lt_of_le hk h0.size)⟩
theorem ref_zero (w : World) : (zeroValue 47).run Try.prog w = .ok (.agg (refC 0 (.slice none 0 0) fun _ _ => false)) w := by kernel_rfl
theorem ref_lit (room : Int) : ∃ Z Y : Array Value, (∀ w, (zeroValue 47).run Try.prog w = .ok (.agg Z) w) ∧ ¬ Z = #[] ∧ Z.setIfInBounds 0 (.int .i64 room) = Y ∧ Y = refC room (.slice none 0 0) fun _ _ => false :=
  ⟨_, _, ref_zero, by simp [refC], rfl, by simp [refC]⟩
set_option maxRecDepth 100000 in
set_option maxHeartbeats 8000000 in
theorem plays_walk (W : World) (room : Int) (hroom : (Lit.int .i64 room).wf = true) (v : Value) (o : ∃ A n c X, v = .slice A n c ∧ ActsAt W A n X ∧ n ≤ c) :
    Calls Try.prog 7 #[.int .i64 room, v] W fun e w' => e = .returned (.bool true) ∧ Below W.heap.size W w' := by
  obtain ⟨A, n, c, X, rfl, hX, hc⟩ := o
  have HX := Lib.hid hX; clear hX
  by_cases hlo : room < 1
  · have HH := Lib.hid (fun w => new_bad room w (.inl hlo))
    go_enter Try.func7, Try.ntmps7
    go_wp2_with fail
    refine (awake_walk W).mono ?_
    rintro e w0 ⟨rfl, hb0⟩
    have B0 := Lib.hid hb0; clear hb0
    go_wp2_with fail
    refine (HH.out _).mono ?_
    rintro e w1 ⟨rfl, rfl⟩
    go_wp2_with fail
    go_ret
    exact ⟨rfl, B0.out⟩
  by_cases hhi : 65536 < room
  · have HH := Lib.hid (fun w => new_bad room w (.inr hhi))
    go_enter Try.func7, Try.ntmps7
    go_wp2_with fail
    refine (awake_walk W).mono ?_
    rintro e w0 ⟨rfl, hb0⟩
    have B0 := Lib.hid hb0; clear hb0
    go_wp2_with fail
    refine (HH.out _).mono ?_
    rintro e w1 ⟨rfl, rfl⟩
    go_wp2_with fail
    go_ret
    exact ⟨rfl, B0.out⟩
  have HN := Lib.hid (fun w => new_ok room w (by omega) (by omega))
  by_cases hn : 100 < n
  · go_enter Try.func7, Try.ntmps7
    go_wp2_with fail
    refine (awake_walk W).mono ?_
    rintro e w0 ⟨rfl, hb0⟩
    have B0 := Lib.hid hb0; clear hb0
    go_wp2_with fail
    refine (HN.out _).mono ?_
    rintro e w1 ⟨rfl, hw1⟩
    have HW := Lib.hid hw1; clear hw1
    go_wp2_with fail
    go_ret
    refine ⟨rfl, ?_⟩
    rw [HW.out]
    exact below_then B0.out B0.out.size (alloc_back2 _ _)
  go_enter Try.func7, Try.ntmps7
  go_wp2_with fail
  refine (awake_walk W).mono ?_
  rintro e w0 ⟨rfl, hb0⟩
  have B0 := Lib.hid hb0; clear hb0
  go_wp2_with fail
  have C1 := Lib.hid (HN.out w0); clear HN
  have BM := Lib.hid (both_made w0 room)
  have HB1 := Lib.hid (fun o o' o'' : Obj => ((alloc_back2 (W := w0) o o').alloc (alloc_back2 (W := w0) o o').size o'' : Below w0.heap.size w0 _))
  refine C1.out.mono ?_
  rintro e w1 ⟨rfl, hw1⟩
  have hs1 : w1.heap.size = w0.heap.size + 2 := by rw [hw1]; simp
  have BM1 := Lib.hid (show Both (w1.alloc (.cells (refC room (.slice none 0 0) (fun _ _ => false)) 47)) w0.heap.size (w0.heap.size + 1) w0.heap.size (w0.heap.size + 2) room 0 (fun _ _ => false) [] (fun _ _ => false) [] by rw [hw1]; exact BM.out)
  have BB1 := Lib.hid (show ∀ o, Below w0.heap.size w0 (w1.alloc o) by intro o; rw [hw1]; exact HB1.out _ _ _)
  clear hw1 HB1 BM C1
  have HS1 := Lib.hid hs1; clear hs1
  obtain ⟨Z, Y, hz, hne, hset, hY⟩ := ref_lit room
  rw [← hY] at BM1
  clear hY
  go_wp2_with fail
  obtain ⟨R, hR⟩ : ∃ R, R = w1.heap.size := ⟨_, rfl⟩
  have BM2 := Lib.hid (show Both (w1.alloc (.cells Y 47)) w0.heap.size (w0.heap.size + 1) w0.heap.size R room 0 (fun _ _ => false) [] (fun _ _ => false) [] by rw [hR, HS1.out]; exact BM1.out)
  rw [← hR]
  clear hz hne hset BM1 HS1 hR
  go_loopw [8] (fun i wr => ∃ k : Nat, k ≤ n ∧ i = .int .i64 k ∧ Aside0 (Pls w0 R room k wr)) (fun i _ => n - (intOf i).toNat)
  case atStart => exact ⟨0, Nat.zero_le _, rfl, ⟨0, fun _ _ => false, [], BM2.out, ⟨by decide, fun d hd => by cases hd⟩, Nat.le_refl _, Nat.le_refl _, BB1.out _⟩⟩
  case round =>
    obtain ⟨k, hk, rfl, HK⟩ := hrel
    by_cases hlt : k < n
    · obtain ⟨ad, rfl, hact0⟩ := HX.out.2 k hlt
      obtain ⟨nn, f, D, hB, hO, hl, hnn, hbw⟩ := HK.out
      have hWr := below_then B0.out B0.out.size hbw
      obtain ⟨x, hx⟩ : ∃ x, x = X k := ⟨_, rfl⟩
      rw [← hx] at hact0
      obtain ⟨op, af, at_, ak, aa, ab, aA, ac, axs, al⟩ := x
      obtain ⟨c0, c1, c2, c3, c4, c5, c6, c7, rd, nz⟩ := hact0.below hWr
      simp only at c0 c1 c2 c3 c4 c5 c6 c7 rd nz
      obtain ⟨m, hm⟩ : ∃ m, m = axs.length := ⟨_, rfl⟩
      rw [← hm] at c6 rd
      have HBt := Lib.hid hB; have HO := Lib.hid hO; have HL := Lib.hid (And.intro hl hnn); have HBW := Lib.hid hbw; have HRD := Lib.hid rd; have HRD0 := Lib.hid (show ReadsInt W .u8 aA m axs by rw [hm]; exact hact0.rd); have HNZ := Lib.hid nz; have HM := Lib.hid hm
      have HWR := Lib.hid hWr; have HACT := Lib.hid hact0
      clear hB hO hl hnn hbw rd nz hm hWr hact0 hx
      by_cases h200 : 200 < m
      · go_wp2_with fail
        go_ret
        exact ⟨rfl, HWR.out.alloc HWR.out.size _⟩
      obtain ⟨wo, rfl⟩ : ∃ wo : World, wo = wr := ⟨_, rfl⟩
      obtain ⟨wx, hwx⟩ : ∃ wx, wx = wo.alloc (.cells #[.int .i64 op, .int .i64 af, .int .i64 at_, .int .i64 ak, .int .i64 aa, .int .u8 ab, .slice aA m ac, .bool al] 49) := ⟨_, rfl⟩
      have hbx : Below wo.heap.size wo wx := by rw [hwx]; exact alloc_back _
      have hxq : wx.heap[wo.heap.size]? = some (.cells #[.int .i64 op, .int .i64 af, .int .i64 at_, .int .i64 ak, .int .i64 aa, .int .u8 ab, .slice aA m ac, .bool al] 49 (0, 0)) := by rw [hwx]; exact heap_alloc_new _ _
      have HWX := Lib.hid hwx; have HXQ := Lib.hid hxq; have HBX := Lib.hid (HBt.out.below hbx); have HWO := Lib.hid (below_then HWR.out HWR.out.size hbx); have HBO := Lib.hid (below_then HBW.out HBW.out.size hbx)
      clear hwx hbx hxq
      have HLT := Lib.hid hlt; clear hlt
      go_upto_block 2 with (fail)
      rw [← HWX.out]
      go_cut [10] (fun s10 wx => s10 = .bool true ∧ Aside0 (Pls w0 R room (k + 1) wx))
      case first =>
        by_cases o0 : op = 0
        · subst o0
          as_aux_lemma =>
            obtain ⟨b0, b1, b2, b3, b4, b5', b6, b7⟩ := box8 HXQ.out
            go_wp2_with fail

            have HP := Lib.hid ((fun w g E h hw => p_send h af at_ aA m ac axs (HRD0.out.below hw) HNZ.out (by omega) (by omega)) : ∀ (w : World) (g : Nat → Nat → Bool) (E : List Dat), Both w w0.heap.size (w0.heap.size + 1) w0.heap.size R room nn f D g E → Below W.heap.size W w → _)
            have HQ := Lib.hid ((fun w f' D' h hw => r_send h af at_ aA m ac axs (HRD0.out.below hw) (by omega) HO.out) : ∀ (w : World) (f' : Nat → Nat → Bool) (D' : List Dat), Both w w0.heap.size (w0.heap.size + 1) w0.heap.size R room nn f' D' f D → Below W.heap.size W w → _)
            have hBd := HBX.out.below (below_drew (Below.refl _ _)); have hWd := below_drew HWO.out; have hOd := below_drew HBO.out; have hXd := heap_keep (below_drew (Below.refl _ _)) HXQ.out
            go_region_held3 (fun w' => w'.cell? ⟨wo.heap.size, 1, none⟩ = some (.int .i64 af) ∧ w'.cell? ⟨wo.heap.size, 2, none⟩ = some (.int .i64 at_) ∧ w'.cell? ⟨wo.heap.size, 6, none⟩ = some (.slice aA m ac))
              (first | with_reducible exact ⟨t1, t2, t6⟩ | exact ⟨b1, b2, b6⟩ | go_keep)
              (first
                | (go_at_call 10; (with_reducible refine (HP.out _ _ _ hBd hWd).mono ?_); rintro e w5 ⟨rfl, h5, h6⟩; have x5 := h6.1 _ _ _ hXd (by decide); have y5 := h6.2.1 _ hOd; have z5 := h6.2.2; obtain ⟨t0, t1, t2, t3, t4, t5, t6, t7⟩ := box8 x5; have v5 := fr_old B0.out hWd h6 (hOd).size; clear hBd hWd hOd hXd; have hBd := h5; have hWd := v5; have hOd := y5; have hXd := x5; clear h5 h6 v5 y5 z5 x5)
                | (go_at_call 18; (with_reducible refine (HQ.out _ _ _ hBd hWd).mono ?_); rintro e w5 ⟨rfl, h5, h6⟩; have x5 := h6.1 _ _ _ hXd (by decide); have y5 := h6.2.1 _ hOd; have z5 := h6.2.2; obtain ⟨t0, t1, t2, t3, t4, t5, t6, t7⟩ := box8 x5; have v5 := fr_old B0.out hWd h6 (hOd).size; clear hBd hWd hOd hXd; have hBd := h5; have hWd := v5; have hOd := y5; have hXd := x5; clear h5 h6 v5 y5 z5 x5))
            all_goals
              (try go_wp2_with fail)
              go_meet
              exact ⟨rfl, ⟨nn, f, sendD room f D af at_ axs, hBd, (okd_send HO.out HL.out.1 (by omega) room f af at_ (by have := HM.out; omega)).1, (okd_send HO.out HL.out.1 (by omega) room f af at_ (by have := HM.out; omega)).2, by have := HL.out.2; omega, hOd⟩⟩
        have n0 : (op == 0) = false := by simpa using o0
        clear o0
        by_cases o1 : op = 1
        · subst o1
          as_aux_lemma =>
            obtain ⟨b0, b1, b2, b3, b4, b5', b6, b7⟩ := box8 HXQ.out
            obtain ⟨bb, hbb⟩ : ∃ bb, bb = inB D ak := ⟨_, rfl⟩
            obtain ⟨p, hp⟩ : ∃ p, p = takeP D ak := ⟨_, rfl⟩
            have HP1 := p_take HBX.out HO.out ak
            have HQ1 : ∀ (w : World) (f' : Nat → Nat → Bool) (D' : List Dat), Both w w0.heap.size (w0.heap.size + 1) w0.heap.size R room nn f' D' f D → _ := fun w f' D' h => r_take h HO.out ak
            rw [← hbb, ← hp] at HP1
            rw [← hbb, ← hp] at HQ1
            obtain ⟨p0, p1, p2, p3⟩ := p
            obtain ⟨pm, hpm⟩ : ∃ pm, pm = p2.length := ⟨_, rfl⟩
            simp only at HP1 HQ1
            rw [← hpm] at HP1
            rw [← hpm] at HQ1
            have HP := Lib.hid HP1; have HQ := Lib.hid HQ1
            clear HP1 HQ1 hbb hp hpm
            obtain ⟨b0, b1, b2, b3, b4, b5', b6, b7⟩ := box8 HXQ.out
            go_wp2_with fail
            refine HP.out.mono ?_
            rintro e w2 ⟨A1, c1, rfl, h4, h5, h6⟩
            have x5 := h6.1 _ _ _ HXQ.out (by decide)
            have hOd := h6.2.1 _ HBO.out
            have e3 : ∀ o, (w2.alloc o).cell? ⟨wo.heap.size, 3, none⟩ = some (.int .i64 ak) := fun o => pw_cell_below (alloc_back o) (box8 x5).2.2.2.1
            have HR4 := Lib.hid h4; have HB5 := Lib.hid h5; have HO5 := Lib.hid hOd
            clear h4 h5 h6 x5 hOd b0 b1 b2 b3 b4 b5' b6 b7
            go_wp2_with fail
            obtain ⟨w3, hw3⟩ : ∃ w3, w3 = w2.alloc (.cells #[.int .i64 p0, .int .i64 p1, .slice A1 pm c1] 30) := ⟨_, rfl⟩
            have hb3 : Below w2.heap.size w2 w3 := by rw [hw3]; exact alloc_back _
            have q3 : w3.heap[w2.heap.size]? = some (.cells #[.int .i64 p0, .int .i64 p1, .slice A1 pm c1] 30 (0, 0)) := by rw [hw3]; exact heap_alloc_new _ _
            rw [← hw3]
            have HB3 := Lib.hid (HB5.out.below hb3); have HO3 := Lib.hid (below_then HO5.out HO5.out.size hb3); have HR3 := Lib.hid (pw_own_below HR4.out hb3); have Q3 := Lib.hid q3
            clear hw3 hb3 q3 e3
            refine (HQ.out _ _ _ HB3.out).mono ?_
            rintro e w4 ⟨A2, c2, rfl, h4, h5, h6⟩
            have q4 := h6.1.1 _ _ _ Q3.out (by decide)
            have HO4 := Lib.hid (h6.1.2.1 _ HO3.out); have HB4 := Lib.hid h5
            have HR5 := Lib.hid h4
            clear h4 h5
            rcases h6 with ⟨h6, hch⟩
            have rA := hch.own HR3.out (fun g hg => by obtain ⟨cs, h'⟩ := own_typed HR3.out g hg; exact TyS.not h' (by decide))
            have HRA := Lib.hid (own_info rA).2.2.2.1
            clear rA hch h6
            obtain ⟨w5, hw5⟩ : ∃ w5, w5 = w4.alloc (.cells #[.int .i64 p0, .int .i64 p1, .slice A2 pm c2, .bool p3] 52) := ⟨_, rfl⟩
            have hb5 : Below w4.heap.size w4 w5 := by rw [hw5]; exact alloc_back _
            have q5 : w5.heap[w4.heap.size]? = some (.cells #[.int .i64 p0, .int .i64 p1, .slice A2 pm c2, .bool p3] 52 (0, 0)) := by rw [hw5]; exact heap_alloc_new _ _
            have HW5 := Lib.hid hw5; clear hw5
            go_upto_region 25 with (fail)
            rw [← HW5.out]
            obtain ⟨z0, z1, z2⟩ := box3 (heap_keep hb5 q4)
            obtain ⟨y0, y1, y2, y3⟩ := box4 q5
            have kx : (convert 28 9 (.slice A1 pm c1)).run Try.prog w5 = .ok (.string (strOfNums p2)) w5 := str_of (HRA.out.below hb5)
            have ky : (convert 28 9 (.slice A2 pm c2)).run Try.prog w5 = .ok (.string (strOfNums p2)) w5 := str_of (HR5.out.below hb5)
            have HB6 := Lib.hid (HB4.out.below hb5); have HO6 := Lib.hid (below_then HO4.out HO4.out.size hb5)
            clear q4 q5 hb5 HW5
            go_wp2_with fail
            go_meet
            exact ⟨rfl, ⟨nn, f, takeD D ak, HB6.out, (okd_take HO.out HL.out.1 ak).1, (okd_take HO.out HL.out.1 ak).2, by have := HL.out.2; omega, HO6.out⟩⟩
        have n1 : (op == 1) = false := by simpa using o1
        clear o1
        by_cases o2 : op = 2
        · subst o2
          as_aux_lemma =>
            obtain ⟨b0, b1, b2, b3, b4, b5', b6, b7⟩ := box8 HXQ.out
            obtain ⟨bb, hbb⟩ : ∃ bb, bb = inB D ak := ⟨_, rfl⟩
            obtain ⟨p, hp⟩ : ∃ p, p = takeP D ak := ⟨_, rfl⟩
            have HQ1 := r_take HBX.out HO.out ak
            have HP1 : ∀ (w : World) (g' : Nat → Nat → Bool) (E' : List Dat), Both w w0.heap.size (w0.heap.size + 1) w0.heap.size R room nn f D g' E' → _ := fun w g' E' h => p_lose h HO.out ak
            rw [← hbb, ← hp] at HQ1
            rw [← hbb] at HP1
            obtain ⟨p0, p1, p2, p3⟩ := p
            simp only at HQ1
            have HP := Lib.hid HP1; have HQ := Lib.hid HQ1
            clear HP1 HQ1 hbb hp
            go_wp2_with fail
            refine HQ.out.mono ?_
            rintro e w2 ⟨A1, c1, rfl, h4, h5, h6⟩
            have x5 := h6.1.1 _ _ _ HXQ.out (by decide)
            have hOd := h6.1.2.1 _ HBO.out
            have e3 : ∀ o, (w2.alloc o).cell? ⟨wo.heap.size, 3, none⟩ = some (.int .i64 ak) := fun o => pw_cell_below (alloc_back o) (box8 x5).2.2.2.1
            have HB5 := Lib.hid h5; have HO5 := Lib.hid hOd
            clear h4 h5 h6 x5 hOd b0 b1 b2 b3 b4 b5' b6 b7
            obtain ⟨w3, hw3⟩ : ∃ w3, w3 = w2.alloc (.cells #[.int .i64 p0, .int .i64 p1, .slice A1 p2.length c1, .bool p3] 52) := ⟨_, rfl⟩
            have hb3 : Below w2.heap.size w2 w3 := by rw [hw3]; exact alloc_back _
            have HW3 := Lib.hid hw3; clear hw3
            go_wp2_with fail
            rw [← HW3.out]
            have HB3 := Lib.hid (HB5.out.below hb3); have HO3 := Lib.hid (below_then HO5.out HO5.out.size hb3)
            clear hb3 e3
            refine (HP.out _ _ _ HB3.out).mono ?_
            rintro e w4 ⟨rfl, h5, h6⟩
            have HO4 := Lib.hid (h6.2.1 _ HO3.out); have HB4 := Lib.hid h5
            clear h5 h6
            go_wp2_with fail
            go_meet
            exact ⟨rfl, ⟨nn, f, takeD D ak, HB4.out, (okd_take HO.out HL.out.1 ak).1, (okd_take HO.out HL.out.1 ak).2, by have := HL.out.2; omega, HO4.out⟩⟩
        have n2 : (op == 2) = false := by simpa using o2
        clear o2
        by_cases o3 : op = 3
        · subst o3
          as_aux_lemma =>
            obtain ⟨b0, b1, b2, b3, b4, b5', b6, b7⟩ := box8 HXQ.out
            go_wp2_with fail

            have HP := Lib.hid ((fun w g E h hw => p_copy h HO.out (by omega) ak) : ∀ (w : World) (g : Nat → Nat → Bool) (E : List Dat), Both w w0.heap.size (w0.heap.size + 1) w0.heap.size R room nn f D g E → Below W.heap.size W w → _)
            have HQ := Lib.hid ((fun w f' D' h hw => r_copy h HO.out ak) : ∀ (w : World) (f' : Nat → Nat → Bool) (D' : List Dat), Both w w0.heap.size (w0.heap.size + 1) w0.heap.size R room nn f' D' f D → Below W.heap.size W w → _)
            have hBd := HBX.out.below (below_drew (Below.refl _ _)); have hWd := below_drew HWO.out; have hOd := below_drew HBO.out; have hXd := heap_keep (below_drew (Below.refl _ _)) HXQ.out
            go_region_held3 (fun w' => w'.cell? ⟨wo.heap.size, 3, none⟩ = some (.int .i64 ak))
              (first | with_reducible exact ⟨t3⟩ | exact ⟨b3⟩ | go_keep)
              (first
                | (go_at_call 14; (with_reducible refine (HP.out _ _ _ hBd hWd).mono ?_); rintro e w5 ⟨rfl, h5, h6⟩; have x5 := h6.1 _ _ _ hXd (by decide); have y5 := h6.2.1 _ hOd; have z5 := h6.2.2; obtain ⟨t0, t1, t2, t3, t4, t5, t6, t7⟩ := box8 x5; have v5 := fr_old B0.out hWd h6 (hOd).size; clear hBd hWd hOd hXd; have hBd := h5; have hWd := v5; have hOd := y5; have hXd := x5; clear h5 h6 v5 y5 z5 x5)
                | (go_at_call 20; (with_reducible refine (HQ.out _ _ _ hBd hWd).mono ?_); rintro e w5 ⟨rfl, h5, h6⟩; have x5 := h6.1 _ _ _ hXd (by decide); have y5 := h6.2.1 _ hOd; have z5 := h6.2.2; obtain ⟨t0, t1, t2, t3, t4, t5, t6, t7⟩ := box8 x5; have v5 := fr_old B0.out hWd h6 (hOd).size; clear hBd hWd hOd hXd; have hBd := h5; have hWd := v5; have hOd := y5; have hXd := x5; clear h5 h6 v5 y5 z5 x5))
            all_goals
              (try go_wp2_with fail)
              go_meet
              exact ⟨rfl, ⟨nn, f, copyD room D ak, hBd, (okd_copy HO.out HL.out.1 (by omega) room ak).1, (okd_copy HO.out HL.out.1 (by omega) room ak).2, by have := HL.out.2; omega, hOd⟩⟩
        have n3 : (op == 3) = false := by simpa using o3
        clear o3
        by_cases o4 : op = 4
        · subst o4
          as_aux_lemma =>
            obtain ⟨b0, b1, b2, b3, b4, b5', b6, b7⟩ := box8 HXQ.out
            go_wp2_with fail

            have HP := Lib.hid ((fun w g E h hw => p_spoil h HO.out ak aa ab) : ∀ (w : World) (g : Nat → Nat → Bool) (E : List Dat), Both w w0.heap.size (w0.heap.size + 1) w0.heap.size R room nn f D g E → Below W.heap.size W w → _)
            have HQ := Lib.hid ((fun w f' D' h hw => r_spoil h HO.out ak aa ab) : ∀ (w : World) (f' : Nat → Nat → Bool) (D' : List Dat), Both w w0.heap.size (w0.heap.size + 1) w0.heap.size R room nn f' D' f D → Below W.heap.size W w → _)
            have hBd := HBX.out.below (below_drew (Below.refl _ _)); have hWd := below_drew HWO.out; have hOd := below_drew HBO.out; have hXd := heap_keep (below_drew (Below.refl _ _)) HXQ.out
            go_region_held3 (fun w' => w'.cell? ⟨wo.heap.size, 3, none⟩ = some (.int .i64 ak) ∧ w'.cell? ⟨wo.heap.size, 4, none⟩ = some (.int .i64 aa) ∧ w'.cell? ⟨wo.heap.size, 5, none⟩ = some (.int .u8 ab))
              (first | with_reducible exact ⟨t3, t4, t5⟩ | exact ⟨b3, b4, b5'⟩ | go_keep)
              (first
                | (go_at_call 16; (with_reducible refine (HP.out _ _ _ hBd hWd).mono ?_); rintro e w5 ⟨rfl, h5, h6⟩; have x5 := h6.1 _ _ _ hXd (by decide); have y5 := h6.2.1 _ hOd; have z5 := h6.2.2; obtain ⟨t0, t1, t2, t3, t4, t5, t6, t7⟩ := box8 x5; have v5 := fr_old B0.out hWd h6 (hOd).size; clear hBd hWd hOd hXd; have hBd := h5; have hWd := v5; have hOd := y5; have hXd := x5; clear h5 h6 v5 y5 z5 x5)
                | (go_at_call 21; (with_reducible refine (HQ.out _ _ _ hBd hWd).mono ?_); rintro e w5 ⟨rfl, h5, h6⟩; have x5 := h6.1 _ _ _ hXd (by decide); have y5 := h6.2.1 _ hOd; have z5 := h6.2.2; obtain ⟨t0, t1, t2, t3, t4, t5, t6, t7⟩ := box8 x5; have v5 := fr_old B0.out hWd h6 (hOd).size; clear hBd hWd hOd hXd; have hBd := h5; have hWd := v5; have hOd := y5; have hXd := x5; clear h5 h6 v5 y5 z5 x5))
            all_goals
              (try go_wp2_with fail)
              go_meet
              exact ⟨rfl, ⟨nn, f, spoilD D ak aa ab, hBd, (okd_spoil HO.out HL.out.1 ak aa ab).1, (okd_spoil HO.out HL.out.1 ak aa ab).2, by have := HL.out.2; omega, hOd⟩⟩
        have n4 : (op == 4) = false := by simpa using o4
        clear o4
        as_aux_lemma =>
          obtain ⟨b0, b1, b2, b3, b4, b5', b6, b7⟩ := box8 HXQ.out
          have HP := Lib.hid (p_cut HBX.out af at_ al (by have := HL.out.2; omega))
          go_wp2_with fail
          refine HP.out.mono ?_
          rintro e w2 ⟨rfl, h5, h6⟩
          obtain ⟨t0, t1, t2, t3, t4, t5, t6, t7⟩ := box8 (h6.1 _ _ _ HXQ.out (by decide))
          have HB3 := Lib.hid h5; have HO3 := Lib.hid (h6.2.1 _ HBO.out)
          clear b0 b1 b2 b3 b4 b5' b6 b7 h5 h6
          go_wp2_with fail
          refine (r_cut HB3.out af at_ al).mono ?_
          rintro e w4 ⟨rfl, h5, h6⟩
          have HO4 := Lib.hid (h6.2.1 _ HO3.out); have HB4 := Lib.hid h5
          clear h5 h6 t0 t1 t2 t3 t4 t5 t6 t7
          go_wp2_with fail
          go_meet
          exact ⟨rfl, ⟨nn + 1, cutF f af at_ al, D, HB4.out, HO.out, by have := HL.out.1; omega, by have := HL.out.2; omega, HO4.out⟩⟩
      case rest =>
        obtain ⟨rfl, HZ⟩ := hcut
        as_aux_lemma =>
          obtain ⟨nn2, f2, D2, hB2, hO2, hl2, hn2, hw2⟩ := HZ.out
          obtain ⟨AH, cH, hh, _⟩ := both_ref hB2
          obtain ⟨u0, u1⟩ := ref_cells hh
          have HLN := Lib.hid (fun x => p_len (hB2.below (pw_below_drewN (Below.refl _ _) x)))
          have hD3 : D2.length ≤ 1000 := hO2.1
          have BT2 := Lib.hid hB2; have HO2 := Lib.hid hO2; have HL2 := Lib.hid (And.intro hl2 hn2); have HW2 := Lib.hid hw2
          clear hB2 hO2 hl2 hn2 hw2 hh u0
          go_wp2_with fail
          go_quiet ((go_at_call 12; exact Calls.quiet_of_same ((HLN.out _).mono fun e w' he => ⟨he.1, he.2.symm⟩)))
          obtain ⟨w6, hw6⟩ : ∃ w6, w6 = wc.drewN nq := ⟨_, rfl⟩
          have BT6 := Lib.hid (show Both w6 w0.heap.size (w0.heap.size + 1) w0.heap.size R room nn2 f2 D2 f2 D2 by rw [hw6]; exact BT2.out.below (pw_below_drewN (Below.refl _ _) _))
          have BW6 := Lib.hid (show Below w0.heap.size w0 w6 by rw [hw6]; exact pw_below_drewN HW2.out _)
          go_wp2_with fail
          rw [← hw6]
          clear hw6 u1
          go_loopw [17] (fun i wq => ∃ j : Nat, j ≤ D2.length ∧ i = .int .i64 j ∧ Aside0 (Both wq w0.heap.size (w0.heap.size + 1) w0.heap.size R room nn2 f2 D2 f2 D2 ∧ Below w0.heap.size w0 wq)) (fun i _ => D2.length - (intOf i).toNat)
          case atStart => exact ⟨0, Nat.zero_le _, rfl, BT6.out, BW6.out⟩
          case round =>
            obtain ⟨j, hj, rfl, HJ⟩ := hrel
            obtain ⟨A7, c7', hh7, hel7⟩ := both_ref HJ.out.1
            obtain ⟨u0, u1⟩ := ref_cells hh7
            by_cases hjl : j < D2.length
            · obtain ⟨g7, rfl, e0, e1, A8, c8, e2, hr8⟩ := hel7 j hjl
              have HAT := Lib.hid (p_at HJ.out.1 HO2.out j hjl)
              have H8 := Lib.hid hr8
              have HB7 := Lib.hid HJ.out.1; have HW7 := Lib.hid HJ.out.2
              obtain ⟨d, hd⟩ : ∃ d, d = D2.getD j dz := ⟨_, rfl⟩
              rw [← hd] at e0 e1 e2 HAT H8
              obtain ⟨d0, d1, d2, d3⟩ := d
              simp only at e0 e1 e2
              obtain ⟨dm, hdm⟩ : ∃ dm, dm = d2.length := ⟨_, rfl⟩
              have HA2 := HAT.out; have H82 := H8.out
              simp only at HA2 H82
              rw [← hdm] at e2 HA2 H82
              have HA3 := Lib.hid HA2; have H83 := Lib.hid H82
              clear hh7 hel7 hr8 hd HAT H8 HA2 H82 hdm u0
              have hjn : (j : Int) < (D2.length : Int) := by omega
              have HJL := Lib.hid hjl
              go_wp2_with fail
              refine HA3.out.mono ?_
              rintro e w7 ⟨A9, c9, rfl, hr9, hb9⟩
              have H9 := Lib.hid hr9; have HB9 := Lib.hid hb9
              have k0 := pw_cell_below hb9 e0; have k1 := pw_cell_below hb9 e1; have k2 := pw_cell_below hb9 e2; have k3 := pw_cell_below hb9 u1
              clear hr9 hb9 e0 e1 e2 u1
              obtain ⟨w8, hw8⟩ : ∃ w8, w8 = w7.alloc (.cells #[.int .i64 d0, .int .i64 d1, .slice A9 dm c9] 30) := ⟨_, rfl⟩
              have hb8 : Below w7.heap.size w7 w8 := by rw [hw8]; exact alloc_back _
              have q8 : w8.heap[w7.heap.size]? = some (.cells #[.int .i64 d0, .int .i64 d1, .slice A9 dm c9] 30 (0, 0)) := by rw [hw8]; exact heap_alloc_new _ _
              have HW8 := Lib.hid hw8; clear hw8
              go_wp2_with fail
              rw [← HW8.out]
              obtain ⟨z0, z1, z2⟩ := box3 q8
              have l0 := pw_cell_below hb8 k0; have l1 := pw_cell_below hb8 k1; have l2 := pw_cell_below hb8 k2; have l3 := pw_cell_below hb8 k3
              have kx : ∀ m, (convert 28 9 (.slice A9 dm c9)).run Try.prog (w8.drewN m) = .ok (.string (strOfNums d2)) (w8.drewN m) := fun m => str_of (H9.out.below (below_drewN hb8 m))
              have ky : ∀ m, (convert 28 9 (.slice A8 dm c8)).run Try.prog (w8.drewN m) = .ok (.string (strOfNums d2)) (w8.drewN m) := fun m => str_of ((H83.out.below HB9.out).below (below_drewN hb8 m))
              have S8 := Lib.hid ((HB7.out.below HB9.out).below hb8); have V8 := Lib.hid (below_then (below_then HW7.out HW7.out.size HB9.out) (Nat.le_trans HW7.out.size HB9.out.size) hb8)
              clear k0 k1 k2 k3 q8 hb8 HW8
              go_quiet (fail)
              clear kx ky z0 z1 z2 l0 l1 l2 l3
              go_wp2_with fail
              go_roundw
              case rel => exact ⟨j + 1, by have := HJL.out; omega, by go_num, S8.out.below (pw_below_drewN (Below.refl _ _) _), pw_below_drewN V8.out _⟩
              case measure => have := HJL.out; simp [intOf]; omega
            · obtain rfl : j = D2.length := by omega
              have HB7 := Lib.hid HJ.out.1; have HW7 := Lib.hid HJ.out.2
              clear hh7 hel7 u0
              go_wp2_with fail
              go_roundw
              case rel => exact ⟨k + 1, by have := HLT.out; omega, by go_num, ⟨nn2, f2, D2, HB7.out, HO2.out, HL2.out.1, HL2.out.2, HW7.out⟩⟩
              case measure => have := HLT.out; simp [intOf]; omega
    · go_wp2_with fail
      go_ret
      obtain ⟨nn, f, D, hB, hO, hl, hnn, hbw⟩ := HK.out
      exact ⟨rfl, below_then B0.out B0.out.size hbw⟩
end Go.Proofs.Ytenbjmgmgdkapaa
