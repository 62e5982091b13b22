/- The reference's net: Copy, Spoil (printed by a program of mine, mkrefnet3.py). -/
import Derived.Test.YtenbjmgmgdkapaaNetPc
set_option linter.unusedVariables false
set_option linter.unusedSimpArgs false
namespace Go.Proofs.Ytenbjmgmgdkapaa
open Go.RowKit Go.Proofs.YtenbjmgmgdkapaaW.PrintWords Go.Proofs.YtenbjmgmgdkapaaW.PrintLast Go.Proofs.Ytenbjmgmgdkapaa.K Go.Proofs.Ytenbjmgmgdkapaa.Row

theorem reads_grown {W w : World} {size m : Nat} {ad : Addr} {news : List Value} {row : Option Nat} (h : ReadsC W size (some ad) m news) (hg : W.grownBy w row) (hne : some ad.block ≠ row) : ReadsC w size (some ad) m news :=
  ⟨h.len, h.one, h.nil, fun a e j u hu => by
    injection e with e; subst e
    have hc := h.at_ ad rfl j u hu
    have hb : (ad.add j).block = ad.block := by unfold Addr.add; split <;> rfl
    rw [World.cell?_of_block (hg.block (ad.add j).block (World.block_lt_of_cell? W _ hc) (by rw [hb]; exact hne))]
    exact hc⟩
set_option maxRecDepth 100000 in
set_option maxHeartbeats 2000000 in
theorem rcopy_no (r : Nat) (room : Int) (A : Option Addr) (L c : Nat) (f : Nat → Nat → Bool) (k : Int) (w : World) (hc : w.heap[r]? = some (.cells (refC room (.slice A L c) f) 47 (0, 0))) (hk : ¬ ((0 ≤ k ∧ k < (L : Int)) ∧ (L : Int) < room)) :
    Calls Try.prog 20 #[.pointer (some ⟨r, 0, none⟩), .int .i64 k] w fun e w' => e = .returned (.bool false) ∧ Below w.heap.size w w' := by
  obtain ⟨u0, u1⟩ := ref_cells hc
  clear hc
  by_cases h1 : k < 0
  · have d1 : decide (k < 0) = true := decide_eq_true h1
    clear hk
    go_enter Try.func20, Try.ntmps20
    go_wp2_with fail
    go_quiet (fail)
    go_wp2_with fail
    go_ret
    exact ⟨rfl, pw_below_drewN (Below.refl _ _) _⟩
  · have d1 : decide (k < 0) = false := decide_eq_false h1
    by_cases h2 : (L : Int) ≤ k
    · have d2 : decide ((L : Int) ≤ k) = true := decide_eq_true h2
      clear hk
      go_enter Try.func20, Try.ntmps20
      go_wp2_with fail
      go_quiet (fail)
      go_wp2_with fail
      go_ret
      exact ⟨rfl, pw_below_drewN (Below.refl _ _) _⟩
    · have d2 : decide ((L : Int) ≤ k) = false := decide_eq_false h2
      have h3 : room ≤ (L : Int) := by omega
      have d3 : decide (room ≤ (L : Int)) = true := decide_eq_true h3
      clear hk
      go_enter Try.func20, Try.ntmps20
      go_wp2_with fail
      go_quiet (fail)
      go_wp2_with fail
      go_ret
      exact ⟨rfl, pw_below_drewN (Below.refl _ _) _⟩
set_option maxRecDepth 100000 in
set_option maxHeartbeats 4000000 in
theorem rcopy_ok (base r : Nat) (room : Int) (f : Nat → Nat → Bool) (L : List Pk) (k : Nat) (p : Pk) (w : World) (hS : RefS w base r room f L) (hp : L[k]? = some p) (hL : L.length ≤ 100000) (hb : p.b.length ≤ 32768) (hl : (L.length : Int) < room) :
    Calls Try.prog 20 #[.pointer (some ⟨r, 0, none⟩), .int .i64 (k : Int)] w fun e w' => ∃ A1 c1, e = .returned (.bool true) ∧ RefS w' base r room f (L ++ [⟨p.f, p.t, A1, c1, p.b, p.sp⟩]) ∧ w.grownBy w' (some r) ∧ w'.ownsRow w.heap.size 5 1 (.slice A1 p.b.length c1) p.b.length (nums .u8 p.b) := by
  obtain ⟨Al, cl, hc, ho⟩ := hS.cl
  have hk : k < L.length := (List.getElem?_eq_some_iff.1 hp).1
  obtain ⟨g, cap, e, hgb, hgl⟩ := ho.form (by omega)
  injection e with e1 e2 e3
  subst e1 e3
  obtain ⟨u0, u1⟩ := ref_cells hc
  have y0 := ho.cells (g := g) rfl (k * 4 + 0) (.int .i64 p.f) (by rw [pk_get L k p hp 0 (by decide)]; rfl)
  have y1 := ho.cells (g := g) rfl (k * 4 + 1) (.int .i64 p.t) (by rw [pk_get L k p hp 1 (by decide)]; rfl)
  have y2 := ho.cells (g := g) rfl (k * 4 + 2) (.slice p.A p.b.length p.c) (by rw [pk_get L k p hp 2 (by decide)]; rfl)
  have y3 := ho.cells (g := g) rfl (k * 4 + 3) (.bool p.sp) (by rw [pk_get L k p hp 3 (by decide)]; rfl)
  rw [add_plain] at y0 y1 y2 y3
  rw [Nat.add_zero] at y0
  have g1 : ¬ ((k : Int) < 0) := by omega
  have g2 : ¬ ((L.length : Int) ≤ (k : Int)) := by omega
  have g3 : (k : Int) < (L.length : Int) := by omega
  have g4 : ¬ (room ≤ (L.length : Int)) := by omega
  have d1 : decide ((k : Int) < 0) = false := decide_eq_false g1
  have d2 : decide ((L.length : Int) ≤ (k : Int)) = false := decide_eq_false g2
  have d3 : decide (room ≤ (L.length : Int)) = false := decide_eq_false g4
  have hrd : ReadsInt w .u8 p.A p.b.length p.b := (own_info (hS.bd p (List.mem_of_getElem? hp))).2.2.2.1
  have HS := Lib.hid hS; have HC := Lib.hid hc; have HO := Lib.hid ho; have HP := Lib.hid hp; have HR := Lib.hid hrd
  clear hS hc ho hp e2 hrd
  go_enter Try.func20, Try.ntmps20
  go_wp2_with fail
  go_quiet (fail)
  obtain ⟨wa, hwa⟩ : ∃ wa, wa = w.drewN nq := ⟨_, rfl⟩
  rw [← hwa]
  have hba : Below w.heap.size w wa := by rw [hwa]; exact pw_below_drewN (Below.refl _ _) _
  clear hwa
  have x1 := pw_cell_below hba u1
  have x2 := pw_cell_below hba y0; have x3 := pw_cell_below hba y1; have x4 := pw_cell_below hba y2; have x5 := pw_cell_below hba y3
  have BA := Lib.hid hba
  clear u0 u1 y0 y1 y2 y3 hba d1 d2 d3
  have hob := own_lit (wa.alloc (.cells #[.int .i64 p.f, .int .i64 p.t, .slice p.A p.b.length p.c, .bool p.sp] 52)) (wa.heap.size + 1) 5 .u8 [] (by simp) (by decide)
  simp only [World.size_alloc] at hob
  have HOB := Lib.hid hob; clear hob
  have HBB := Lib.hid ((Below.refl (wa.heap.size + 1) _).alloc (by simp) (.cells #[] 5) : Below (wa.heap.size + 1) (wa.alloc (.cells #[.int .i64 p.f, .int .i64 p.t, .slice p.A p.b.length p.c, .bool p.sp] 52)) _)
  have HRB := Lib.hid (HR.out.below (below_then BA.out BA.out.size (alloc_back2 (.cells #[.int .i64 p.f, .int .i64 p.t, .slice p.A p.b.length p.c, .bool p.sp] 52) (.cells #[] 5))))
  have HQB := Lib.hid (heap_alloc_new wa (.cells #[.int .i64 p.f, .int .i64 p.t, .slice p.A p.b.length p.c, .bool p.sp] 52))
  have HAB := Lib.hid (alloc_back (W := wa) (.cells #[.int .i64 p.f, .int .i64 p.t, .slice p.A p.b.length p.c, .bool p.sp] 52))
  go_wp2_with (first | (at_builtin; refine K.app_row (w0 := wa.alloc (.cells #[.int .i64 p.f, .int .i64 p.t, .slice p.A p.b.length p.c, .bool p.sp] 52)) (wa.heap.size + 1) rfl (.tmp 36) (.tmp 38) 28 5 .u8 1 rfl Try.underlying28 (by kernel_rfl) (by decide) _ [] p.b _ _ _ rfl rfl HOB.out HRB.out HBB.out (by simp) (by simp; omega) p.b.length rfl ?_; intro A1 c1 w2 hown hB1 _; have HOW := Lib.hid hown; clear hown; have B2 := Lib.hid hB1; clear hB1; have bx : w2.heap[wa.heap.size]? = some _ := (B2.out.block wa.heap.size (Nat.lt_succ_self _)).trans HQB.out; obtain ⟨m0, m1, m2, m3⟩ := box4 bx; have f2 := froz bx 2; have BX := Lib.hid bx; clear bx))
  obtain ⟨w1, hw1⟩ : ∃ w1, w1 = w2.setCell ⟨wa.heap.size, 2, none⟩ (.slice A1 p.b.length c1) := ⟨_, rfl⟩
  rw [← hw1]
  have hg1 : w2.grownBy w1 (some wa.heap.size) := by rw [hw1]; exact grown_set _
  have bx1 : w1.heap[wa.heap.size]? = some (.cells #[.int .i64 p.f, .int .i64 p.t, .slice A1 p.b.length c1, .bool p.sp] 52 (0, 0)) := by rw [hw1, heap_set _ BX.out]; rfl
  clear hw1
  have hb1 : Below wa.heap.size wa w1 := pw_below_grown (below_then HAB.out HAB.out.size (B2.out.mono (by simp))) (some wa.heap.size) (Nat.le_trans HAB.out.size B2.out.size) hg1 (fun k e => by injection e with e; omega)
  have hbw : Below w.heap.size w w1 := below_then BA.out BA.out.size hb1
  have hro : w1.ownsRow w.heap.size 5 1 (.slice A1 p.b.length c1) p.b.length (nums .u8 p.b) := own_base_le (own_other HOW.out hg1 (own_base' HOW.out |>.imp id (fun ⟨b, hb, hle⟩ e => by rw [hb] at e; injection e with e; omega))) (Nat.le_trans BA.out.size (Nat.le_succ _))
  obtain ⟨z0, z1, z2, z3⟩ := box4 bx1
  have v1 := pw_cell_below hb1 x1
  have hcw := heap_keep hbw HC.out
  have BW := Lib.hid hbw; have RO := Lib.hid hro; have B1 := Lib.hid hb1
  have O1 := Lib.hid (ReadsC.ofOwn (pw_own_below HO.out hbw) (Go.Proofs.Ytenbjmgmgdkapaa.pk_one L))
  obtain ⟨i0, z0', hi, hz0, hz1, hz2, hz3⟩ := refInfo
  have HI := Lib.hid (And.intro hi (And.intro hz0 (And.intro hz1 (And.intro hz2 hz3))))
  have HKP := Lib.hid ((fun W h => ⟨pw_cell_below h v1, pw_cell_below h z0, pw_cell_below h z1, pw_cell_below h z2, pw_cell_below h z3⟩) : ∀ W : World, Below w1.heap.size w1 W → W.cell? ⟨r, 1, none⟩ = some (.slice (some ⟨g, 0, none⟩) L.length cl) ∧ W.cell? ⟨wa.heap.size, 0, none⟩ = some (.int .i64 p.f) ∧ W.cell? ⟨wa.heap.size, 1, none⟩ = some (.int .i64 p.t) ∧ W.cell? ⟨wa.heap.size, 2, none⟩ = some (.slice A1 p.b.length c1) ∧ W.cell? ⟨wa.heap.size, 3, none⟩ = some (.bool p.sp))
  have HFZ := Lib.hid ((fun W h => froz (heap_keep h hcw) 1) : ∀ W : World, Below w1.heap.size w1 W → W.frozen? ⟨r, 1, none⟩ = false)
  have HCW := Lib.hid hcw
  have hq : Below w1.heap.size w1 w1.drew := below_drew (Below.refl _ _)
  clear hi hz0 hz1 hz2 hz3 hb1 hbw hro x1 x2 x3 x4 x5 hcw hg1 bx1 m0 m1 m2 m3 f2
  refine start_ (n := 13) (S := fun w' => w'.cell? ⟨r, 1, none⟩ = some (.slice (some ⟨g, 0, none⟩) L.length cl) ∧ w'.cell? ⟨wa.heap.size, 0, none⟩ = some (.int .i64 p.f) ∧ w'.cell? ⟨wa.heap.size, 1, none⟩ = some (.int .i64 p.t) ∧ w'.cell? ⟨wa.heap.size, 2, none⟩ = some (.slice A1 p.b.length c1) ∧ w'.cell? ⟨wa.heap.size, 3, none⟩ = some (.bool p.sp)) (ds := [12]) #[false, false, false, false, false, false, false, false, false, false, false, false, false] (by kernel_rfl) rfl rfl (⟨v1, z0, z1, z2, z3⟩) (fun hHeld => ?_)
  refine pure_ (i := 0) (N := some 41) (v := ?_) (a' := ?_) #[true, false, false, false, false, false, false, false, false, false, false, false, false] rfl rfl (by kernel_rfl) (fun _ _ _ h => h) (Or.inl ⟨by rfl, ?_⟩) ?_ ?_
  rotate_left
  · intro w'
    go_simp
    (try with_reducible rfl)
  rotate_left
  · simp only [Act.put, List.setIfInBounds_toArray, List.set_cons_zero, List.set_cons_succ]
    rfl
  refine pure_ (i := 2) (N := some 43) (v := ?_) (a' := ?_) #[true, false, true, false, false, false, false, false, false, false, false, false, false] rfl rfl (by kernel_rfl) (fun _ _ _ h => h) (Or.inl ⟨by rfl, ?_⟩) ?_ ?_
  rotate_left
  · intro w'
    go_simp
    (try with_reducible rfl)
  rotate_left
  · simp only [Act.put, List.setIfInBounds_toArray, List.set_cons_zero, List.set_cons_succ]
    rfl
  refine pure_ (i := 3) (N := some 44) (v := ?_) (a' := ?_) #[true, false, true, true, false, false, false, false, false, false, false, false, false] rfl rfl (by kernel_rfl) (fun _ _ _ h => h) (Or.inl ⟨by rfl, ?_⟩) ?_ ?_
  rotate_left
  · intro w'
    go_simp
    (try with_reducible rfl)
  rotate_left
  · simp only [Act.put, List.setIfInBounds_toArray, List.set_cons_zero, List.set_cons_succ]
    rfl
  refine pure_ (i := 4) (N := some 45) (v := ?_) (a' := ?_) #[true, false, true, true, true, false, false, false, false, false, false, false, false] rfl rfl (by kernel_rfl) (fun _ _ _ h => h) (Or.inl ⟨by rfl, ?_⟩) ?_ ?_
  rotate_left
  · intro w'
    go_simp
    (try with_reducible rfl)
  rotate_left
  · simp only [Act.put, List.setIfInBounds_toArray, List.set_cons_zero, List.set_cons_succ]
    rfl
  refine take_ (i := 5) (N := some 46) (v := ?_) (a' := ?_) #[true, false, true, true, true, true, false, false, false, false, false, false, false] rfl rfl (by kernel_rfl) (fun _ _ _ h => h) (Or.inl ⟨by rfl, ?_⟩) hHeld ?_ ?_
  rotate_left
  · rintro w' ⟨s0, s1, s2, s3, s4⟩
    go_simp
    (try with_reducible rfl)
  rotate_left
  · simp only [Act.put, List.setIfInBounds_toArray, List.set_cons_zero, List.set_cons_succ]
    rfl
  refine take_ (i := 7) (N := some 48) (v := ?_) (a' := ?_) #[true, false, true, true, true, true, false, true, false, false, false, false, false] rfl rfl (by kernel_rfl) (fun _ _ _ h => h) (Or.inl ⟨by rfl, ?_⟩) hHeld ?_ ?_
  rotate_left
  · rintro w' ⟨s0, s1, s2, s3, s4⟩
    go_simp
    (try with_reducible rfl)
  rotate_left
  · simp only [Act.put, List.setIfInBounds_toArray, List.set_cons_zero, List.set_cons_succ]
    rfl
  refine two_ (i := 1) (j := 8) (Ni := some 42) (Nj := some 49) #[true, true, true, true, true, true, false, true, false, false, false, false, false] #[true, false, true, true, true, true, false, true, true, false, false, false, false] rfl rfl rfl rfl (by kernel_rfl) (by decide) (by decide) (fun K hK => ?_) (fun K hK => ?_)
  · skip
    go_simp
    have hqn := alloc_below hq hq.size (.cells #[] 52)
    try (have hn := Lib.hid (hl8.out.below (alloc_back (.cells #[] 52))); clear hl8; have hl8 := hn; clear hn)
    have hn := lit0_of hq w1.heap.size 52 4 hq.size
    (try simp only [World.size_alloc, hdr] at hn)
    have hl1 := Lib.hid hn
    clear hn
    clear hq
    have hq := hqn
    clear hqn
    refine hK.out _ _ ?_ (fun hHeld2 => ?_)
    · (try dsimp only)
      exact HKP.out _ hq
    clear hHeld hK K
    have hHeld := hHeld2
    clear hHeld2
    try simp only [Act.put, List.setIfInBounds_toArray, List.set_cons_zero, List.set_cons_succ]
    refine two_ (i := 6) (j := 8) (Ni := some 47) (Nj := some 49) #[true, true, true, true, true, true, true, true, false, false, false, false, false] #[true, true, true, true, true, true, false, true, true, false, false, false, false] rfl rfl rfl rfl (by kernel_rfl) (by decide) (by decide) (fun K hK => ?_) (fun K hK => ?_)
    · skip
      refine step_app_cells (w0 := w1) w1.heap.size (by rfl) _ _ 43 52 i0 z0' 4 48 (by rfl) Try.underlying43 HI.out.1 HI.out.2.1 HI.out.2.2.1 HI.out.2.2.2.1 HI.out.2.2.2.2 (by decide) (by decide) _ 0 [] (pkCells L) _ L.length cl (by rfl) (by rfl) hl1.out (O1.out.below hq) hq hq.size (by omega) L.length (Nat.zero_add _) ?_
      intro A6 c6 w6 ho6 hB6 hg6 ha6
      try (have hn := Lib.hid (reads_grown hl8.out hg6 (by simp [Value.ownBlock])); clear hl8; have hl8 := hn; clear hn)
      clear hl1
      have hl6 := Lib.hid ho6
      clear hq
      have hq := hB6
      clear hB6 ho6 hg6 ha6
      refine hK.out _ _ ?_ (fun hHeld2 => ?_)
      · (try dsimp only)
        exact HKP.out _ hq
      clear hHeld hK K
      have hHeld := hHeld2
      clear hHeld2
      try simp only [Act.put, List.setIfInBounds_toArray, List.set_cons_zero, List.set_cons_succ]
      refine one_ (i := 8) (N := some 49) #[true, true, true, true, true, true, true, true, true, false, false, false, false] rfl rfl (by kernel_rfl) (by decide) (fun K hK => ?_)
      go_simp
      have hqn := alloc_below hq hq.size (.cells #[.int .i64 p.f, .int .i64 p.t, .slice A1 p.b.length c1, .bool p.sp] 52)
      try (have hn := Lib.hid (hl1.out.alloc (.cells #[.int .i64 p.f, .int .i64 p.t, .slice A1 p.b.length c1, .bool p.sp] 52)); clear hl1; have hl1 := hn; clear hn)
      try (have hn := Lib.hid (hl6.out.alloc (.cells #[.int .i64 p.f, .int .i64 p.t, .slice A1 p.b.length c1, .bool p.sp] 52)); clear hl6; have hl6 := hn; clear hn)
      have hn := lit1_of hq [.int .i64 p.f, .int .i64 p.t, .slice A1 p.b.length c1, .bool p.sp] 52 4 rfl (by simp [Value.oneCell'])
      (try simp only [World.size_alloc, hdr] at hn)
      have hl8 := Lib.hid hn
      clear hn
      clear hq
      have hq := hqn
      clear hqn
      refine hK.out _ _ ?_ (fun hHeld2 => ?_)
      · (try dsimp only)
        exact HKP.out _ hq
      clear hHeld hK K
      have hHeld := hHeld2
      clear hHeld2
      try simp only [Act.put, List.setIfInBounds_toArray, List.set_cons_zero, List.set_cons_succ]
      refine one_ (i := 9) (N := some 50) #[true, true, true, true, true, true, true, true, true, true, false, false, false] rfl rfl (by kernel_rfl) (by decide) (fun K hK => ?_)
      refine step_app_cells (w0 := w1) w1.heap.size (by rfl) _ _ 43 52 i0 z0' 4 48 (by rfl) Try.underlying43 HI.out.1 HI.out.2.1 HI.out.2.2.1 HI.out.2.2.2.1 HI.out.2.2.2.2 (by decide) (by decide) _ L.length ([] ++ pkCells L) [.int .i64 p.f, .int .i64 p.t, .slice A1 p.b.length c1, .bool p.sp] _ 1 1 (by rfl) (by rfl) hl6.out (hl8.out) hq hq.size (by omega) (L.length + 1) rfl ?_
      intro A9 c9 w9 ho9 hB9 hg9 ha9
      clear hl6
      have hl9 := Lib.hid ho9
      clear hq
      have hq := hB9
      clear hB9 ho9 hg9 ha9
      have fz := HFZ.out _ hq
      have cz := (HKP.out _ hq).1
      refine hK.out _ _ ?_ (fun hHeld2 => ?_)
      · (try dsimp only)
        exact HKP.out _ hq
      clear hHeld hK K
      have hHeld := hHeld2
      clear hHeld2
      try simp only [Act.put, List.setIfInBounds_toArray, List.set_cons_zero, List.set_cons_succ]
      refine pure_ (i := 10) (N := some 51) (v := ?_) (a' := ?_) #[true, true, true, true, true, true, true, true, true, true, true, false, false] rfl rfl (by kernel_rfl) (fun _ _ _ h => h) (Or.inl ⟨by rfl, ?_⟩) ?_ ?_
      rotate_left
      · intro w'
        go_simp
        (try with_reducible rfl)
      rotate_left
      · simp only [Act.put, List.setIfInBounds_toArray, List.set_cons_zero, List.set_cons_succ]
        rfl
      refine pure_ (i := 11) (N := some 52) (v := ?_) (a' := ?_) #[true, true, true, true, true, true, true, true, true, true, true, true, false] rfl rfl (by kernel_rfl) (fun _ _ _ h => h) (Or.inl ⟨by rfl, ?_⟩) ?_ ?_
      rotate_left
      · intro w'
        go_simp
        (try with_reducible rfl)
      rotate_left
      · simp only [Act.put, List.setIfInBounds_toArray, List.set_cons_zero, List.set_cons_succ]
        rfl
      refine last_ (i := 12) (N := none) #[true, true, true, true, true, true, true, true, true, true, true, true, true] rfl rfl (by kernel_rfl) (by decide) (fun K hK => ?_)
      go_simp
      refine hK.out _ _ ?_
      (try clear hHeld)
      clear hK K
      try simp only [Act.put, List.setIfInBounds_toArray, List.set_cons_zero, List.set_cons_succ]
      refine wpAnyLast_done (by kernel_rfl) ?_ _
      have hF := ref_fin (L' := L ++ [⟨p.f, p.t, A1, c1, p.b, p.sp⟩]) (k := L.length + 1) (A1 := A9) (c1 := c9) HS.out (Below.refl _ w) (below_then BW.out BW.out.size hq) (by simp) (own_base_le (by simpa [pkCells, Pk.cells, Pk.val] using hl9.out) BW.out.size) (fun q hq' => by
        rcases List.mem_append.1 hq' with hq' | hq'
        · exact .inl hq'
        · obtain rfl := List.mem_singleton.1 hq'
          exact .inr (pw_own_below RO.out hq)) (ref_put (heap_keep hq HCW.out) _) (Chg.ofGrown (grown_set _) (fun k e => by injection e with e; exact .inl e.symm))
      have HF := Lib.hid hF; have HRO := Lib.hid (hF.2.2.2 _ _ _ (pw_own_below RO.out hq)); clear hF
      go_wp2_with fail
      go_ret
      exact ⟨A1, c1, rfl, HF.out.1, HF.out.2.1, HRO.out⟩
    go_simp
    have hqn := alloc_below hq hq.size (.cells #[.int .i64 p.f, .int .i64 p.t, .slice A1 p.b.length c1, .bool p.sp] 52)
    try (have hn := Lib.hid (hl1.out.alloc (.cells #[.int .i64 p.f, .int .i64 p.t, .slice A1 p.b.length c1, .bool p.sp] 52)); clear hl1; have hl1 := hn; clear hn)
    try (have hn := Lib.hid (hl6.out.alloc (.cells #[.int .i64 p.f, .int .i64 p.t, .slice A1 p.b.length c1, .bool p.sp] 52)); clear hl6; have hl6 := hn; clear hn)
    have hn := lit1_of hq [.int .i64 p.f, .int .i64 p.t, .slice A1 p.b.length c1, .bool p.sp] 52 4 rfl (by simp [Value.oneCell'])
    (try simp only [World.size_alloc, hdr] at hn)
    have hl8 := Lib.hid hn
    clear hn
    clear hq
    have hq := hqn
    clear hqn
    refine hK.out _ _ ?_ (fun hHeld2 => ?_)
    · (try dsimp only)
      exact HKP.out _ hq
    clear hHeld hK K
    have hHeld := hHeld2
    clear hHeld2
    try simp only [Act.put, List.setIfInBounds_toArray, List.set_cons_zero, List.set_cons_succ]
    refine one_ (i := 6) (N := some 47) #[true, true, true, true, true, true, true, true, true, false, false, false, false] rfl rfl (by kernel_rfl) (by decide) (fun K hK => ?_)
    refine step_app_cells (w0 := w1) w1.heap.size (by rfl) _ _ 43 52 i0 z0' 4 48 (by rfl) Try.underlying43 HI.out.1 HI.out.2.1 HI.out.2.2.1 HI.out.2.2.2.1 HI.out.2.2.2.2 (by decide) (by decide) _ 0 [] (pkCells L) _ L.length cl (by rfl) (by rfl) hl1.out (O1.out.below hq) hq hq.size (by omega) L.length (Nat.zero_add _) ?_
    intro A6 c6 w6 ho6 hB6 hg6 ha6
    try (have hn := Lib.hid (reads_grown hl8.out hg6 (by simp [Value.ownBlock])); clear hl8; have hl8 := hn; clear hn)
    clear hl1
    have hl6 := Lib.hid ho6
    clear hq
    have hq := hB6
    clear hB6 ho6 hg6 ha6
    refine hK.out _ _ ?_ (fun hHeld2 => ?_)
    · (try dsimp only)
      exact HKP.out _ hq
    clear hHeld hK K
    have hHeld := hHeld2
    clear hHeld2
    try simp only [Act.put, List.setIfInBounds_toArray, List.set_cons_zero, List.set_cons_succ]
    refine one_ (i := 9) (N := some 50) #[true, true, true, true, true, true, true, true, true, true, false, false, false] rfl rfl (by kernel_rfl) (by decide) (fun K hK => ?_)
    refine step_app_cells (w0 := w1) w1.heap.size (by rfl) _ _ 43 52 i0 z0' 4 48 (by rfl) Try.underlying43 HI.out.1 HI.out.2.1 HI.out.2.2.1 HI.out.2.2.2.1 HI.out.2.2.2.2 (by decide) (by decide) _ L.length ([] ++ pkCells L) [.int .i64 p.f, .int .i64 p.t, .slice A1 p.b.length c1, .bool p.sp] _ 1 1 (by rfl) (by rfl) hl6.out (hl8.out) hq hq.size (by omega) (L.length + 1) rfl ?_
    intro A9 c9 w9 ho9 hB9 hg9 ha9
    clear hl6
    have hl9 := Lib.hid ho9
    clear hq
    have hq := hB9
    clear hB9 ho9 hg9 ha9
    have fz := HFZ.out _ hq
    have cz := (HKP.out _ hq).1
    refine hK.out _ _ ?_ (fun hHeld2 => ?_)
    · (try dsimp only)
      exact HKP.out _ hq
    clear hHeld hK K
    have hHeld := hHeld2
    clear hHeld2
    try simp only [Act.put, List.setIfInBounds_toArray, List.set_cons_zero, List.set_cons_succ]
    refine pure_ (i := 10) (N := some 51) (v := ?_) (a' := ?_) #[true, true, true, true, true, true, true, true, true, true, true, false, false] rfl rfl (by kernel_rfl) (fun _ _ _ h => h) (Or.inl ⟨by rfl, ?_⟩) ?_ ?_
    rotate_left
    · intro w'
      go_simp
      (try with_reducible rfl)
    rotate_left
    · simp only [Act.put, List.setIfInBounds_toArray, List.set_cons_zero, List.set_cons_succ]
      rfl
    refine pure_ (i := 11) (N := some 52) (v := ?_) (a' := ?_) #[true, true, true, true, true, true, true, true, true, true, true, true, false] rfl rfl (by kernel_rfl) (fun _ _ _ h => h) (Or.inl ⟨by rfl, ?_⟩) ?_ ?_
    rotate_left
    · intro w'
      go_simp
      (try with_reducible rfl)
    rotate_left
    · simp only [Act.put, List.setIfInBounds_toArray, List.set_cons_zero, List.set_cons_succ]
      rfl
    refine last_ (i := 12) (N := none) #[true, true, true, true, true, true, true, true, true, true, true, true, true] rfl rfl (by kernel_rfl) (by decide) (fun K hK => ?_)
    go_simp
    refine hK.out _ _ ?_
    (try clear hHeld)
    clear hK K
    try simp only [Act.put, List.setIfInBounds_toArray, List.set_cons_zero, List.set_cons_succ]
    refine wpAnyLast_done (by kernel_rfl) ?_ _
    have hF := ref_fin (L' := L ++ [⟨p.f, p.t, A1, c1, p.b, p.sp⟩]) (k := L.length + 1) (A1 := A9) (c1 := c9) HS.out (Below.refl _ w) (below_then BW.out BW.out.size hq) (by simp) (own_base_le (by simpa [pkCells, Pk.cells, Pk.val] using hl9.out) BW.out.size) (fun q hq' => by
      rcases List.mem_append.1 hq' with hq' | hq'
      · exact .inl hq'
      · obtain rfl := List.mem_singleton.1 hq'
        exact .inr (pw_own_below RO.out hq)) (ref_put (heap_keep hq HCW.out) _) (Chg.ofGrown (grown_set _) (fun k e => by injection e with e; exact .inl e.symm))
    have HF := Lib.hid hF; have HRO := Lib.hid (hF.2.2.2 _ _ _ (pw_own_below RO.out hq)); clear hF
    go_wp2_with fail
    go_ret
    exact ⟨A1, c1, rfl, HF.out.1, HF.out.2.1, HRO.out⟩
  go_simp
  have hqn := alloc_below hq hq.size (.cells #[.int .i64 p.f, .int .i64 p.t, .slice A1 p.b.length c1, .bool p.sp] 52)
  try (have hn := Lib.hid (hl1.out.alloc (.cells #[.int .i64 p.f, .int .i64 p.t, .slice A1 p.b.length c1, .bool p.sp] 52)); clear hl1; have hl1 := hn; clear hn)
  try (have hn := Lib.hid (hl6.out.alloc (.cells #[.int .i64 p.f, .int .i64 p.t, .slice A1 p.b.length c1, .bool p.sp] 52)); clear hl6; have hl6 := hn; clear hn)
  have hn := lit1_of hq [.int .i64 p.f, .int .i64 p.t, .slice A1 p.b.length c1, .bool p.sp] 52 4 rfl (by simp [Value.oneCell'])
  (try simp only [World.size_alloc, hdr] at hn)
  have hl8 := Lib.hid hn
  clear hn
  clear hq
  have hq := hqn
  clear hqn
  refine hK.out _ _ ?_ (fun hHeld2 => ?_)
  · (try dsimp only)
    exact HKP.out _ hq
  clear hHeld hK K
  have hHeld := hHeld2
  clear hHeld2
  try simp only [Act.put, List.setIfInBounds_toArray, List.set_cons_zero, List.set_cons_succ]
  refine one_ (i := 1) (N := some 42) #[true, true, true, true, true, true, false, true, true, false, false, false, false] rfl rfl (by kernel_rfl) (by decide) (fun K hK => ?_)
  go_simp
  have hqn := alloc_below hq hq.size (.cells #[] 52)
  try (have hn := Lib.hid (hl8.out.below (alloc_back (.cells #[] 52))); clear hl8; have hl8 := hn; clear hn)
  have hn := lit0_of hq w1.heap.size 52 4 hq.size
  (try simp only [World.size_alloc, hdr] at hn)
  have hl1 := Lib.hid hn
  clear hn
  clear hq
  have hq := hqn
  clear hqn
  refine hK.out _ _ ?_ (fun hHeld2 => ?_)
  · (try dsimp only)
    exact HKP.out _ hq
  clear hHeld hK K
  have hHeld := hHeld2
  clear hHeld2
  try simp only [Act.put, List.setIfInBounds_toArray, List.set_cons_zero, List.set_cons_succ]
  refine one_ (i := 6) (N := some 47) #[true, true, true, true, true, true, true, true, true, false, false, false, false] rfl rfl (by kernel_rfl) (by decide) (fun K hK => ?_)
  refine step_app_cells (w0 := w1) w1.heap.size (by rfl) _ _ 43 52 i0 z0' 4 48 (by rfl) Try.underlying43 HI.out.1 HI.out.2.1 HI.out.2.2.1 HI.out.2.2.2.1 HI.out.2.2.2.2 (by decide) (by decide) _ 0 [] (pkCells L) _ L.length cl (by rfl) (by rfl) hl1.out (O1.out.below hq) hq hq.size (by omega) L.length (Nat.zero_add _) ?_
  intro A6 c6 w6 ho6 hB6 hg6 ha6
  try (have hn := Lib.hid (reads_grown hl8.out hg6 (by simp [Value.ownBlock])); clear hl8; have hl8 := hn; clear hn)
  clear hl1
  have hl6 := Lib.hid ho6
  clear hq
  have hq := hB6
  clear hB6 ho6 hg6 ha6
  refine hK.out _ _ ?_ (fun hHeld2 => ?_)
  · (try dsimp only)
    exact HKP.out _ hq
  clear hHeld hK K
  have hHeld := hHeld2
  clear hHeld2
  try simp only [Act.put, List.setIfInBounds_toArray, List.set_cons_zero, List.set_cons_succ]
  refine one_ (i := 9) (N := some 50) #[true, true, true, true, true, true, true, true, true, true, false, false, false] rfl rfl (by kernel_rfl) (by decide) (fun K hK => ?_)
  refine step_app_cells (w0 := w1) w1.heap.size (by rfl) _ _ 43 52 i0 z0' 4 48 (by rfl) Try.underlying43 HI.out.1 HI.out.2.1 HI.out.2.2.1 HI.out.2.2.2.1 HI.out.2.2.2.2 (by decide) (by decide) _ L.length ([] ++ pkCells L) [.int .i64 p.f, .int .i64 p.t, .slice A1 p.b.length c1, .bool p.sp] _ 1 1 (by rfl) (by rfl) hl6.out (hl8.out) hq hq.size (by omega) (L.length + 1) rfl ?_
  intro A9 c9 w9 ho9 hB9 hg9 ha9
  clear hl6
  have hl9 := Lib.hid ho9
  clear hq
  have hq := hB9
  clear hB9 ho9 hg9 ha9
  have fz := HFZ.out _ hq
  have cz := (HKP.out _ hq).1
  refine hK.out _ _ ?_ (fun hHeld2 => ?_)
  · (try dsimp only)
    exact HKP.out _ hq
  clear hHeld hK K
  have hHeld := hHeld2
  clear hHeld2
  try simp only [Act.put, List.setIfInBounds_toArray, List.set_cons_zero, List.set_cons_succ]
  refine pure_ (i := 10) (N := some 51) (v := ?_) (a' := ?_) #[true, true, true, true, true, true, true, true, true, true, true, false, false] rfl rfl (by kernel_rfl) (fun _ _ _ h => h) (Or.inl ⟨by rfl, ?_⟩) ?_ ?_
  rotate_left
  · intro w'
    go_simp
    (try with_reducible rfl)
  rotate_left
  · simp only [Act.put, List.setIfInBounds_toArray, List.set_cons_zero, List.set_cons_succ]
    rfl
  refine pure_ (i := 11) (N := some 52) (v := ?_) (a' := ?_) #[true, true, true, true, true, true, true, true, true, true, true, true, false] rfl rfl (by kernel_rfl) (fun _ _ _ h => h) (Or.inl ⟨by rfl, ?_⟩) ?_ ?_
  rotate_left
  · intro w'
    go_simp
    (try with_reducible rfl)
  rotate_left
  · simp only [Act.put, List.setIfInBounds_toArray, List.set_cons_zero, List.set_cons_succ]
    rfl
  refine last_ (i := 12) (N := none) #[true, true, true, true, true, true, true, true, true, true, true, true, true] rfl rfl (by kernel_rfl) (by decide) (fun K hK => ?_)
  go_simp
  refine hK.out _ _ ?_
  (try clear hHeld)
  clear hK K
  try simp only [Act.put, List.setIfInBounds_toArray, List.set_cons_zero, List.set_cons_succ]
  refine wpAnyLast_done (by kernel_rfl) ?_ _
  have hF := ref_fin (L' := L ++ [⟨p.f, p.t, A1, c1, p.b, p.sp⟩]) (k := L.length + 1) (A1 := A9) (c1 := c9) HS.out (Below.refl _ w) (below_then BW.out BW.out.size hq) (by simp) (own_base_le (by simpa [pkCells, Pk.cells, Pk.val] using hl9.out) BW.out.size) (fun q hq' => by
    rcases List.mem_append.1 hq' with hq' | hq'
    · exact .inl hq'
    · obtain rfl := List.mem_singleton.1 hq'
      exact .inr (pw_own_below RO.out hq)) (ref_put (heap_keep hq HCW.out) _) (Chg.ofGrown (grown_set _) (fun k e => by injection e with e; exact .inl e.symm))
  have HF := Lib.hid hF; have HRO := Lib.hid (hF.2.2.2 _ _ _ (pw_own_below RO.out hq)); clear hF
  go_wp2_with fail
  go_ret
  exact ⟨A1, c1, rfl, HF.out.1, HF.out.2.1, HRO.out⟩
end Go.Proofs.Ytenbjmgmgdkapaa
