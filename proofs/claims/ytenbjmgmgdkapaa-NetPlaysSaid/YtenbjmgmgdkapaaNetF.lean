/- The walk of Send that lets a packet wait (printed by a program of mine, mknet.py). -/
import Derived.Test.YtenbjmgmgdkapaaNetE
import Derived.Test.YtenbjmgmgdkapaaWLast
set_option linter.unusedVariables false
set_option linter.unusedSimpArgs false
namespace Go.Proofs.Ytenbjmgmgdkapaa
open Go.RowKit Go.Proofs.YtenbjmgmgdkapaaW.PrintWords Go.Proofs.YtenbjmgmgdkapaaW.PrintLast Go.Proofs.Ytenbjmgmgdkapaa.K

theorem bel_trans {w w1 w3 : World} (h : Below w.heap.size w w1) (hq : Below w1.heap.size w1 w3) (o : Obj) : Below w.heap.size w (w3.alloc o) := (below_then h h.size hq).alloc (below_then h h.size hq).size o
theorem bel_trans0 {w1 w3 : World} (hq : Below w1.heap.size w1 w3) (o : Obj) : Below w1.heap.size w1 (w3.alloc o) := hq.alloc hq.size o
theorem far_of {w1 w3 w4 : World} {o : Obj} {row : Option Nat} {k i : Nat} {V : Value} (hq : Below w1.heap.size w1 w3) (hg : (w3.alloc o).grownBy w4 row) (hc : w1.cell? ⟨k, i, none⟩ = some V) (hne : row ≠ some k) : w4.cell? ⟨k, i, none⟩ = some V := by
  have hk := World.block_lt_of_cell? w1 _ hc
  have hb := bel_trans0 hq o
  rw [World.cell?_of_block (hg.block k (Nat.lt_of_lt_of_le hk hb.size) (fun e => hne e.symm))]
  exact pw_cell_below hb hc
theorem far_fz {w1 w3 w4 : World} {o : Obj} {row : Option Nat} {k i : Nat} (hq : Below w1.heap.size w1 w3) (hg : (w3.alloc o).grownBy w4 row) (hc : k < w1.heap.size ∧ w1.frozen? ⟨k, i, none⟩ = false) (hne : row ≠ some k) : w4.frozen? ⟨k, i, none⟩ = false := by
  have hb := bel_trans0 hq o
  rw [World.frozen?_of_block (hg.block k (Nat.lt_of_lt_of_le hc.1 hb.size) (fun e => hne e.symm)), World.frozen?_of_block (hb.block k hc.1)]
  exact hc.2
/-- What Send leaves. -/
theorem send_fin {w w1 w3 w4 : World} {base r mb N0 : Nat} {room : Int} {m : Nat} {f : Nat → Nat → Bool} {L : List Pk} {Al A1 : Option Addr} {cl c1 g cap n a b : Nat} {xs : List Int} {o : Obj} (hS : NetS w base r mb room m f L) (hc : NetC w r room Al L.length cl mb) (ho : w.ownsRow base 63 4 (.slice Al L.length cl) L.length (pkCells L))
    (hb1 : Below w.heap.size w w1) (hq : Below w1.heap.size w1 w3) (hN : w.heap.size ≤ N0) (hn : xs.length = n) (ho1 : w3.ownsRow N0 5 1 (.slice A1 n c1) n (nums .u8 xs))
    (hn4 : w4.ownsRow base 63 4 (.slice (some ⟨g, 0, none⟩) (L.length + 1) cap) (L.length + 1) (pkCells L ++ [.int .i64 (a : Int), .int .i64 (b : Int), .slice A1 n c1, .bool false])) (hgrow : (w3.alloc o).grownBy w4 (Value.slice Al L.length cl).ownBlock) (hnr : (Value.slice Al L.length cl).ownBlock ≠ some r) :
    NetS (w4.setCell ⟨r, 1, none⟩ (.slice (some ⟨g, 0, none⟩) (L.length + 1) cap)) base r mb room m f (L ++ [⟨a, b, A1, c1, xs, false⟩]) ∧ ∀ W, Below base W w → Below base W (w4.setCell ⟨r, 1, none⟩ (.slice (some ⟨g, 0, none⟩) (L.length + 1) cap)) := by
  have B3 := bel_trans hb1 hq o
  have hrow3 := pw_own_below ho B3
  have hr3 : (w3.alloc o).heap[r]? = some (.cells #[.int .i64 room, .slice Al L.length cl, .map (some mb)] 59 (0, 0)) := heap_keep B3 hc
  have hr4 : w4.heap[r]? = some (.cells #[.int .i64 room, .slice Al L.length cl, .map (some mb)] 59 (0, 0)) := (hgrow.block r (lt_of_heap hr3) (fun e => hnr e.symm)).trans hr3
  have nr : ∀ {u : World} {bs sz k : Nat} {e : TypeId} {V : Value} {M : List Value} {cs : Array Value}, u.heap[r]? = some (.cells cs 59 (0, 0)) → u.ownsRow bs e sz V k M → e ≠ 59 → V.ownBlock = none ∨ V.ownBlock ≠ some r := by
    intro u bs sz k e V M cs hu hV he
    rcases hV.2 with ⟨h, _⟩ | ⟨g', _, _, h, _, hh, _⟩
    · left; rw [h]; rfl
    · right; rw [h]; intro e2
      have e3 : g' = r := by simpa [Value.ownBlock] using e2
      rw [e3, hu] at hh; injection hh with hh; injection hh with _ hh; exact he hh.symm
  have up : ∀ {bs k : Nat} {V : Value} {M : List Value}, (w3.alloc o).ownsRow bs 5 1 V k M → (w4.setCell ⟨r, 1, none⟩ (.slice (some ⟨g, 0, none⟩) (L.length + 1) cap)).ownsRow bs 5 1 V k M := by
    intro bs k V M h
    have h4 := own_other h hgrow (own_type_ne h hrow3 (by decide))
    exact own_other h4 (grown_set _) (nr hr4 h4 (by decide))
  have h1s := hb1.size
  have h3s := hq.size
  have h4s := hgrow.size
  have hmb3 : mb < (w3.alloc o).heap.size := Nat.lt_of_lt_of_le hS.cu.lt B3.size
  have bs3 : base ≤ (w3.alloc o).heap.size := Nat.le_trans hS.bw B3.size
  refine ⟨⟨⟨some ⟨g, 0, none⟩, cap, ?_, ?_⟩, ?_, ?_, ?_, hS.br, hS.bm, hS.ne, ?_⟩, ?_⟩
  · unfold NetC
    rw [heap_set _ hr4, List.length_append]
    rfl
  · have := own_other hn4 (grown_set (w := w4) (r := r) (j := 1) (.slice (some ⟨g, 0, none⟩) (L.length + 1) cap)) (nr hr4 hn4 (by decide))
    rw [List.length_append]
    have e : pkCells (L ++ [⟨a, b, A1, c1, xs, false⟩]) = pkCells L ++ [.int .i64 (a : Int), .int .i64 (b : Int), .slice A1 n c1, .bool false] := by
      simp [pkCells, Pk.cells, Pk.val, hn]
    rw [e]
    exact this
  · intro p hp
    rcases List.mem_append.1 hp with hp | hp
    · exact up (pw_own_below (hS.bd p hp) B3)
    · obtain rfl := List.mem_singleton.1 hp
      refine up (pw_own_below (own_base_le ?_ (Nat.le_trans hS.bw hN)) (alloc_back o))
      show w3.ownsRow N0 _ 1 (.slice A1 xs.length c1) xs.length _
      rw [hn]; exact ho1
  · rw [List.pairwise_append]
    refine ⟨hS.ap, List.pairwise_singleton _ _, fun p hp q hq' => ?_⟩
    obtain rfl := List.mem_singleton.1 hq'
    have h1 := hS.bd p hp
    rcases h1.2 with ⟨h, _⟩ | ⟨g1, _, _, h, _, hh, _⟩
    · left; rw [h]; rfl
    · right
      rcases ho1.2 with ⟨h', _⟩ | ⟨g2, _, _, h', hb', _⟩
      · rw [h]; show _ ≠ (Value.slice A1 xs.length c1).ownBlock; rw [hn, h']; simp [Value.ownBlock]
      · rw [h]; show _ ≠ (Value.slice A1 xs.length c1).ownBlock; rw [hn, h']
        intro e
        have e2 : g1 = g2 := by simpa [Value.ownBlock] using e
        have := lt_of_heap hh
        omega
  · have hmr : some mb ≠ (Value.slice Al L.length cl).ownBlock := by
      intro e
      obtain ⟨D, ⟨es, clock, e1, _⟩, _⟩ := hS.cu
      rcases ho.2 with ⟨h, _⟩ | ⟨g', _, _, h, _, hh, _⟩
      · rw [h] at e; simp [Value.ownBlock] at e
      · rw [h] at e
        have e3 : mb = g' := by simpa [Value.ownBlock] using e
        rw [← e3, e1] at hh; cases hh
    exact ((hS.cu.below B3).kept hgrow hmr).kept (grown_set _) (fun e => hS.ne (by injection e with e; exact e.symm))
  · have : (w4.setCell ⟨r, 1, none⟩ (.slice (some ⟨g, 0, none⟩) (L.length + 1) cap)).heap.size = w4.heap.size := by simp [World.setCell]
    rw [this]; omega
  · intro W hW
    have h3 := below_then hW hS.bw B3
    have h4 := pw_below_grown h3 (Value.slice Al L.length cl).ownBlock bs3 hgrow (own_base hrow3)
    exact bset' h4 hS.br (by omega)
set_option maxRecDepth 100000 in
set_option maxHeartbeats 4000000 in
theorem send_ok (base r mb : Nat) (room : Int) (m : Nat) (f : Nat → Nat → Bool) (L : List Pk) (a b : Nat) (A : Option Addr) (n c : Nat) (xs : List Int) (w : World) (ha : a < 16) (hb : b < 16) (hn : n ≤ 32768) (hS : NetS w base r mb room m f L) (hr : ReadsInt w .u8 A n xs) (hA : A = none → c = 0)
    (hf : f a b = false) (hl : (L.length : Int) < room) (hroom : room ≤ 65536) :
    Calls Try.prog 10 #[.pointer (some ⟨r, 0, none⟩), .agg #[.int .i64 (a : Int), .int .i64 (b : Int), .slice A n c]] w fun e w' => ∃ A1 c1, e = .returned (.int .i64 0) ∧ NetS w' base r mb room m f (L ++ [⟨a, b, A1, c1, xs, false⟩]) ∧ (∀ W, Below base W w → Below base W w') := by
  obtain ⟨Al, cl, hc, ho⟩ := hS.cl
  have hbx : ∀ o : Obj, Below w.heap.size w (w.alloc o) := fun o => alloc_back o
  obtain ⟨w1, hw1⟩ : ∃ w1, w1 = w.alloc (.cells #[.int .i64 (a : Int), .int .i64 (b : Int), .slice A n c] 30) := ⟨_, rfl⟩
  have hb1 : Below w.heap.size w w1 := by rw [hw1]; exact hbx _
  have S1 := hS.below hb1
  obtain ⟨u0, u1, u2⟩ := net_cells (show NetC w1 r room Al L.length cl mb by unfold NetC at hc ⊢; exact heap_keep hb1 hc)
  have q0 : w1.heap[w.heap.size]? = some (.cells #[.int .i64 (a : Int), .int .i64 (b : Int), .slice A n c] 30 (0, 0)) := by rw [hw1]; exact heap_alloc_new _ _
  have hlk : ∀ m', (Instr.lookup 56 (.map (some mb)) (.agg #[.int .i64 (a : Int), .int .i64 (b : Int)]) false).run Try.prog (w1.drewN m') = .ok (.bool false) (w1.drewN m') := fun m' => by
    have := (S1.cu.below (pw_below_drewN (Below.refl _ _) m')).look a b ha hb
    rw [hf] at this
    exact this
  have HWA := Lib.hid (fun w => worker_yes a ha w)
  have HWB := Lib.hid (fun w => worker_yes b hb w)
  have HS := Lib.hid hS; have HC := Lib.hid hc; have HO := Lib.hid ho; have HR := Lib.hid hr; have HA := Lib.hid hA; have HB1 := Lib.hid hb1; have Q0 := Lib.hid q0; have HLK := Lib.hid hlk
  have HU := Lib.hid (And.intro u0 (And.intro u1 u2))
  have hge : ¬ (room ≤ (L.length : Int)) := by omega
  have HN := Lib.hid hl
  clear hS hc ho hr hA hb1 q0 hlk hf ha hb S1 hbx u0 u1 u2
  go_enter Try.func10, Try.ntmps10
  go_wp2_with (first
    | (go_at_call 23; with_reducible refine (HWA.out _).mono ?_; rintro e w' ⟨rfl, rfl⟩)
    | (go_at_call 23; with_reducible refine (HWB.out _).mono ?_; rintro e w' ⟨rfl, rfl⟩))
  rw [← hw1]
  clear hw1
  obtain ⟨u0, u1, u2⟩ := HU.out
  obtain ⟨d0, d1, d2⟩ := box3 Q0.out
  have hlk : (Instr.lookup 56 (.map (some mb)) (.agg #[.int .i64 (a : Int), .int .i64 (b : Int)]) false).run Try.prog w1.drew = .ok (.bool false) w1.drew := HLK.out 1
  go_region_held3 (fun w' => w'.cell? ⟨r, 2, none⟩ = some (.map (some mb)) ∧ w'.cell? ⟨w.heap.size, 0, none⟩ = some (.int .i64 (a : Int)) ∧ w'.cell? ⟨w.heap.size, 1, none⟩ = some (.int .i64 (b : Int)) ∧ (Instr.lookup 56 (.map (some mb)) (.agg #[.int .i64 (a : Int), .int .i64 (b : Int)]) false).run Try.prog w' = .ok (.bool false) w')
    (first | exact ⟨u2, d0, d1, hlk⟩ | go_keep) (fail)
  clear hlk
  go_wp2_with fail
  go_quiet (fail)
  go_wp2_with fail
  clear hge
  obtain ⟨i0, z0, hi, hz0, hz1, hz2, hz3⟩ := heldInfo
  have HI := Lib.hid (And.intro hi (And.intro hz0 (And.intro hz1 (And.intro hz2 hz3))))
  clear hi hz0 hz1 hz2 hz3
  have hnr : (Value.slice Al L.length cl).ownBlock ≠ some r := by
    rcases HO.out.2 with ⟨h, _⟩ | ⟨g, cap, cur, h, _, hh, _⟩
    · rw [h]; simp [Value.ownBlock]
    · rw [h]; intro e
      have e2 : g = r := by simpa [Value.ownBlock] using e
      have := HC.out; unfold NetC at this
      rw [e2, this] at hh; injection hh with hh; injection hh with _ hh; exact absurd hh (by decide)
  have hnb : (Value.slice Al L.length cl).ownBlock ≠ some w.heap.size := by
    rcases HO.out.2 with ⟨h, _⟩ | ⟨g, cap, cur, h, _, hh, _⟩
    · rw [h]; simp [Value.ownBlock]
    · rw [h]; intro e
      have e2 : g = w.heap.size := by simpa [Value.ownBlock] using e
      have := lt_of_heap hh; omega
  have HNR := Lib.hid hnr; have HNB := Lib.hid hnb; clear hnr hnb
  have hfz : r < w1.heap.size ∧ w1.frozen? ⟨r, 1, none⟩ = false := by
    have := HC.out; unfold NetC at this
    have h2 := heap_keep HB1.out this
    exact ⟨lt_of_heap h2, froz h2 1⟩
  have HFZ := Lib.hid hfz; clear hfz
  refine start_ (n := 13) (S := fun w' => w'.cell? ⟨r, 1, none⟩ = some (.slice Al L.length cl) ∧ w'.cell? ⟨w.heap.size, 0, none⟩ = some (.int .i64 (a : Int)) ∧ w'.cell? ⟨w.heap.size, 1, none⟩ = some (.int .i64 (b : Int)) ∧ w'.cell? ⟨w.heap.size, 2, none⟩ = some (.slice A n c)) (ds := [12]) #[false, false, false, false, false, false, false, false, false, false, false, false, false] (by kernel_rfl) rfl rfl (⟨u1, d0, d1, d2⟩) (fun hHeld => ?_)
  refine pure_ (i := 0) (N := some 44) (v := ?_) (a' := ?_) #[true, false, false, false, false, false, false, false, false, false, false, false, false] rfl rfl (by kernel_rfl) (fun _ _ _ h => h) (Or.inl ⟨by rfl, ?_⟩) ?_ ?_
  rotate_left
  · intro w'
    go_simp
    (try with_reducible rfl)
  rotate_left
  · simp only [Act.put, List.setIfInBounds_toArray, List.set_cons_zero, List.set_cons_succ]
    rfl
  refine pure_ (i := 1) (N := some 45) (v := ?_) (a' := ?_) #[true, true, false, false, false, false, false, false, false, false, false, false, false] rfl rfl (by kernel_rfl) (fun _ _ _ h => h) (Or.inl ⟨by rfl, ?_⟩) ?_ ?_
  rotate_left
  · intro w'
    go_simp
    (try with_reducible rfl)
  rotate_left
  · simp only [Act.put, List.setIfInBounds_toArray, List.set_cons_zero, List.set_cons_succ]
    rfl
  refine pure_ (i := 2) (N := some 46) (v := ?_) (a' := ?_) #[true, true, true, false, false, false, false, false, false, false, false, false, false] rfl rfl (by kernel_rfl) (fun _ _ _ h => h) (Or.inl ⟨by rfl, ?_⟩) ?_ ?_
  rotate_left
  · intro w'
    go_simp
    (try with_reducible rfl)
  rotate_left
  · simp only [Act.put, List.setIfInBounds_toArray, List.set_cons_zero, List.set_cons_succ]
    rfl
  refine pure_ (i := 3) (N := some 47) (v := ?_) (a' := ?_) #[true, true, true, true, false, false, false, false, false, false, false, false, false] rfl rfl (by kernel_rfl) (fun _ _ _ h => h) (Or.inl ⟨by rfl, ?_⟩) ?_ ?_
  rotate_left
  · intro w'
    go_simp
    (try with_reducible rfl)
  rotate_left
  · simp only [Act.put, List.setIfInBounds_toArray, List.set_cons_zero, List.set_cons_succ]
    rfl
  refine take_ (i := 4) (N := some 48) (v := ?_) (a' := ?_) #[true, true, true, true, true, false, false, false, false, false, false, false, false] rfl rfl (by kernel_rfl) (fun _ _ _ h => h) (Or.inl ⟨by rfl, ?_⟩) hHeld ?_ ?_
  rotate_left
  · rintro w' ⟨s0, s1, s2, s3⟩
    go_simp
    (try with_reducible rfl)
  rotate_left
  · simp only [Act.put, List.setIfInBounds_toArray, List.set_cons_zero, List.set_cons_succ]
    rfl
  refine take_ (i := 5) (N := some 49) (v := ?_) (a' := ?_) #[true, true, true, true, true, true, false, false, false, false, false, false, false] rfl rfl (by kernel_rfl) (fun _ _ _ h => h) (Or.inl ⟨by rfl, ?_⟩) hHeld ?_ ?_
  rotate_left
  · rintro w' ⟨s0, s1, s2, s3⟩
    go_simp
    (try with_reducible rfl)
  rotate_left
  · simp only [Act.put, List.setIfInBounds_toArray, List.set_cons_zero, List.set_cons_succ]
    rfl
  refine one_ (i := 6) (N := some 50) #[true, true, true, true, true, true, true, false, false, false, false, false, false] rfl rfl (by kernel_rfl) (by decide) (fun K hK => ?_)
  go_simp
  refine (copied_walk (a : Int) (b : Int) A n c xs _ (HR.out.below (pw_below_drewN HB1.out _)) (by omega) HA.out).mono ?_
  rintro e w3 ⟨A1, c1, rfl, ho1, hb3⟩
  have hq : Below w1.heap.size w1 w3 := below_then (pw_below_drewN (Below.refl _ _) _) (Nat.le_refl _) hb3
  have HO1 := Lib.hid ho1
  clear ho1
  try go_wp2_with fail
  refine hK.out _ _ ?_ (fun hHeld2 => ?_)
  · (try dsimp only)
    first | with_reducible exact hHeld | with_reducible exact ⟨pw_cell_below hq u1, pw_cell_below hq d0, pw_cell_below hq d1, pw_cell_below hq d2⟩
  clear hHeld hK K
  have hHeld := hHeld2
  clear hHeld2
  try simp only [Act.put, List.setIfInBounds_toArray, List.set_cons_zero, List.set_cons_succ]
  refine pure_ (i := 7) (N := some 51) (v := ?_) (a' := ?_) #[true, true, true, true, true, true, true, true, false, false, false, false, false] rfl rfl (by kernel_rfl) (fun _ _ _ h => h) (Or.inl ⟨by rfl, ?_⟩) ?_ ?_
  rotate_left
  · intro w'
    go_simp
    (try with_reducible rfl)
  rotate_left
  · simp only [Act.put, List.setIfInBounds_toArray, List.set_cons_zero, List.set_cons_succ]
    rfl
  refine one_ (i := 8) (N := some 52) #[true, true, true, true, true, true, true, true, true, false, false, false, false] rfl rfl (by kernel_rfl) (by decide) (fun K hK => ?_)
  go_simp
  refine hK.out _ _ ?_ (fun hHeld2 => ?_)
  · (try dsimp only)
    exact ⟨pw_cell_below (bel_trans0 hq _) u1, pw_cell_below (bel_trans0 hq _) d0, pw_cell_below (bel_trans0 hq _) d1, pw_cell_below (bel_trans0 hq _) d2⟩
  clear hHeld hK K
  have hHeld := hHeld2
  clear hHeld2
  try simp only [Act.put, List.setIfInBounds_toArray, List.set_cons_zero, List.set_cons_succ]
  refine one_ (i := 9) (N := some 53) #[true, true, true, true, true, true, true, true, true, true, false, false, false] rfl rfl (by kernel_rfl) (by decide) (fun K hK => ?_)
  refine step_append_lies _ (by rfl) _ _ _ (by rfl) base 63 i0 z0 4 48 Try.underlying57 HI.out.1 HI.out.2.1 HI.out.2.2.1 HI.out.2.2.2.1 HI.out.2.2.2.2 (by decide) (.slice Al L.length cl) L.length (pkCells L) (by rfl) (pw_own_below HO.out (bel_trans HB1.out hq _)) ⟨w3.heap.size, 0, none⟩ 1 1 [.int .i64 (a : Int), .int .i64 (b : Int), .slice A1 n c1, .bool false] (by rfl) rfl (World.news_of_block (heap_alloc_new w3 _)) (by simp [Value.oneCell']) (by decide) (by unfold maxLen; omega) (by omega) (by have := hq.size; have := HB1.out.size; have := HS.out.bw; simp; omega) (w3.heap.size + 1) (by simp) ?_
  intro g cap w4 hown hgrow hat hlt
  have HN4 := Lib.hid hown
  clear hown
  have uu := far_of hq hgrow u1 HNR.out
  have e0 := far_of hq hgrow d0 HNB.out
  have e1 := far_of hq hgrow d1 HNB.out
  have e2 := far_of hq hgrow d2 HNB.out
  have fz := far_fz hq hgrow HFZ.out HNR.out
  refine hK.out _ _ ?_ (fun hHeld2 => ?_)
  · (try dsimp only)
    exact ⟨uu, e0, e1, e2⟩
  clear hHeld hK K
  have hHeld := hHeld2
  clear hHeld2
  try simp only [Act.put, List.setIfInBounds_toArray, List.set_cons_zero, List.set_cons_succ]
  refine pure_ (i := 10) (N := some 54) (v := ?_) (a' := ?_) #[true, true, true, true, true, true, true, true, true, true, true, false, false] rfl rfl (by kernel_rfl) (fun _ _ _ h => h) (Or.inl ⟨by rfl, ?_⟩) ?_ ?_
  rotate_left
  · intro w'
    go_simp
    (try with_reducible rfl)
  rotate_left
  · simp only [Act.put, List.setIfInBounds_toArray, List.set_cons_zero, List.set_cons_succ]
    rfl
  refine pure_ (i := 11) (N := some 55) (v := ?_) (a' := ?_) #[true, true, true, true, true, true, true, true, true, true, true, true, false] rfl rfl (by kernel_rfl) (fun _ _ _ h => h) (Or.inl ⟨by rfl, ?_⟩) ?_ ?_
  rotate_left
  · intro w'
    go_simp
    (try with_reducible rfl)
  rotate_left
  · simp only [Act.put, List.setIfInBounds_toArray, List.set_cons_zero, List.set_cons_succ]
    rfl
  refine last_ (i := 12) (N := none) #[true, true, true, true, true, true, true, true, true, true, true, true, true] rfl rfl (by kernel_rfl) (by decide) (fun K hK => ?_)
  go_simp
  refine hK.out _ _ ?_
  clear hHeld hK K
  try simp only [Act.put, List.setIfInBounds_toArray, List.set_cons_zero, List.set_cons_succ]
  refine wpAnyLast_done (by kernel_rfl) ?_ _
  go_wp2_with fail
  go_ret
  have hF := send_fin HS.out HC.out HO.out HB1.out hq (show w.heap.size ≤ (w1.drewN _).heap.size + 2 from Nat.le_trans HB1.out.size (Nat.le_add_right _ 2)) HR.out.1 HO1.out HN4.out hgrow HNR.out
  exact ⟨A1, c1, rfl, hF.1, hF.2⟩
end Go.Proofs.Ytenbjmgmgdkapaa
