/- The walk of MsgSays (printed by a program of mine, mkmsgsays.py). -/
import Derived.Test.YtbjjfgfepbklnaaMsgV
import Derived.Test.YtbjjfgfepbklnaaMsgR
import Derived.Test.YtbjjfgfepbklnaaWLast
set_option linter.unusedVariables false
set_option linter.unusedSimpArgs false
namespace Go.Proofs.Ytbjjfgfepbklnaa
open Go.RowKit Go.Proofs.YtbjjfgfepbklnaaW.PrintWords Go.Proofs.YtbjjfgfepbklnaaW.PrintLast Go.Proofs.Ytbjjfgfepbklnaa.K

def mZ : Ms := ⟨0, 0, 0, 0, 0, [], []⟩
theorem meqb_self (x : Ms) : x.eqb x = true := (Ms.eqb_iff x x).2 rfl
theorem mis_inj {xs : List Int} {x y : Ms} (hx : MIs xs x) (hy : MIs xs y) : x = y := menc_inj hx.1 hy.1 hx.2.1 hy.2.1 (hx.2.2.trans hy.2.2.symm)
theorem rput_any (x : Ms) (hx : x.wf) (A B : Option Addr) (n c m d : Nat) (W : World) (hr : ReadsInt W .i64 A n x.n) (hwd : WidesAt W B m x.w) (hn : n ≤ 100000) (hm : m ≤ 100000) :
    Calls Try.prog 18 #[.agg (msC x.k x.f x.t x.v x.s (.slice A n c) (.slice B m d))] W fun e w' => ∃ A1 n1 c1, e = .returned (.slice A1 n1 c1) ∧ w'.ownsRow W.heap.size 5 1 (.slice A1 n1 c1) n1 (nums .u8 (putL x)) ∧ Below W.heap.size W w' := by
  by_cases hg : x.good
  · have e : putL x = menc x := by unfold putL; rw [if_pos ((msB_iff x).2 hg)]
    rw [e]
    refine (rput_walk x hg hx A B n c m d W hr hwd).mono ?_
    rintro e w' ⟨A1, c1, he, ho, hb⟩
    exact ⟨A1, _, c1, he, ho, hb⟩
  · have e : putL x = [] := by unfold putL; rw [if_neg (fun h => hg ((msB_iff x).1 h))]
    rw [e]
    refine (rput_bad x hg A B n c m d W (by omega) (by omega) hr.1 hwd.1).mono ?_
    rintro e w' ⟨he, hb⟩
    exact ⟨none, 0, 0, he, ⟨rfl, .inl ⟨rfl, rfl⟩⟩, hb⟩
set_option maxRecDepth 100000 in
set_option maxHeartbeats 40000000 in
theorem says_walk (W : World) (A : Option Addr) (n c : Nat) (xs : List Int) (h : ReadsInt W .u8 A n xs) (hw : ∀ z ∈ xs, (Lit.int .u8 z).wf = true) (hc : n ≤ c) (_hy : n * 1 ≤ 140737488351232) (v : Value) (o : ∃ x A n c B m d, v = .agg (msC x.k x.f x.t x.v x.s (.slice A n c) (.slice B m d)) ∧ MsArg W x A n c B m d) (v' : Value) (o' : ∃ x A n c B m d, v' = .agg (msC x.k x.f x.t x.v x.s (.slice A n c) (.slice B m d)) ∧ MsArg W x A n c B m d) :
    Calls Try.prog 4 #[.slice A n c, v, v'] W fun e w' => e = .returned (.bool true) ∧ Below W.heap.size W w' := by
  obtain ⟨y, A', n', c', B', m', d', rfl, hy⟩ := o
  obtain ⟨z, A2, n2, c2, B2, m2, dz, rfl, hz⟩ := o'
  have HY := Lib.hid hy; have HZ := Lib.hid hz; have HL := Lib.hid h; have HW := Lib.hid hw
  clear hy hz h hw _hy
  obtain ⟨W0, hW0⟩ : ∃ W0, W0 = (W.alloc (.cells (msC y.k y.f y.t y.v y.s (.slice A' n' c') (.slice B' m' d')) 27)).alloc (.cells (msC z.k z.f z.t z.v z.s (.slice A2 n2 c2) (.slice B2 m2 dz)) 27) := ⟨_, rfl⟩
  have hb0 : Below W.heap.size W W0 := by rw [hW0]; exact alloc_back2 _ _
  have q0 : W0.heap[W.heap.size]? = some (.cells (msC y.k y.f y.t y.v y.s (.slice A' n' c') (.slice B' m' d')) 27 (0, 0)) := by rw [hW0]; exact two_old _ _ _
  have p0 : W0.heap[W.heap.size + 1]? = some (.cells (msC z.k z.f z.t z.v z.s (.slice A2 n2 c2) (.slice B2 m2 dz)) 27 (0, 0)) := by rw [hW0]; exact two_new _ _ _
  have B0 := Lib.hid hb0; have Q0 := Lib.hid q0; have P0 := Lib.hid p0; have HW0 := Lib.hid hW0
  clear hb0 q0 p0 hW0
  by_cases h0 : 2000 < n
  · go_enter Try.func4, Try.ntmps4
    go_wp2_with fail
    rw [← HW0.out]
    refine (awake_walk W0).mono ?_
    rintro e w1 ⟨rfl, hb1⟩
    have BB1 := Lib.hid (below_then B0.out B0.out.size hb1)
    clear hb1
    go_wp2_with fail
    go_ret
    exact ⟨rfl, BB1.out⟩
  go_enter Try.func4, Try.ntmps4
  go_wp2_with fail
  rw [← HW0.out]
  refine (awake_walk W0).mono ?_
  rintro e w1 ⟨rfl, hb1⟩
  have BB1 := Lib.hid (below_then B0.out B0.out.size hb1); have Q1 := Lib.hid (heap_keep' hb1 Q0.out); have P1 := Lib.hid (heap_keep' hb1 P0.out)
  clear hb1
  obtain ⟨x0, x1, x2, x3, x4, x5, x6⟩ := msC_cells Q1.out
  obtain ⟨y0, y1, y2, y3, y4, y5, y6⟩ := msC_cells P1.out
  go_wp2_with fail
  refine (heavy_walk y.k y.f y.t y.v y.s A' B' n' c' m' d' w1).mono ?_
  rintro e w2 ⟨rfl, hb2⟩
  have BB2 := Lib.hid (below_then BB1.out BB1.out.size hb2); have Q2 := Lib.hid (heap_keep' hb2 Q1.out); have P2 := Lib.hid (heap_keep' hb2 P1.out)
  clear x0 x1 x2 x3 x4 x5 x6 y0 y1 y2 y3 y4 y5 y6 hb2
  by_cases h1 : n' ≤ 520 ∧ m' ≤ 520
  case neg =>
    rw [show heavyB n' m' = true by unfold heavyB; simp; omega]
    go_wp2_with fail
    go_ret
    exact ⟨rfl, BB2.out⟩
  rw [show heavyB n' m' = false by unfold heavyB; rw [decide_eq_false (by omega), decide_eq_false (by omega)]; rfl]
  obtain ⟨y0, y1, y2, y3, y4, y5, y6⟩ := msC_cells P2.out
  go_wp2_with fail
  refine (heavy_walk z.k z.f z.t z.v z.s A2 B2 n2 c2 m2 dz w2).mono ?_
  rintro e w3 ⟨rfl, hb3⟩
  have B3 := Lib.hid (below_then BB2.out BB2.out.size hb3); have Q3 := Lib.hid (heap_keep' hb3 Q2.out); have P3 := Lib.hid (heap_keep' hb3 P2.out)
  clear y0 y1 y2 y3 y4 y5 y6 hb3
  by_cases h2 : n2 ≤ 520 ∧ m2 ≤ 520
  case neg =>
    rw [show heavyB n2 m2 = true by unfold heavyB; simp; omega]
    go_wp2_with fail
    go_ret
    exact ⟨rfl, B3.out⟩
  rw [show heavyB n2 m2 = false by unfold heavyB; rw [decide_eq_false (by omega), decide_eq_false (by omega)]; rfl]
  go_wp2_with fail
  refine (mget_walk A n c xs w3 (HL.out.below B3.out) HW.out).mono ?_
  rintro e w4 ⟨hD, hb4⟩
  have B4 := Lib.hid (below_then B3.out B3.out.size hb4); have Q4 := Lib.hid (heap_keep' hb4 Q3.out); have P4 := Lib.hid (heap_keep' hb4 P3.out)
  clear hb4
  rcases hD with ⟨x, hx, Ag, ng, cg, Bg, mg, dg, rfl, hg1, hg2⟩ | ⟨hno, rfl⟩
  · have HX := Lib.hid hx
    obtain ⟨w4', hw4'⟩ : ∃ w4', w4' = w4.alloc (.cells (msC x.k x.f x.t x.v x.s (.slice Ag ng cg) (.slice Bg mg dg)) 27) := ⟨_, rfl⟩
    have HG4 := Lib.hid (show ReadsInt w4' .i64 Ag ng x.n ∧ WidesAt w4' Bg mg x.w by rw [hw4']; exact ⟨hg1.below (alloc_back _), hg2.below (alloc_back _)⟩)
    have HW4 := Lib.hid hw4'.symm
    have CR := Lib.hid (rget_walk A n c xs w4' (HL.out.below (by rw [hw4']; exact B4.out.alloc B4.out.size _)) HW.out (by omega) hc)
    clear hx hg1 hg2 hw4'
    go_wp2_with fail
    rw [HW4.out]
    refine CR.out.mono ?_
    rintro e w5 ⟨hE, hb5⟩
    rcases hE with ⟨x', hx', Ah, nh, ch, Bh, mh, dh, rfl, hh1, hh2⟩ | ⟨hno, rfl⟩
    · obtain rfl := mis_inj HX.out hx'
      obtain ⟨wz, hwz⟩ : ∃ wz, wz = w5.alloc (.cells (msC x.k x.f x.t x.v x.s (.slice Ah nh ch) (.slice Bh mh dh)) 35) := ⟨_, rfl⟩
      have HH5 := Lib.hid (show ReadsInt wz .i64 Ah nh x.n ∧ WidesAt wz Bh mh x.w by rw [hwz]; exact ⟨hh1.below (alloc_back _), hh2.below (alloc_back _)⟩)
      clear hh1 hh2 hx'
      have hbz : Below w4'.heap.size w4' wz := by rw [hwz]; exact hb5.alloc hb5.size _
      have b4 : Below w4.heap.size w4 wz := by rw [← HW4.out] at hbz; exact below_then (alloc_back _) (alloc_back _).size hbz
      have ZG : wz.heap[w4.heap.size]? = some (.cells (msC x.k x.f x.t x.v x.s (.slice Ag ng cg) (.slice Bg mg dg)) 27 (0, 0)) := heap_keep' hbz (by rw [← HW4.out]; exact heap_alloc_new _ _)
      have ZH : wz.heap[w5.heap.size]? = some (.cells (msC x.k x.f x.t x.v x.s (.slice Ah nh ch) (.slice Bh mh dh)) 35 (0, 0)) := by rw [hwz]; exact heap_alloc_new _ _
      have ZY := heap_keep' b4 Q4.out
      have ZZ := heap_keep' b4 P4.out
      have BZ := Lib.hid (below_then B4.out B4.out.size b4)
      have HY1 := Lib.hid (And.intro (HY.out.rd.below BZ.out) (HY.out.wd.below BZ.out))
      have HZ1 := Lib.hid (And.intro (HZ.out.rd.below BZ.out) (HZ.out.wd.below BZ.out))
      have RG := Lib.hid ((⟨HG4.out.1.below hbz, HG4.out.2.below hbz⟩ : ReadsInt wz .i64 Ag ng x.n ∧ WidesAt wz Bg mg x.w))
      have RH := Lib.hid (HH5.out)
      obtain ⟨a0, a1, a2, a3, a4, a5, a6⟩ := msC_cells ZG
      obtain ⟨b0, b1, b2, b3, bb4, b5, b6⟩ := msC_cells ZH
      obtain ⟨d0, d1, d2, d3, d4, d5, d6⟩ := msC_cells ZY
      obtain ⟨j0, j1, j2, j3, j4, j5, j6⟩ := msC_cells ZZ
      clear hbz b4 ZG ZH ZY ZZ hb5
      have b4 := bb4
      clear bb4
      go_wp2_with fail
      (first | rw [← hwz] | skip)
      clear hwz
      obtain ⟨gb, hgb⟩ : ∃ gb, gb = msB y.k y.f y.t n' m' := ⟨_, rfl⟩
      obtain ⟨sb, hsb⟩ : ∃ sb, sb = y.eqb z := ⟨_, rfl⟩
      obtain ⟨S1, hS1⟩ : ∃ S : ByteArray, S = strOfNums (putL y) := ⟨_, rfl⟩
      have HGB := Lib.hid hgb.symm; have HSB := Lib.hid hsb.symm; have HS1 := Lib.hid hS1
      clear hgb hsb hS1
      have hq : Below wz.heap.size wz wz := Below.refl _ _
      refine start_ (n := 47) (S := fun w' => w'.cell? ⟨w4.heap.size, 0, none⟩ = some (.int .i64 x.k) ∧ w'.cell? ⟨w4.heap.size, 1, none⟩ = some (.int .i64 x.f) ∧ w'.cell? ⟨w4.heap.size, 2, none⟩ = some (.int .i64 x.t) ∧ w'.cell? ⟨w4.heap.size, 3, none⟩ = some (.int .u32 x.v) ∧ w'.cell? ⟨w4.heap.size, 4, none⟩ = some (.int .u32 x.s) ∧ w'.cell? ⟨w4.heap.size, 5, none⟩ = some (.slice Ag ng cg) ∧ w'.cell? ⟨w4.heap.size, 6, none⟩ = some (.slice Bg mg dg) ∧ w'.cell? ⟨w5.heap.size, 0, none⟩ = some (.int .i64 x.k) ∧ w'.cell? ⟨w5.heap.size, 1, none⟩ = some (.int .i64 x.f) ∧ w'.cell? ⟨w5.heap.size, 2, none⟩ = some (.int .i64 x.t) ∧ w'.cell? ⟨w5.heap.size, 3, none⟩ = some (.int .u32 x.v) ∧ w'.cell? ⟨w5.heap.size, 4, none⟩ = some (.int .u32 x.s) ∧ w'.cell? ⟨w5.heap.size, 5, none⟩ = some (.slice Ah nh ch) ∧ w'.cell? ⟨w5.heap.size, 6, none⟩ = some (.slice Bh mh dh) ∧ w'.cell? ⟨W.heap.size, 0, none⟩ = some (.int .i64 y.k) ∧ w'.cell? ⟨W.heap.size, 1, none⟩ = some (.int .i64 y.f) ∧ w'.cell? ⟨W.heap.size, 2, none⟩ = some (.int .i64 y.t) ∧ w'.cell? ⟨W.heap.size, 3, none⟩ = some (.int .u32 y.v) ∧ w'.cell? ⟨W.heap.size, 4, none⟩ = some (.int .u32 y.s) ∧ w'.cell? ⟨W.heap.size, 5, none⟩ = some (.slice A' n' c') ∧ w'.cell? ⟨W.heap.size, 6, none⟩ = some (.slice B' m' d') ∧ w'.cell? ⟨W.heap.size + 1, 0, none⟩ = some (.int .i64 z.k) ∧ w'.cell? ⟨W.heap.size + 1, 1, none⟩ = some (.int .i64 z.f) ∧ w'.cell? ⟨W.heap.size + 1, 2, none⟩ = some (.int .i64 z.t) ∧ w'.cell? ⟨W.heap.size + 1, 3, none⟩ = some (.int .u32 z.v) ∧ w'.cell? ⟨W.heap.size + 1, 4, none⟩ = some (.int .u32 z.s) ∧ w'.cell? ⟨W.heap.size + 1, 5, none⟩ = some (.slice A2 n2 c2) ∧ w'.cell? ⟨W.heap.size + 1, 6, none⟩ = some (.slice B2 m2 dz)) (ds := []) #[false, false, false, false, false, false, false, false, false, false, false, false, false, false, false, false, false, false, false, false, false, false, false, false, false, false, false, false, false, false, false, false, false, false, false, false, false, false, false, false, false, false, false, false, false, false, false] (by kernel_rfl) rfl rfl (⟨a0, a1, a2, a3, a4, a5, a6, b0, b1, b2, b3, b4, b5, b6, d0, d1, d2, d3, d4, d5, d6, j0, j1, j2, j3, j4, j5, j6⟩) (fun hHeld => ?_)
      refine pure_ (i := 0) (N := some 34) (v := ?_) (a' := ?_) #[true, false, false, false, false, false, false, false, false, false, false, false, false, false, false, false, false, false, false, false, false, false, false, false, false, false, false, false, false, false, false, false, false, false, false, false, false, false, false, false, false, false, false, false, false, false, false] rfl rfl (by kernel_rfl) (fun _ _ _ h => h) (Or.inl ⟨by rfl, ?_⟩) ?_ ?_
      rotate_left
      · intro w'
        go_simp
        (try with_reducible rfl)
      rotate_left
      · simp only [Act.put, List.setIfInBounds_toArray, List.set_cons_zero, List.set_cons_succ]
        rfl
      refine pure_ (i := 1) (N := some 35) (v := ?_) (a' := ?_) #[true, true, false, false, false, false, false, false, false, false, false, false, false, false, false, false, false, false, false, false, false, false, false, false, false, false, false, false, false, false, false, false, false, false, false, false, false, false, false, false, false, false, false, false, false, false, false] rfl rfl (by kernel_rfl) (fun _ _ _ h => h) (Or.inl ⟨by rfl, ?_⟩) ?_ ?_
      rotate_left
      · intro w'
        go_simp
        (try with_reducible rfl)
      rotate_left
      · simp only [Act.put, List.setIfInBounds_toArray, List.set_cons_zero, List.set_cons_succ]
        rfl
      refine pure_ (i := 2) (N := some 36) (v := ?_) (a' := ?_) #[true, true, true, false, false, false, false, false, false, false, false, false, false, false, false, false, false, false, false, false, false, false, false, false, false, false, false, false, false, false, false, false, false, false, false, false, false, false, false, false, false, false, false, false, false, false, false] rfl rfl (by kernel_rfl) (fun _ _ _ h => h) (Or.inl ⟨by rfl, ?_⟩) ?_ ?_
      rotate_left
      · intro w'
        go_simp
        (try with_reducible rfl)
      rotate_left
      · simp only [Act.put, List.setIfInBounds_toArray, List.set_cons_zero, List.set_cons_succ]
        rfl
      refine pure_ (i := 3) (N := some 37) (v := ?_) (a' := ?_) #[true, true, true, true, false, false, false, false, false, false, false, false, false, false, false, false, false, false, false, false, false, false, false, false, false, false, false, false, false, false, false, false, false, false, false, false, false, false, false, false, false, false, false, false, false, false, false] rfl rfl (by kernel_rfl) (fun _ _ _ h => h) (Or.inl ⟨by rfl, ?_⟩) ?_ ?_
      rotate_left
      · intro w'
        go_simp
        (try with_reducible rfl)
      rotate_left
      · simp only [Act.put, List.setIfInBounds_toArray, List.set_cons_zero, List.set_cons_succ]
        rfl
      refine pure_ (i := 4) (N := some 38) (v := ?_) (a' := ?_) #[true, true, true, true, true, false, false, false, false, false, false, false, false, false, false, false, false, false, false, false, false, false, false, false, false, false, false, false, false, false, false, false, false, false, false, false, false, false, false, false, false, false, false, false, false, false, false] rfl rfl (by kernel_rfl) (fun _ _ _ h => h) (Or.inl ⟨by rfl, ?_⟩) ?_ ?_
      rotate_left
      · intro w'
        go_simp
        (try with_reducible rfl)
      rotate_left
      · simp only [Act.put, List.setIfInBounds_toArray, List.set_cons_zero, List.set_cons_succ]
        rfl
      refine pure_ (i := 5) (N := some 39) (v := ?_) (a' := ?_) #[true, true, true, true, true, true, false, false, false, false, false, false, false, false, false, false, false, false, false, false, false, false, false, false, false, false, false, false, false, false, false, false, false, false, false, false, false, false, false, false, false, false, false, false, false, false, false] rfl rfl (by kernel_rfl) (fun _ _ _ h => h) (Or.inl ⟨by rfl, ?_⟩) ?_ ?_
      rotate_left
      · intro w'
        go_simp
        (try with_reducible rfl)
      rotate_left
      · simp only [Act.put, List.setIfInBounds_toArray, List.set_cons_zero, List.set_cons_succ]
        rfl
      refine pure_ (i := 6) (N := some 40) (v := ?_) (a' := ?_) #[true, true, true, true, true, true, true, false, false, false, false, false, false, false, false, false, false, false, false, false, false, false, false, false, false, false, false, false, false, false, false, false, false, false, false, false, false, false, false, false, false, false, false, false, false, false, false] rfl rfl (by kernel_rfl) (fun _ _ _ h => h) (Or.inl ⟨by rfl, ?_⟩) ?_ ?_
      rotate_left
      · intro w'
        go_simp
        (try with_reducible rfl)
      rotate_left
      · simp only [Act.put, List.setIfInBounds_toArray, List.set_cons_zero, List.set_cons_succ]
        rfl
      refine pure_ (i := 7) (N := some 41) (v := undef) (a' := ?_) #[true, true, true, true, true, true, true, true, false, false, false, false, false, false, false, false, false, false, false, false, false, false, false, false, false, false, false, false, false, false, false, false, false, false, false, false, false, false, false, false, false, false, false, false, false, false, false] rfl rfl (by kernel_rfl) (fun _ _ _ h => h) (Or.inr ⟨by rfl, rfl⟩) ?_ ?_
      rotate_left
      · simp only [Act.put, List.setIfInBounds_toArray, List.set_cons_zero, List.set_cons_succ]
        rfl
      refine pure_ (i := 8) (N := some 42) (v := undef) (a' := ?_) #[true, true, true, true, true, true, true, true, true, false, false, false, false, false, false, false, false, false, false, false, false, false, false, false, false, false, false, false, false, false, false, false, false, false, false, false, false, false, false, false, false, false, false, false, false, false, false] rfl rfl (by kernel_rfl) (fun _ _ _ h => h) (Or.inr ⟨by rfl, rfl⟩) ?_ ?_
      rotate_left
      · simp only [Act.put, List.setIfInBounds_toArray, List.set_cons_zero, List.set_cons_succ]
        rfl
      refine pure_ (i := 9) (N := some 43) (v := ?_) (a' := ?_) #[true, true, true, true, true, true, true, true, true, true, false, false, false, false, false, false, false, false, false, false, false, false, false, false, false, false, false, false, false, false, false, false, false, false, false, false, false, false, false, false, false, false, false, false, false, false, false] rfl rfl (by kernel_rfl) (fun _ _ _ h => h) (Or.inl ⟨by rfl, ?_⟩) ?_ ?_
      rotate_left
      · intro w'
        go_simp
        (try with_reducible rfl)
      rotate_left
      · simp only [Act.put, List.setIfInBounds_toArray, List.set_cons_zero, List.set_cons_succ]
        rfl
      refine pure_ (i := 10) (N := some 44) (v := ?_) (a' := ?_) #[true, true, true, true, true, true, true, true, true, true, true, false, false, false, false, false, false, false, false, false, false, false, false, false, false, false, false, false, false, false, false, false, false, false, false, false, false, false, false, false, false, false, false, false, false, false, false] rfl rfl (by kernel_rfl) (fun _ _ _ h => h) (Or.inl ⟨by rfl, ?_⟩) ?_ ?_
      rotate_left
      · intro w'
        go_simp
        (try with_reducible rfl)
      rotate_left
      · simp only [Act.put, List.setIfInBounds_toArray, List.set_cons_zero, List.set_cons_succ]
        rfl
      refine pure_ (i := 11) (N := some 45) (v := ?_) (a' := ?_) #[true, true, true, true, true, true, true, true, true, true, true, true, false, false, false, false, false, false, false, false, false, false, false, false, false, false, false, false, false, false, false, false, false, false, false, false, false, false, false, false, false, false, false, false, false, false, false] rfl rfl (by kernel_rfl) (fun _ _ _ h => h) (Or.inl ⟨by rfl, ?_⟩) ?_ ?_
      rotate_left
      · intro w'
        go_simp
        (try with_reducible rfl)
      rotate_left
      · simp only [Act.put, List.setIfInBounds_toArray, List.set_cons_zero, List.set_cons_succ]
        rfl
      refine take_ (i := 12) (N := some 46) (v := ?_) (a' := ?_) #[true, true, true, true, true, true, true, true, true, true, true, true, true, false, false, false, false, false, false, false, false, false, false, false, false, false, false, false, false, false, false, false, false, false, false, false, false, false, false, false, false, false, false, false, false, false, false] rfl rfl (by kernel_rfl) (fun _ _ _ h => h) (Or.inl ⟨by rfl, ?_⟩) hHeld ?_ ?_
      rotate_left
      · rintro w' ⟨s0, s1, s2, s3, s4, s5, s6, s7, s8, s9, s10, s11, s12, s13, s14, s15, s16, s17, s18, s19, s20, s21, s22, s23, s24, s25, s26, s27⟩
        go_simp
        (try with_reducible rfl)
      rotate_left
      · simp only [Act.put, List.setIfInBounds_toArray, List.set_cons_zero, List.set_cons_succ]
        rfl
      refine take_ (i := 14) (N := some 48) (v := ?_) (a' := ?_) #[true, true, true, true, true, true, true, true, true, true, true, true, true, false, true, false, false, false, false, false, false, false, false, false, false, false, false, false, false, false, false, false, false, false, false, false, false, false, false, false, false, false, false, false, false, false, false] rfl rfl (by kernel_rfl) (fun _ _ _ h => h) (Or.inl ⟨by rfl, ?_⟩) hHeld ?_ ?_
      rotate_left
      · rintro w' ⟨s0, s1, s2, s3, s4, s5, s6, s7, s8, s9, s10, s11, s12, s13, s14, s15, s16, s17, s18, s19, s20, s21, s22, s23, s24, s25, s26, s27⟩
        go_simp
        (try with_reducible rfl)
      rotate_left
      · simp only [Act.put, List.setIfInBounds_toArray, List.set_cons_zero, List.set_cons_succ]
        rfl
      refine one_ (i := 13) (N := some 47) #[true, true, true, true, true, true, true, true, true, true, true, true, true, true, true, false, false, false, false, false, false, false, false, false, false, false, false, false, false, false, false, false, false, false, false, false, false, false, false, false, false, false, false, false, false, false, false] rfl rfl (by kernel_rfl) (by decide) (fun K hK => ?_)
      go_simp
      refine (mown_walk _ _ _ _ _ _ _ _ _ _ _ _).mono ?_
      rintro e wN ⟨rfl, hbN⟩
      have hq : Below wz.heap.size wz wN := (by first | exact below_then hq hq.size hbN | exact below_then (below_drew hq) (below_drew hq).size hbN | exact below_then (below_drew (below_drew hq)) (below_drew (below_drew hq)).size hbN)
      try go_wp2_with fail
      refine hK.out _ _ ?_ (fun hHeld2 => ?_)
      · (try dsimp only)
        first | with_reducible exact hHeld | exact ⟨pw_cell_below hq a0, pw_cell_below hq a1, pw_cell_below hq a2, pw_cell_below hq a3, pw_cell_below hq a4, pw_cell_below hq a5, pw_cell_below hq a6, pw_cell_below hq b0, pw_cell_below hq b1, pw_cell_below hq b2, pw_cell_below hq b3, pw_cell_below hq b4, pw_cell_below hq b5, pw_cell_below hq b6, pw_cell_below hq d0, pw_cell_below hq d1, pw_cell_below hq d2, pw_cell_below hq d3, pw_cell_below hq d4, pw_cell_below hq d5, pw_cell_below hq d6, pw_cell_below hq j0, pw_cell_below hq j1, pw_cell_below hq j2, pw_cell_below hq j3, pw_cell_below hq j4, pw_cell_below hq j5, pw_cell_below hq j6⟩
      clear hHeld hK K
      have hHeld := hHeld2
      clear hHeld2
      try simp only [Act.put, List.setIfInBounds_toArray, List.set_cons_zero, List.set_cons_succ]
      refine one_ (i := 15) (N := some 49) #[true, true, true, true, true, true, true, true, true, true, true, true, true, true, true, true, false, false, false, false, false, false, false, false, false, false, false, false, false, false, false, false, false, false, false, false, false, false, false, false, false, false, false, false, false, false, false] rfl rfl (by kernel_rfl) (by decide) (fun K hK => ?_)
      go_simp
      refine (rsame_walk x x _ _ _ _ _ _ _ _ _ _ _ _ _ (by first | exact RG.out.1.below hq | exact RG.out.1.below (below_drew hq) | exact RG.out.1.below (below_drew (below_drew hq))) (by first | exact RH.out.1.below hq | exact RH.out.1.below (below_drew hq) | exact RH.out.1.below (below_drew (below_drew hq))) (by first | exact RG.out.2.below hq | exact RG.out.2.below (below_drew hq) | exact RG.out.2.below (below_drew (below_drew hq))) (by first | exact RH.out.2.below hq | exact RH.out.2.below (below_drew hq) | exact RH.out.2.below (below_drew (below_drew hq)))).mono ?_
      rintro e wN ⟨rfl, hbN⟩
      rw [meqb_self]
      have hq : Below wz.heap.size wz wN := (by first | exact below_then hq hq.size hbN | exact below_then (below_drew hq) (below_drew hq).size hbN | exact below_then (below_drew (below_drew hq)) (below_drew (below_drew hq)).size hbN)
      try go_wp2_with fail
      refine hK.out _ _ ?_ (fun hHeld2 => ?_)
      · (try dsimp only)
        first | with_reducible exact hHeld | exact ⟨pw_cell_below hq a0, pw_cell_below hq a1, pw_cell_below hq a2, pw_cell_below hq a3, pw_cell_below hq a4, pw_cell_below hq a5, pw_cell_below hq a6, pw_cell_below hq b0, pw_cell_below hq b1, pw_cell_below hq b2, pw_cell_below hq b3, pw_cell_below hq b4, pw_cell_below hq b5, pw_cell_below hq b6, pw_cell_below hq d0, pw_cell_below hq d1, pw_cell_below hq d2, pw_cell_below hq d3, pw_cell_below hq d4, pw_cell_below hq d5, pw_cell_below hq d6, pw_cell_below hq j0, pw_cell_below hq j1, pw_cell_below hq j2, pw_cell_below hq j3, pw_cell_below hq j4, pw_cell_below hq j5, pw_cell_below hq j6⟩
      clear hHeld hK K
      have hHeld := hHeld2
      clear hHeld2
      try simp only [Act.put, List.setIfInBounds_toArray, List.set_cons_zero, List.set_cons_succ]
      refine pure_ (i := 16) (N := some 50) (v := ?_) (a' := ?_) #[true, true, true, true, true, true, true, true, true, true, true, true, true, true, true, true, true, false, false, false, false, false, false, false, false, false, false, false, false, false, false, false, false, false, false, false, false, false, false, false, false, false, false, false, false, false, false] rfl rfl (by kernel_rfl) (fun _ _ _ h => h) (Or.inl ⟨by rfl, ?_⟩) ?_ ?_
      rotate_left
      · intro w'
        go_simp
        (try with_reducible rfl)
      rotate_left
      · simp only [Act.put, List.setIfInBounds_toArray, List.set_cons_zero, List.set_cons_succ]
        rfl
      refine pure_ (i := 17) (N := some 51) (v := ?_) (a' := ?_) #[true, true, true, true, true, true, true, true, true, true, true, true, true, true, true, true, true, true, false, false, false, false, false, false, false, false, false, false, false, false, false, false, false, false, false, false, false, false, false, false, false, false, false, false, false, false, false] rfl rfl (by kernel_rfl) (fun _ _ _ h => h) (Or.inl ⟨by rfl, ?_⟩) ?_ ?_
      rotate_left
      · intro w'
        go_simp
        (try with_reducible rfl)
      rotate_left
      · simp only [Act.put, List.setIfInBounds_toArray, List.set_cons_zero, List.set_cons_succ]
        rfl
      refine take_ (i := 18) (N := some 52) (v := ?_) (a' := ?_) #[true, true, true, true, true, true, true, true, true, true, true, true, true, true, true, true, true, true, true, false, false, false, false, false, false, false, false, false, false, false, false, false, false, false, false, false, false, false, false, false, false, false, false, false, false, false, false] rfl rfl (by kernel_rfl) (fun _ _ _ h => h) (Or.inl ⟨by rfl, ?_⟩) hHeld ?_ ?_
      rotate_left
      · rintro w' ⟨s0, s1, s2, s3, s4, s5, s6, s7, s8, s9, s10, s11, s12, s13, s14, s15, s16, s17, s18, s19, s20, s21, s22, s23, s24, s25, s26, s27⟩
        go_simp
        (try with_reducible rfl)
      rotate_left
      · simp only [Act.put, List.setIfInBounds_toArray, List.set_cons_zero, List.set_cons_succ]
        rfl
      refine take_ (i := 20) (N := some 54) (v := ?_) (a' := ?_) #[true, true, true, true, true, true, true, true, true, true, true, true, true, true, true, true, true, true, true, false, true, false, false, false, false, false, false, false, false, false, false, false, false, false, false, false, false, false, false, false, false, false, false, false, false, false, false] rfl rfl (by kernel_rfl) (fun _ _ _ h => h) (Or.inl ⟨by rfl, ?_⟩) hHeld ?_ ?_
      rotate_left
      · rintro w' ⟨s0, s1, s2, s3, s4, s5, s6, s7, s8, s9, s10, s11, s12, s13, s14, s15, s16, s17, s18, s19, s20, s21, s22, s23, s24, s25, s26, s27⟩
        go_simp
        (try with_reducible rfl)
      rotate_left
      · simp only [Act.put, List.setIfInBounds_toArray, List.set_cons_zero, List.set_cons_succ]
        rfl
      refine one_ (i := 19) (N := some 53) #[true, true, true, true, true, true, true, true, true, true, true, true, true, true, true, true, true, true, true, true, true, false, false, false, false, false, false, false, false, false, false, false, false, false, false, false, false, false, false, false, false, false, false, false, false, false, false] rfl rfl (by kernel_rfl) (by decide) (fun K hK => ?_)
      go_simp
      refine (mgood_walk _ _ _ _ _ _ _ _ _ _ _ (by omega) (by omega) _).mono ?_
      rintro e wN ⟨rfl, hbN⟩
      rw [HGB.out]
      have hq : Below wz.heap.size wz wN := (by first | exact below_then hq hq.size hbN | exact below_then (below_drew hq) (below_drew hq).size hbN | exact below_then (below_drew (below_drew hq)) (below_drew (below_drew hq)).size hbN)
      try go_wp2_with fail
      refine hK.out _ _ ?_ (fun hHeld2 => ?_)
      · (try dsimp only)
        first | with_reducible exact hHeld | exact ⟨pw_cell_below hq a0, pw_cell_below hq a1, pw_cell_below hq a2, pw_cell_below hq a3, pw_cell_below hq a4, pw_cell_below hq a5, pw_cell_below hq a6, pw_cell_below hq b0, pw_cell_below hq b1, pw_cell_below hq b2, pw_cell_below hq b3, pw_cell_below hq b4, pw_cell_below hq b5, pw_cell_below hq b6, pw_cell_below hq d0, pw_cell_below hq d1, pw_cell_below hq d2, pw_cell_below hq d3, pw_cell_below hq d4, pw_cell_below hq d5, pw_cell_below hq d6, pw_cell_below hq j0, pw_cell_below hq j1, pw_cell_below hq j2, pw_cell_below hq j3, pw_cell_below hq j4, pw_cell_below hq j5, pw_cell_below hq j6⟩
      clear hHeld hK K
      have hHeld := hHeld2
      clear hHeld2
      try simp only [Act.put, List.setIfInBounds_toArray, List.set_cons_zero, List.set_cons_succ]
      refine one_ (i := 21) (N := some 55) #[true, true, true, true, true, true, true, true, true, true, true, true, true, true, true, true, true, true, true, true, true, true, false, false, false, false, false, false, false, false, false, false, false, false, false, false, false, false, false, false, false, false, false, false, false, false, false] rfl rfl (by kernel_rfl) (by decide) (fun K hK => ?_)
      go_simp
      refine (mown_walk _ _ _ _ _ _ _ _ _ _ _ _).mono ?_
      rintro e wN ⟨rfl, hbN⟩
      have hq : Below wz.heap.size wz wN := (by first | exact below_then hq hq.size hbN | exact below_then (below_drew hq) (below_drew hq).size hbN | exact below_then (below_drew (below_drew hq)) (below_drew (below_drew hq)).size hbN)
      try go_wp2_with fail
      refine hK.out _ _ ?_ (fun hHeld2 => ?_)
      · (try dsimp only)
        first | with_reducible exact hHeld | exact ⟨pw_cell_below hq a0, pw_cell_below hq a1, pw_cell_below hq a2, pw_cell_below hq a3, pw_cell_below hq a4, pw_cell_below hq a5, pw_cell_below hq a6, pw_cell_below hq b0, pw_cell_below hq b1, pw_cell_below hq b2, pw_cell_below hq b3, pw_cell_below hq b4, pw_cell_below hq b5, pw_cell_below hq b6, pw_cell_below hq d0, pw_cell_below hq d1, pw_cell_below hq d2, pw_cell_below hq d3, pw_cell_below hq d4, pw_cell_below hq d5, pw_cell_below hq d6, pw_cell_below hq j0, pw_cell_below hq j1, pw_cell_below hq j2, pw_cell_below hq j3, pw_cell_below hq j4, pw_cell_below hq j5, pw_cell_below hq j6⟩
      clear hHeld hK K
      have hHeld := hHeld2
      clear hHeld2
      try simp only [Act.put, List.setIfInBounds_toArray, List.set_cons_zero, List.set_cons_succ]
      refine one_ (i := 22) (N := some 56) #[true, true, true, true, true, true, true, true, true, true, true, true, true, true, true, true, true, true, true, true, true, true, true, false, false, false, false, false, false, false, false, false, false, false, false, false, false, false, false, false, false, false, false, false, false, false, false] rfl rfl (by kernel_rfl) (by decide) (fun K hK => ?_)
      go_simp
      refine (may_walk _ _ _ _ _ _ _ _ _ _ _ (by omega) (by omega) _).mono ?_
      rintro e wN ⟨rfl, hbN⟩
      rw [HGB.out]
      have hq : Below wz.heap.size wz wN := (by first | exact below_then hq hq.size hbN | exact below_then (below_drew hq) (below_drew hq).size hbN | exact below_then (below_drew (below_drew hq)) (below_drew (below_drew hq)).size hbN)
      try go_wp2_with fail
      refine hK.out _ _ ?_ (fun hHeld2 => ?_)
      · (try dsimp only)
        first | with_reducible exact hHeld | exact ⟨pw_cell_below hq a0, pw_cell_below hq a1, pw_cell_below hq a2, pw_cell_below hq a3, pw_cell_below hq a4, pw_cell_below hq a5, pw_cell_below hq a6, pw_cell_below hq b0, pw_cell_below hq b1, pw_cell_below hq b2, pw_cell_below hq b3, pw_cell_below hq b4, pw_cell_below hq b5, pw_cell_below hq b6, pw_cell_below hq d0, pw_cell_below hq d1, pw_cell_below hq d2, pw_cell_below hq d3, pw_cell_below hq d4, pw_cell_below hq d5, pw_cell_below hq d6, pw_cell_below hq j0, pw_cell_below hq j1, pw_cell_below hq j2, pw_cell_below hq j3, pw_cell_below hq j4, pw_cell_below hq j5, pw_cell_below hq j6⟩
      clear hHeld hK K
      have hHeld := hHeld2
      clear hHeld2
      try simp only [Act.put, List.setIfInBounds_toArray, List.set_cons_zero, List.set_cons_succ]
      refine pure_ (i := 23) (N := some 57) (v := ?_) (a' := ?_) #[true, true, true, true, true, true, true, true, true, true, true, true, true, true, true, true, true, true, true, true, true, true, true, true, false, false, false, false, false, false, false, false, false, false, false, false, false, false, false, false, false, false, false, false, false, false, false] rfl rfl (by kernel_rfl) (fun _ _ _ h => h) (Or.inl ⟨by rfl, ?_⟩) ?_ ?_
      rotate_left
      · intro w'
        go_simp
        (try with_reducible rfl)
      rotate_left
      · simp only [Act.put, List.setIfInBounds_toArray, List.set_cons_zero, List.set_cons_succ]
        rfl
      refine pure_ (i := 24) (N := some 58) (v := ?_) (a' := ?_) #[true, true, true, true, true, true, true, true, true, true, true, true, true, true, true, true, true, true, true, true, true, true, true, true, true, false, false, false, false, false, false, false, false, false, false, false, false, false, false, false, false, false, false, false, false, false, false] rfl rfl (by kernel_rfl) (fun _ _ _ h => h) (Or.inl ⟨by rfl, ?_⟩) ?_ ?_
      rotate_left
      · intro w'
        go_simp
        (try with_reducible rfl)
      rotate_left
      · simp only [Act.put, List.setIfInBounds_toArray, List.set_cons_zero, List.set_cons_succ]
        rfl
      refine pure_ (i := 25) (N := some 59) (v := ?_) (a' := ?_) #[true, true, true, true, true, true, true, true, true, true, true, true, true, true, true, true, true, true, true, true, true, true, true, true, true, true, false, false, false, false, false, false, false, false, false, false, false, false, false, false, false, false, false, false, false, false, false] rfl rfl (by kernel_rfl) (fun _ _ _ h => h) (Or.inl ⟨by rfl, ?_⟩) ?_ ?_
      rotate_left
      · intro w'
        go_simp
        (try with_reducible rfl)
      rotate_left
      · simp only [Act.put, List.setIfInBounds_toArray, List.set_cons_zero, List.set_cons_succ]
        rfl
      refine take_ (i := 26) (N := some 60) (v := ?_) (a' := ?_) #[true, true, true, true, true, true, true, true, true, true, true, true, true, true, true, true, true, true, true, true, true, true, true, true, true, true, true, false, false, false, false, false, false, false, false, false, false, false, false, false, false, false, false, false, false, false, false] rfl rfl (by kernel_rfl) (fun _ _ _ h => h) (Or.inl ⟨by rfl, ?_⟩) hHeld ?_ ?_
      rotate_left
      · rintro w' ⟨s0, s1, s2, s3, s4, s5, s6, s7, s8, s9, s10, s11, s12, s13, s14, s15, s16, s17, s18, s19, s20, s21, s22, s23, s24, s25, s26, s27⟩
        go_simp
        (try with_reducible rfl)
      rotate_left
      · simp only [Act.put, List.setIfInBounds_toArray, List.set_cons_zero, List.set_cons_succ]
        rfl
      refine take_ (i := 29) (N := some 63) (v := ?_) (a' := ?_) #[true, true, true, true, true, true, true, true, true, true, true, true, true, true, true, true, true, true, true, true, true, true, true, true, true, true, true, false, false, true, false, false, false, false, false, false, false, false, false, false, false, false, false, false, false, false, false] rfl rfl (by kernel_rfl) (fun _ _ _ h => h) (Or.inl ⟨by rfl, ?_⟩) hHeld ?_ ?_
      rotate_left
      · rintro w' ⟨s0, s1, s2, s3, s4, s5, s6, s7, s8, s9, s10, s11, s12, s13, s14, s15, s16, s17, s18, s19, s20, s21, s22, s23, s24, s25, s26, s27⟩
        go_simp
        (try with_reducible rfl)
      rotate_left
      · simp only [Act.put, List.setIfInBounds_toArray, List.set_cons_zero, List.set_cons_succ]
        rfl
      refine one_ (i := 27) (N := some 61) #[true, true, true, true, true, true, true, true, true, true, true, true, true, true, true, true, true, true, true, true, true, true, true, true, true, true, true, true, false, true, false, false, false, false, false, false, false, false, false, false, false, false, false, false, false, false, false] rfl rfl (by kernel_rfl) (by decide) (fun K hK => ?_)
      go_simp
      refine (mput_any y HY.out.wf A' B' n' c' m' d' _ (by first | exact HY1.out.1.below hq | exact HY1.out.1.below (below_drew hq) | exact HY1.out.1.below (below_drew (below_drew hq))) (by first | exact HY1.out.2.below hq | exact HY1.out.2.below (below_drew hq) | exact HY1.out.2.below (below_drew (below_drew hq))) (by omega) (by omega)).mono ?_
      rintro e wN ⟨A5, n5, c5, rfl, ho5, hbN⟩
      have hq : Below wz.heap.size wz wN := (by first | exact below_then hq hq.size hbN | exact below_then (below_drew hq) (below_drew hq).size hbN | exact below_then (below_drew (below_drew hq)) (below_drew (below_drew hq)).size hbN)
      have h5 := own_info ho5
      have HE5 := Lib.hid (show ReadsInt wN .u8 A5 n5 (putL y) from h5.2.2.2.1)
      clear ho5 h5
      try go_wp2_with fail
      refine hK.out _ _ ?_ (fun hHeld2 => ?_)
      · (try dsimp only)
        first | with_reducible exact hHeld | exact ⟨pw_cell_below hq a0, pw_cell_below hq a1, pw_cell_below hq a2, pw_cell_below hq a3, pw_cell_below hq a4, pw_cell_below hq a5, pw_cell_below hq a6, pw_cell_below hq b0, pw_cell_below hq b1, pw_cell_below hq b2, pw_cell_below hq b3, pw_cell_below hq b4, pw_cell_below hq b5, pw_cell_below hq b6, pw_cell_below hq d0, pw_cell_below hq d1, pw_cell_below hq d2, pw_cell_below hq d3, pw_cell_below hq d4, pw_cell_below hq d5, pw_cell_below hq d6, pw_cell_below hq j0, pw_cell_below hq j1, pw_cell_below hq j2, pw_cell_below hq j3, pw_cell_below hq j4, pw_cell_below hq j5, pw_cell_below hq j6⟩
      clear hHeld hK K
      have hHeld := hHeld2
      clear hHeld2
      try simp only [Act.put, List.setIfInBounds_toArray, List.set_cons_zero, List.set_cons_succ]
      refine two_ (i := 28) (j := 30) (Ni := some 62) (Nj := some 64) #[true, true, true, true, true, true, true, true, true, true, true, true, true, true, true, true, true, true, true, true, true, true, true, true, true, true, true, true, true, true, false, false, false, false, false, false, false, false, false, false, false, false, false, false, false, false, false] #[true, true, true, true, true, true, true, true, true, true, true, true, true, true, true, true, true, true, true, true, true, true, true, true, true, true, true, true, false, true, true, false, false, false, false, false, false, false, false, false, false, false, false, false, false, false, false] rfl rfl rfl rfl (by kernel_rfl) (by decide) (by decide) (fun K hK => ?_) (fun K hK => ?_)
      · skip
        have kx : (convert 31 9 (.slice A5 n5 c5)).run Try.prog wN = .ok (.string S1) wN := (by rw [HS1.out]; exact str_of HE5.out)
        go_simp
        refine hK.out _ _ ?_ (fun hHeld2 => ?_)
        · (try dsimp only)
          first | with_reducible exact hHeld | exact ⟨pw_cell_below hq a0, pw_cell_below hq a1, pw_cell_below hq a2, pw_cell_below hq a3, pw_cell_below hq a4, pw_cell_below hq a5, pw_cell_below hq a6, pw_cell_below hq b0, pw_cell_below hq b1, pw_cell_below hq b2, pw_cell_below hq b3, pw_cell_below hq b4, pw_cell_below hq b5, pw_cell_below hq b6, pw_cell_below hq d0, pw_cell_below hq d1, pw_cell_below hq d2, pw_cell_below hq d3, pw_cell_below hq d4, pw_cell_below hq d5, pw_cell_below hq d6, pw_cell_below hq j0, pw_cell_below hq j1, pw_cell_below hq j2, pw_cell_below hq j3, pw_cell_below hq j4, pw_cell_below hq j5, pw_cell_below hq j6⟩
        clear hHeld hK K
        have hHeld := hHeld2
        clear hHeld2
        try simp only [Act.put, List.setIfInBounds_toArray, List.set_cons_zero, List.set_cons_succ]
        refine one_ (i := 30) (N := some 64) #[true, true, true, true, true, true, true, true, true, true, true, true, true, true, true, true, true, true, true, true, true, true, true, true, true, true, true, true, true, true, true, false, false, false, false, false, false, false, false, false, false, false, false, false, false, false, false] rfl rfl (by kernel_rfl) (by decide) (fun K hK => ?_)
        go_simp
        refine (mown_walk _ _ _ _ _ _ _ _ _ _ _ _).mono ?_
        rintro e wN ⟨rfl, hbN⟩
        have hq : Below wz.heap.size wz wN := (by first | exact below_then hq hq.size hbN | exact below_then (below_drew hq) (below_drew hq).size hbN | exact below_then (below_drew (below_drew hq)) (below_drew (below_drew hq)).size hbN)
        have HE5 := Lib.hid (by first | exact HE5.out.below hbN | exact (rd_drew HE5.out).below hbN : ReadsInt wN .u8 A5 n5 (putL y))
        try go_wp2_with fail
        refine hK.out _ _ ?_ (fun hHeld2 => ?_)
        · (try dsimp only)
          first | with_reducible exact hHeld | exact ⟨pw_cell_below hq a0, pw_cell_below hq a1, pw_cell_below hq a2, pw_cell_below hq a3, pw_cell_below hq a4, pw_cell_below hq a5, pw_cell_below hq a6, pw_cell_below hq b0, pw_cell_below hq b1, pw_cell_below hq b2, pw_cell_below hq b3, pw_cell_below hq b4, pw_cell_below hq b5, pw_cell_below hq b6, pw_cell_below hq d0, pw_cell_below hq d1, pw_cell_below hq d2, pw_cell_below hq d3, pw_cell_below hq d4, pw_cell_below hq d5, pw_cell_below hq d6, pw_cell_below hq j0, pw_cell_below hq j1, pw_cell_below hq j2, pw_cell_below hq j3, pw_cell_below hq j4, pw_cell_below hq j5, pw_cell_below hq j6⟩
        clear hHeld hK K
        have hHeld := hHeld2
        clear hHeld2
        try simp only [Act.put, List.setIfInBounds_toArray, List.set_cons_zero, List.set_cons_succ]
        refine one_ (i := 31) (N := some 65) #[true, true, true, true, true, true, true, true, true, true, true, true, true, true, true, true, true, true, true, true, true, true, true, true, true, true, true, true, true, true, true, true, false, false, false, false, false, false, false, false, false, false, false, false, false, false, false] rfl rfl (by kernel_rfl) (by decide) (fun K hK => ?_)
        go_simp
        refine (rput_any y HY.out.wf A' B' n' c' m' d' _ (by first | exact HY1.out.1.below hq | exact HY1.out.1.below (below_drew hq) | exact HY1.out.1.below (below_drew (below_drew hq))) (by first | exact HY1.out.2.below hq | exact HY1.out.2.below (below_drew hq) | exact HY1.out.2.below (below_drew (below_drew hq))) (by omega) (by omega)).mono ?_
        rintro e wN ⟨A6, n6, c6, rfl, ho6, hbN⟩
        have hq : Below wz.heap.size wz wN := (by first | exact below_then hq hq.size hbN | exact below_then (below_drew hq) (below_drew hq).size hbN | exact below_then (below_drew (below_drew hq)) (below_drew (below_drew hq)).size hbN)
        have HE5 := Lib.hid (by first | exact HE5.out.below hbN | exact (rd_drew HE5.out).below hbN : ReadsInt wN .u8 A5 n5 (putL y))
        have h6 := own_info ho6
        have HE6 := Lib.hid (show ReadsInt wN .u8 A6 n6 (putL y) from h6.2.2.2.1)
        clear ho6 h6
        try go_wp2_with fail
        refine hK.out _ _ ?_ (fun hHeld2 => ?_)
        · (try dsimp only)
          first | with_reducible exact hHeld | exact ⟨pw_cell_below hq a0, pw_cell_below hq a1, pw_cell_below hq a2, pw_cell_below hq a3, pw_cell_below hq a4, pw_cell_below hq a5, pw_cell_below hq a6, pw_cell_below hq b0, pw_cell_below hq b1, pw_cell_below hq b2, pw_cell_below hq b3, pw_cell_below hq b4, pw_cell_below hq b5, pw_cell_below hq b6, pw_cell_below hq d0, pw_cell_below hq d1, pw_cell_below hq d2, pw_cell_below hq d3, pw_cell_below hq d4, pw_cell_below hq d5, pw_cell_below hq d6, pw_cell_below hq j0, pw_cell_below hq j1, pw_cell_below hq j2, pw_cell_below hq j3, pw_cell_below hq j4, pw_cell_below hq j5, pw_cell_below hq j6⟩
        clear hHeld hK K
        have hHeld := hHeld2
        clear hHeld2
        try simp only [Act.put, List.setIfInBounds_toArray, List.set_cons_zero, List.set_cons_succ]
        refine one_ (i := 32) (N := some 66) #[true, true, true, true, true, true, true, true, true, true, true, true, true, true, true, true, true, true, true, true, true, true, true, true, true, true, true, true, true, true, true, true, true, false, false, false, false, false, false, false, false, false, false, false, false, false, false] rfl rfl (by kernel_rfl) (by decide) (fun K hK => ?_)
        have ky : (convert 31 9 (.slice A6 n6 c6)).run Try.prog wN = .ok (.string S1) wN := (by rw [HS1.out]; exact str_of HE6.out)
        go_simp
        refine hK.out _ _ ?_ (fun hHeld2 => ?_)
        · (try dsimp only)
          first | with_reducible exact hHeld | exact ⟨pw_cell_below hq a0, pw_cell_below hq a1, pw_cell_below hq a2, pw_cell_below hq a3, pw_cell_below hq a4, pw_cell_below hq a5, pw_cell_below hq a6, pw_cell_below hq b0, pw_cell_below hq b1, pw_cell_below hq b2, pw_cell_below hq b3, pw_cell_below hq b4, pw_cell_below hq b5, pw_cell_below hq b6, pw_cell_below hq d0, pw_cell_below hq d1, pw_cell_below hq d2, pw_cell_below hq d3, pw_cell_below hq d4, pw_cell_below hq d5, pw_cell_below hq d6, pw_cell_below hq j0, pw_cell_below hq j1, pw_cell_below hq j2, pw_cell_below hq j3, pw_cell_below hq j4, pw_cell_below hq j5, pw_cell_below hq j6⟩
        clear hHeld hK K
        have hHeld := hHeld2
        clear hHeld2
        try simp only [Act.put, List.setIfInBounds_toArray, List.set_cons_zero, List.set_cons_succ]
        refine pure_ (i := 33) (N := some 67) (v := ?_) (a' := ?_) #[true, true, true, true, true, true, true, true, true, true, true, true, true, true, true, true, true, true, true, true, true, true, true, true, true, true, true, true, true, true, true, true, true, true, false, false, false, false, false, false, false, false, false, false, false, false, false] rfl rfl (by kernel_rfl) (fun _ _ _ h => h) (Or.inl ⟨by rfl, ?_⟩) ?_ ?_
        rotate_left
        · intro w'
          go_simp
          (try with_reducible rfl)
        rotate_left
        · simp only [Act.put, List.setIfInBounds_toArray, List.set_cons_zero, List.set_cons_succ]
          rfl
        refine pure_ (i := 34) (N := some 68) (v := ?_) (a' := ?_) #[true, true, true, true, true, true, true, true, true, true, true, true, true, true, true, true, true, true, true, true, true, true, true, true, true, true, true, true, true, true, true, true, true, true, true, false, false, false, false, false, false, false, false, false, false, false, false] rfl rfl (by kernel_rfl) (fun _ _ _ h => h) (Or.inl ⟨by rfl, ?_⟩) ?_ ?_
        rotate_left
        · intro w'
          go_simp
          (try with_reducible rfl)
        rotate_left
        · simp only [Act.put, List.setIfInBounds_toArray, List.set_cons_zero, List.set_cons_succ]
          rfl
        refine pure_ (i := 35) (N := some 69) (v := ?_) (a' := ?_) #[true, true, true, true, true, true, true, true, true, true, true, true, true, true, true, true, true, true, true, true, true, true, true, true, true, true, true, true, true, true, true, true, true, true, true, true, false, false, false, false, false, false, false, false, false, false, false] rfl rfl (by kernel_rfl) (fun _ _ _ h => h) (Or.inl ⟨by rfl, ?_⟩) ?_ ?_
        rotate_left
        · intro w'
          go_simp
          (try with_reducible rfl)
        rotate_left
        · simp only [Act.put, List.setIfInBounds_toArray, List.set_cons_zero, List.set_cons_succ]
          rfl
        refine take_ (i := 36) (N := some 70) (v := ?_) (a' := ?_) #[true, true, true, true, true, true, true, true, true, true, true, true, true, true, true, true, true, true, true, true, true, true, true, true, true, true, true, true, true, true, true, true, true, true, true, true, true, false, false, false, false, false, false, false, false, false, false] rfl rfl (by kernel_rfl) (fun _ _ _ h => h) (Or.inl ⟨by rfl, ?_⟩) hHeld ?_ ?_
        rotate_left
        · rintro w' ⟨s0, s1, s2, s3, s4, s5, s6, s7, s8, s9, s10, s11, s12, s13, s14, s15, s16, s17, s18, s19, s20, s21, s22, s23, s24, s25, s26, s27⟩
          go_simp
          (try with_reducible rfl)
        rotate_left
        · simp only [Act.put, List.setIfInBounds_toArray, List.set_cons_zero, List.set_cons_succ]
          rfl
        refine take_ (i := 37) (N := some 71) (v := ?_) (a' := ?_) #[true, true, true, true, true, true, true, true, true, true, true, true, true, true, true, true, true, true, true, true, true, true, true, true, true, true, true, true, true, true, true, true, true, true, true, true, true, true, false, false, false, false, false, false, false, false, false] rfl rfl (by kernel_rfl) (fun _ _ _ h => h) (Or.inl ⟨by rfl, ?_⟩) hHeld ?_ ?_
        rotate_left
        · rintro w' ⟨s0, s1, s2, s3, s4, s5, s6, s7, s8, s9, s10, s11, s12, s13, s14, s15, s16, s17, s18, s19, s20, s21, s22, s23, s24, s25, s26, s27⟩
          go_simp
          (try with_reducible rfl)
        rotate_left
        · simp only [Act.put, List.setIfInBounds_toArray, List.set_cons_zero, List.set_cons_succ]
          rfl
        refine take_ (i := 39) (N := some 73) (v := ?_) (a' := ?_) #[true, true, true, true, true, true, true, true, true, true, true, true, true, true, true, true, true, true, true, true, true, true, true, true, true, true, true, true, true, true, true, true, true, true, true, true, true, true, false, true, false, false, false, false, false, false, false] rfl rfl (by kernel_rfl) (fun _ _ _ h => h) (Or.inl ⟨by rfl, ?_⟩) hHeld ?_ ?_
        rotate_left
        · rintro w' ⟨s0, s1, s2, s3, s4, s5, s6, s7, s8, s9, s10, s11, s12, s13, s14, s15, s16, s17, s18, s19, s20, s21, s22, s23, s24, s25, s26, s27⟩
          go_simp
          (try with_reducible rfl)
        rotate_left
        · simp only [Act.put, List.setIfInBounds_toArray, List.set_cons_zero, List.set_cons_succ]
          rfl
        refine take_ (i := 41) (N := some 75) (v := ?_) (a' := ?_) #[true, true, true, true, true, true, true, true, true, true, true, true, true, true, true, true, true, true, true, true, true, true, true, true, true, true, true, true, true, true, true, true, true, true, true, true, true, true, false, true, false, true, false, false, false, false, false] rfl rfl (by kernel_rfl) (fun _ _ _ h => h) (Or.inl ⟨by rfl, ?_⟩) hHeld ?_ ?_
        rotate_left
        · rintro w' ⟨s0, s1, s2, s3, s4, s5, s6, s7, s8, s9, s10, s11, s12, s13, s14, s15, s16, s17, s18, s19, s20, s21, s22, s23, s24, s25, s26, s27⟩
          go_simp
          (try with_reducible rfl)
        rotate_left
        · simp only [Act.put, List.setIfInBounds_toArray, List.set_cons_zero, List.set_cons_succ]
          rfl
        refine one_ (i := 38) (N := some 72) #[true, true, true, true, true, true, true, true, true, true, true, true, true, true, true, true, true, true, true, true, true, true, true, true, true, true, true, true, true, true, true, true, true, true, true, true, true, true, true, true, false, true, false, false, false, false, false] rfl rfl (by kernel_rfl) (by decide) (fun K hK => ?_)
        go_simp
        refine (same_walk y z _ _ _ _ _ _ _ _ _ _ _ _ _ (by first | exact HY1.out.1.below hq | exact HY1.out.1.below (below_drew hq) | exact HY1.out.1.below (below_drew (below_drew hq))) (by first | exact HZ1.out.1.below hq | exact HZ1.out.1.below (below_drew hq) | exact HZ1.out.1.below (below_drew (below_drew hq))) (by first | exact HY1.out.2.below hq | exact HY1.out.2.below (below_drew hq) | exact HY1.out.2.below (below_drew (below_drew hq))) (by first | exact HZ1.out.2.below hq | exact HZ1.out.2.below (below_drew hq) | exact HZ1.out.2.below (below_drew (below_drew hq)))).mono ?_
        rintro e wN ⟨rfl, hbN⟩
        rw [HSB.out]
        have hq : Below wz.heap.size wz wN := (by first | exact below_then hq hq.size hbN | exact below_then (below_drew hq) (below_drew hq).size hbN | exact below_then (below_drew (below_drew hq)) (below_drew (below_drew hq)).size hbN)
        try go_wp2_with fail
        refine hK.out _ _ ?_ (fun hHeld2 => ?_)
        · (try dsimp only)
          first | with_reducible exact hHeld | exact ⟨pw_cell_below hq a0, pw_cell_below hq a1, pw_cell_below hq a2, pw_cell_below hq a3, pw_cell_below hq a4, pw_cell_below hq a5, pw_cell_below hq a6, pw_cell_below hq b0, pw_cell_below hq b1, pw_cell_below hq b2, pw_cell_below hq b3, pw_cell_below hq b4, pw_cell_below hq b5, pw_cell_below hq b6, pw_cell_below hq d0, pw_cell_below hq d1, pw_cell_below hq d2, pw_cell_below hq d3, pw_cell_below hq d4, pw_cell_below hq d5, pw_cell_below hq d6, pw_cell_below hq j0, pw_cell_below hq j1, pw_cell_below hq j2, pw_cell_below hq j3, pw_cell_below hq j4, pw_cell_below hq j5, pw_cell_below hq j6⟩
        clear hHeld hK K
        have hHeld := hHeld2
        clear hHeld2
        try simp only [Act.put, List.setIfInBounds_toArray, List.set_cons_zero, List.set_cons_succ]
        refine one_ (i := 40) (N := some 74) #[true, true, true, true, true, true, true, true, true, true, true, true, true, true, true, true, true, true, true, true, true, true, true, true, true, true, true, true, true, true, true, true, true, true, true, true, true, true, true, true, true, true, false, false, false, false, false] rfl rfl (by kernel_rfl) (by decide) (fun K hK => ?_)
        go_simp
        refine (mown_walk _ _ _ _ _ _ _ _ _ _ _ _).mono ?_
        rintro e wN ⟨rfl, hbN⟩
        have hq : Below wz.heap.size wz wN := (by first | exact below_then hq hq.size hbN | exact below_then (below_drew hq) (below_drew hq).size hbN | exact below_then (below_drew (below_drew hq)) (below_drew (below_drew hq)).size hbN)
        try go_wp2_with fail
        refine hK.out _ _ ?_ (fun hHeld2 => ?_)
        · (try dsimp only)
          first | with_reducible exact hHeld | exact ⟨pw_cell_below hq a0, pw_cell_below hq a1, pw_cell_below hq a2, pw_cell_below hq a3, pw_cell_below hq a4, pw_cell_below hq a5, pw_cell_below hq a6, pw_cell_below hq b0, pw_cell_below hq b1, pw_cell_below hq b2, pw_cell_below hq b3, pw_cell_below hq b4, pw_cell_below hq b5, pw_cell_below hq b6, pw_cell_below hq d0, pw_cell_below hq d1, pw_cell_below hq d2, pw_cell_below hq d3, pw_cell_below hq d4, pw_cell_below hq d5, pw_cell_below hq d6, pw_cell_below hq j0, pw_cell_below hq j1, pw_cell_below hq j2, pw_cell_below hq j3, pw_cell_below hq j4, pw_cell_below hq j5, pw_cell_below hq j6⟩
        clear hHeld hK K
        have hHeld := hHeld2
        clear hHeld2
        try simp only [Act.put, List.setIfInBounds_toArray, List.set_cons_zero, List.set_cons_succ]
        refine one_ (i := 42) (N := some 76) #[true, true, true, true, true, true, true, true, true, true, true, true, true, true, true, true, true, true, true, true, true, true, true, true, true, true, true, true, true, true, true, true, true, true, true, true, true, true, true, true, true, true, true, false, false, false, false] rfl rfl (by kernel_rfl) (by decide) (fun K hK => ?_)
        go_simp
        refine (mown_walk _ _ _ _ _ _ _ _ _ _ _ _).mono ?_
        rintro e wN ⟨rfl, hbN⟩
        have hq : Below wz.heap.size wz wN := (by first | exact below_then hq hq.size hbN | exact below_then (below_drew hq) (below_drew hq).size hbN | exact below_then (below_drew (below_drew hq)) (below_drew (below_drew hq)).size hbN)
        try go_wp2_with fail
        refine hK.out _ _ ?_ (fun hHeld2 => ?_)
        · (try dsimp only)
          first | with_reducible exact hHeld | exact ⟨pw_cell_below hq a0, pw_cell_below hq a1, pw_cell_below hq a2, pw_cell_below hq a3, pw_cell_below hq a4, pw_cell_below hq a5, pw_cell_below hq a6, pw_cell_below hq b0, pw_cell_below hq b1, pw_cell_below hq b2, pw_cell_below hq b3, pw_cell_below hq b4, pw_cell_below hq b5, pw_cell_below hq b6, pw_cell_below hq d0, pw_cell_below hq d1, pw_cell_below hq d2, pw_cell_below hq d3, pw_cell_below hq d4, pw_cell_below hq d5, pw_cell_below hq d6, pw_cell_below hq j0, pw_cell_below hq j1, pw_cell_below hq j2, pw_cell_below hq j3, pw_cell_below hq j4, pw_cell_below hq j5, pw_cell_below hq j6⟩
        clear hHeld hK K
        have hHeld := hHeld2
        clear hHeld2
        try simp only [Act.put, List.setIfInBounds_toArray, List.set_cons_zero, List.set_cons_succ]
        refine one_ (i := 43) (N := some 77) #[true, true, true, true, true, true, true, true, true, true, true, true, true, true, true, true, true, true, true, true, true, true, true, true, true, true, true, true, true, true, true, true, true, true, true, true, true, true, true, true, true, true, true, true, false, false, false] rfl rfl (by kernel_rfl) (by decide) (fun K hK => ?_)
        go_simp
        refine (rsame_walk y z _ _ _ _ _ _ _ _ _ _ _ _ _ (by first | exact HY1.out.1.below hq | exact HY1.out.1.below (below_drew hq) | exact HY1.out.1.below (below_drew (below_drew hq))) (by first | exact HZ1.out.1.below hq | exact HZ1.out.1.below (below_drew hq) | exact HZ1.out.1.below (below_drew (below_drew hq))) (by first | exact HY1.out.2.below hq | exact HY1.out.2.below (below_drew hq) | exact HY1.out.2.below (below_drew (below_drew hq))) (by first | exact HZ1.out.2.below hq | exact HZ1.out.2.below (below_drew hq) | exact HZ1.out.2.below (below_drew (below_drew hq)))).mono ?_
        rintro e wN ⟨rfl, hbN⟩
        rw [HSB.out]
        have hq : Below wz.heap.size wz wN := (by first | exact below_then hq hq.size hbN | exact below_then (below_drew hq) (below_drew hq).size hbN | exact below_then (below_drew (below_drew hq)) (below_drew (below_drew hq)).size hbN)
        try go_wp2_with fail
        refine hK.out _ _ ?_ (fun hHeld2 => ?_)
        · (try dsimp only)
          first | with_reducible exact hHeld | exact ⟨pw_cell_below hq a0, pw_cell_below hq a1, pw_cell_below hq a2, pw_cell_below hq a3, pw_cell_below hq a4, pw_cell_below hq a5, pw_cell_below hq a6, pw_cell_below hq b0, pw_cell_below hq b1, pw_cell_below hq b2, pw_cell_below hq b3, pw_cell_below hq b4, pw_cell_below hq b5, pw_cell_below hq b6, pw_cell_below hq d0, pw_cell_below hq d1, pw_cell_below hq d2, pw_cell_below hq d3, pw_cell_below hq d4, pw_cell_below hq d5, pw_cell_below hq d6, pw_cell_below hq j0, pw_cell_below hq j1, pw_cell_below hq j2, pw_cell_below hq j3, pw_cell_below hq j4, pw_cell_below hq j5, pw_cell_below hq j6⟩
        clear hHeld hK K
        have hHeld := hHeld2
        clear hHeld2
        try simp only [Act.put, List.setIfInBounds_toArray, List.set_cons_zero, List.set_cons_succ]
        refine pure_ (i := 44) (N := some 78) (v := ?_) (a' := ?_) #[true, true, true, true, true, true, true, true, true, true, true, true, true, true, true, true, true, true, true, true, true, true, true, true, true, true, true, true, true, true, true, true, true, true, true, true, true, true, true, true, true, true, true, true, true, false, false] rfl rfl (by kernel_rfl) (fun _ _ _ h => h) (Or.inl ⟨by rfl, ?_⟩) ?_ ?_
        rotate_left
        · intro w'
          go_simp
          (try with_reducible rfl)
        rotate_left
        · simp only [Act.put, List.setIfInBounds_toArray, List.set_cons_zero, List.set_cons_succ]
          rfl
        refine pure_ (i := 45) (N := some 79) (v := ?_) (a' := ?_) #[true, true, true, true, true, true, true, true, true, true, true, true, true, true, true, true, true, true, true, true, true, true, true, true, true, true, true, true, true, true, true, true, true, true, true, true, true, true, true, true, true, true, true, true, true, true, false] rfl rfl (by kernel_rfl) (fun _ _ _ h => h) (Or.inl ⟨by rfl, ?_⟩) ?_ ?_
        rotate_left
        · intro w'
          go_simp
          (try with_reducible rfl)
        rotate_left
        · simp only [Act.put, List.setIfInBounds_toArray, List.set_cons_zero, List.set_cons_succ]
          rfl
        refine pure_ (i := 46) (N := some 6) (v := ?_) (a' := ?_) #[true, true, true, true, true, true, true, true, true, true, true, true, true, true, true, true, true, true, true, true, true, true, true, true, true, true, true, true, true, true, true, true, true, true, true, true, true, true, true, true, true, true, true, true, true, true, true] rfl rfl (by kernel_rfl) (fun _ _ _ h => h) (Or.inl ⟨by rfl, ?_⟩) ?_ ?_
        rotate_left
        · intro w'
          go_simp
          (try with_reducible rfl)
        rotate_left
        · simp only [Act.put, List.setIfInBounds_toArray, List.set_cons_zero, List.set_cons_succ]
          rfl
        refine wpAnyLast_done (by kernel_rfl) ?_ _
        go_wp2_with fail
        go_ret
        exact ⟨by first | rfl | simp, by first | exact below_then BZ.out BZ.out.size hq | exact below_then BZ.out BZ.out.size (below_drew hq) | exact below_then BZ.out BZ.out.size (below_drew (below_drew hq))⟩
      go_simp
      refine (mown_walk _ _ _ _ _ _ _ _ _ _ _ _).mono ?_
      rintro e wN ⟨rfl, hbN⟩
      have hq : Below wz.heap.size wz wN := (by first | exact below_then hq hq.size hbN | exact below_then (below_drew hq) (below_drew hq).size hbN | exact below_then (below_drew (below_drew hq)) (below_drew (below_drew hq)).size hbN)
      have HE5 := Lib.hid (by first | exact HE5.out.below hbN | exact (rd_drew HE5.out).below hbN : ReadsInt wN .u8 A5 n5 (putL y))
      try go_wp2_with fail
      refine hK.out _ _ ?_ (fun hHeld2 => ?_)
      · (try dsimp only)
        first | with_reducible exact hHeld | exact ⟨pw_cell_below hq a0, pw_cell_below hq a1, pw_cell_below hq a2, pw_cell_below hq a3, pw_cell_below hq a4, pw_cell_below hq a5, pw_cell_below hq a6, pw_cell_below hq b0, pw_cell_below hq b1, pw_cell_below hq b2, pw_cell_below hq b3, pw_cell_below hq b4, pw_cell_below hq b5, pw_cell_below hq b6, pw_cell_below hq d0, pw_cell_below hq d1, pw_cell_below hq d2, pw_cell_below hq d3, pw_cell_below hq d4, pw_cell_below hq d5, pw_cell_below hq d6, pw_cell_below hq j0, pw_cell_below hq j1, pw_cell_below hq j2, pw_cell_below hq j3, pw_cell_below hq j4, pw_cell_below hq j5, pw_cell_below hq j6⟩
      clear hHeld hK K
      have hHeld := hHeld2
      clear hHeld2
      try simp only [Act.put, List.setIfInBounds_toArray, List.set_cons_zero, List.set_cons_succ]
      refine two_ (i := 28) (j := 31) (Ni := some 62) (Nj := some 65) #[true, true, true, true, true, true, true, true, true, true, true, true, true, true, true, true, true, true, true, true, true, true, true, true, true, true, true, true, true, true, true, false, false, false, false, false, false, false, false, false, false, false, false, false, false, false, false] #[true, true, true, true, true, true, true, true, true, true, true, true, true, true, true, true, true, true, true, true, true, true, true, true, true, true, true, true, false, true, true, true, false, false, false, false, false, false, false, false, false, false, false, false, false, false, false] rfl rfl rfl rfl (by kernel_rfl) (by decide) (by decide) (fun K hK => ?_) (fun K hK => ?_)
      · skip
        have kx : (convert 31 9 (.slice A5 n5 c5)).run Try.prog wN = .ok (.string S1) wN := (by rw [HS1.out]; exact str_of HE5.out)
        go_simp
        refine hK.out _ _ ?_ (fun hHeld2 => ?_)
        · (try dsimp only)
          first | with_reducible exact hHeld | exact ⟨pw_cell_below hq a0, pw_cell_below hq a1, pw_cell_below hq a2, pw_cell_below hq a3, pw_cell_below hq a4, pw_cell_below hq a5, pw_cell_below hq a6, pw_cell_below hq b0, pw_cell_below hq b1, pw_cell_below hq b2, pw_cell_below hq b3, pw_cell_below hq b4, pw_cell_below hq b5, pw_cell_below hq b6, pw_cell_below hq d0, pw_cell_below hq d1, pw_cell_below hq d2, pw_cell_below hq d3, pw_cell_below hq d4, pw_cell_below hq d5, pw_cell_below hq d6, pw_cell_below hq j0, pw_cell_below hq j1, pw_cell_below hq j2, pw_cell_below hq j3, pw_cell_below hq j4, pw_cell_below hq j5, pw_cell_below hq j6⟩
        clear hHeld hK K
        have hHeld := hHeld2
        clear hHeld2
        try simp only [Act.put, List.setIfInBounds_toArray, List.set_cons_zero, List.set_cons_succ]
        refine one_ (i := 31) (N := some 65) #[true, true, true, true, true, true, true, true, true, true, true, true, true, true, true, true, true, true, true, true, true, true, true, true, true, true, true, true, true, true, true, true, false, false, false, false, false, false, false, false, false, false, false, false, false, false, false] rfl rfl (by kernel_rfl) (by decide) (fun K hK => ?_)
        go_simp
        refine (rput_any y HY.out.wf A' B' n' c' m' d' _ (by first | exact HY1.out.1.below hq | exact HY1.out.1.below (below_drew hq) | exact HY1.out.1.below (below_drew (below_drew hq))) (by first | exact HY1.out.2.below hq | exact HY1.out.2.below (below_drew hq) | exact HY1.out.2.below (below_drew (below_drew hq))) (by omega) (by omega)).mono ?_
        rintro e wN ⟨A6, n6, c6, rfl, ho6, hbN⟩
        have hq : Below wz.heap.size wz wN := (by first | exact below_then hq hq.size hbN | exact below_then (below_drew hq) (below_drew hq).size hbN | exact below_then (below_drew (below_drew hq)) (below_drew (below_drew hq)).size hbN)
        have HE5 := Lib.hid (by first | exact HE5.out.below hbN | exact (rd_drew HE5.out).below hbN : ReadsInt wN .u8 A5 n5 (putL y))
        have h6 := own_info ho6
        have HE6 := Lib.hid (show ReadsInt wN .u8 A6 n6 (putL y) from h6.2.2.2.1)
        clear ho6 h6
        try go_wp2_with fail
        refine hK.out _ _ ?_ (fun hHeld2 => ?_)
        · (try dsimp only)
          first | with_reducible exact hHeld | exact ⟨pw_cell_below hq a0, pw_cell_below hq a1, pw_cell_below hq a2, pw_cell_below hq a3, pw_cell_below hq a4, pw_cell_below hq a5, pw_cell_below hq a6, pw_cell_below hq b0, pw_cell_below hq b1, pw_cell_below hq b2, pw_cell_below hq b3, pw_cell_below hq b4, pw_cell_below hq b5, pw_cell_below hq b6, pw_cell_below hq d0, pw_cell_below hq d1, pw_cell_below hq d2, pw_cell_below hq d3, pw_cell_below hq d4, pw_cell_below hq d5, pw_cell_below hq d6, pw_cell_below hq j0, pw_cell_below hq j1, pw_cell_below hq j2, pw_cell_below hq j3, pw_cell_below hq j4, pw_cell_below hq j5, pw_cell_below hq j6⟩
        clear hHeld hK K
        have hHeld := hHeld2
        clear hHeld2
        try simp only [Act.put, List.setIfInBounds_toArray, List.set_cons_zero, List.set_cons_succ]
        refine one_ (i := 32) (N := some 66) #[true, true, true, true, true, true, true, true, true, true, true, true, true, true, true, true, true, true, true, true, true, true, true, true, true, true, true, true, true, true, true, true, true, false, false, false, false, false, false, false, false, false, false, false, false, false, false] rfl rfl (by kernel_rfl) (by decide) (fun K hK => ?_)
        have ky : (convert 31 9 (.slice A6 n6 c6)).run Try.prog wN = .ok (.string S1) wN := (by rw [HS1.out]; exact str_of HE6.out)
        go_simp
        refine hK.out _ _ ?_ (fun hHeld2 => ?_)
        · (try dsimp only)
          first | with_reducible exact hHeld | exact ⟨pw_cell_below hq a0, pw_cell_below hq a1, pw_cell_below hq a2, pw_cell_below hq a3, pw_cell_below hq a4, pw_cell_below hq a5, pw_cell_below hq a6, pw_cell_below hq b0, pw_cell_below hq b1, pw_cell_below hq b2, pw_cell_below hq b3, pw_cell_below hq b4, pw_cell_below hq b5, pw_cell_below hq b6, pw_cell_below hq d0, pw_cell_below hq d1, pw_cell_below hq d2, pw_cell_below hq d3, pw_cell_below hq d4, pw_cell_below hq d5, pw_cell_below hq d6, pw_cell_below hq j0, pw_cell_below hq j1, pw_cell_below hq j2, pw_cell_below hq j3, pw_cell_below hq j4, pw_cell_below hq j5, pw_cell_below hq j6⟩
        clear hHeld hK K
        have hHeld := hHeld2
        clear hHeld2
        try simp only [Act.put, List.setIfInBounds_toArray, List.set_cons_zero, List.set_cons_succ]
        refine pure_ (i := 33) (N := some 67) (v := ?_) (a' := ?_) #[true, true, true, true, true, true, true, true, true, true, true, true, true, true, true, true, true, true, true, true, true, true, true, true, true, true, true, true, true, true, true, true, true, true, false, false, false, false, false, false, false, false, false, false, false, false, false] rfl rfl (by kernel_rfl) (fun _ _ _ h => h) (Or.inl ⟨by rfl, ?_⟩) ?_ ?_
        rotate_left
        · intro w'
          go_simp
          (try with_reducible rfl)
        rotate_left
        · simp only [Act.put, List.setIfInBounds_toArray, List.set_cons_zero, List.set_cons_succ]
          rfl
        refine pure_ (i := 34) (N := some 68) (v := ?_) (a' := ?_) #[true, true, true, true, true, true, true, true, true, true, true, true, true, true, true, true, true, true, true, true, true, true, true, true, true, true, true, true, true, true, true, true, true, true, true, false, false, false, false, false, false, false, false, false, false, false, false] rfl rfl (by kernel_rfl) (fun _ _ _ h => h) (Or.inl ⟨by rfl, ?_⟩) ?_ ?_
        rotate_left
        · intro w'
          go_simp
          (try with_reducible rfl)
        rotate_left
        · simp only [Act.put, List.setIfInBounds_toArray, List.set_cons_zero, List.set_cons_succ]
          rfl
        refine pure_ (i := 35) (N := some 69) (v := ?_) (a' := ?_) #[true, true, true, true, true, true, true, true, true, true, true, true, true, true, true, true, true, true, true, true, true, true, true, true, true, true, true, true, true, true, true, true, true, true, true, true, false, false, false, false, false, false, false, false, false, false, false] rfl rfl (by kernel_rfl) (fun _ _ _ h => h) (Or.inl ⟨by rfl, ?_⟩) ?_ ?_
        rotate_left
        · intro w'
          go_simp
          (try with_reducible rfl)
        rotate_left
        · simp only [Act.put, List.setIfInBounds_toArray, List.set_cons_zero, List.set_cons_succ]
          rfl
        refine take_ (i := 36) (N := some 70) (v := ?_) (a' := ?_) #[true, true, true, true, true, true, true, true, true, true, true, true, true, true, true, true, true, true, true, true, true, true, true, true, true, true, true, true, true, true, true, true, true, true, true, true, true, false, false, false, false, false, false, false, false, false, false] rfl rfl (by kernel_rfl) (fun _ _ _ h => h) (Or.inl ⟨by rfl, ?_⟩) hHeld ?_ ?_
        rotate_left
        · rintro w' ⟨s0, s1, s2, s3, s4, s5, s6, s7, s8, s9, s10, s11, s12, s13, s14, s15, s16, s17, s18, s19, s20, s21, s22, s23, s24, s25, s26, s27⟩
          go_simp
          (try with_reducible rfl)
        rotate_left
        · simp only [Act.put, List.setIfInBounds_toArray, List.set_cons_zero, List.set_cons_succ]
          rfl
        refine take_ (i := 37) (N := some 71) (v := ?_) (a' := ?_) #[true, true, true, true, true, true, true, true, true, true, true, true, true, true, true, true, true, true, true, true, true, true, true, true, true, true, true, true, true, true, true, true, true, true, true, true, true, true, false, false, false, false, false, false, false, false, false] rfl rfl (by kernel_rfl) (fun _ _ _ h => h) (Or.inl ⟨by rfl, ?_⟩) hHeld ?_ ?_
        rotate_left
        · rintro w' ⟨s0, s1, s2, s3, s4, s5, s6, s7, s8, s9, s10, s11, s12, s13, s14, s15, s16, s17, s18, s19, s20, s21, s22, s23, s24, s25, s26, s27⟩
          go_simp
          (try with_reducible rfl)
        rotate_left
        · simp only [Act.put, List.setIfInBounds_toArray, List.set_cons_zero, List.set_cons_succ]
          rfl
        refine take_ (i := 39) (N := some 73) (v := ?_) (a' := ?_) #[true, true, true, true, true, true, true, true, true, true, true, true, true, true, true, true, true, true, true, true, true, true, true, true, true, true, true, true, true, true, true, true, true, true, true, true, true, true, false, true, false, false, false, false, false, false, false] rfl rfl (by kernel_rfl) (fun _ _ _ h => h) (Or.inl ⟨by rfl, ?_⟩) hHeld ?_ ?_
        rotate_left
        · rintro w' ⟨s0, s1, s2, s3, s4, s5, s6, s7, s8, s9, s10, s11, s12, s13, s14, s15, s16, s17, s18, s19, s20, s21, s22, s23, s24, s25, s26, s27⟩
          go_simp
          (try with_reducible rfl)
        rotate_left
        · simp only [Act.put, List.setIfInBounds_toArray, List.set_cons_zero, List.set_cons_succ]
          rfl
        refine take_ (i := 41) (N := some 75) (v := ?_) (a' := ?_) #[true, true, true, true, true, true, true, true, true, true, true, true, true, true, true, true, true, true, true, true, true, true, true, true, true, true, true, true, true, true, true, true, true, true, true, true, true, true, false, true, false, true, false, false, false, false, false] rfl rfl (by kernel_rfl) (fun _ _ _ h => h) (Or.inl ⟨by rfl, ?_⟩) hHeld ?_ ?_
        rotate_left
        · rintro w' ⟨s0, s1, s2, s3, s4, s5, s6, s7, s8, s9, s10, s11, s12, s13, s14, s15, s16, s17, s18, s19, s20, s21, s22, s23, s24, s25, s26, s27⟩
          go_simp
          (try with_reducible rfl)
        rotate_left
        · simp only [Act.put, List.setIfInBounds_toArray, List.set_cons_zero, List.set_cons_succ]
          rfl
        refine one_ (i := 38) (N := some 72) #[true, true, true, true, true, true, true, true, true, true, true, true, true, true, true, true, true, true, true, true, true, true, true, true, true, true, true, true, true, true, true, true, true, true, true, true, true, true, true, true, false, true, false, false, false, false, false] rfl rfl (by kernel_rfl) (by decide) (fun K hK => ?_)
        go_simp
        refine (same_walk y z _ _ _ _ _ _ _ _ _ _ _ _ _ (by first | exact HY1.out.1.below hq | exact HY1.out.1.below (below_drew hq) | exact HY1.out.1.below (below_drew (below_drew hq))) (by first | exact HZ1.out.1.below hq | exact HZ1.out.1.below (below_drew hq) | exact HZ1.out.1.below (below_drew (below_drew hq))) (by first | exact HY1.out.2.below hq | exact HY1.out.2.below (below_drew hq) | exact HY1.out.2.below (below_drew (below_drew hq))) (by first | exact HZ1.out.2.below hq | exact HZ1.out.2.below (below_drew hq) | exact HZ1.out.2.below (below_drew (below_drew hq)))).mono ?_
        rintro e wN ⟨rfl, hbN⟩
        rw [HSB.out]
        have hq : Below wz.heap.size wz wN := (by first | exact below_then hq hq.size hbN | exact below_then (below_drew hq) (below_drew hq).size hbN | exact below_then (below_drew (below_drew hq)) (below_drew (below_drew hq)).size hbN)
        try go_wp2_with fail
        refine hK.out _ _ ?_ (fun hHeld2 => ?_)
        · (try dsimp only)
          first | with_reducible exact hHeld | exact ⟨pw_cell_below hq a0, pw_cell_below hq a1, pw_cell_below hq a2, pw_cell_below hq a3, pw_cell_below hq a4, pw_cell_below hq a5, pw_cell_below hq a6, pw_cell_below hq b0, pw_cell_below hq b1, pw_cell_below hq b2, pw_cell_below hq b3, pw_cell_below hq b4, pw_cell_below hq b5, pw_cell_below hq b6, pw_cell_below hq d0, pw_cell_below hq d1, pw_cell_below hq d2, pw_cell_below hq d3, pw_cell_below hq d4, pw_cell_below hq d5, pw_cell_below hq d6, pw_cell_below hq j0, pw_cell_below hq j1, pw_cell_below hq j2, pw_cell_below hq j3, pw_cell_below hq j4, pw_cell_below hq j5, pw_cell_below hq j6⟩
        clear hHeld hK K
        have hHeld := hHeld2
        clear hHeld2
        try simp only [Act.put, List.setIfInBounds_toArray, List.set_cons_zero, List.set_cons_succ]
        refine one_ (i := 40) (N := some 74) #[true, true, true, true, true, true, true, true, true, true, true, true, true, true, true, true, true, true, true, true, true, true, true, true, true, true, true, true, true, true, true, true, true, true, true, true, true, true, true, true, true, true, false, false, false, false, false] rfl rfl (by kernel_rfl) (by decide) (fun K hK => ?_)
        go_simp
        refine (mown_walk _ _ _ _ _ _ _ _ _ _ _ _).mono ?_
        rintro e wN ⟨rfl, hbN⟩
        have hq : Below wz.heap.size wz wN := (by first | exact below_then hq hq.size hbN | exact below_then (below_drew hq) (below_drew hq).size hbN | exact below_then (below_drew (below_drew hq)) (below_drew (below_drew hq)).size hbN)
        try go_wp2_with fail
        refine hK.out _ _ ?_ (fun hHeld2 => ?_)
        · (try dsimp only)
          first | with_reducible exact hHeld | exact ⟨pw_cell_below hq a0, pw_cell_below hq a1, pw_cell_below hq a2, pw_cell_below hq a3, pw_cell_below hq a4, pw_cell_below hq a5, pw_cell_below hq a6, pw_cell_below hq b0, pw_cell_below hq b1, pw_cell_below hq b2, pw_cell_below hq b3, pw_cell_below hq b4, pw_cell_below hq b5, pw_cell_below hq b6, pw_cell_below hq d0, pw_cell_below hq d1, pw_cell_below hq d2, pw_cell_below hq d3, pw_cell_below hq d4, pw_cell_below hq d5, pw_cell_below hq d6, pw_cell_below hq j0, pw_cell_below hq j1, pw_cell_below hq j2, pw_cell_below hq j3, pw_cell_below hq j4, pw_cell_below hq j5, pw_cell_below hq j6⟩
        clear hHeld hK K
        have hHeld := hHeld2
        clear hHeld2
        try simp only [Act.put, List.setIfInBounds_toArray, List.set_cons_zero, List.set_cons_succ]
        refine one_ (i := 42) (N := some 76) #[true, true, true, true, true, true, true, true, true, true, true, true, true, true, true, true, true, true, true, true, true, true, true, true, true, true, true, true, true, true, true, true, true, true, true, true, true, true, true, true, true, true, true, false, false, false, false] rfl rfl (by kernel_rfl) (by decide) (fun K hK => ?_)
        go_simp
        refine (mown_walk _ _ _ _ _ _ _ _ _ _ _ _).mono ?_
        rintro e wN ⟨rfl, hbN⟩
        have hq : Below wz.heap.size wz wN := (by first | exact below_then hq hq.size hbN | exact below_then (below_drew hq) (below_drew hq).size hbN | exact below_then (below_drew (below_drew hq)) (below_drew (below_drew hq)).size hbN)
        try go_wp2_with fail
        refine hK.out _ _ ?_ (fun hHeld2 => ?_)
        · (try dsimp only)
          first | with_reducible exact hHeld | exact ⟨pw_cell_below hq a0, pw_cell_below hq a1, pw_cell_below hq a2, pw_cell_below hq a3, pw_cell_below hq a4, pw_cell_below hq a5, pw_cell_below hq a6, pw_cell_below hq b0, pw_cell_below hq b1, pw_cell_below hq b2, pw_cell_below hq b3, pw_cell_below hq b4, pw_cell_below hq b5, pw_cell_below hq b6, pw_cell_below hq d0, pw_cell_below hq d1, pw_cell_below hq d2, pw_cell_below hq d3, pw_cell_below hq d4, pw_cell_below hq d5, pw_cell_below hq d6, pw_cell_below hq j0, pw_cell_below hq j1, pw_cell_below hq j2, pw_cell_below hq j3, pw_cell_below hq j4, pw_cell_below hq j5, pw_cell_below hq j6⟩
        clear hHeld hK K
        have hHeld := hHeld2
        clear hHeld2
        try simp only [Act.put, List.setIfInBounds_toArray, List.set_cons_zero, List.set_cons_succ]
        refine one_ (i := 43) (N := some 77) #[true, true, true, true, true, true, true, true, true, true, true, true, true, true, true, true, true, true, true, true, true, true, true, true, true, true, true, true, true, true, true, true, true, true, true, true, true, true, true, true, true, true, true, true, false, false, false] rfl rfl (by kernel_rfl) (by decide) (fun K hK => ?_)
        go_simp
        refine (rsame_walk y z _ _ _ _ _ _ _ _ _ _ _ _ _ (by first | exact HY1.out.1.below hq | exact HY1.out.1.below (below_drew hq) | exact HY1.out.1.below (below_drew (below_drew hq))) (by first | exact HZ1.out.1.below hq | exact HZ1.out.1.below (below_drew hq) | exact HZ1.out.1.below (below_drew (below_drew hq))) (by first | exact HY1.out.2.below hq | exact HY1.out.2.below (below_drew hq) | exact HY1.out.2.below (below_drew (below_drew hq))) (by first | exact HZ1.out.2.below hq | exact HZ1.out.2.below (below_drew hq) | exact HZ1.out.2.below (below_drew (below_drew hq)))).mono ?_
        rintro e wN ⟨rfl, hbN⟩
        rw [HSB.out]
        have hq : Below wz.heap.size wz wN := (by first | exact below_then hq hq.size hbN | exact below_then (below_drew hq) (below_drew hq).size hbN | exact below_then (below_drew (below_drew hq)) (below_drew (below_drew hq)).size hbN)
        try go_wp2_with fail
        refine hK.out _ _ ?_ (fun hHeld2 => ?_)
        · (try dsimp only)
          first | with_reducible exact hHeld | exact ⟨pw_cell_below hq a0, pw_cell_below hq a1, pw_cell_below hq a2, pw_cell_below hq a3, pw_cell_below hq a4, pw_cell_below hq a5, pw_cell_below hq a6, pw_cell_below hq b0, pw_cell_below hq b1, pw_cell_below hq b2, pw_cell_below hq b3, pw_cell_below hq b4, pw_cell_below hq b5, pw_cell_below hq b6, pw_cell_below hq d0, pw_cell_below hq d1, pw_cell_below hq d2, pw_cell_below hq d3, pw_cell_below hq d4, pw_cell_below hq d5, pw_cell_below hq d6, pw_cell_below hq j0, pw_cell_below hq j1, pw_cell_below hq j2, pw_cell_below hq j3, pw_cell_below hq j4, pw_cell_below hq j5, pw_cell_below hq j6⟩
        clear hHeld hK K
        have hHeld := hHeld2
        clear hHeld2
        try simp only [Act.put, List.setIfInBounds_toArray, List.set_cons_zero, List.set_cons_succ]
        refine pure_ (i := 44) (N := some 78) (v := ?_) (a' := ?_) #[true, true, true, true, true, true, true, true, true, true, true, true, true, true, true, true, true, true, true, true, true, true, true, true, true, true, true, true, true, true, true, true, true, true, true, true, true, true, true, true, true, true, true, true, true, false, false] rfl rfl (by kernel_rfl) (fun _ _ _ h => h) (Or.inl ⟨by rfl, ?_⟩) ?_ ?_
        rotate_left
        · intro w'
          go_simp
          (try with_reducible rfl)
        rotate_left
        · simp only [Act.put, List.setIfInBounds_toArray, List.set_cons_zero, List.set_cons_succ]
          rfl
        refine pure_ (i := 45) (N := some 79) (v := ?_) (a' := ?_) #[true, true, true, true, true, true, true, true, true, true, true, true, true, true, true, true, true, true, true, true, true, true, true, true, true, true, true, true, true, true, true, true, true, true, true, true, true, true, true, true, true, true, true, true, true, true, false] rfl rfl (by kernel_rfl) (fun _ _ _ h => h) (Or.inl ⟨by rfl, ?_⟩) ?_ ?_
        rotate_left
        · intro w'
          go_simp
          (try with_reducible rfl)
        rotate_left
        · simp only [Act.put, List.setIfInBounds_toArray, List.set_cons_zero, List.set_cons_succ]
          rfl
        refine pure_ (i := 46) (N := some 6) (v := ?_) (a' := ?_) #[true, true, true, true, true, true, true, true, true, true, true, true, true, true, true, true, true, true, true, true, true, true, true, true, true, true, true, true, true, true, true, true, true, true, true, true, true, true, true, true, true, true, true, true, true, true, true] rfl rfl (by kernel_rfl) (fun _ _ _ h => h) (Or.inl ⟨by rfl, ?_⟩) ?_ ?_
        rotate_left
        · intro w'
          go_simp
          (try with_reducible rfl)
        rotate_left
        · simp only [Act.put, List.setIfInBounds_toArray, List.set_cons_zero, List.set_cons_succ]
          rfl
        refine wpAnyLast_done (by kernel_rfl) ?_ _
        go_wp2_with fail
        go_ret
        exact ⟨by first | rfl | simp, by first | exact below_then BZ.out BZ.out.size hq | exact below_then BZ.out BZ.out.size (below_drew hq) | exact below_then BZ.out BZ.out.size (below_drew (below_drew hq))⟩
      go_simp
      refine (rput_any y HY.out.wf A' B' n' c' m' d' _ (by first | exact HY1.out.1.below hq | exact HY1.out.1.below (below_drew hq) | exact HY1.out.1.below (below_drew (below_drew hq))) (by first | exact HY1.out.2.below hq | exact HY1.out.2.below (below_drew hq) | exact HY1.out.2.below (below_drew (below_drew hq))) (by omega) (by omega)).mono ?_
      rintro e wN ⟨A6, n6, c6, rfl, ho6, hbN⟩
      have hq : Below wz.heap.size wz wN := (by first | exact below_then hq hq.size hbN | exact below_then (below_drew hq) (below_drew hq).size hbN | exact below_then (below_drew (below_drew hq)) (below_drew (below_drew hq)).size hbN)
      have HE5 := Lib.hid (by first | exact HE5.out.below hbN | exact (rd_drew HE5.out).below hbN : ReadsInt wN .u8 A5 n5 (putL y))
      have h6 := own_info ho6
      have HE6 := Lib.hid (show ReadsInt wN .u8 A6 n6 (putL y) from h6.2.2.2.1)
      clear ho6 h6
      try go_wp2_with fail
      refine hK.out _ _ ?_ (fun hHeld2 => ?_)
      · (try dsimp only)
        first | with_reducible exact hHeld | exact ⟨pw_cell_below hq a0, pw_cell_below hq a1, pw_cell_below hq a2, pw_cell_below hq a3, pw_cell_below hq a4, pw_cell_below hq a5, pw_cell_below hq a6, pw_cell_below hq b0, pw_cell_below hq b1, pw_cell_below hq b2, pw_cell_below hq b3, pw_cell_below hq b4, pw_cell_below hq b5, pw_cell_below hq b6, pw_cell_below hq d0, pw_cell_below hq d1, pw_cell_below hq d2, pw_cell_below hq d3, pw_cell_below hq d4, pw_cell_below hq d5, pw_cell_below hq d6, pw_cell_below hq j0, pw_cell_below hq j1, pw_cell_below hq j2, pw_cell_below hq j3, pw_cell_below hq j4, pw_cell_below hq j5, pw_cell_below hq j6⟩
      clear hHeld hK K
      have hHeld := hHeld2
      clear hHeld2
      try simp only [Act.put, List.setIfInBounds_toArray, List.set_cons_zero, List.set_cons_succ]
      refine two_ (i := 28) (j := 32) (Ni := some 62) (Nj := some 66) #[true, true, true, true, true, true, true, true, true, true, true, true, true, true, true, true, true, true, true, true, true, true, true, true, true, true, true, true, true, true, true, true, false, false, false, false, false, false, false, false, false, false, false, false, false, false, false] #[true, true, true, true, true, true, true, true, true, true, true, true, true, true, true, true, true, true, true, true, true, true, true, true, true, true, true, true, false, true, true, true, true, false, false, false, false, false, false, false, false, false, false, false, false, false, false] rfl rfl rfl rfl (by kernel_rfl) (by decide) (by decide) (fun K hK => ?_) (fun K hK => ?_)
      · skip
        have kx : (convert 31 9 (.slice A5 n5 c5)).run Try.prog wN = .ok (.string S1) wN := (by rw [HS1.out]; exact str_of HE5.out)
        go_simp
        refine hK.out _ _ ?_ (fun hHeld2 => ?_)
        · (try dsimp only)
          first | with_reducible exact hHeld | exact ⟨pw_cell_below hq a0, pw_cell_below hq a1, pw_cell_below hq a2, pw_cell_below hq a3, pw_cell_below hq a4, pw_cell_below hq a5, pw_cell_below hq a6, pw_cell_below hq b0, pw_cell_below hq b1, pw_cell_below hq b2, pw_cell_below hq b3, pw_cell_below hq b4, pw_cell_below hq b5, pw_cell_below hq b6, pw_cell_below hq d0, pw_cell_below hq d1, pw_cell_below hq d2, pw_cell_below hq d3, pw_cell_below hq d4, pw_cell_below hq d5, pw_cell_below hq d6, pw_cell_below hq j0, pw_cell_below hq j1, pw_cell_below hq j2, pw_cell_below hq j3, pw_cell_below hq j4, pw_cell_below hq j5, pw_cell_below hq j6⟩
        clear hHeld hK K
        have hHeld := hHeld2
        clear hHeld2
        try simp only [Act.put, List.setIfInBounds_toArray, List.set_cons_zero, List.set_cons_succ]
        refine one_ (i := 32) (N := some 66) #[true, true, true, true, true, true, true, true, true, true, true, true, true, true, true, true, true, true, true, true, true, true, true, true, true, true, true, true, true, true, true, true, true, false, false, false, false, false, false, false, false, false, false, false, false, false, false] rfl rfl (by kernel_rfl) (by decide) (fun K hK => ?_)
        have ky : (convert 31 9 (.slice A6 n6 c6)).run Try.prog wN = .ok (.string S1) wN := (by rw [HS1.out]; exact str_of HE6.out)
        go_simp
        refine hK.out _ _ ?_ (fun hHeld2 => ?_)
        · (try dsimp only)
          first | with_reducible exact hHeld | exact ⟨pw_cell_below hq a0, pw_cell_below hq a1, pw_cell_below hq a2, pw_cell_below hq a3, pw_cell_below hq a4, pw_cell_below hq a5, pw_cell_below hq a6, pw_cell_below hq b0, pw_cell_below hq b1, pw_cell_below hq b2, pw_cell_below hq b3, pw_cell_below hq b4, pw_cell_below hq b5, pw_cell_below hq b6, pw_cell_below hq d0, pw_cell_below hq d1, pw_cell_below hq d2, pw_cell_below hq d3, pw_cell_below hq d4, pw_cell_below hq d5, pw_cell_below hq d6, pw_cell_below hq j0, pw_cell_below hq j1, pw_cell_below hq j2, pw_cell_below hq j3, pw_cell_below hq j4, pw_cell_below hq j5, pw_cell_below hq j6⟩
        clear hHeld hK K
        have hHeld := hHeld2
        clear hHeld2
        try simp only [Act.put, List.setIfInBounds_toArray, List.set_cons_zero, List.set_cons_succ]
        refine pure_ (i := 33) (N := some 67) (v := ?_) (a' := ?_) #[true, true, true, true, true, true, true, true, true, true, true, true, true, true, true, true, true, true, true, true, true, true, true, true, true, true, true, true, true, true, true, true, true, true, false, false, false, false, false, false, false, false, false, false, false, false, false] rfl rfl (by kernel_rfl) (fun _ _ _ h => h) (Or.inl ⟨by rfl, ?_⟩) ?_ ?_
        rotate_left
        · intro w'
          go_simp
          (try with_reducible rfl)
        rotate_left
        · simp only [Act.put, List.setIfInBounds_toArray, List.set_cons_zero, List.set_cons_succ]
          rfl
        refine pure_ (i := 34) (N := some 68) (v := ?_) (a' := ?_) #[true, true, true, true, true, true, true, true, true, true, true, true, true, true, true, true, true, true, true, true, true, true, true, true, true, true, true, true, true, true, true, true, true, true, true, false, false, false, false, false, false, false, false, false, false, false, false] rfl rfl (by kernel_rfl) (fun _ _ _ h => h) (Or.inl ⟨by rfl, ?_⟩) ?_ ?_
        rotate_left
        · intro w'
          go_simp
          (try with_reducible rfl)
        rotate_left
        · simp only [Act.put, List.setIfInBounds_toArray, List.set_cons_zero, List.set_cons_succ]
          rfl
        refine pure_ (i := 35) (N := some 69) (v := ?_) (a' := ?_) #[true, true, true, true, true, true, true, true, true, true, true, true, true, true, true, true, true, true, true, true, true, true, true, true, true, true, true, true, true, true, true, true, true, true, true, true, false, false, false, false, false, false, false, false, false, false, false] rfl rfl (by kernel_rfl) (fun _ _ _ h => h) (Or.inl ⟨by rfl, ?_⟩) ?_ ?_
        rotate_left
        · intro w'
          go_simp
          (try with_reducible rfl)
        rotate_left
        · simp only [Act.put, List.setIfInBounds_toArray, List.set_cons_zero, List.set_cons_succ]
          rfl
        refine take_ (i := 36) (N := some 70) (v := ?_) (a' := ?_) #[true, true, true, true, true, true, true, true, true, true, true, true, true, true, true, true, true, true, true, true, true, true, true, true, true, true, true, true, true, true, true, true, true, true, true, true, true, false, false, false, false, false, false, false, false, false, false] rfl rfl (by kernel_rfl) (fun _ _ _ h => h) (Or.inl ⟨by rfl, ?_⟩) hHeld ?_ ?_
        rotate_left
        · rintro w' ⟨s0, s1, s2, s3, s4, s5, s6, s7, s8, s9, s10, s11, s12, s13, s14, s15, s16, s17, s18, s19, s20, s21, s22, s23, s24, s25, s26, s27⟩
          go_simp
          (try with_reducible rfl)
        rotate_left
        · simp only [Act.put, List.setIfInBounds_toArray, List.set_cons_zero, List.set_cons_succ]
          rfl
        refine take_ (i := 37) (N := some 71) (v := ?_) (a' := ?_) #[true, true, true, true, true, true, true, true, true, true, true, true, true, true, true, true, true, true, true, true, true, true, true, true, true, true, true, true, true, true, true, true, true, true, true, true, true, true, false, false, false, false, false, false, false, false, false] rfl rfl (by kernel_rfl) (fun _ _ _ h => h) (Or.inl ⟨by rfl, ?_⟩) hHeld ?_ ?_
        rotate_left
        · rintro w' ⟨s0, s1, s2, s3, s4, s5, s6, s7, s8, s9, s10, s11, s12, s13, s14, s15, s16, s17, s18, s19, s20, s21, s22, s23, s24, s25, s26, s27⟩
          go_simp
          (try with_reducible rfl)
        rotate_left
        · simp only [Act.put, List.setIfInBounds_toArray, List.set_cons_zero, List.set_cons_succ]
          rfl
        refine take_ (i := 39) (N := some 73) (v := ?_) (a' := ?_) #[true, true, true, true, true, true, true, true, true, true, true, true, true, true, true, true, true, true, true, true, true, true, true, true, true, true, true, true, true, true, true, true, true, true, true, true, true, true, false, true, false, false, false, false, false, false, false] rfl rfl (by kernel_rfl) (fun _ _ _ h => h) (Or.inl ⟨by rfl, ?_⟩) hHeld ?_ ?_
        rotate_left
        · rintro w' ⟨s0, s1, s2, s3, s4, s5, s6, s7, s8, s9, s10, s11, s12, s13, s14, s15, s16, s17, s18, s19, s20, s21, s22, s23, s24, s25, s26, s27⟩
          go_simp
          (try with_reducible rfl)
        rotate_left
        · simp only [Act.put, List.setIfInBounds_toArray, List.set_cons_zero, List.set_cons_succ]
          rfl
        refine take_ (i := 41) (N := some 75) (v := ?_) (a' := ?_) #[true, true, true, true, true, true, true, true, true, true, true, true, true, true, true, true, true, true, true, true, true, true, true, true, true, true, true, true, true, true, true, true, true, true, true, true, true, true, false, true, false, true, false, false, false, false, false] rfl rfl (by kernel_rfl) (fun _ _ _ h => h) (Or.inl ⟨by rfl, ?_⟩) hHeld ?_ ?_
        rotate_left
        · rintro w' ⟨s0, s1, s2, s3, s4, s5, s6, s7, s8, s9, s10, s11, s12, s13, s14, s15, s16, s17, s18, s19, s20, s21, s22, s23, s24, s25, s26, s27⟩
          go_simp
          (try with_reducible rfl)
        rotate_left
        · simp only [Act.put, List.setIfInBounds_toArray, List.set_cons_zero, List.set_cons_succ]
          rfl
        refine one_ (i := 38) (N := some 72) #[true, true, true, true, true, true, true, true, true, true, true, true, true, true, true, true, true, true, true, true, true, true, true, true, true, true, true, true, true, true, true, true, true, true, true, true, true, true, true, true, false, true, false, false, false, false, false] rfl rfl (by kernel_rfl) (by decide) (fun K hK => ?_)
        go_simp
        refine (same_walk y z _ _ _ _ _ _ _ _ _ _ _ _ _ (by first | exact HY1.out.1.below hq | exact HY1.out.1.below (below_drew hq) | exact HY1.out.1.below (below_drew (below_drew hq))) (by first | exact HZ1.out.1.below hq | exact HZ1.out.1.below (below_drew hq) | exact HZ1.out.1.below (below_drew (below_drew hq))) (by first | exact HY1.out.2.below hq | exact HY1.out.2.below (below_drew hq) | exact HY1.out.2.below (below_drew (below_drew hq))) (by first | exact HZ1.out.2.below hq | exact HZ1.out.2.below (below_drew hq) | exact HZ1.out.2.below (below_drew (below_drew hq)))).mono ?_
        rintro e wN ⟨rfl, hbN⟩
        rw [HSB.out]
        have hq : Below wz.heap.size wz wN := (by first | exact below_then hq hq.size hbN | exact below_then (below_drew hq) (below_drew hq).size hbN | exact below_then (below_drew (below_drew hq)) (below_drew (below_drew hq)).size hbN)
        try go_wp2_with fail
        refine hK.out _ _ ?_ (fun hHeld2 => ?_)
        · (try dsimp only)
          first | with_reducible exact hHeld | exact ⟨pw_cell_below hq a0, pw_cell_below hq a1, pw_cell_below hq a2, pw_cell_below hq a3, pw_cell_below hq a4, pw_cell_below hq a5, pw_cell_below hq a6, pw_cell_below hq b0, pw_cell_below hq b1, pw_cell_below hq b2, pw_cell_below hq b3, pw_cell_below hq b4, pw_cell_below hq b5, pw_cell_below hq b6, pw_cell_below hq d0, pw_cell_below hq d1, pw_cell_below hq d2, pw_cell_below hq d3, pw_cell_below hq d4, pw_cell_below hq d5, pw_cell_below hq d6, pw_cell_below hq j0, pw_cell_below hq j1, pw_cell_below hq j2, pw_cell_below hq j3, pw_cell_below hq j4, pw_cell_below hq j5, pw_cell_below hq j6⟩
        clear hHeld hK K
        have hHeld := hHeld2
        clear hHeld2
        try simp only [Act.put, List.setIfInBounds_toArray, List.set_cons_zero, List.set_cons_succ]
        refine one_ (i := 40) (N := some 74) #[true, true, true, true, true, true, true, true, true, true, true, true, true, true, true, true, true, true, true, true, true, true, true, true, true, true, true, true, true, true, true, true, true, true, true, true, true, true, true, true, true, true, false, false, false, false, false] rfl rfl (by kernel_rfl) (by decide) (fun K hK => ?_)
        go_simp
        refine (mown_walk _ _ _ _ _ _ _ _ _ _ _ _).mono ?_
        rintro e wN ⟨rfl, hbN⟩
        have hq : Below wz.heap.size wz wN := (by first | exact below_then hq hq.size hbN | exact below_then (below_drew hq) (below_drew hq).size hbN | exact below_then (below_drew (below_drew hq)) (below_drew (below_drew hq)).size hbN)
        try go_wp2_with fail
        refine hK.out _ _ ?_ (fun hHeld2 => ?_)
        · (try dsimp only)
          first | with_reducible exact hHeld | exact ⟨pw_cell_below hq a0, pw_cell_below hq a1, pw_cell_below hq a2, pw_cell_below hq a3, pw_cell_below hq a4, pw_cell_below hq a5, pw_cell_below hq a6, pw_cell_below hq b0, pw_cell_below hq b1, pw_cell_below hq b2, pw_cell_below hq b3, pw_cell_below hq b4, pw_cell_below hq b5, pw_cell_below hq b6, pw_cell_below hq d0, pw_cell_below hq d1, pw_cell_below hq d2, pw_cell_below hq d3, pw_cell_below hq d4, pw_cell_below hq d5, pw_cell_below hq d6, pw_cell_below hq j0, pw_cell_below hq j1, pw_cell_below hq j2, pw_cell_below hq j3, pw_cell_below hq j4, pw_cell_below hq j5, pw_cell_below hq j6⟩
        clear hHeld hK K
        have hHeld := hHeld2
        clear hHeld2
        try simp only [Act.put, List.setIfInBounds_toArray, List.set_cons_zero, List.set_cons_succ]
        refine one_ (i := 42) (N := some 76) #[true, true, true, true, true, true, true, true, true, true, true, true, true, true, true, true, true, true, true, true, true, true, true, true, true, true, true, true, true, true, true, true, true, true, true, true, true, true, true, true, true, true, true, false, false, false, false] rfl rfl (by kernel_rfl) (by decide) (fun K hK => ?_)
        go_simp
        refine (mown_walk _ _ _ _ _ _ _ _ _ _ _ _).mono ?_
        rintro e wN ⟨rfl, hbN⟩
        have hq : Below wz.heap.size wz wN := (by first | exact below_then hq hq.size hbN | exact below_then (below_drew hq) (below_drew hq).size hbN | exact below_then (below_drew (below_drew hq)) (below_drew (below_drew hq)).size hbN)
        try go_wp2_with fail
        refine hK.out _ _ ?_ (fun hHeld2 => ?_)
        · (try dsimp only)
          first | with_reducible exact hHeld | exact ⟨pw_cell_below hq a0, pw_cell_below hq a1, pw_cell_below hq a2, pw_cell_below hq a3, pw_cell_below hq a4, pw_cell_below hq a5, pw_cell_below hq a6, pw_cell_below hq b0, pw_cell_below hq b1, pw_cell_below hq b2, pw_cell_below hq b3, pw_cell_below hq b4, pw_cell_below hq b5, pw_cell_below hq b6, pw_cell_below hq d0, pw_cell_below hq d1, pw_cell_below hq d2, pw_cell_below hq d3, pw_cell_below hq d4, pw_cell_below hq d5, pw_cell_below hq d6, pw_cell_below hq j0, pw_cell_below hq j1, pw_cell_below hq j2, pw_cell_below hq j3, pw_cell_below hq j4, pw_cell_below hq j5, pw_cell_below hq j6⟩
        clear hHeld hK K
        have hHeld := hHeld2
        clear hHeld2
        try simp only [Act.put, List.setIfInBounds_toArray, List.set_cons_zero, List.set_cons_succ]
        refine one_ (i := 43) (N := some 77) #[true, true, true, true, true, true, true, true, true, true, true, true, true, true, true, true, true, true, true, true, true, true, true, true, true, true, true, true, true, true, true, true, true, true, true, true, true, true, true, true, true, true, true, true, false, false, false] rfl rfl (by kernel_rfl) (by decide) (fun K hK => ?_)
        go_simp
        refine (rsame_walk y z _ _ _ _ _ _ _ _ _ _ _ _ _ (by first | exact HY1.out.1.below hq | exact HY1.out.1.below (below_drew hq) | exact HY1.out.1.below (below_drew (below_drew hq))) (by first | exact HZ1.out.1.below hq | exact HZ1.out.1.below (below_drew hq) | exact HZ1.out.1.below (below_drew (below_drew hq))) (by first | exact HY1.out.2.below hq | exact HY1.out.2.below (below_drew hq) | exact HY1.out.2.below (below_drew (below_drew hq))) (by first | exact HZ1.out.2.below hq | exact HZ1.out.2.below (below_drew hq) | exact HZ1.out.2.below (below_drew (below_drew hq)))).mono ?_
        rintro e wN ⟨rfl, hbN⟩
        rw [HSB.out]
        have hq : Below wz.heap.size wz wN := (by first | exact below_then hq hq.size hbN | exact below_then (below_drew hq) (below_drew hq).size hbN | exact below_then (below_drew (below_drew hq)) (below_drew (below_drew hq)).size hbN)
        try go_wp2_with fail
        refine hK.out _ _ ?_ (fun hHeld2 => ?_)
        · (try dsimp only)
          first | with_reducible exact hHeld | exact ⟨pw_cell_below hq a0, pw_cell_below hq a1, pw_cell_below hq a2, pw_cell_below hq a3, pw_cell_below hq a4, pw_cell_below hq a5, pw_cell_below hq a6, pw_cell_below hq b0, pw_cell_below hq b1, pw_cell_below hq b2, pw_cell_below hq b3, pw_cell_below hq b4, pw_cell_below hq b5, pw_cell_below hq b6, pw_cell_below hq d0, pw_cell_below hq d1, pw_cell_below hq d2, pw_cell_below hq d3, pw_cell_below hq d4, pw_cell_below hq d5, pw_cell_below hq d6, pw_cell_below hq j0, pw_cell_below hq j1, pw_cell_below hq j2, pw_cell_below hq j3, pw_cell_below hq j4, pw_cell_below hq j5, pw_cell_below hq j6⟩
        clear hHeld hK K
        have hHeld := hHeld2
        clear hHeld2
        try simp only [Act.put, List.setIfInBounds_toArray, List.set_cons_zero, List.set_cons_succ]
        refine pure_ (i := 44) (N := some 78) (v := ?_) (a' := ?_) #[true, true, true, true, true, true, true, true, true, true, true, true, true, true, true, true, true, true, true, true, true, true, true, true, true, true, true, true, true, true, true, true, true, true, true, true, true, true, true, true, true, true, true, true, true, false, false] rfl rfl (by kernel_rfl) (fun _ _ _ h => h) (Or.inl ⟨by rfl, ?_⟩) ?_ ?_
        rotate_left
        · intro w'
          go_simp
          (try with_reducible rfl)
        rotate_left
        · simp only [Act.put, List.setIfInBounds_toArray, List.set_cons_zero, List.set_cons_succ]
          rfl
        refine pure_ (i := 45) (N := some 79) (v := ?_) (a' := ?_) #[true, true, true, true, true, true, true, true, true, true, true, true, true, true, true, true, true, true, true, true, true, true, true, true, true, true, true, true, true, true, true, true, true, true, true, true, true, true, true, true, true, true, true, true, true, true, false] rfl rfl (by kernel_rfl) (fun _ _ _ h => h) (Or.inl ⟨by rfl, ?_⟩) ?_ ?_
        rotate_left
        · intro w'
          go_simp
          (try with_reducible rfl)
        rotate_left
        · simp only [Act.put, List.setIfInBounds_toArray, List.set_cons_zero, List.set_cons_succ]
          rfl
        refine pure_ (i := 46) (N := some 6) (v := ?_) (a' := ?_) #[true, true, true, true, true, true, true, true, true, true, true, true, true, true, true, true, true, true, true, true, true, true, true, true, true, true, true, true, true, true, true, true, true, true, true, true, true, true, true, true, true, true, true, true, true, true, true] rfl rfl (by kernel_rfl) (fun _ _ _ h => h) (Or.inl ⟨by rfl, ?_⟩) ?_ ?_
        rotate_left
        · intro w'
          go_simp
          (try with_reducible rfl)
        rotate_left
        · simp only [Act.put, List.setIfInBounds_toArray, List.set_cons_zero, List.set_cons_succ]
          rfl
        refine wpAnyLast_done (by kernel_rfl) ?_ _
        go_wp2_with fail
        go_ret
        exact ⟨by first | rfl | simp, by first | exact below_then BZ.out BZ.out.size hq | exact below_then BZ.out BZ.out.size (below_drew hq) | exact below_then BZ.out BZ.out.size (below_drew (below_drew hq))⟩
      have ky : (convert 31 9 (.slice A6 n6 c6)).run Try.prog wN = .ok (.string S1) wN := (by rw [HS1.out]; exact str_of HE6.out)
      go_simp
      refine hK.out _ _ ?_ (fun hHeld2 => ?_)
      · (try dsimp only)
        first | with_reducible exact hHeld | exact ⟨pw_cell_below hq a0, pw_cell_below hq a1, pw_cell_below hq a2, pw_cell_below hq a3, pw_cell_below hq a4, pw_cell_below hq a5, pw_cell_below hq a6, pw_cell_below hq b0, pw_cell_below hq b1, pw_cell_below hq b2, pw_cell_below hq b3, pw_cell_below hq b4, pw_cell_below hq b5, pw_cell_below hq b6, pw_cell_below hq d0, pw_cell_below hq d1, pw_cell_below hq d2, pw_cell_below hq d3, pw_cell_below hq d4, pw_cell_below hq d5, pw_cell_below hq d6, pw_cell_below hq j0, pw_cell_below hq j1, pw_cell_below hq j2, pw_cell_below hq j3, pw_cell_below hq j4, pw_cell_below hq j5, pw_cell_below hq j6⟩
      clear hHeld hK K
      have hHeld := hHeld2
      clear hHeld2
      try simp only [Act.put, List.setIfInBounds_toArray, List.set_cons_zero, List.set_cons_succ]
      refine one_ (i := 28) (N := some 62) #[true, true, true, true, true, true, true, true, true, true, true, true, true, true, true, true, true, true, true, true, true, true, true, true, true, true, true, true, true, true, true, true, true, false, false, false, false, false, false, false, false, false, false, false, false, false, false] rfl rfl (by kernel_rfl) (by decide) (fun K hK => ?_)
      have kx : (convert 31 9 (.slice A5 n5 c5)).run Try.prog wN = .ok (.string S1) wN := (by rw [HS1.out]; exact str_of HE5.out)
      go_simp
      refine hK.out _ _ ?_ (fun hHeld2 => ?_)
      · (try dsimp only)
        first | with_reducible exact hHeld | exact ⟨pw_cell_below hq a0, pw_cell_below hq a1, pw_cell_below hq a2, pw_cell_below hq a3, pw_cell_below hq a4, pw_cell_below hq a5, pw_cell_below hq a6, pw_cell_below hq b0, pw_cell_below hq b1, pw_cell_below hq b2, pw_cell_below hq b3, pw_cell_below hq b4, pw_cell_below hq b5, pw_cell_below hq b6, pw_cell_below hq d0, pw_cell_below hq d1, pw_cell_below hq d2, pw_cell_below hq d3, pw_cell_below hq d4, pw_cell_below hq d5, pw_cell_below hq d6, pw_cell_below hq j0, pw_cell_below hq j1, pw_cell_below hq j2, pw_cell_below hq j3, pw_cell_below hq j4, pw_cell_below hq j5, pw_cell_below hq j6⟩
      clear hHeld hK K
      have hHeld := hHeld2
      clear hHeld2
      try simp only [Act.put, List.setIfInBounds_toArray, List.set_cons_zero, List.set_cons_succ]
      refine pure_ (i := 33) (N := some 67) (v := ?_) (a' := ?_) #[true, true, true, true, true, true, true, true, true, true, true, true, true, true, true, true, true, true, true, true, true, true, true, true, true, true, true, true, true, true, true, true, true, true, false, false, false, false, false, false, false, false, false, false, false, false, false] rfl rfl (by kernel_rfl) (fun _ _ _ h => h) (Or.inl ⟨by rfl, ?_⟩) ?_ ?_
      rotate_left
      · intro w'
        go_simp
        (try with_reducible rfl)
      rotate_left
      · simp only [Act.put, List.setIfInBounds_toArray, List.set_cons_zero, List.set_cons_succ]
        rfl
      refine pure_ (i := 34) (N := some 68) (v := ?_) (a' := ?_) #[true, true, true, true, true, true, true, true, true, true, true, true, true, true, true, true, true, true, true, true, true, true, true, true, true, true, true, true, true, true, true, true, true, true, true, false, false, false, false, false, false, false, false, false, false, false, false] rfl rfl (by kernel_rfl) (fun _ _ _ h => h) (Or.inl ⟨by rfl, ?_⟩) ?_ ?_
      rotate_left
      · intro w'
        go_simp
        (try with_reducible rfl)
      rotate_left
      · simp only [Act.put, List.setIfInBounds_toArray, List.set_cons_zero, List.set_cons_succ]
        rfl
      refine pure_ (i := 35) (N := some 69) (v := ?_) (a' := ?_) #[true, true, true, true, true, true, true, true, true, true, true, true, true, true, true, true, true, true, true, true, true, true, true, true, true, true, true, true, true, true, true, true, true, true, true, true, false, false, false, false, false, false, false, false, false, false, false] rfl rfl (by kernel_rfl) (fun _ _ _ h => h) (Or.inl ⟨by rfl, ?_⟩) ?_ ?_
      rotate_left
      · intro w'
        go_simp
        (try with_reducible rfl)
      rotate_left
      · simp only [Act.put, List.setIfInBounds_toArray, List.set_cons_zero, List.set_cons_succ]
        rfl
      refine take_ (i := 36) (N := some 70) (v := ?_) (a' := ?_) #[true, true, true, true, true, true, true, true, true, true, true, true, true, true, true, true, true, true, true, true, true, true, true, true, true, true, true, true, true, true, true, true, true, true, true, true, true, false, false, false, false, false, false, false, false, false, false] rfl rfl (by kernel_rfl) (fun _ _ _ h => h) (Or.inl ⟨by rfl, ?_⟩) hHeld ?_ ?_
      rotate_left
      · rintro w' ⟨s0, s1, s2, s3, s4, s5, s6, s7, s8, s9, s10, s11, s12, s13, s14, s15, s16, s17, s18, s19, s20, s21, s22, s23, s24, s25, s26, s27⟩
        go_simp
        (try with_reducible rfl)
      rotate_left
      · simp only [Act.put, List.setIfInBounds_toArray, List.set_cons_zero, List.set_cons_succ]
        rfl
      refine take_ (i := 37) (N := some 71) (v := ?_) (a' := ?_) #[true, true, true, true, true, true, true, true, true, true, true, true, true, true, true, true, true, true, true, true, true, true, true, true, true, true, true, true, true, true, true, true, true, true, true, true, true, true, false, false, false, false, false, false, false, false, false] rfl rfl (by kernel_rfl) (fun _ _ _ h => h) (Or.inl ⟨by rfl, ?_⟩) hHeld ?_ ?_
      rotate_left
      · rintro w' ⟨s0, s1, s2, s3, s4, s5, s6, s7, s8, s9, s10, s11, s12, s13, s14, s15, s16, s17, s18, s19, s20, s21, s22, s23, s24, s25, s26, s27⟩
        go_simp
        (try with_reducible rfl)
      rotate_left
      · simp only [Act.put, List.setIfInBounds_toArray, List.set_cons_zero, List.set_cons_succ]
        rfl
      refine take_ (i := 39) (N := some 73) (v := ?_) (a' := ?_) #[true, true, true, true, true, true, true, true, true, true, true, true, true, true, true, true, true, true, true, true, true, true, true, true, true, true, true, true, true, true, true, true, true, true, true, true, true, true, false, true, false, false, false, false, false, false, false] rfl rfl (by kernel_rfl) (fun _ _ _ h => h) (Or.inl ⟨by rfl, ?_⟩) hHeld ?_ ?_
      rotate_left
      · rintro w' ⟨s0, s1, s2, s3, s4, s5, s6, s7, s8, s9, s10, s11, s12, s13, s14, s15, s16, s17, s18, s19, s20, s21, s22, s23, s24, s25, s26, s27⟩
        go_simp
        (try with_reducible rfl)
      rotate_left
      · simp only [Act.put, List.setIfInBounds_toArray, List.set_cons_zero, List.set_cons_succ]
        rfl
      refine take_ (i := 41) (N := some 75) (v := ?_) (a' := ?_) #[true, true, true, true, true, true, true, true, true, true, true, true, true, true, true, true, true, true, true, true, true, true, true, true, true, true, true, true, true, true, true, true, true, true, true, true, true, true, false, true, false, true, false, false, false, false, false] rfl rfl (by kernel_rfl) (fun _ _ _ h => h) (Or.inl ⟨by rfl, ?_⟩) hHeld ?_ ?_
      rotate_left
      · rintro w' ⟨s0, s1, s2, s3, s4, s5, s6, s7, s8, s9, s10, s11, s12, s13, s14, s15, s16, s17, s18, s19, s20, s21, s22, s23, s24, s25, s26, s27⟩
        go_simp
        (try with_reducible rfl)
      rotate_left
      · simp only [Act.put, List.setIfInBounds_toArray, List.set_cons_zero, List.set_cons_succ]
        rfl
      refine one_ (i := 38) (N := some 72) #[true, true, true, true, true, true, true, true, true, true, true, true, true, true, true, true, true, true, true, true, true, true, true, true, true, true, true, true, true, true, true, true, true, true, true, true, true, true, true, true, false, true, false, false, false, false, false] rfl rfl (by kernel_rfl) (by decide) (fun K hK => ?_)
      go_simp
      refine (same_walk y z _ _ _ _ _ _ _ _ _ _ _ _ _ (by first | exact HY1.out.1.below hq | exact HY1.out.1.below (below_drew hq) | exact HY1.out.1.below (below_drew (below_drew hq))) (by first | exact HZ1.out.1.below hq | exact HZ1.out.1.below (below_drew hq) | exact HZ1.out.1.below (below_drew (below_drew hq))) (by first | exact HY1.out.2.below hq | exact HY1.out.2.below (below_drew hq) | exact HY1.out.2.below (below_drew (below_drew hq))) (by first | exact HZ1.out.2.below hq | exact HZ1.out.2.below (below_drew hq) | exact HZ1.out.2.below (below_drew (below_drew hq)))).mono ?_
      rintro e wN ⟨rfl, hbN⟩
      rw [HSB.out]
      have hq : Below wz.heap.size wz wN := (by first | exact below_then hq hq.size hbN | exact below_then (below_drew hq) (below_drew hq).size hbN | exact below_then (below_drew (below_drew hq)) (below_drew (below_drew hq)).size hbN)
      try go_wp2_with fail
      refine hK.out _ _ ?_ (fun hHeld2 => ?_)
      · (try dsimp only)
        first | with_reducible exact hHeld | exact ⟨pw_cell_below hq a0, pw_cell_below hq a1, pw_cell_below hq a2, pw_cell_below hq a3, pw_cell_below hq a4, pw_cell_below hq a5, pw_cell_below hq a6, pw_cell_below hq b0, pw_cell_below hq b1, pw_cell_below hq b2, pw_cell_below hq b3, pw_cell_below hq b4, pw_cell_below hq b5, pw_cell_below hq b6, pw_cell_below hq d0, pw_cell_below hq d1, pw_cell_below hq d2, pw_cell_below hq d3, pw_cell_below hq d4, pw_cell_below hq d5, pw_cell_below hq d6, pw_cell_below hq j0, pw_cell_below hq j1, pw_cell_below hq j2, pw_cell_below hq j3, pw_cell_below hq j4, pw_cell_below hq j5, pw_cell_below hq j6⟩
      clear hHeld hK K
      have hHeld := hHeld2
      clear hHeld2
      try simp only [Act.put, List.setIfInBounds_toArray, List.set_cons_zero, List.set_cons_succ]
      refine one_ (i := 40) (N := some 74) #[true, true, true, true, true, true, true, true, true, true, true, true, true, true, true, true, true, true, true, true, true, true, true, true, true, true, true, true, true, true, true, true, true, true, true, true, true, true, true, true, true, true, false, false, false, false, false] rfl rfl (by kernel_rfl) (by decide) (fun K hK => ?_)
      go_simp
      refine (mown_walk _ _ _ _ _ _ _ _ _ _ _ _).mono ?_
      rintro e wN ⟨rfl, hbN⟩
      have hq : Below wz.heap.size wz wN := (by first | exact below_then hq hq.size hbN | exact below_then (below_drew hq) (below_drew hq).size hbN | exact below_then (below_drew (below_drew hq)) (below_drew (below_drew hq)).size hbN)
      try go_wp2_with fail
      refine hK.out _ _ ?_ (fun hHeld2 => ?_)
      · (try dsimp only)
        first | with_reducible exact hHeld | exact ⟨pw_cell_below hq a0, pw_cell_below hq a1, pw_cell_below hq a2, pw_cell_below hq a3, pw_cell_below hq a4, pw_cell_below hq a5, pw_cell_below hq a6, pw_cell_below hq b0, pw_cell_below hq b1, pw_cell_below hq b2, pw_cell_below hq b3, pw_cell_below hq b4, pw_cell_below hq b5, pw_cell_below hq b6, pw_cell_below hq d0, pw_cell_below hq d1, pw_cell_below hq d2, pw_cell_below hq d3, pw_cell_below hq d4, pw_cell_below hq d5, pw_cell_below hq d6, pw_cell_below hq j0, pw_cell_below hq j1, pw_cell_below hq j2, pw_cell_below hq j3, pw_cell_below hq j4, pw_cell_below hq j5, pw_cell_below hq j6⟩
      clear hHeld hK K
      have hHeld := hHeld2
      clear hHeld2
      try simp only [Act.put, List.setIfInBounds_toArray, List.set_cons_zero, List.set_cons_succ]
      refine one_ (i := 42) (N := some 76) #[true, true, true, true, true, true, true, true, true, true, true, true, true, true, true, true, true, true, true, true, true, true, true, true, true, true, true, true, true, true, true, true, true, true, true, true, true, true, true, true, true, true, true, false, false, false, false] rfl rfl (by kernel_rfl) (by decide) (fun K hK => ?_)
      go_simp
      refine (mown_walk _ _ _ _ _ _ _ _ _ _ _ _).mono ?_
      rintro e wN ⟨rfl, hbN⟩
      have hq : Below wz.heap.size wz wN := (by first | exact below_then hq hq.size hbN | exact below_then (below_drew hq) (below_drew hq).size hbN | exact below_then (below_drew (below_drew hq)) (below_drew (below_drew hq)).size hbN)
      try go_wp2_with fail
      refine hK.out _ _ ?_ (fun hHeld2 => ?_)
      · (try dsimp only)
        first | with_reducible exact hHeld | exact ⟨pw_cell_below hq a0, pw_cell_below hq a1, pw_cell_below hq a2, pw_cell_below hq a3, pw_cell_below hq a4, pw_cell_below hq a5, pw_cell_below hq a6, pw_cell_below hq b0, pw_cell_below hq b1, pw_cell_below hq b2, pw_cell_below hq b3, pw_cell_below hq b4, pw_cell_below hq b5, pw_cell_below hq b6, pw_cell_below hq d0, pw_cell_below hq d1, pw_cell_below hq d2, pw_cell_below hq d3, pw_cell_below hq d4, pw_cell_below hq d5, pw_cell_below hq d6, pw_cell_below hq j0, pw_cell_below hq j1, pw_cell_below hq j2, pw_cell_below hq j3, pw_cell_below hq j4, pw_cell_below hq j5, pw_cell_below hq j6⟩
      clear hHeld hK K
      have hHeld := hHeld2
      clear hHeld2
      try simp only [Act.put, List.setIfInBounds_toArray, List.set_cons_zero, List.set_cons_succ]
      refine one_ (i := 43) (N := some 77) #[true, true, true, true, true, true, true, true, true, true, true, true, true, true, true, true, true, true, true, true, true, true, true, true, true, true, true, true, true, true, true, true, true, true, true, true, true, true, true, true, true, true, true, true, false, false, false] rfl rfl (by kernel_rfl) (by decide) (fun K hK => ?_)
      go_simp
      refine (rsame_walk y z _ _ _ _ _ _ _ _ _ _ _ _ _ (by first | exact HY1.out.1.below hq | exact HY1.out.1.below (below_drew hq) | exact HY1.out.1.below (below_drew (below_drew hq))) (by first | exact HZ1.out.1.below hq | exact HZ1.out.1.below (below_drew hq) | exact HZ1.out.1.below (below_drew (below_drew hq))) (by first | exact HY1.out.2.below hq | exact HY1.out.2.below (below_drew hq) | exact HY1.out.2.below (below_drew (below_drew hq))) (by first | exact HZ1.out.2.below hq | exact HZ1.out.2.below (below_drew hq) | exact HZ1.out.2.below (below_drew (below_drew hq)))).mono ?_
      rintro e wN ⟨rfl, hbN⟩
      rw [HSB.out]
      have hq : Below wz.heap.size wz wN := (by first | exact below_then hq hq.size hbN | exact below_then (below_drew hq) (below_drew hq).size hbN | exact below_then (below_drew (below_drew hq)) (below_drew (below_drew hq)).size hbN)
      try go_wp2_with fail
      refine hK.out _ _ ?_ (fun hHeld2 => ?_)
      · (try dsimp only)
        first | with_reducible exact hHeld | exact ⟨pw_cell_below hq a0, pw_cell_below hq a1, pw_cell_below hq a2, pw_cell_below hq a3, pw_cell_below hq a4, pw_cell_below hq a5, pw_cell_below hq a6, pw_cell_below hq b0, pw_cell_below hq b1, pw_cell_below hq b2, pw_cell_below hq b3, pw_cell_below hq b4, pw_cell_below hq b5, pw_cell_below hq b6, pw_cell_below hq d0, pw_cell_below hq d1, pw_cell_below hq d2, pw_cell_below hq d3, pw_cell_below hq d4, pw_cell_below hq d5, pw_cell_below hq d6, pw_cell_below hq j0, pw_cell_below hq j1, pw_cell_below hq j2, pw_cell_below hq j3, pw_cell_below hq j4, pw_cell_below hq j5, pw_cell_below hq j6⟩
      clear hHeld hK K
      have hHeld := hHeld2
      clear hHeld2
      try simp only [Act.put, List.setIfInBounds_toArray, List.set_cons_zero, List.set_cons_succ]
      refine pure_ (i := 44) (N := some 78) (v := ?_) (a' := ?_) #[true, true, true, true, true, true, true, true, true, true, true, true, true, true, true, true, true, true, true, true, true, true, true, true, true, true, true, true, true, true, true, true, true, true, true, true, true, true, true, true, true, true, true, true, true, false, false] rfl rfl (by kernel_rfl) (fun _ _ _ h => h) (Or.inl ⟨by rfl, ?_⟩) ?_ ?_
      rotate_left
      · intro w'
        go_simp
        (try with_reducible rfl)
      rotate_left
      · simp only [Act.put, List.setIfInBounds_toArray, List.set_cons_zero, List.set_cons_succ]
        rfl
      refine pure_ (i := 45) (N := some 79) (v := ?_) (a' := ?_) #[true, true, true, true, true, true, true, true, true, true, true, true, true, true, true, true, true, true, true, true, true, true, true, true, true, true, true, true, true, true, true, true, true, true, true, true, true, true, true, true, true, true, true, true, true, true, false] rfl rfl (by kernel_rfl) (fun _ _ _ h => h) (Or.inl ⟨by rfl, ?_⟩) ?_ ?_
      rotate_left
      · intro w'
        go_simp
        (try with_reducible rfl)
      rotate_left
      · simp only [Act.put, List.setIfInBounds_toArray, List.set_cons_zero, List.set_cons_succ]
        rfl
      refine pure_ (i := 46) (N := some 6) (v := ?_) (a' := ?_) #[true, true, true, true, true, true, true, true, true, true, true, true, true, true, true, true, true, true, true, true, true, true, true, true, true, true, true, true, true, true, true, true, true, true, true, true, true, true, true, true, true, true, true, true, true, true, true] rfl rfl (by kernel_rfl) (fun _ _ _ h => h) (Or.inl ⟨by rfl, ?_⟩) ?_ ?_
      rotate_left
      · intro w'
        go_simp
        (try with_reducible rfl)
      rotate_left
      · simp only [Act.put, List.setIfInBounds_toArray, List.set_cons_zero, List.set_cons_succ]
        rfl
      refine wpAnyLast_done (by kernel_rfl) ?_ _
      go_wp2_with fail
      go_ret
      exact ⟨by first | rfl | simp, by first | exact below_then BZ.out BZ.out.size hq | exact below_then BZ.out BZ.out.size (below_drew hq) | exact below_then BZ.out BZ.out.size (below_drew (below_drew hq))⟩
    · exact absurd ⟨x, HX.out⟩ hno
  · have HNO := Lib.hid hno
    obtain ⟨w4', hw4'⟩ : ∃ w4', w4' = w4.alloc (.cells (msC 0 0 0 0 0 (.slice none 0 0) (.slice none 0 0)) 27) := ⟨_, rfl⟩
    have HW4 := Lib.hid hw4'.symm
    have CR := Lib.hid (rget_walk A n c xs w4' (HL.out.below (by rw [hw4']; exact B4.out.alloc B4.out.size _)) HW.out (by omega) hc)
    clear hno hw4'
    go_wp2_with fail
    rw [HW4.out]
    refine CR.out.mono ?_
    rintro e w5 ⟨hE, hb5⟩
    rcases hE with ⟨x', hx', Ah, nh, ch, Bh, mh, dh, rfl, hh1, hh2⟩ | ⟨hno, rfl⟩
    · exact absurd ⟨x', hx'⟩ HNO.out
    · obtain ⟨wz, hwz⟩ : ∃ wz, wz = w5.alloc (.cells (msC 0 0 0 0 0 (.slice none 0 0) (.slice none 0 0)) 35) := ⟨_, rfl⟩
      clear hno
      have hbz : Below w4'.heap.size w4' wz := by rw [hwz]; exact hb5.alloc hb5.size _
      have b4 : Below w4.heap.size w4 wz := by rw [← HW4.out] at hbz; exact below_then (alloc_back _) (alloc_back _).size hbz
      have ZG : wz.heap[w4.heap.size]? = some (.cells (msC 0 0 0 0 0 (.slice none 0 0) (.slice none 0 0)) 27 (0, 0)) := heap_keep' hbz (by rw [← HW4.out]; exact heap_alloc_new _ _)
      have ZH : wz.heap[w5.heap.size]? = some (.cells (msC 0 0 0 0 0 (.slice none 0 0) (.slice none 0 0)) 35 (0, 0)) := by rw [hwz]; exact heap_alloc_new _ _
      have ZY := heap_keep' b4 Q4.out
      have ZZ := heap_keep' b4 P4.out
      have BZ := Lib.hid (below_then B4.out B4.out.size b4)
      have HY1 := Lib.hid (And.intro (HY.out.rd.below BZ.out) (HY.out.wd.below BZ.out))
      have HZ1 := Lib.hid (And.intro (HZ.out.rd.below BZ.out) (HZ.out.wd.below BZ.out))
      have RG := Lib.hid ((⟨reads_nil _ _, wides_nil _⟩ : ReadsInt wz .i64 none 0 mZ.n ∧ WidesAt wz none 0 mZ.w))
      have RH := Lib.hid ((⟨reads_nil _ _, wides_nil _⟩ : ReadsInt wz .i64 none 0 mZ.n ∧ WidesAt wz none 0 mZ.w))
      obtain ⟨a0, a1, a2, a3, a4, a5, a6⟩ := msC_cells ZG
      obtain ⟨b0, b1, b2, b3, bb4, b5, b6⟩ := msC_cells ZH
      obtain ⟨d0, d1, d2, d3, d4, d5, d6⟩ := msC_cells ZY
      obtain ⟨j0, j1, j2, j3, j4, j5, j6⟩ := msC_cells ZZ
      clear hbz b4 ZG ZH ZY ZZ hb5
      have b4 := bb4
      clear bb4
      go_wp2_with fail
      (first | rw [← hwz] | skip)
      clear hwz
      obtain ⟨gb, hgb⟩ : ∃ gb, gb = msB y.k y.f y.t n' m' := ⟨_, rfl⟩
      obtain ⟨sb, hsb⟩ : ∃ sb, sb = y.eqb z := ⟨_, rfl⟩
      obtain ⟨S1, hS1⟩ : ∃ S : ByteArray, S = strOfNums (putL y) := ⟨_, rfl⟩
      have HGB := Lib.hid hgb.symm; have HSB := Lib.hid hsb.symm; have HS1 := Lib.hid hS1
      clear hgb hsb hS1
      have hq : Below wz.heap.size wz wz := Below.refl _ _
      refine start_ (n := 47) (S := fun w' => w'.cell? ⟨w4.heap.size, 0, none⟩ = some (.int .i64 0) ∧ w'.cell? ⟨w4.heap.size, 1, none⟩ = some (.int .i64 0) ∧ w'.cell? ⟨w4.heap.size, 2, none⟩ = some (.int .i64 0) ∧ w'.cell? ⟨w4.heap.size, 3, none⟩ = some (.int .u32 0) ∧ w'.cell? ⟨w4.heap.size, 4, none⟩ = some (.int .u32 0) ∧ w'.cell? ⟨w4.heap.size, 5, none⟩ = some (.slice none 0 0) ∧ w'.cell? ⟨w4.heap.size, 6, none⟩ = some (.slice none 0 0) ∧ w'.cell? ⟨w5.heap.size, 0, none⟩ = some (.int .i64 0) ∧ w'.cell? ⟨w5.heap.size, 1, none⟩ = some (.int .i64 0) ∧ w'.cell? ⟨w5.heap.size, 2, none⟩ = some (.int .i64 0) ∧ w'.cell? ⟨w5.heap.size, 3, none⟩ = some (.int .u32 0) ∧ w'.cell? ⟨w5.heap.size, 4, none⟩ = some (.int .u32 0) ∧ w'.cell? ⟨w5.heap.size, 5, none⟩ = some (.slice none 0 0) ∧ w'.cell? ⟨w5.heap.size, 6, none⟩ = some (.slice none 0 0) ∧ w'.cell? ⟨W.heap.size, 0, none⟩ = some (.int .i64 y.k) ∧ w'.cell? ⟨W.heap.size, 1, none⟩ = some (.int .i64 y.f) ∧ w'.cell? ⟨W.heap.size, 2, none⟩ = some (.int .i64 y.t) ∧ w'.cell? ⟨W.heap.size, 3, none⟩ = some (.int .u32 y.v) ∧ w'.cell? ⟨W.heap.size, 4, none⟩ = some (.int .u32 y.s) ∧ w'.cell? ⟨W.heap.size, 5, none⟩ = some (.slice A' n' c') ∧ w'.cell? ⟨W.heap.size, 6, none⟩ = some (.slice B' m' d') ∧ w'.cell? ⟨W.heap.size + 1, 0, none⟩ = some (.int .i64 z.k) ∧ w'.cell? ⟨W.heap.size + 1, 1, none⟩ = some (.int .i64 z.f) ∧ w'.cell? ⟨W.heap.size + 1, 2, none⟩ = some (.int .i64 z.t) ∧ w'.cell? ⟨W.heap.size + 1, 3, none⟩ = some (.int .u32 z.v) ∧ w'.cell? ⟨W.heap.size + 1, 4, none⟩ = some (.int .u32 z.s) ∧ w'.cell? ⟨W.heap.size + 1, 5, none⟩ = some (.slice A2 n2 c2) ∧ w'.cell? ⟨W.heap.size + 1, 6, none⟩ = some (.slice B2 m2 dz)) (ds := []) #[false, false, false, false, false, false, false, false, false, false, false, false, false, false, false, false, false, false, false, false, false, false, false, false, false, false, false, false, false, false, false, false, false, false, false, false, false, false, false, false, false, false, false, false, false, false, false] (by kernel_rfl) rfl rfl (⟨a0, a1, a2, a3, a4, a5, a6, b0, b1, b2, b3, b4, b5, b6, d0, d1, d2, d3, d4, d5, d6, j0, j1, j2, j3, j4, j5, j6⟩) (fun hHeld => ?_)
      refine pure_ (i := 0) (N := some 34) (v := ?_) (a' := ?_) #[true, false, false, false, false, false, false, false, false, false, false, false, false, false, false, false, false, false, false, false, false, false, false, false, false, false, false, false, false, false, false, false, false, false, false, false, false, false, false, false, false, false, false, false, false, false, false] rfl rfl (by kernel_rfl) (fun _ _ _ h => h) (Or.inl ⟨by rfl, ?_⟩) ?_ ?_
      rotate_left
      · intro w'
        go_simp
        (try with_reducible rfl)
      rotate_left
      · simp only [Act.put, List.setIfInBounds_toArray, List.set_cons_zero, List.set_cons_succ]
        rfl
      refine pure_ (i := 1) (N := some 35) (v := ?_) (a' := ?_) #[true, true, false, false, false, false, false, false, false, false, false, false, false, false, false, false, false, false, false, false, false, false, false, false, false, false, false, false, false, false, false, false, false, false, false, false, false, false, false, false, false, false, false, false, false, false, false] rfl rfl (by kernel_rfl) (fun _ _ _ h => h) (Or.inl ⟨by rfl, ?_⟩) ?_ ?_
      rotate_left
      · intro w'
        go_simp
        (try with_reducible rfl)
      rotate_left
      · simp only [Act.put, List.setIfInBounds_toArray, List.set_cons_zero, List.set_cons_succ]
        rfl
      refine pure_ (i := 2) (N := some 36) (v := ?_) (a' := ?_) #[true, true, true, false, false, false, false, false, false, false, false, false, false, false, false, false, false, false, false, false, false, false, false, false, false, false, false, false, false, false, false, false, false, false, false, false, false, false, false, false, false, false, false, false, false, false, false] rfl rfl (by kernel_rfl) (fun _ _ _ h => h) (Or.inl ⟨by rfl, ?_⟩) ?_ ?_
      rotate_left
      · intro w'
        go_simp
        (try with_reducible rfl)
      rotate_left
      · simp only [Act.put, List.setIfInBounds_toArray, List.set_cons_zero, List.set_cons_succ]
        rfl
      refine pure_ (i := 3) (N := some 37) (v := ?_) (a' := ?_) #[true, true, true, true, false, false, false, false, false, false, false, false, false, false, false, false, false, false, false, false, false, false, false, false, false, false, false, false, false, false, false, false, false, false, false, false, false, false, false, false, false, false, false, false, false, false, false] rfl rfl (by kernel_rfl) (fun _ _ _ h => h) (Or.inl ⟨by rfl, ?_⟩) ?_ ?_
      rotate_left
      · intro w'
        go_simp
        (try with_reducible rfl)
      rotate_left
      · simp only [Act.put, List.setIfInBounds_toArray, List.set_cons_zero, List.set_cons_succ]
        rfl
      refine pure_ (i := 4) (N := some 38) (v := ?_) (a' := ?_) #[true, true, true, true, true, false, false, false, false, false, false, false, false, false, false, false, false, false, false, false, false, false, false, false, false, false, false, false, false, false, false, false, false, false, false, false, false, false, false, false, false, false, false, false, false, false, false] rfl rfl (by kernel_rfl) (fun _ _ _ h => h) (Or.inl ⟨by rfl, ?_⟩) ?_ ?_
      rotate_left
      · intro w'
        go_simp
        (try with_reducible rfl)
      rotate_left
      · simp only [Act.put, List.setIfInBounds_toArray, List.set_cons_zero, List.set_cons_succ]
        rfl
      refine pure_ (i := 5) (N := some 39) (v := ?_) (a' := ?_) #[true, true, true, true, true, true, false, false, false, false, false, false, false, false, false, false, false, false, false, false, false, false, false, false, false, false, false, false, false, false, false, false, false, false, false, false, false, false, false, false, false, false, false, false, false, false, false] rfl rfl (by kernel_rfl) (fun _ _ _ h => h) (Or.inl ⟨by rfl, ?_⟩) ?_ ?_
      rotate_left
      · intro w'
        go_simp
        (try with_reducible rfl)
      rotate_left
      · simp only [Act.put, List.setIfInBounds_toArray, List.set_cons_zero, List.set_cons_succ]
        rfl
      refine pure_ (i := 6) (N := some 40) (v := ?_) (a' := ?_) #[true, true, true, true, true, true, true, false, false, false, false, false, false, false, false, false, false, false, false, false, false, false, false, false, false, false, false, false, false, false, false, false, false, false, false, false, false, false, false, false, false, false, false, false, false, false, false] rfl rfl (by kernel_rfl) (fun _ _ _ h => h) (Or.inl ⟨by rfl, ?_⟩) ?_ ?_
      rotate_left
      · intro w'
        go_simp
        (try with_reducible rfl)
      rotate_left
      · simp only [Act.put, List.setIfInBounds_toArray, List.set_cons_zero, List.set_cons_succ]
        rfl
      refine pure_ (i := 7) (N := some 41) (v := ?_) (a' := ?_) #[true, true, true, true, true, true, true, true, false, false, false, false, false, false, false, false, false, false, false, false, false, false, false, false, false, false, false, false, false, false, false, false, false, false, false, false, false, false, false, false, false, false, false, false, false, false, false] rfl rfl (by kernel_rfl) (fun _ _ _ h => h) (Or.inl ⟨by rfl, ?_⟩) ?_ ?_
      rotate_left
      · intro w'
        go_simp
        (try with_reducible rfl)
      rotate_left
      · simp only [Act.put, List.setIfInBounds_toArray, List.set_cons_zero, List.set_cons_succ]
        rfl
      refine pure_ (i := 8) (N := some 42) (v := ?_) (a' := ?_) #[true, true, true, true, true, true, true, true, true, false, false, false, false, false, false, false, false, false, false, false, false, false, false, false, false, false, false, false, false, false, false, false, false, false, false, false, false, false, false, false, false, false, false, false, false, false, false] rfl rfl (by kernel_rfl) (fun _ _ _ h => h) (Or.inl ⟨by rfl, ?_⟩) ?_ ?_
      rotate_left
      · intro w'
        go_simp
        (try with_reducible rfl)
      rotate_left
      · simp only [Act.put, List.setIfInBounds_toArray, List.set_cons_zero, List.set_cons_succ]
        rfl
      refine pure_ (i := 9) (N := some 43) (v := ?_) (a' := ?_) #[true, true, true, true, true, true, true, true, true, true, false, false, false, false, false, false, false, false, false, false, false, false, false, false, false, false, false, false, false, false, false, false, false, false, false, false, false, false, false, false, false, false, false, false, false, false, false] rfl rfl (by kernel_rfl) (fun _ _ _ h => h) (Or.inl ⟨by rfl, ?_⟩) ?_ ?_
      rotate_left
      · intro w'
        go_simp
        (try with_reducible rfl)
      rotate_left
      · simp only [Act.put, List.setIfInBounds_toArray, List.set_cons_zero, List.set_cons_succ]
        rfl
      refine pure_ (i := 10) (N := some 44) (v := ?_) (a' := ?_) #[true, true, true, true, true, true, true, true, true, true, true, false, false, false, false, false, false, false, false, false, false, false, false, false, false, false, false, false, false, false, false, false, false, false, false, false, false, false, false, false, false, false, false, false, false, false, false] rfl rfl (by kernel_rfl) (fun _ _ _ h => h) (Or.inl ⟨by rfl, ?_⟩) ?_ ?_
      rotate_left
      · intro w'
        go_simp
        (try with_reducible rfl)
      rotate_left
      · simp only [Act.put, List.setIfInBounds_toArray, List.set_cons_zero, List.set_cons_succ]
        rfl
      refine pure_ (i := 11) (N := some 45) (v := ?_) (a' := ?_) #[true, true, true, true, true, true, true, true, true, true, true, true, false, false, false, false, false, false, false, false, false, false, false, false, false, false, false, false, false, false, false, false, false, false, false, false, false, false, false, false, false, false, false, false, false, false, false] rfl rfl (by kernel_rfl) (fun _ _ _ h => h) (Or.inl ⟨by rfl, ?_⟩) ?_ ?_
      rotate_left
      · intro w'
        go_simp
        (try with_reducible rfl)
      rotate_left
      · simp only [Act.put, List.setIfInBounds_toArray, List.set_cons_zero, List.set_cons_succ]
        rfl
      refine take_ (i := 12) (N := some 46) (v := ?_) (a' := ?_) #[true, true, true, true, true, true, true, true, true, true, true, true, true, false, false, false, false, false, false, false, false, false, false, false, false, false, false, false, false, false, false, false, false, false, false, false, false, false, false, false, false, false, false, false, false, false, false] rfl rfl (by kernel_rfl) (fun _ _ _ h => h) (Or.inl ⟨by rfl, ?_⟩) hHeld ?_ ?_
      rotate_left
      · rintro w' ⟨s0, s1, s2, s3, s4, s5, s6, s7, s8, s9, s10, s11, s12, s13, s14, s15, s16, s17, s18, s19, s20, s21, s22, s23, s24, s25, s26, s27⟩
        go_simp
        (try with_reducible rfl)
      rotate_left
      · simp only [Act.put, List.setIfInBounds_toArray, List.set_cons_zero, List.set_cons_succ]
        rfl
      refine take_ (i := 14) (N := some 48) (v := ?_) (a' := ?_) #[true, true, true, true, true, true, true, true, true, true, true, true, true, false, true, false, false, false, false, false, false, false, false, false, false, false, false, false, false, false, false, false, false, false, false, false, false, false, false, false, false, false, false, false, false, false, false] rfl rfl (by kernel_rfl) (fun _ _ _ h => h) (Or.inl ⟨by rfl, ?_⟩) hHeld ?_ ?_
      rotate_left
      · rintro w' ⟨s0, s1, s2, s3, s4, s5, s6, s7, s8, s9, s10, s11, s12, s13, s14, s15, s16, s17, s18, s19, s20, s21, s22, s23, s24, s25, s26, s27⟩
        go_simp
        (try with_reducible rfl)
      rotate_left
      · simp only [Act.put, List.setIfInBounds_toArray, List.set_cons_zero, List.set_cons_succ]
        rfl
      refine one_ (i := 13) (N := some 47) #[true, true, true, true, true, true, true, true, true, true, true, true, true, true, true, false, false, false, false, false, false, false, false, false, false, false, false, false, false, false, false, false, false, false, false, false, false, false, false, false, false, false, false, false, false, false, false] rfl rfl (by kernel_rfl) (by decide) (fun K hK => ?_)
      go_simp
      refine (mown_walk _ _ _ _ _ _ _ _ _ _ _ _).mono ?_
      rintro e wN ⟨rfl, hbN⟩
      have hq : Below wz.heap.size wz wN := (by first | exact below_then hq hq.size hbN | exact below_then (below_drew hq) (below_drew hq).size hbN | exact below_then (below_drew (below_drew hq)) (below_drew (below_drew hq)).size hbN)
      try go_wp2_with fail
      refine hK.out _ _ ?_ (fun hHeld2 => ?_)
      · (try dsimp only)
        first | with_reducible exact hHeld | exact ⟨pw_cell_below hq a0, pw_cell_below hq a1, pw_cell_below hq a2, pw_cell_below hq a3, pw_cell_below hq a4, pw_cell_below hq a5, pw_cell_below hq a6, pw_cell_below hq b0, pw_cell_below hq b1, pw_cell_below hq b2, pw_cell_below hq b3, pw_cell_below hq b4, pw_cell_below hq b5, pw_cell_below hq b6, pw_cell_below hq d0, pw_cell_below hq d1, pw_cell_below hq d2, pw_cell_below hq d3, pw_cell_below hq d4, pw_cell_below hq d5, pw_cell_below hq d6, pw_cell_below hq j0, pw_cell_below hq j1, pw_cell_below hq j2, pw_cell_below hq j3, pw_cell_below hq j4, pw_cell_below hq j5, pw_cell_below hq j6⟩
      clear hHeld hK K
      have hHeld := hHeld2
      clear hHeld2
      try simp only [Act.put, List.setIfInBounds_toArray, List.set_cons_zero, List.set_cons_succ]
      refine one_ (i := 15) (N := some 49) #[true, true, true, true, true, true, true, true, true, true, true, true, true, true, true, true, false, false, false, false, false, false, false, false, false, false, false, false, false, false, false, false, false, false, false, false, false, false, false, false, false, false, false, false, false, false, false] rfl rfl (by kernel_rfl) (by decide) (fun K hK => ?_)
      go_simp
      refine (rsame_walk mZ mZ _ _ _ _ _ _ _ _ _ _ _ _ _ (by first | exact RG.out.1.below hq | exact RG.out.1.below (below_drew hq) | exact RG.out.1.below (below_drew (below_drew hq))) (by first | exact RH.out.1.below hq | exact RH.out.1.below (below_drew hq) | exact RH.out.1.below (below_drew (below_drew hq))) (by first | exact RG.out.2.below hq | exact RG.out.2.below (below_drew hq) | exact RG.out.2.below (below_drew (below_drew hq))) (by first | exact RH.out.2.below hq | exact RH.out.2.below (below_drew hq) | exact RH.out.2.below (below_drew (below_drew hq)))).mono ?_
      rintro e wN ⟨rfl, hbN⟩
      rw [meqb_self]
      have hq : Below wz.heap.size wz wN := (by first | exact below_then hq hq.size hbN | exact below_then (below_drew hq) (below_drew hq).size hbN | exact below_then (below_drew (below_drew hq)) (below_drew (below_drew hq)).size hbN)
      try go_wp2_with fail
      refine hK.out _ _ ?_ (fun hHeld2 => ?_)
      · (try dsimp only)
        first | with_reducible exact hHeld | exact ⟨pw_cell_below hq a0, pw_cell_below hq a1, pw_cell_below hq a2, pw_cell_below hq a3, pw_cell_below hq a4, pw_cell_below hq a5, pw_cell_below hq a6, pw_cell_below hq b0, pw_cell_below hq b1, pw_cell_below hq b2, pw_cell_below hq b3, pw_cell_below hq b4, pw_cell_below hq b5, pw_cell_below hq b6, pw_cell_below hq d0, pw_cell_below hq d1, pw_cell_below hq d2, pw_cell_below hq d3, pw_cell_below hq d4, pw_cell_below hq d5, pw_cell_below hq d6, pw_cell_below hq j0, pw_cell_below hq j1, pw_cell_below hq j2, pw_cell_below hq j3, pw_cell_below hq j4, pw_cell_below hq j5, pw_cell_below hq j6⟩
      clear hHeld hK K
      have hHeld := hHeld2
      clear hHeld2
      try simp only [Act.put, List.setIfInBounds_toArray, List.set_cons_zero, List.set_cons_succ]
      refine pure_ (i := 16) (N := some 50) (v := ?_) (a' := ?_) #[true, true, true, true, true, true, true, true, true, true, true, true, true, true, true, true, true, false, false, false, false, false, false, false, false, false, false, false, false, false, false, false, false, false, false, false, false, false, false, false, false, false, false, false, false, false, false] rfl rfl (by kernel_rfl) (fun _ _ _ h => h) (Or.inl ⟨by rfl, ?_⟩) ?_ ?_
      rotate_left
      · intro w'
        go_simp
        (try with_reducible rfl)
      rotate_left
      · simp only [Act.put, List.setIfInBounds_toArray, List.set_cons_zero, List.set_cons_succ]
        rfl
      refine pure_ (i := 17) (N := some 51) (v := ?_) (a' := ?_) #[true, true, true, true, true, true, true, true, true, true, true, true, true, true, true, true, true, true, false, false, false, false, false, false, false, false, false, false, false, false, false, false, false, false, false, false, false, false, false, false, false, false, false, false, false, false, false] rfl rfl (by kernel_rfl) (fun _ _ _ h => h) (Or.inl ⟨by rfl, ?_⟩) ?_ ?_
      rotate_left
      · intro w'
        go_simp
        (try with_reducible rfl)
      rotate_left
      · simp only [Act.put, List.setIfInBounds_toArray, List.set_cons_zero, List.set_cons_succ]
        rfl
      refine take_ (i := 18) (N := some 52) (v := ?_) (a' := ?_) #[true, true, true, true, true, true, true, true, true, true, true, true, true, true, true, true, true, true, true, false, false, false, false, false, false, false, false, false, false, false, false, false, false, false, false, false, false, false, false, false, false, false, false, false, false, false, false] rfl rfl (by kernel_rfl) (fun _ _ _ h => h) (Or.inl ⟨by rfl, ?_⟩) hHeld ?_ ?_
      rotate_left
      · rintro w' ⟨s0, s1, s2, s3, s4, s5, s6, s7, s8, s9, s10, s11, s12, s13, s14, s15, s16, s17, s18, s19, s20, s21, s22, s23, s24, s25, s26, s27⟩
        go_simp
        (try with_reducible rfl)
      rotate_left
      · simp only [Act.put, List.setIfInBounds_toArray, List.set_cons_zero, List.set_cons_succ]
        rfl
      refine take_ (i := 20) (N := some 54) (v := ?_) (a' := ?_) #[true, true, true, true, true, true, true, true, true, true, true, true, true, true, true, true, true, true, true, false, true, false, false, false, false, false, false, false, false, false, false, false, false, false, false, false, false, false, false, false, false, false, false, false, false, false, false] rfl rfl (by kernel_rfl) (fun _ _ _ h => h) (Or.inl ⟨by rfl, ?_⟩) hHeld ?_ ?_
      rotate_left
      · rintro w' ⟨s0, s1, s2, s3, s4, s5, s6, s7, s8, s9, s10, s11, s12, s13, s14, s15, s16, s17, s18, s19, s20, s21, s22, s23, s24, s25, s26, s27⟩
        go_simp
        (try with_reducible rfl)
      rotate_left
      · simp only [Act.put, List.setIfInBounds_toArray, List.set_cons_zero, List.set_cons_succ]
        rfl
      refine one_ (i := 19) (N := some 53) #[true, true, true, true, true, true, true, true, true, true, true, true, true, true, true, true, true, true, true, true, true, false, false, false, false, false, false, false, false, false, false, false, false, false, false, false, false, false, false, false, false, false, false, false, false, false, false] rfl rfl (by kernel_rfl) (by decide) (fun K hK => ?_)
      go_simp
      refine (mgood_walk _ _ _ _ _ _ _ _ _ _ _ (by omega) (by omega) _).mono ?_
      rintro e wN ⟨rfl, hbN⟩
      rw [HGB.out]
      have hq : Below wz.heap.size wz wN := (by first | exact below_then hq hq.size hbN | exact below_then (below_drew hq) (below_drew hq).size hbN | exact below_then (below_drew (below_drew hq)) (below_drew (below_drew hq)).size hbN)
      try go_wp2_with fail
      refine hK.out _ _ ?_ (fun hHeld2 => ?_)
      · (try dsimp only)
        first | with_reducible exact hHeld | exact ⟨pw_cell_below hq a0, pw_cell_below hq a1, pw_cell_below hq a2, pw_cell_below hq a3, pw_cell_below hq a4, pw_cell_below hq a5, pw_cell_below hq a6, pw_cell_below hq b0, pw_cell_below hq b1, pw_cell_below hq b2, pw_cell_below hq b3, pw_cell_below hq b4, pw_cell_below hq b5, pw_cell_below hq b6, pw_cell_below hq d0, pw_cell_below hq d1, pw_cell_below hq d2, pw_cell_below hq d3, pw_cell_below hq d4, pw_cell_below hq d5, pw_cell_below hq d6, pw_cell_below hq j0, pw_cell_below hq j1, pw_cell_below hq j2, pw_cell_below hq j3, pw_cell_below hq j4, pw_cell_below hq j5, pw_cell_below hq j6⟩
      clear hHeld hK K
      have hHeld := hHeld2
      clear hHeld2
      try simp only [Act.put, List.setIfInBounds_toArray, List.set_cons_zero, List.set_cons_succ]
      refine one_ (i := 21) (N := some 55) #[true, true, true, true, true, true, true, true, true, true, true, true, true, true, true, true, true, true, true, true, true, true, false, false, false, false, false, false, false, false, false, false, false, false, false, false, false, false, false, false, false, false, false, false, false, false, false] rfl rfl (by kernel_rfl) (by decide) (fun K hK => ?_)
      go_simp
      refine (mown_walk _ _ _ _ _ _ _ _ _ _ _ _).mono ?_
      rintro e wN ⟨rfl, hbN⟩
      have hq : Below wz.heap.size wz wN := (by first | exact below_then hq hq.size hbN | exact below_then (below_drew hq) (below_drew hq).size hbN | exact below_then (below_drew (below_drew hq)) (below_drew (below_drew hq)).size hbN)
      try go_wp2_with fail
      refine hK.out _ _ ?_ (fun hHeld2 => ?_)
      · (try dsimp only)
        first | with_reducible exact hHeld | exact ⟨pw_cell_below hq a0, pw_cell_below hq a1, pw_cell_below hq a2, pw_cell_below hq a3, pw_cell_below hq a4, pw_cell_below hq a5, pw_cell_below hq a6, pw_cell_below hq b0, pw_cell_below hq b1, pw_cell_below hq b2, pw_cell_below hq b3, pw_cell_below hq b4, pw_cell_below hq b5, pw_cell_below hq b6, pw_cell_below hq d0, pw_cell_below hq d1, pw_cell_below hq d2, pw_cell_below hq d3, pw_cell_below hq d4, pw_cell_below hq d5, pw_cell_below hq d6, pw_cell_below hq j0, pw_cell_below hq j1, pw_cell_below hq j2, pw_cell_below hq j3, pw_cell_below hq j4, pw_cell_below hq j5, pw_cell_below hq j6⟩
      clear hHeld hK K
      have hHeld := hHeld2
      clear hHeld2
      try simp only [Act.put, List.setIfInBounds_toArray, List.set_cons_zero, List.set_cons_succ]
      refine one_ (i := 22) (N := some 56) #[true, true, true, true, true, true, true, true, true, true, true, true, true, true, true, true, true, true, true, true, true, true, true, false, false, false, false, false, false, false, false, false, false, false, false, false, false, false, false, false, false, false, false, false, false, false, false] rfl rfl (by kernel_rfl) (by decide) (fun K hK => ?_)
      go_simp
      refine (may_walk _ _ _ _ _ _ _ _ _ _ _ (by omega) (by omega) _).mono ?_
      rintro e wN ⟨rfl, hbN⟩
      rw [HGB.out]
      have hq : Below wz.heap.size wz wN := (by first | exact below_then hq hq.size hbN | exact below_then (below_drew hq) (below_drew hq).size hbN | exact below_then (below_drew (below_drew hq)) (below_drew (below_drew hq)).size hbN)
      try go_wp2_with fail
      refine hK.out _ _ ?_ (fun hHeld2 => ?_)
      · (try dsimp only)
        first | with_reducible exact hHeld | exact ⟨pw_cell_below hq a0, pw_cell_below hq a1, pw_cell_below hq a2, pw_cell_below hq a3, pw_cell_below hq a4, pw_cell_below hq a5, pw_cell_below hq a6, pw_cell_below hq b0, pw_cell_below hq b1, pw_cell_below hq b2, pw_cell_below hq b3, pw_cell_below hq b4, pw_cell_below hq b5, pw_cell_below hq b6, pw_cell_below hq d0, pw_cell_below hq d1, pw_cell_below hq d2, pw_cell_below hq d3, pw_cell_below hq d4, pw_cell_below hq d5, pw_cell_below hq d6, pw_cell_below hq j0, pw_cell_below hq j1, pw_cell_below hq j2, pw_cell_below hq j3, pw_cell_below hq j4, pw_cell_below hq j5, pw_cell_below hq j6⟩
      clear hHeld hK K
      have hHeld := hHeld2
      clear hHeld2
      try simp only [Act.put, List.setIfInBounds_toArray, List.set_cons_zero, List.set_cons_succ]
      refine pure_ (i := 23) (N := some 57) (v := ?_) (a' := ?_) #[true, true, true, true, true, true, true, true, true, true, true, true, true, true, true, true, true, true, true, true, true, true, true, true, false, false, false, false, false, false, false, false, false, false, false, false, false, false, false, false, false, false, false, false, false, false, false] rfl rfl (by kernel_rfl) (fun _ _ _ h => h) (Or.inl ⟨by rfl, ?_⟩) ?_ ?_
      rotate_left
      · intro w'
        go_simp
        (try with_reducible rfl)
      rotate_left
      · simp only [Act.put, List.setIfInBounds_toArray, List.set_cons_zero, List.set_cons_succ]
        rfl
      refine pure_ (i := 24) (N := some 58) (v := ?_) (a' := ?_) #[true, true, true, true, true, true, true, true, true, true, true, true, true, true, true, true, true, true, true, true, true, true, true, true, true, false, false, false, false, false, false, false, false, false, false, false, false, false, false, false, false, false, false, false, false, false, false] rfl rfl (by kernel_rfl) (fun _ _ _ h => h) (Or.inl ⟨by rfl, ?_⟩) ?_ ?_
      rotate_left
      · intro w'
        go_simp
        (try with_reducible rfl)
      rotate_left
      · simp only [Act.put, List.setIfInBounds_toArray, List.set_cons_zero, List.set_cons_succ]
        rfl
      refine pure_ (i := 25) (N := some 59) (v := ?_) (a' := ?_) #[true, true, true, true, true, true, true, true, true, true, true, true, true, true, true, true, true, true, true, true, true, true, true, true, true, true, false, false, false, false, false, false, false, false, false, false, false, false, false, false, false, false, false, false, false, false, false] rfl rfl (by kernel_rfl) (fun _ _ _ h => h) (Or.inl ⟨by rfl, ?_⟩) ?_ ?_
      rotate_left
      · intro w'
        go_simp
        (try with_reducible rfl)
      rotate_left
      · simp only [Act.put, List.setIfInBounds_toArray, List.set_cons_zero, List.set_cons_succ]
        rfl
      refine take_ (i := 26) (N := some 60) (v := ?_) (a' := ?_) #[true, true, true, true, true, true, true, true, true, true, true, true, true, true, true, true, true, true, true, true, true, true, true, true, true, true, true, false, false, false, false, false, false, false, false, false, false, false, false, false, false, false, false, false, false, false, false] rfl rfl (by kernel_rfl) (fun _ _ _ h => h) (Or.inl ⟨by rfl, ?_⟩) hHeld ?_ ?_
      rotate_left
      · rintro w' ⟨s0, s1, s2, s3, s4, s5, s6, s7, s8, s9, s10, s11, s12, s13, s14, s15, s16, s17, s18, s19, s20, s21, s22, s23, s24, s25, s26, s27⟩
        go_simp
        (try with_reducible rfl)
      rotate_left
      · simp only [Act.put, List.setIfInBounds_toArray, List.set_cons_zero, List.set_cons_succ]
        rfl
      refine take_ (i := 29) (N := some 63) (v := ?_) (a' := ?_) #[true, true, true, true, true, true, true, true, true, true, true, true, true, true, true, true, true, true, true, true, true, true, true, true, true, true, true, false, false, true, false, false, false, false, false, false, false, false, false, false, false, false, false, false, false, false, false] rfl rfl (by kernel_rfl) (fun _ _ _ h => h) (Or.inl ⟨by rfl, ?_⟩) hHeld ?_ ?_
      rotate_left
      · rintro w' ⟨s0, s1, s2, s3, s4, s5, s6, s7, s8, s9, s10, s11, s12, s13, s14, s15, s16, s17, s18, s19, s20, s21, s22, s23, s24, s25, s26, s27⟩
        go_simp
        (try with_reducible rfl)
      rotate_left
      · simp only [Act.put, List.setIfInBounds_toArray, List.set_cons_zero, List.set_cons_succ]
        rfl
      refine one_ (i := 27) (N := some 61) #[true, true, true, true, true, true, true, true, true, true, true, true, true, true, true, true, true, true, true, true, true, true, true, true, true, true, true, true, false, true, false, false, false, false, false, false, false, false, false, false, false, false, false, false, false, false, false] rfl rfl (by kernel_rfl) (by decide) (fun K hK => ?_)
      go_simp
      refine (mput_any y HY.out.wf A' B' n' c' m' d' _ (by first | exact HY1.out.1.below hq | exact HY1.out.1.below (below_drew hq) | exact HY1.out.1.below (below_drew (below_drew hq))) (by first | exact HY1.out.2.below hq | exact HY1.out.2.below (below_drew hq) | exact HY1.out.2.below (below_drew (below_drew hq))) (by omega) (by omega)).mono ?_
      rintro e wN ⟨A5, n5, c5, rfl, ho5, hbN⟩
      have hq : Below wz.heap.size wz wN := (by first | exact below_then hq hq.size hbN | exact below_then (below_drew hq) (below_drew hq).size hbN | exact below_then (below_drew (below_drew hq)) (below_drew (below_drew hq)).size hbN)
      have h5 := own_info ho5
      have HE5 := Lib.hid (show ReadsInt wN .u8 A5 n5 (putL y) from h5.2.2.2.1)
      clear ho5 h5
      try go_wp2_with fail
      refine hK.out _ _ ?_ (fun hHeld2 => ?_)
      · (try dsimp only)
        first | with_reducible exact hHeld | exact ⟨pw_cell_below hq a0, pw_cell_below hq a1, pw_cell_below hq a2, pw_cell_below hq a3, pw_cell_below hq a4, pw_cell_below hq a5, pw_cell_below hq a6, pw_cell_below hq b0, pw_cell_below hq b1, pw_cell_below hq b2, pw_cell_below hq b3, pw_cell_below hq b4, pw_cell_below hq b5, pw_cell_below hq b6, pw_cell_below hq d0, pw_cell_below hq d1, pw_cell_below hq d2, pw_cell_below hq d3, pw_cell_below hq d4, pw_cell_below hq d5, pw_cell_below hq d6, pw_cell_below hq j0, pw_cell_below hq j1, pw_cell_below hq j2, pw_cell_below hq j3, pw_cell_below hq j4, pw_cell_below hq j5, pw_cell_below hq j6⟩
      clear hHeld hK K
      have hHeld := hHeld2
      clear hHeld2
      try simp only [Act.put, List.setIfInBounds_toArray, List.set_cons_zero, List.set_cons_succ]
      refine two_ (i := 28) (j := 30) (Ni := some 62) (Nj := some 64) #[true, true, true, true, true, true, true, true, true, true, true, true, true, true, true, true, true, true, true, true, true, true, true, true, true, true, true, true, true, true, false, false, false, false, false, false, false, false, false, false, false, false, false, false, false, false, false] #[true, true, true, true, true, true, true, true, true, true, true, true, true, true, true, true, true, true, true, true, true, true, true, true, true, true, true, true, false, true, true, false, false, false, false, false, false, false, false, false, false, false, false, false, false, false, false] rfl rfl rfl rfl (by kernel_rfl) (by decide) (by decide) (fun K hK => ?_) (fun K hK => ?_)
      · skip
        have kx : (convert 31 9 (.slice A5 n5 c5)).run Try.prog wN = .ok (.string S1) wN := (by rw [HS1.out]; exact str_of HE5.out)
        go_simp
        refine hK.out _ _ ?_ (fun hHeld2 => ?_)
        · (try dsimp only)
          first | with_reducible exact hHeld | exact ⟨pw_cell_below hq a0, pw_cell_below hq a1, pw_cell_below hq a2, pw_cell_below hq a3, pw_cell_below hq a4, pw_cell_below hq a5, pw_cell_below hq a6, pw_cell_below hq b0, pw_cell_below hq b1, pw_cell_below hq b2, pw_cell_below hq b3, pw_cell_below hq b4, pw_cell_below hq b5, pw_cell_below hq b6, pw_cell_below hq d0, pw_cell_below hq d1, pw_cell_below hq d2, pw_cell_below hq d3, pw_cell_below hq d4, pw_cell_below hq d5, pw_cell_below hq d6, pw_cell_below hq j0, pw_cell_below hq j1, pw_cell_below hq j2, pw_cell_below hq j3, pw_cell_below hq j4, pw_cell_below hq j5, pw_cell_below hq j6⟩
        clear hHeld hK K
        have hHeld := hHeld2
        clear hHeld2
        try simp only [Act.put, List.setIfInBounds_toArray, List.set_cons_zero, List.set_cons_succ]
        refine one_ (i := 30) (N := some 64) #[true, true, true, true, true, true, true, true, true, true, true, true, true, true, true, true, true, true, true, true, true, true, true, true, true, true, true, true, true, true, true, false, false, false, false, false, false, false, false, false, false, false, false, false, false, false, false] rfl rfl (by kernel_rfl) (by decide) (fun K hK => ?_)
        go_simp
        refine (mown_walk _ _ _ _ _ _ _ _ _ _ _ _).mono ?_
        rintro e wN ⟨rfl, hbN⟩
        have hq : Below wz.heap.size wz wN := (by first | exact below_then hq hq.size hbN | exact below_then (below_drew hq) (below_drew hq).size hbN | exact below_then (below_drew (below_drew hq)) (below_drew (below_drew hq)).size hbN)
        have HE5 := Lib.hid (by first | exact HE5.out.below hbN | exact (rd_drew HE5.out).below hbN : ReadsInt wN .u8 A5 n5 (putL y))
        try go_wp2_with fail
        refine hK.out _ _ ?_ (fun hHeld2 => ?_)
        · (try dsimp only)
          first | with_reducible exact hHeld | exact ⟨pw_cell_below hq a0, pw_cell_below hq a1, pw_cell_below hq a2, pw_cell_below hq a3, pw_cell_below hq a4, pw_cell_below hq a5, pw_cell_below hq a6, pw_cell_below hq b0, pw_cell_below hq b1, pw_cell_below hq b2, pw_cell_below hq b3, pw_cell_below hq b4, pw_cell_below hq b5, pw_cell_below hq b6, pw_cell_below hq d0, pw_cell_below hq d1, pw_cell_below hq d2, pw_cell_below hq d3, pw_cell_below hq d4, pw_cell_below hq d5, pw_cell_below hq d6, pw_cell_below hq j0, pw_cell_below hq j1, pw_cell_below hq j2, pw_cell_below hq j3, pw_cell_below hq j4, pw_cell_below hq j5, pw_cell_below hq j6⟩
        clear hHeld hK K
        have hHeld := hHeld2
        clear hHeld2
        try simp only [Act.put, List.setIfInBounds_toArray, List.set_cons_zero, List.set_cons_succ]
        refine one_ (i := 31) (N := some 65) #[true, true, true, true, true, true, true, true, true, true, true, true, true, true, true, true, true, true, true, true, true, true, true, true, true, true, true, true, true, true, true, true, false, false, false, false, false, false, false, false, false, false, false, false, false, false, false] rfl rfl (by kernel_rfl) (by decide) (fun K hK => ?_)
        go_simp
        refine (rput_any y HY.out.wf A' B' n' c' m' d' _ (by first | exact HY1.out.1.below hq | exact HY1.out.1.below (below_drew hq) | exact HY1.out.1.below (below_drew (below_drew hq))) (by first | exact HY1.out.2.below hq | exact HY1.out.2.below (below_drew hq) | exact HY1.out.2.below (below_drew (below_drew hq))) (by omega) (by omega)).mono ?_
        rintro e wN ⟨A6, n6, c6, rfl, ho6, hbN⟩
        have hq : Below wz.heap.size wz wN := (by first | exact below_then hq hq.size hbN | exact below_then (below_drew hq) (below_drew hq).size hbN | exact below_then (below_drew (below_drew hq)) (below_drew (below_drew hq)).size hbN)
        have HE5 := Lib.hid (by first | exact HE5.out.below hbN | exact (rd_drew HE5.out).below hbN : ReadsInt wN .u8 A5 n5 (putL y))
        have h6 := own_info ho6
        have HE6 := Lib.hid (show ReadsInt wN .u8 A6 n6 (putL y) from h6.2.2.2.1)
        clear ho6 h6
        try go_wp2_with fail
        refine hK.out _ _ ?_ (fun hHeld2 => ?_)
        · (try dsimp only)
          first | with_reducible exact hHeld | exact ⟨pw_cell_below hq a0, pw_cell_below hq a1, pw_cell_below hq a2, pw_cell_below hq a3, pw_cell_below hq a4, pw_cell_below hq a5, pw_cell_below hq a6, pw_cell_below hq b0, pw_cell_below hq b1, pw_cell_below hq b2, pw_cell_below hq b3, pw_cell_below hq b4, pw_cell_below hq b5, pw_cell_below hq b6, pw_cell_below hq d0, pw_cell_below hq d1, pw_cell_below hq d2, pw_cell_below hq d3, pw_cell_below hq d4, pw_cell_below hq d5, pw_cell_below hq d6, pw_cell_below hq j0, pw_cell_below hq j1, pw_cell_below hq j2, pw_cell_below hq j3, pw_cell_below hq j4, pw_cell_below hq j5, pw_cell_below hq j6⟩
        clear hHeld hK K
        have hHeld := hHeld2
        clear hHeld2
        try simp only [Act.put, List.setIfInBounds_toArray, List.set_cons_zero, List.set_cons_succ]
        refine one_ (i := 32) (N := some 66) #[true, true, true, true, true, true, true, true, true, true, true, true, true, true, true, true, true, true, true, true, true, true, true, true, true, true, true, true, true, true, true, true, true, false, false, false, false, false, false, false, false, false, false, false, false, false, false] rfl rfl (by kernel_rfl) (by decide) (fun K hK => ?_)
        have ky : (convert 31 9 (.slice A6 n6 c6)).run Try.prog wN = .ok (.string S1) wN := (by rw [HS1.out]; exact str_of HE6.out)
        go_simp
        refine hK.out _ _ ?_ (fun hHeld2 => ?_)
        · (try dsimp only)
          first | with_reducible exact hHeld | exact ⟨pw_cell_below hq a0, pw_cell_below hq a1, pw_cell_below hq a2, pw_cell_below hq a3, pw_cell_below hq a4, pw_cell_below hq a5, pw_cell_below hq a6, pw_cell_below hq b0, pw_cell_below hq b1, pw_cell_below hq b2, pw_cell_below hq b3, pw_cell_below hq b4, pw_cell_below hq b5, pw_cell_below hq b6, pw_cell_below hq d0, pw_cell_below hq d1, pw_cell_below hq d2, pw_cell_below hq d3, pw_cell_below hq d4, pw_cell_below hq d5, pw_cell_below hq d6, pw_cell_below hq j0, pw_cell_below hq j1, pw_cell_below hq j2, pw_cell_below hq j3, pw_cell_below hq j4, pw_cell_below hq j5, pw_cell_below hq j6⟩
        clear hHeld hK K
        have hHeld := hHeld2
        clear hHeld2
        try simp only [Act.put, List.setIfInBounds_toArray, List.set_cons_zero, List.set_cons_succ]
        refine pure_ (i := 33) (N := some 67) (v := ?_) (a' := ?_) #[true, true, true, true, true, true, true, true, true, true, true, true, true, true, true, true, true, true, true, true, true, true, true, true, true, true, true, true, true, true, true, true, true, true, false, false, false, false, false, false, false, false, false, false, false, false, false] rfl rfl (by kernel_rfl) (fun _ _ _ h => h) (Or.inl ⟨by rfl, ?_⟩) ?_ ?_
        rotate_left
        · intro w'
          go_simp
          (try with_reducible rfl)
        rotate_left
        · simp only [Act.put, List.setIfInBounds_toArray, List.set_cons_zero, List.set_cons_succ]
          rfl
        refine pure_ (i := 34) (N := some 68) (v := ?_) (a' := ?_) #[true, true, true, true, true, true, true, true, true, true, true, true, true, true, true, true, true, true, true, true, true, true, true, true, true, true, true, true, true, true, true, true, true, true, true, false, false, false, false, false, false, false, false, false, false, false, false] rfl rfl (by kernel_rfl) (fun _ _ _ h => h) (Or.inl ⟨by rfl, ?_⟩) ?_ ?_
        rotate_left
        · intro w'
          go_simp
          (try with_reducible rfl)
        rotate_left
        · simp only [Act.put, List.setIfInBounds_toArray, List.set_cons_zero, List.set_cons_succ]
          rfl
        refine pure_ (i := 35) (N := some 69) (v := ?_) (a' := ?_) #[true, true, true, true, true, true, true, true, true, true, true, true, true, true, true, true, true, true, true, true, true, true, true, true, true, true, true, true, true, true, true, true, true, true, true, true, false, false, false, false, false, false, false, false, false, false, false] rfl rfl (by kernel_rfl) (fun _ _ _ h => h) (Or.inl ⟨by rfl, ?_⟩) ?_ ?_
        rotate_left
        · intro w'
          go_simp
          (try with_reducible rfl)
        rotate_left
        · simp only [Act.put, List.setIfInBounds_toArray, List.set_cons_zero, List.set_cons_succ]
          rfl
        refine take_ (i := 36) (N := some 70) (v := ?_) (a' := ?_) #[true, true, true, true, true, true, true, true, true, true, true, true, true, true, true, true, true, true, true, true, true, true, true, true, true, true, true, true, true, true, true, true, true, true, true, true, true, false, false, false, false, false, false, false, false, false, false] rfl rfl (by kernel_rfl) (fun _ _ _ h => h) (Or.inl ⟨by rfl, ?_⟩) hHeld ?_ ?_
        rotate_left
        · rintro w' ⟨s0, s1, s2, s3, s4, s5, s6, s7, s8, s9, s10, s11, s12, s13, s14, s15, s16, s17, s18, s19, s20, s21, s22, s23, s24, s25, s26, s27⟩
          go_simp
          (try with_reducible rfl)
        rotate_left
        · simp only [Act.put, List.setIfInBounds_toArray, List.set_cons_zero, List.set_cons_succ]
          rfl
        refine take_ (i := 37) (N := some 71) (v := ?_) (a' := ?_) #[true, true, true, true, true, true, true, true, true, true, true, true, true, true, true, true, true, true, true, true, true, true, true, true, true, true, true, true, true, true, true, true, true, true, true, true, true, true, false, false, false, false, false, false, false, false, false] rfl rfl (by kernel_rfl) (fun _ _ _ h => h) (Or.inl ⟨by rfl, ?_⟩) hHeld ?_ ?_
        rotate_left
        · rintro w' ⟨s0, s1, s2, s3, s4, s5, s6, s7, s8, s9, s10, s11, s12, s13, s14, s15, s16, s17, s18, s19, s20, s21, s22, s23, s24, s25, s26, s27⟩
          go_simp
          (try with_reducible rfl)
        rotate_left
        · simp only [Act.put, List.setIfInBounds_toArray, List.set_cons_zero, List.set_cons_succ]
          rfl
        refine take_ (i := 39) (N := some 73) (v := ?_) (a' := ?_) #[true, true, true, true, true, true, true, true, true, true, true, true, true, true, true, true, true, true, true, true, true, true, true, true, true, true, true, true, true, true, true, true, true, true, true, true, true, true, false, true, false, false, false, false, false, false, false] rfl rfl (by kernel_rfl) (fun _ _ _ h => h) (Or.inl ⟨by rfl, ?_⟩) hHeld ?_ ?_
        rotate_left
        · rintro w' ⟨s0, s1, s2, s3, s4, s5, s6, s7, s8, s9, s10, s11, s12, s13, s14, s15, s16, s17, s18, s19, s20, s21, s22, s23, s24, s25, s26, s27⟩
          go_simp
          (try with_reducible rfl)
        rotate_left
        · simp only [Act.put, List.setIfInBounds_toArray, List.set_cons_zero, List.set_cons_succ]
          rfl
        refine take_ (i := 41) (N := some 75) (v := ?_) (a' := ?_) #[true, true, true, true, true, true, true, true, true, true, true, true, true, true, true, true, true, true, true, true, true, true, true, true, true, true, true, true, true, true, true, true, true, true, true, true, true, true, false, true, false, true, false, false, false, false, false] rfl rfl (by kernel_rfl) (fun _ _ _ h => h) (Or.inl ⟨by rfl, ?_⟩) hHeld ?_ ?_
        rotate_left
        · rintro w' ⟨s0, s1, s2, s3, s4, s5, s6, s7, s8, s9, s10, s11, s12, s13, s14, s15, s16, s17, s18, s19, s20, s21, s22, s23, s24, s25, s26, s27⟩
          go_simp
          (try with_reducible rfl)
        rotate_left
        · simp only [Act.put, List.setIfInBounds_toArray, List.set_cons_zero, List.set_cons_succ]
          rfl
        refine one_ (i := 38) (N := some 72) #[true, true, true, true, true, true, true, true, true, true, true, true, true, true, true, true, true, true, true, true, true, true, true, true, true, true, true, true, true, true, true, true, true, true, true, true, true, true, true, true, false, true, false, false, false, false, false] rfl rfl (by kernel_rfl) (by decide) (fun K hK => ?_)
        go_simp
        refine (same_walk y z _ _ _ _ _ _ _ _ _ _ _ _ _ (by first | exact HY1.out.1.below hq | exact HY1.out.1.below (below_drew hq) | exact HY1.out.1.below (below_drew (below_drew hq))) (by first | exact HZ1.out.1.below hq | exact HZ1.out.1.below (below_drew hq) | exact HZ1.out.1.below (below_drew (below_drew hq))) (by first | exact HY1.out.2.below hq | exact HY1.out.2.below (below_drew hq) | exact HY1.out.2.below (below_drew (below_drew hq))) (by first | exact HZ1.out.2.below hq | exact HZ1.out.2.below (below_drew hq) | exact HZ1.out.2.below (below_drew (below_drew hq)))).mono ?_
        rintro e wN ⟨rfl, hbN⟩
        rw [HSB.out]
        have hq : Below wz.heap.size wz wN := (by first | exact below_then hq hq.size hbN | exact below_then (below_drew hq) (below_drew hq).size hbN | exact below_then (below_drew (below_drew hq)) (below_drew (below_drew hq)).size hbN)
        try go_wp2_with fail
        refine hK.out _ _ ?_ (fun hHeld2 => ?_)
        · (try dsimp only)
          first | with_reducible exact hHeld | exact ⟨pw_cell_below hq a0, pw_cell_below hq a1, pw_cell_below hq a2, pw_cell_below hq a3, pw_cell_below hq a4, pw_cell_below hq a5, pw_cell_below hq a6, pw_cell_below hq b0, pw_cell_below hq b1, pw_cell_below hq b2, pw_cell_below hq b3, pw_cell_below hq b4, pw_cell_below hq b5, pw_cell_below hq b6, pw_cell_below hq d0, pw_cell_below hq d1, pw_cell_below hq d2, pw_cell_below hq d3, pw_cell_below hq d4, pw_cell_below hq d5, pw_cell_below hq d6, pw_cell_below hq j0, pw_cell_below hq j1, pw_cell_below hq j2, pw_cell_below hq j3, pw_cell_below hq j4, pw_cell_below hq j5, pw_cell_below hq j6⟩
        clear hHeld hK K
        have hHeld := hHeld2
        clear hHeld2
        try simp only [Act.put, List.setIfInBounds_toArray, List.set_cons_zero, List.set_cons_succ]
        refine one_ (i := 40) (N := some 74) #[true, true, true, true, true, true, true, true, true, true, true, true, true, true, true, true, true, true, true, true, true, true, true, true, true, true, true, true, true, true, true, true, true, true, true, true, true, true, true, true, true, true, false, false, false, false, false] rfl rfl (by kernel_rfl) (by decide) (fun K hK => ?_)
        go_simp
        refine (mown_walk _ _ _ _ _ _ _ _ _ _ _ _).mono ?_
        rintro e wN ⟨rfl, hbN⟩
        have hq : Below wz.heap.size wz wN := (by first | exact below_then hq hq.size hbN | exact below_then (below_drew hq) (below_drew hq).size hbN | exact below_then (below_drew (below_drew hq)) (below_drew (below_drew hq)).size hbN)
        try go_wp2_with fail
        refine hK.out _ _ ?_ (fun hHeld2 => ?_)
        · (try dsimp only)
          first | with_reducible exact hHeld | exact ⟨pw_cell_below hq a0, pw_cell_below hq a1, pw_cell_below hq a2, pw_cell_below hq a3, pw_cell_below hq a4, pw_cell_below hq a5, pw_cell_below hq a6, pw_cell_below hq b0, pw_cell_below hq b1, pw_cell_below hq b2, pw_cell_below hq b3, pw_cell_below hq b4, pw_cell_below hq b5, pw_cell_below hq b6, pw_cell_below hq d0, pw_cell_below hq d1, pw_cell_below hq d2, pw_cell_below hq d3, pw_cell_below hq d4, pw_cell_below hq d5, pw_cell_below hq d6, pw_cell_below hq j0, pw_cell_below hq j1, pw_cell_below hq j2, pw_cell_below hq j3, pw_cell_below hq j4, pw_cell_below hq j5, pw_cell_below hq j6⟩
        clear hHeld hK K
        have hHeld := hHeld2
        clear hHeld2
        try simp only [Act.put, List.setIfInBounds_toArray, List.set_cons_zero, List.set_cons_succ]
        refine one_ (i := 42) (N := some 76) #[true, true, true, true, true, true, true, true, true, true, true, true, true, true, true, true, true, true, true, true, true, true, true, true, true, true, true, true, true, true, true, true, true, true, true, true, true, true, true, true, true, true, true, false, false, false, false] rfl rfl (by kernel_rfl) (by decide) (fun K hK => ?_)
        go_simp
        refine (mown_walk _ _ _ _ _ _ _ _ _ _ _ _).mono ?_
        rintro e wN ⟨rfl, hbN⟩
        have hq : Below wz.heap.size wz wN := (by first | exact below_then hq hq.size hbN | exact below_then (below_drew hq) (below_drew hq).size hbN | exact below_then (below_drew (below_drew hq)) (below_drew (below_drew hq)).size hbN)
        try go_wp2_with fail
        refine hK.out _ _ ?_ (fun hHeld2 => ?_)
        · (try dsimp only)
          first | with_reducible exact hHeld | exact ⟨pw_cell_below hq a0, pw_cell_below hq a1, pw_cell_below hq a2, pw_cell_below hq a3, pw_cell_below hq a4, pw_cell_below hq a5, pw_cell_below hq a6, pw_cell_below hq b0, pw_cell_below hq b1, pw_cell_below hq b2, pw_cell_below hq b3, pw_cell_below hq b4, pw_cell_below hq b5, pw_cell_below hq b6, pw_cell_below hq d0, pw_cell_below hq d1, pw_cell_below hq d2, pw_cell_below hq d3, pw_cell_below hq d4, pw_cell_below hq d5, pw_cell_below hq d6, pw_cell_below hq j0, pw_cell_below hq j1, pw_cell_below hq j2, pw_cell_below hq j3, pw_cell_below hq j4, pw_cell_below hq j5, pw_cell_below hq j6⟩
        clear hHeld hK K
        have hHeld := hHeld2
        clear hHeld2
        try simp only [Act.put, List.setIfInBounds_toArray, List.set_cons_zero, List.set_cons_succ]
        refine one_ (i := 43) (N := some 77) #[true, true, true, true, true, true, true, true, true, true, true, true, true, true, true, true, true, true, true, true, true, true, true, true, true, true, true, true, true, true, true, true, true, true, true, true, true, true, true, true, true, true, true, true, false, false, false] rfl rfl (by kernel_rfl) (by decide) (fun K hK => ?_)
        go_simp
        refine (rsame_walk y z _ _ _ _ _ _ _ _ _ _ _ _ _ (by first | exact HY1.out.1.below hq | exact HY1.out.1.below (below_drew hq) | exact HY1.out.1.below (below_drew (below_drew hq))) (by first | exact HZ1.out.1.below hq | exact HZ1.out.1.below (below_drew hq) | exact HZ1.out.1.below (below_drew (below_drew hq))) (by first | exact HY1.out.2.below hq | exact HY1.out.2.below (below_drew hq) | exact HY1.out.2.below (below_drew (below_drew hq))) (by first | exact HZ1.out.2.below hq | exact HZ1.out.2.below (below_drew hq) | exact HZ1.out.2.below (below_drew (below_drew hq)))).mono ?_
        rintro e wN ⟨rfl, hbN⟩
        rw [HSB.out]
        have hq : Below wz.heap.size wz wN := (by first | exact below_then hq hq.size hbN | exact below_then (below_drew hq) (below_drew hq).size hbN | exact below_then (below_drew (below_drew hq)) (below_drew (below_drew hq)).size hbN)
        try go_wp2_with fail
        refine hK.out _ _ ?_ (fun hHeld2 => ?_)
        · (try dsimp only)
          first | with_reducible exact hHeld | exact ⟨pw_cell_below hq a0, pw_cell_below hq a1, pw_cell_below hq a2, pw_cell_below hq a3, pw_cell_below hq a4, pw_cell_below hq a5, pw_cell_below hq a6, pw_cell_below hq b0, pw_cell_below hq b1, pw_cell_below hq b2, pw_cell_below hq b3, pw_cell_below hq b4, pw_cell_below hq b5, pw_cell_below hq b6, pw_cell_below hq d0, pw_cell_below hq d1, pw_cell_below hq d2, pw_cell_below hq d3, pw_cell_below hq d4, pw_cell_below hq d5, pw_cell_below hq d6, pw_cell_below hq j0, pw_cell_below hq j1, pw_cell_below hq j2, pw_cell_below hq j3, pw_cell_below hq j4, pw_cell_below hq j5, pw_cell_below hq j6⟩
        clear hHeld hK K
        have hHeld := hHeld2
        clear hHeld2
        try simp only [Act.put, List.setIfInBounds_toArray, List.set_cons_zero, List.set_cons_succ]
        refine pure_ (i := 44) (N := some 78) (v := ?_) (a' := ?_) #[true, true, true, true, true, true, true, true, true, true, true, true, true, true, true, true, true, true, true, true, true, true, true, true, true, true, true, true, true, true, true, true, true, true, true, true, true, true, true, true, true, true, true, true, true, false, false] rfl rfl (by kernel_rfl) (fun _ _ _ h => h) (Or.inl ⟨by rfl, ?_⟩) ?_ ?_
        rotate_left
        · intro w'
          go_simp
          (try with_reducible rfl)
        rotate_left
        · simp only [Act.put, List.setIfInBounds_toArray, List.set_cons_zero, List.set_cons_succ]
          rfl
        refine pure_ (i := 45) (N := some 79) (v := ?_) (a' := ?_) #[true, true, true, true, true, true, true, true, true, true, true, true, true, true, true, true, true, true, true, true, true, true, true, true, true, true, true, true, true, true, true, true, true, true, true, true, true, true, true, true, true, true, true, true, true, true, false] rfl rfl (by kernel_rfl) (fun _ _ _ h => h) (Or.inl ⟨by rfl, ?_⟩) ?_ ?_
        rotate_left
        · intro w'
          go_simp
          (try with_reducible rfl)
        rotate_left
        · simp only [Act.put, List.setIfInBounds_toArray, List.set_cons_zero, List.set_cons_succ]
          rfl
        refine pure_ (i := 46) (N := some 6) (v := ?_) (a' := ?_) #[true, true, true, true, true, true, true, true, true, true, true, true, true, true, true, true, true, true, true, true, true, true, true, true, true, true, true, true, true, true, true, true, true, true, true, true, true, true, true, true, true, true, true, true, true, true, true] rfl rfl (by kernel_rfl) (fun _ _ _ h => h) (Or.inl ⟨by rfl, ?_⟩) ?_ ?_
        rotate_left
        · intro w'
          go_simp
          (try with_reducible rfl)
        rotate_left
        · simp only [Act.put, List.setIfInBounds_toArray, List.set_cons_zero, List.set_cons_succ]
          rfl
        refine wpAnyLast_done (by kernel_rfl) ?_ _
        go_wp2_with fail
        go_ret
        exact ⟨by first | rfl | simp, by first | exact below_then BZ.out BZ.out.size hq | exact below_then BZ.out BZ.out.size (below_drew hq) | exact below_then BZ.out BZ.out.size (below_drew (below_drew hq))⟩
      go_simp
      refine (mown_walk _ _ _ _ _ _ _ _ _ _ _ _).mono ?_
      rintro e wN ⟨rfl, hbN⟩
      have hq : Below wz.heap.size wz wN := (by first | exact below_then hq hq.size hbN | exact below_then (below_drew hq) (below_drew hq).size hbN | exact below_then (below_drew (below_drew hq)) (below_drew (below_drew hq)).size hbN)
      have HE5 := Lib.hid (by first | exact HE5.out.below hbN | exact (rd_drew HE5.out).below hbN : ReadsInt wN .u8 A5 n5 (putL y))
      try go_wp2_with fail
      refine hK.out _ _ ?_ (fun hHeld2 => ?_)
      · (try dsimp only)
        first | with_reducible exact hHeld | exact ⟨pw_cell_below hq a0, pw_cell_below hq a1, pw_cell_below hq a2, pw_cell_below hq a3, pw_cell_below hq a4, pw_cell_below hq a5, pw_cell_below hq a6, pw_cell_below hq b0, pw_cell_below hq b1, pw_cell_below hq b2, pw_cell_below hq b3, pw_cell_below hq b4, pw_cell_below hq b5, pw_cell_below hq b6, pw_cell_below hq d0, pw_cell_below hq d1, pw_cell_below hq d2, pw_cell_below hq d3, pw_cell_below hq d4, pw_cell_below hq d5, pw_cell_below hq d6, pw_cell_below hq j0, pw_cell_below hq j1, pw_cell_below hq j2, pw_cell_below hq j3, pw_cell_below hq j4, pw_cell_below hq j5, pw_cell_below hq j6⟩
      clear hHeld hK K
      have hHeld := hHeld2
      clear hHeld2
      try simp only [Act.put, List.setIfInBounds_toArray, List.set_cons_zero, List.set_cons_succ]
      refine two_ (i := 28) (j := 31) (Ni := some 62) (Nj := some 65) #[true, true, true, true, true, true, true, true, true, true, true, true, true, true, true, true, true, true, true, true, true, true, true, true, true, true, true, true, true, true, true, false, false, false, false, false, false, false, false, false, false, false, false, false, false, false, false] #[true, true, true, true, true, true, true, true, true, true, true, true, true, true, true, true, true, true, true, true, true, true, true, true, true, true, true, true, false, true, true, true, false, false, false, false, false, false, false, false, false, false, false, false, false, false, false] rfl rfl rfl rfl (by kernel_rfl) (by decide) (by decide) (fun K hK => ?_) (fun K hK => ?_)
      · skip
        have kx : (convert 31 9 (.slice A5 n5 c5)).run Try.prog wN = .ok (.string S1) wN := (by rw [HS1.out]; exact str_of HE5.out)
        go_simp
        refine hK.out _ _ ?_ (fun hHeld2 => ?_)
        · (try dsimp only)
          first | with_reducible exact hHeld | exact ⟨pw_cell_below hq a0, pw_cell_below hq a1, pw_cell_below hq a2, pw_cell_below hq a3, pw_cell_below hq a4, pw_cell_below hq a5, pw_cell_below hq a6, pw_cell_below hq b0, pw_cell_below hq b1, pw_cell_below hq b2, pw_cell_below hq b3, pw_cell_below hq b4, pw_cell_below hq b5, pw_cell_below hq b6, pw_cell_below hq d0, pw_cell_below hq d1, pw_cell_below hq d2, pw_cell_below hq d3, pw_cell_below hq d4, pw_cell_below hq d5, pw_cell_below hq d6, pw_cell_below hq j0, pw_cell_below hq j1, pw_cell_below hq j2, pw_cell_below hq j3, pw_cell_below hq j4, pw_cell_below hq j5, pw_cell_below hq j6⟩
        clear hHeld hK K
        have hHeld := hHeld2
        clear hHeld2
        try simp only [Act.put, List.setIfInBounds_toArray, List.set_cons_zero, List.set_cons_succ]
        refine one_ (i := 31) (N := some 65) #[true, true, true, true, true, true, true, true, true, true, true, true, true, true, true, true, true, true, true, true, true, true, true, true, true, true, true, true, true, true, true, true, false, false, false, false, false, false, false, false, false, false, false, false, false, false, false] rfl rfl (by kernel_rfl) (by decide) (fun K hK => ?_)
        go_simp
        refine (rput_any y HY.out.wf A' B' n' c' m' d' _ (by first | exact HY1.out.1.below hq | exact HY1.out.1.below (below_drew hq) | exact HY1.out.1.below (below_drew (below_drew hq))) (by first | exact HY1.out.2.below hq | exact HY1.out.2.below (below_drew hq) | exact HY1.out.2.below (below_drew (below_drew hq))) (by omega) (by omega)).mono ?_
        rintro e wN ⟨A6, n6, c6, rfl, ho6, hbN⟩
        have hq : Below wz.heap.size wz wN := (by first | exact below_then hq hq.size hbN | exact below_then (below_drew hq) (below_drew hq).size hbN | exact below_then (below_drew (below_drew hq)) (below_drew (below_drew hq)).size hbN)
        have HE5 := Lib.hid (by first | exact HE5.out.below hbN | exact (rd_drew HE5.out).below hbN : ReadsInt wN .u8 A5 n5 (putL y))
        have h6 := own_info ho6
        have HE6 := Lib.hid (show ReadsInt wN .u8 A6 n6 (putL y) from h6.2.2.2.1)
        clear ho6 h6
        try go_wp2_with fail
        refine hK.out _ _ ?_ (fun hHeld2 => ?_)
        · (try dsimp only)
          first | with_reducible exact hHeld | exact ⟨pw_cell_below hq a0, pw_cell_below hq a1, pw_cell_below hq a2, pw_cell_below hq a3, pw_cell_below hq a4, pw_cell_below hq a5, pw_cell_below hq a6, pw_cell_below hq b0, pw_cell_below hq b1, pw_cell_below hq b2, pw_cell_below hq b3, pw_cell_below hq b4, pw_cell_below hq b5, pw_cell_below hq b6, pw_cell_below hq d0, pw_cell_below hq d1, pw_cell_below hq d2, pw_cell_below hq d3, pw_cell_below hq d4, pw_cell_below hq d5, pw_cell_below hq d6, pw_cell_below hq j0, pw_cell_below hq j1, pw_cell_below hq j2, pw_cell_below hq j3, pw_cell_below hq j4, pw_cell_below hq j5, pw_cell_below hq j6⟩
        clear hHeld hK K
        have hHeld := hHeld2
        clear hHeld2
        try simp only [Act.put, List.setIfInBounds_toArray, List.set_cons_zero, List.set_cons_succ]
        refine one_ (i := 32) (N := some 66) #[true, true, true, true, true, true, true, true, true, true, true, true, true, true, true, true, true, true, true, true, true, true, true, true, true, true, true, true, true, true, true, true, true, false, false, false, false, false, false, false, false, false, false, false, false, false, false] rfl rfl (by kernel_rfl) (by decide) (fun K hK => ?_)
        have ky : (convert 31 9 (.slice A6 n6 c6)).run Try.prog wN = .ok (.string S1) wN := (by rw [HS1.out]; exact str_of HE6.out)
        go_simp
        refine hK.out _ _ ?_ (fun hHeld2 => ?_)
        · (try dsimp only)
          first | with_reducible exact hHeld | exact ⟨pw_cell_below hq a0, pw_cell_below hq a1, pw_cell_below hq a2, pw_cell_below hq a3, pw_cell_below hq a4, pw_cell_below hq a5, pw_cell_below hq a6, pw_cell_below hq b0, pw_cell_below hq b1, pw_cell_below hq b2, pw_cell_below hq b3, pw_cell_below hq b4, pw_cell_below hq b5, pw_cell_below hq b6, pw_cell_below hq d0, pw_cell_below hq d1, pw_cell_below hq d2, pw_cell_below hq d3, pw_cell_below hq d4, pw_cell_below hq d5, pw_cell_below hq d6, pw_cell_below hq j0, pw_cell_below hq j1, pw_cell_below hq j2, pw_cell_below hq j3, pw_cell_below hq j4, pw_cell_below hq j5, pw_cell_below hq j6⟩
        clear hHeld hK K
        have hHeld := hHeld2
        clear hHeld2
        try simp only [Act.put, List.setIfInBounds_toArray, List.set_cons_zero, List.set_cons_succ]
        refine pure_ (i := 33) (N := some 67) (v := ?_) (a' := ?_) #[true, true, true, true, true, true, true, true, true, true, true, true, true, true, true, true, true, true, true, true, true, true, true, true, true, true, true, true, true, true, true, true, true, true, false, false, false, false, false, false, false, false, false, false, false, false, false] rfl rfl (by kernel_rfl) (fun _ _ _ h => h) (Or.inl ⟨by rfl, ?_⟩) ?_ ?_
        rotate_left
        · intro w'
          go_simp
          (try with_reducible rfl)
        rotate_left
        · simp only [Act.put, List.setIfInBounds_toArray, List.set_cons_zero, List.set_cons_succ]
          rfl
        refine pure_ (i := 34) (N := some 68) (v := ?_) (a' := ?_) #[true, true, true, true, true, true, true, true, true, true, true, true, true, true, true, true, true, true, true, true, true, true, true, true, true, true, true, true, true, true, true, true, true, true, true, false, false, false, false, false, false, false, false, false, false, false, false] rfl rfl (by kernel_rfl) (fun _ _ _ h => h) (Or.inl ⟨by rfl, ?_⟩) ?_ ?_
        rotate_left
        · intro w'
          go_simp
          (try with_reducible rfl)
        rotate_left
        · simp only [Act.put, List.setIfInBounds_toArray, List.set_cons_zero, List.set_cons_succ]
          rfl
        refine pure_ (i := 35) (N := some 69) (v := ?_) (a' := ?_) #[true, true, true, true, true, true, true, true, true, true, true, true, true, true, true, true, true, true, true, true, true, true, true, true, true, true, true, true, true, true, true, true, true, true, true, true, false, false, false, false, false, false, false, false, false, false, false] rfl rfl (by kernel_rfl) (fun _ _ _ h => h) (Or.inl ⟨by rfl, ?_⟩) ?_ ?_
        rotate_left
        · intro w'
          go_simp
          (try with_reducible rfl)
        rotate_left
        · simp only [Act.put, List.setIfInBounds_toArray, List.set_cons_zero, List.set_cons_succ]
          rfl
        refine take_ (i := 36) (N := some 70) (v := ?_) (a' := ?_) #[true, true, true, true, true, true, true, true, true, true, true, true, true, true, true, true, true, true, true, true, true, true, true, true, true, true, true, true, true, true, true, true, true, true, true, true, true, false, false, false, false, false, false, false, false, false, false] rfl rfl (by kernel_rfl) (fun _ _ _ h => h) (Or.inl ⟨by rfl, ?_⟩) hHeld ?_ ?_
        rotate_left
        · rintro w' ⟨s0, s1, s2, s3, s4, s5, s6, s7, s8, s9, s10, s11, s12, s13, s14, s15, s16, s17, s18, s19, s20, s21, s22, s23, s24, s25, s26, s27⟩
          go_simp
          (try with_reducible rfl)
        rotate_left
        · simp only [Act.put, List.setIfInBounds_toArray, List.set_cons_zero, List.set_cons_succ]
          rfl
        refine take_ (i := 37) (N := some 71) (v := ?_) (a' := ?_) #[true, true, true, true, true, true, true, true, true, true, true, true, true, true, true, true, true, true, true, true, true, true, true, true, true, true, true, true, true, true, true, true, true, true, true, true, true, true, false, false, false, false, false, false, false, false, false] rfl rfl (by kernel_rfl) (fun _ _ _ h => h) (Or.inl ⟨by rfl, ?_⟩) hHeld ?_ ?_
        rotate_left
        · rintro w' ⟨s0, s1, s2, s3, s4, s5, s6, s7, s8, s9, s10, s11, s12, s13, s14, s15, s16, s17, s18, s19, s20, s21, s22, s23, s24, s25, s26, s27⟩
          go_simp
          (try with_reducible rfl)
        rotate_left
        · simp only [Act.put, List.setIfInBounds_toArray, List.set_cons_zero, List.set_cons_succ]
          rfl
        refine take_ (i := 39) (N := some 73) (v := ?_) (a' := ?_) #[true, true, true, true, true, true, true, true, true, true, true, true, true, true, true, true, true, true, true, true, true, true, true, true, true, true, true, true, true, true, true, true, true, true, true, true, true, true, false, true, false, false, false, false, false, false, false] rfl rfl (by kernel_rfl) (fun _ _ _ h => h) (Or.inl ⟨by rfl, ?_⟩) hHeld ?_ ?_
        rotate_left
        · rintro w' ⟨s0, s1, s2, s3, s4, s5, s6, s7, s8, s9, s10, s11, s12, s13, s14, s15, s16, s17, s18, s19, s20, s21, s22, s23, s24, s25, s26, s27⟩
          go_simp
          (try with_reducible rfl)
        rotate_left
        · simp only [Act.put, List.setIfInBounds_toArray, List.set_cons_zero, List.set_cons_succ]
          rfl
        refine take_ (i := 41) (N := some 75) (v := ?_) (a' := ?_) #[true, true, true, true, true, true, true, true, true, true, true, true, true, true, true, true, true, true, true, true, true, true, true, true, true, true, true, true, true, true, true, true, true, true, true, true, true, true, false, true, false, true, false, false, false, false, false] rfl rfl (by kernel_rfl) (fun _ _ _ h => h) (Or.inl ⟨by rfl, ?_⟩) hHeld ?_ ?_
        rotate_left
        · rintro w' ⟨s0, s1, s2, s3, s4, s5, s6, s7, s8, s9, s10, s11, s12, s13, s14, s15, s16, s17, s18, s19, s20, s21, s22, s23, s24, s25, s26, s27⟩
          go_simp
          (try with_reducible rfl)
        rotate_left
        · simp only [Act.put, List.setIfInBounds_toArray, List.set_cons_zero, List.set_cons_succ]
          rfl
        refine one_ (i := 38) (N := some 72) #[true, true, true, true, true, true, true, true, true, true, true, true, true, true, true, true, true, true, true, true, true, true, true, true, true, true, true, true, true, true, true, true, true, true, true, true, true, true, true, true, false, true, false, false, false, false, false] rfl rfl (by kernel_rfl) (by decide) (fun K hK => ?_)
        go_simp
        refine (same_walk y z _ _ _ _ _ _ _ _ _ _ _ _ _ (by first | exact HY1.out.1.below hq | exact HY1.out.1.below (below_drew hq) | exact HY1.out.1.below (below_drew (below_drew hq))) (by first | exact HZ1.out.1.below hq | exact HZ1.out.1.below (below_drew hq) | exact HZ1.out.1.below (below_drew (below_drew hq))) (by first | exact HY1.out.2.below hq | exact HY1.out.2.below (below_drew hq) | exact HY1.out.2.below (below_drew (below_drew hq))) (by first | exact HZ1.out.2.below hq | exact HZ1.out.2.below (below_drew hq) | exact HZ1.out.2.below (below_drew (below_drew hq)))).mono ?_
        rintro e wN ⟨rfl, hbN⟩
        rw [HSB.out]
        have hq : Below wz.heap.size wz wN := (by first | exact below_then hq hq.size hbN | exact below_then (below_drew hq) (below_drew hq).size hbN | exact below_then (below_drew (below_drew hq)) (below_drew (below_drew hq)).size hbN)
        try go_wp2_with fail
        refine hK.out _ _ ?_ (fun hHeld2 => ?_)
        · (try dsimp only)
          first | with_reducible exact hHeld | exact ⟨pw_cell_below hq a0, pw_cell_below hq a1, pw_cell_below hq a2, pw_cell_below hq a3, pw_cell_below hq a4, pw_cell_below hq a5, pw_cell_below hq a6, pw_cell_below hq b0, pw_cell_below hq b1, pw_cell_below hq b2, pw_cell_below hq b3, pw_cell_below hq b4, pw_cell_below hq b5, pw_cell_below hq b6, pw_cell_below hq d0, pw_cell_below hq d1, pw_cell_below hq d2, pw_cell_below hq d3, pw_cell_below hq d4, pw_cell_below hq d5, pw_cell_below hq d6, pw_cell_below hq j0, pw_cell_below hq j1, pw_cell_below hq j2, pw_cell_below hq j3, pw_cell_below hq j4, pw_cell_below hq j5, pw_cell_below hq j6⟩
        clear hHeld hK K
        have hHeld := hHeld2
        clear hHeld2
        try simp only [Act.put, List.setIfInBounds_toArray, List.set_cons_zero, List.set_cons_succ]
        refine one_ (i := 40) (N := some 74) #[true, true, true, true, true, true, true, true, true, true, true, true, true, true, true, true, true, true, true, true, true, true, true, true, true, true, true, true, true, true, true, true, true, true, true, true, true, true, true, true, true, true, false, false, false, false, false] rfl rfl (by kernel_rfl) (by decide) (fun K hK => ?_)
        go_simp
        refine (mown_walk _ _ _ _ _ _ _ _ _ _ _ _).mono ?_
        rintro e wN ⟨rfl, hbN⟩
        have hq : Below wz.heap.size wz wN := (by first | exact below_then hq hq.size hbN | exact below_then (below_drew hq) (below_drew hq).size hbN | exact below_then (below_drew (below_drew hq)) (below_drew (below_drew hq)).size hbN)
        try go_wp2_with fail
        refine hK.out _ _ ?_ (fun hHeld2 => ?_)
        · (try dsimp only)
          first | with_reducible exact hHeld | exact ⟨pw_cell_below hq a0, pw_cell_below hq a1, pw_cell_below hq a2, pw_cell_below hq a3, pw_cell_below hq a4, pw_cell_below hq a5, pw_cell_below hq a6, pw_cell_below hq b0, pw_cell_below hq b1, pw_cell_below hq b2, pw_cell_below hq b3, pw_cell_below hq b4, pw_cell_below hq b5, pw_cell_below hq b6, pw_cell_below hq d0, pw_cell_below hq d1, pw_cell_below hq d2, pw_cell_below hq d3, pw_cell_below hq d4, pw_cell_below hq d5, pw_cell_below hq d6, pw_cell_below hq j0, pw_cell_below hq j1, pw_cell_below hq j2, pw_cell_below hq j3, pw_cell_below hq j4, pw_cell_below hq j5, pw_cell_below hq j6⟩
        clear hHeld hK K
        have hHeld := hHeld2
        clear hHeld2
        try simp only [Act.put, List.setIfInBounds_toArray, List.set_cons_zero, List.set_cons_succ]
        refine one_ (i := 42) (N := some 76) #[true, true, true, true, true, true, true, true, true, true, true, true, true, true, true, true, true, true, true, true, true, true, true, true, true, true, true, true, true, true, true, true, true, true, true, true, true, true, true, true, true, true, true, false, false, false, false] rfl rfl (by kernel_rfl) (by decide) (fun K hK => ?_)
        go_simp
        refine (mown_walk _ _ _ _ _ _ _ _ _ _ _ _).mono ?_
        rintro e wN ⟨rfl, hbN⟩
        have hq : Below wz.heap.size wz wN := (by first | exact below_then hq hq.size hbN | exact below_then (below_drew hq) (below_drew hq).size hbN | exact below_then (below_drew (below_drew hq)) (below_drew (below_drew hq)).size hbN)
        try go_wp2_with fail
        refine hK.out _ _ ?_ (fun hHeld2 => ?_)
        · (try dsimp only)
          first | with_reducible exact hHeld | exact ⟨pw_cell_below hq a0, pw_cell_below hq a1, pw_cell_below hq a2, pw_cell_below hq a3, pw_cell_below hq a4, pw_cell_below hq a5, pw_cell_below hq a6, pw_cell_below hq b0, pw_cell_below hq b1, pw_cell_below hq b2, pw_cell_below hq b3, pw_cell_below hq b4, pw_cell_below hq b5, pw_cell_below hq b6, pw_cell_below hq d0, pw_cell_below hq d1, pw_cell_below hq d2, pw_cell_below hq d3, pw_cell_below hq d4, pw_cell_below hq d5, pw_cell_below hq d6, pw_cell_below hq j0, pw_cell_below hq j1, pw_cell_below hq j2, pw_cell_below hq j3, pw_cell_below hq j4, pw_cell_below hq j5, pw_cell_below hq j6⟩
        clear hHeld hK K
        have hHeld := hHeld2
        clear hHeld2
        try simp only [Act.put, List.setIfInBounds_toArray, List.set_cons_zero, List.set_cons_succ]
        refine one_ (i := 43) (N := some 77) #[true, true, true, true, true, true, true, true, true, true, true, true, true, true, true, true, true, true, true, true, true, true, true, true, true, true, true, true, true, true, true, true, true, true, true, true, true, true, true, true, true, true, true, true, false, false, false] rfl rfl (by kernel_rfl) (by decide) (fun K hK => ?_)
        go_simp
        refine (rsame_walk y z _ _ _ _ _ _ _ _ _ _ _ _ _ (by first | exact HY1.out.1.below hq | exact HY1.out.1.below (below_drew hq) | exact HY1.out.1.below (below_drew (below_drew hq))) (by first | exact HZ1.out.1.below hq | exact HZ1.out.1.below (below_drew hq) | exact HZ1.out.1.below (below_drew (below_drew hq))) (by first | exact HY1.out.2.below hq | exact HY1.out.2.below (below_drew hq) | exact HY1.out.2.below (below_drew (below_drew hq))) (by first | exact HZ1.out.2.below hq | exact HZ1.out.2.below (below_drew hq) | exact HZ1.out.2.below (below_drew (below_drew hq)))).mono ?_
        rintro e wN ⟨rfl, hbN⟩
        rw [HSB.out]
        have hq : Below wz.heap.size wz wN := (by first | exact below_then hq hq.size hbN | exact below_then (below_drew hq) (below_drew hq).size hbN | exact below_then (below_drew (below_drew hq)) (below_drew (below_drew hq)).size hbN)
        try go_wp2_with fail
        refine hK.out _ _ ?_ (fun hHeld2 => ?_)
        · (try dsimp only)
          first | with_reducible exact hHeld | exact ⟨pw_cell_below hq a0, pw_cell_below hq a1, pw_cell_below hq a2, pw_cell_below hq a3, pw_cell_below hq a4, pw_cell_below hq a5, pw_cell_below hq a6, pw_cell_below hq b0, pw_cell_below hq b1, pw_cell_below hq b2, pw_cell_below hq b3, pw_cell_below hq b4, pw_cell_below hq b5, pw_cell_below hq b6, pw_cell_below hq d0, pw_cell_below hq d1, pw_cell_below hq d2, pw_cell_below hq d3, pw_cell_below hq d4, pw_cell_below hq d5, pw_cell_below hq d6, pw_cell_below hq j0, pw_cell_below hq j1, pw_cell_below hq j2, pw_cell_below hq j3, pw_cell_below hq j4, pw_cell_below hq j5, pw_cell_below hq j6⟩
        clear hHeld hK K
        have hHeld := hHeld2
        clear hHeld2
        try simp only [Act.put, List.setIfInBounds_toArray, List.set_cons_zero, List.set_cons_succ]
        refine pure_ (i := 44) (N := some 78) (v := ?_) (a' := ?_) #[true, true, true, true, true, true, true, true, true, true, true, true, true, true, true, true, true, true, true, true, true, true, true, true, true, true, true, true, true, true, true, true, true, true, true, true, true, true, true, true, true, true, true, true, true, false, false] rfl rfl (by kernel_rfl) (fun _ _ _ h => h) (Or.inl ⟨by rfl, ?_⟩) ?_ ?_
        rotate_left
        · intro w'
          go_simp
          (try with_reducible rfl)
        rotate_left
        · simp only [Act.put, List.setIfInBounds_toArray, List.set_cons_zero, List.set_cons_succ]
          rfl
        refine pure_ (i := 45) (N := some 79) (v := ?_) (a' := ?_) #[true, true, true, true, true, true, true, true, true, true, true, true, true, true, true, true, true, true, true, true, true, true, true, true, true, true, true, true, true, true, true, true, true, true, true, true, true, true, true, true, true, true, true, true, true, true, false] rfl rfl (by kernel_rfl) (fun _ _ _ h => h) (Or.inl ⟨by rfl, ?_⟩) ?_ ?_
        rotate_left
        · intro w'
          go_simp
          (try with_reducible rfl)
        rotate_left
        · simp only [Act.put, List.setIfInBounds_toArray, List.set_cons_zero, List.set_cons_succ]
          rfl
        refine pure_ (i := 46) (N := some 6) (v := ?_) (a' := ?_) #[true, true, true, true, true, true, true, true, true, true, true, true, true, true, true, true, true, true, true, true, true, true, true, true, true, true, true, true, true, true, true, true, true, true, true, true, true, true, true, true, true, true, true, true, true, true, true] rfl rfl (by kernel_rfl) (fun _ _ _ h => h) (Or.inl ⟨by rfl, ?_⟩) ?_ ?_
        rotate_left
        · intro w'
          go_simp
          (try with_reducible rfl)
        rotate_left
        · simp only [Act.put, List.setIfInBounds_toArray, List.set_cons_zero, List.set_cons_succ]
          rfl
        refine wpAnyLast_done (by kernel_rfl) ?_ _
        go_wp2_with fail
        go_ret
        exact ⟨by first | rfl | simp, by first | exact below_then BZ.out BZ.out.size hq | exact below_then BZ.out BZ.out.size (below_drew hq) | exact below_then BZ.out BZ.out.size (below_drew (below_drew hq))⟩
      go_simp
      refine (rput_any y HY.out.wf A' B' n' c' m' d' _ (by first | exact HY1.out.1.below hq | exact HY1.out.1.below (below_drew hq) | exact HY1.out.1.below (below_drew (below_drew hq))) (by first | exact HY1.out.2.below hq | exact HY1.out.2.below (below_drew hq) | exact HY1.out.2.below (below_drew (below_drew hq))) (by omega) (by omega)).mono ?_
      rintro e wN ⟨A6, n6, c6, rfl, ho6, hbN⟩
      have hq : Below wz.heap.size wz wN := (by first | exact below_then hq hq.size hbN | exact below_then (below_drew hq) (below_drew hq).size hbN | exact below_then (below_drew (below_drew hq)) (below_drew (below_drew hq)).size hbN)
      have HE5 := Lib.hid (by first | exact HE5.out.below hbN | exact (rd_drew HE5.out).below hbN : ReadsInt wN .u8 A5 n5 (putL y))
      have h6 := own_info ho6
      have HE6 := Lib.hid (show ReadsInt wN .u8 A6 n6 (putL y) from h6.2.2.2.1)
      clear ho6 h6
      try go_wp2_with fail
      refine hK.out _ _ ?_ (fun hHeld2 => ?_)
      · (try dsimp only)
        first | with_reducible exact hHeld | exact ⟨pw_cell_below hq a0, pw_cell_below hq a1, pw_cell_below hq a2, pw_cell_below hq a3, pw_cell_below hq a4, pw_cell_below hq a5, pw_cell_below hq a6, pw_cell_below hq b0, pw_cell_below hq b1, pw_cell_below hq b2, pw_cell_below hq b3, pw_cell_below hq b4, pw_cell_below hq b5, pw_cell_below hq b6, pw_cell_below hq d0, pw_cell_below hq d1, pw_cell_below hq d2, pw_cell_below hq d3, pw_cell_below hq d4, pw_cell_below hq d5, pw_cell_below hq d6, pw_cell_below hq j0, pw_cell_below hq j1, pw_cell_below hq j2, pw_cell_below hq j3, pw_cell_below hq j4, pw_cell_below hq j5, pw_cell_below hq j6⟩
      clear hHeld hK K
      have hHeld := hHeld2
      clear hHeld2
      try simp only [Act.put, List.setIfInBounds_toArray, List.set_cons_zero, List.set_cons_succ]
      refine two_ (i := 28) (j := 32) (Ni := some 62) (Nj := some 66) #[true, true, true, true, true, true, true, true, true, true, true, true, true, true, true, true, true, true, true, true, true, true, true, true, true, true, true, true, true, true, true, true, false, false, false, false, false, false, false, false, false, false, false, false, false, false, false] #[true, true, true, true, true, true, true, true, true, true, true, true, true, true, true, true, true, true, true, true, true, true, true, true, true, true, true, true, false, true, true, true, true, false, false, false, false, false, false, false, false, false, false, false, false, false, false] rfl rfl rfl rfl (by kernel_rfl) (by decide) (by decide) (fun K hK => ?_) (fun K hK => ?_)
      · skip
        have kx : (convert 31 9 (.slice A5 n5 c5)).run Try.prog wN = .ok (.string S1) wN := (by rw [HS1.out]; exact str_of HE5.out)
        go_simp
        refine hK.out _ _ ?_ (fun hHeld2 => ?_)
        · (try dsimp only)
          first | with_reducible exact hHeld | exact ⟨pw_cell_below hq a0, pw_cell_below hq a1, pw_cell_below hq a2, pw_cell_below hq a3, pw_cell_below hq a4, pw_cell_below hq a5, pw_cell_below hq a6, pw_cell_below hq b0, pw_cell_below hq b1, pw_cell_below hq b2, pw_cell_below hq b3, pw_cell_below hq b4, pw_cell_below hq b5, pw_cell_below hq b6, pw_cell_below hq d0, pw_cell_below hq d1, pw_cell_below hq d2, pw_cell_below hq d3, pw_cell_below hq d4, pw_cell_below hq d5, pw_cell_below hq d6, pw_cell_below hq j0, pw_cell_below hq j1, pw_cell_below hq j2, pw_cell_below hq j3, pw_cell_below hq j4, pw_cell_below hq j5, pw_cell_below hq j6⟩
        clear hHeld hK K
        have hHeld := hHeld2
        clear hHeld2
        try simp only [Act.put, List.setIfInBounds_toArray, List.set_cons_zero, List.set_cons_succ]
        refine one_ (i := 32) (N := some 66) #[true, true, true, true, true, true, true, true, true, true, true, true, true, true, true, true, true, true, true, true, true, true, true, true, true, true, true, true, true, true, true, true, true, false, false, false, false, false, false, false, false, false, false, false, false, false, false] rfl rfl (by kernel_rfl) (by decide) (fun K hK => ?_)
        have ky : (convert 31 9 (.slice A6 n6 c6)).run Try.prog wN = .ok (.string S1) wN := (by rw [HS1.out]; exact str_of HE6.out)
        go_simp
        refine hK.out _ _ ?_ (fun hHeld2 => ?_)
        · (try dsimp only)
          first | with_reducible exact hHeld | exact ⟨pw_cell_below hq a0, pw_cell_below hq a1, pw_cell_below hq a2, pw_cell_below hq a3, pw_cell_below hq a4, pw_cell_below hq a5, pw_cell_below hq a6, pw_cell_below hq b0, pw_cell_below hq b1, pw_cell_below hq b2, pw_cell_below hq b3, pw_cell_below hq b4, pw_cell_below hq b5, pw_cell_below hq b6, pw_cell_below hq d0, pw_cell_below hq d1, pw_cell_below hq d2, pw_cell_below hq d3, pw_cell_below hq d4, pw_cell_below hq d5, pw_cell_below hq d6, pw_cell_below hq j0, pw_cell_below hq j1, pw_cell_below hq j2, pw_cell_below hq j3, pw_cell_below hq j4, pw_cell_below hq j5, pw_cell_below hq j6⟩
        clear hHeld hK K
        have hHeld := hHeld2
        clear hHeld2
        try simp only [Act.put, List.setIfInBounds_toArray, List.set_cons_zero, List.set_cons_succ]
        refine pure_ (i := 33) (N := some 67) (v := ?_) (a' := ?_) #[true, true, true, true, true, true, true, true, true, true, true, true, true, true, true, true, true, true, true, true, true, true, true, true, true, true, true, true, true, true, true, true, true, true, false, false, false, false, false, false, false, false, false, false, false, false, false] rfl rfl (by kernel_rfl) (fun _ _ _ h => h) (Or.inl ⟨by rfl, ?_⟩) ?_ ?_
        rotate_left
        · intro w'
          go_simp
          (try with_reducible rfl)
        rotate_left
        · simp only [Act.put, List.setIfInBounds_toArray, List.set_cons_zero, List.set_cons_succ]
          rfl
        refine pure_ (i := 34) (N := some 68) (v := ?_) (a' := ?_) #[true, true, true, true, true, true, true, true, true, true, true, true, true, true, true, true, true, true, true, true, true, true, true, true, true, true, true, true, true, true, true, true, true, true, true, false, false, false, false, false, false, false, false, false, false, false, false] rfl rfl (by kernel_rfl) (fun _ _ _ h => h) (Or.inl ⟨by rfl, ?_⟩) ?_ ?_
        rotate_left
        · intro w'
          go_simp
          (try with_reducible rfl)
        rotate_left
        · simp only [Act.put, List.setIfInBounds_toArray, List.set_cons_zero, List.set_cons_succ]
          rfl
        refine pure_ (i := 35) (N := some 69) (v := ?_) (a' := ?_) #[true, true, true, true, true, true, true, true, true, true, true, true, true, true, true, true, true, true, true, true, true, true, true, true, true, true, true, true, true, true, true, true, true, true, true, true, false, false, false, false, false, false, false, false, false, false, false] rfl rfl (by kernel_rfl) (fun _ _ _ h => h) (Or.inl ⟨by rfl, ?_⟩) ?_ ?_
        rotate_left
        · intro w'
          go_simp
          (try with_reducible rfl)
        rotate_left
        · simp only [Act.put, List.setIfInBounds_toArray, List.set_cons_zero, List.set_cons_succ]
          rfl
        refine take_ (i := 36) (N := some 70) (v := ?_) (a' := ?_) #[true, true, true, true, true, true, true, true, true, true, true, true, true, true, true, true, true, true, true, true, true, true, true, true, true, true, true, true, true, true, true, true, true, true, true, true, true, false, false, false, false, false, false, false, false, false, false] rfl rfl (by kernel_rfl) (fun _ _ _ h => h) (Or.inl ⟨by rfl, ?_⟩) hHeld ?_ ?_
        rotate_left
        · rintro w' ⟨s0, s1, s2, s3, s4, s5, s6, s7, s8, s9, s10, s11, s12, s13, s14, s15, s16, s17, s18, s19, s20, s21, s22, s23, s24, s25, s26, s27⟩
          go_simp
          (try with_reducible rfl)
        rotate_left
        · simp only [Act.put, List.setIfInBounds_toArray, List.set_cons_zero, List.set_cons_succ]
          rfl
        refine take_ (i := 37) (N := some 71) (v := ?_) (a' := ?_) #[true, true, true, true, true, true, true, true, true, true, true, true, true, true, true, true, true, true, true, true, true, true, true, true, true, true, true, true, true, true, true, true, true, true, true, true, true, true, false, false, false, false, false, false, false, false, false] rfl rfl (by kernel_rfl) (fun _ _ _ h => h) (Or.inl ⟨by rfl, ?_⟩) hHeld ?_ ?_
        rotate_left
        · rintro w' ⟨s0, s1, s2, s3, s4, s5, s6, s7, s8, s9, s10, s11, s12, s13, s14, s15, s16, s17, s18, s19, s20, s21, s22, s23, s24, s25, s26, s27⟩
          go_simp
          (try with_reducible rfl)
        rotate_left
        · simp only [Act.put, List.setIfInBounds_toArray, List.set_cons_zero, List.set_cons_succ]
          rfl
        refine take_ (i := 39) (N := some 73) (v := ?_) (a' := ?_) #[true, true, true, true, true, true, true, true, true, true, true, true, true, true, true, true, true, true, true, true, true, true, true, true, true, true, true, true, true, true, true, true, true, true, true, true, true, true, false, true, false, false, false, false, false, false, false] rfl rfl (by kernel_rfl) (fun _ _ _ h => h) (Or.inl ⟨by rfl, ?_⟩) hHeld ?_ ?_
        rotate_left
        · rintro w' ⟨s0, s1, s2, s3, s4, s5, s6, s7, s8, s9, s10, s11, s12, s13, s14, s15, s16, s17, s18, s19, s20, s21, s22, s23, s24, s25, s26, s27⟩
          go_simp
          (try with_reducible rfl)
        rotate_left
        · simp only [Act.put, List.setIfInBounds_toArray, List.set_cons_zero, List.set_cons_succ]
          rfl
        refine take_ (i := 41) (N := some 75) (v := ?_) (a' := ?_) #[true, true, true, true, true, true, true, true, true, true, true, true, true, true, true, true, true, true, true, true, true, true, true, true, true, true, true, true, true, true, true, true, true, true, true, true, true, true, false, true, false, true, false, false, false, false, false] rfl rfl (by kernel_rfl) (fun _ _ _ h => h) (Or.inl ⟨by rfl, ?_⟩) hHeld ?_ ?_
        rotate_left
        · rintro w' ⟨s0, s1, s2, s3, s4, s5, s6, s7, s8, s9, s10, s11, s12, s13, s14, s15, s16, s17, s18, s19, s20, s21, s22, s23, s24, s25, s26, s27⟩
          go_simp
          (try with_reducible rfl)
        rotate_left
        · simp only [Act.put, List.setIfInBounds_toArray, List.set_cons_zero, List.set_cons_succ]
          rfl
        refine one_ (i := 38) (N := some 72) #[true, true, true, true, true, true, true, true, true, true, true, true, true, true, true, true, true, true, true, true, true, true, true, true, true, true, true, true, true, true, true, true, true, true, true, true, true, true, true, true, false, true, false, false, false, false, false] rfl rfl (by kernel_rfl) (by decide) (fun K hK => ?_)
        go_simp
        refine (same_walk y z _ _ _ _ _ _ _ _ _ _ _ _ _ (by first | exact HY1.out.1.below hq | exact HY1.out.1.below (below_drew hq) | exact HY1.out.1.below (below_drew (below_drew hq))) (by first | exact HZ1.out.1.below hq | exact HZ1.out.1.below (below_drew hq) | exact HZ1.out.1.below (below_drew (below_drew hq))) (by first | exact HY1.out.2.below hq | exact HY1.out.2.below (below_drew hq) | exact HY1.out.2.below (below_drew (below_drew hq))) (by first | exact HZ1.out.2.below hq | exact HZ1.out.2.below (below_drew hq) | exact HZ1.out.2.below (below_drew (below_drew hq)))).mono ?_
        rintro e wN ⟨rfl, hbN⟩
        rw [HSB.out]
        have hq : Below wz.heap.size wz wN := (by first | exact below_then hq hq.size hbN | exact below_then (below_drew hq) (below_drew hq).size hbN | exact below_then (below_drew (below_drew hq)) (below_drew (below_drew hq)).size hbN)
        try go_wp2_with fail
        refine hK.out _ _ ?_ (fun hHeld2 => ?_)
        · (try dsimp only)
          first | with_reducible exact hHeld | exact ⟨pw_cell_below hq a0, pw_cell_below hq a1, pw_cell_below hq a2, pw_cell_below hq a3, pw_cell_below hq a4, pw_cell_below hq a5, pw_cell_below hq a6, pw_cell_below hq b0, pw_cell_below hq b1, pw_cell_below hq b2, pw_cell_below hq b3, pw_cell_below hq b4, pw_cell_below hq b5, pw_cell_below hq b6, pw_cell_below hq d0, pw_cell_below hq d1, pw_cell_below hq d2, pw_cell_below hq d3, pw_cell_below hq d4, pw_cell_below hq d5, pw_cell_below hq d6, pw_cell_below hq j0, pw_cell_below hq j1, pw_cell_below hq j2, pw_cell_below hq j3, pw_cell_below hq j4, pw_cell_below hq j5, pw_cell_below hq j6⟩
        clear hHeld hK K
        have hHeld := hHeld2
        clear hHeld2
        try simp only [Act.put, List.setIfInBounds_toArray, List.set_cons_zero, List.set_cons_succ]
        refine one_ (i := 40) (N := some 74) #[true, true, true, true, true, true, true, true, true, true, true, true, true, true, true, true, true, true, true, true, true, true, true, true, true, true, true, true, true, true, true, true, true, true, true, true, true, true, true, true, true, true, false, false, false, false, false] rfl rfl (by kernel_rfl) (by decide) (fun K hK => ?_)
        go_simp
        refine (mown_walk _ _ _ _ _ _ _ _ _ _ _ _).mono ?_
        rintro e wN ⟨rfl, hbN⟩
        have hq : Below wz.heap.size wz wN := (by first | exact below_then hq hq.size hbN | exact below_then (below_drew hq) (below_drew hq).size hbN | exact below_then (below_drew (below_drew hq)) (below_drew (below_drew hq)).size hbN)
        try go_wp2_with fail
        refine hK.out _ _ ?_ (fun hHeld2 => ?_)
        · (try dsimp only)
          first | with_reducible exact hHeld | exact ⟨pw_cell_below hq a0, pw_cell_below hq a1, pw_cell_below hq a2, pw_cell_below hq a3, pw_cell_below hq a4, pw_cell_below hq a5, pw_cell_below hq a6, pw_cell_below hq b0, pw_cell_below hq b1, pw_cell_below hq b2, pw_cell_below hq b3, pw_cell_below hq b4, pw_cell_below hq b5, pw_cell_below hq b6, pw_cell_below hq d0, pw_cell_below hq d1, pw_cell_below hq d2, pw_cell_below hq d3, pw_cell_below hq d4, pw_cell_below hq d5, pw_cell_below hq d6, pw_cell_below hq j0, pw_cell_below hq j1, pw_cell_below hq j2, pw_cell_below hq j3, pw_cell_below hq j4, pw_cell_below hq j5, pw_cell_below hq j6⟩
        clear hHeld hK K
        have hHeld := hHeld2
        clear hHeld2
        try simp only [Act.put, List.setIfInBounds_toArray, List.set_cons_zero, List.set_cons_succ]
        refine one_ (i := 42) (N := some 76) #[true, true, true, true, true, true, true, true, true, true, true, true, true, true, true, true, true, true, true, true, true, true, true, true, true, true, true, true, true, true, true, true, true, true, true, true, true, true, true, true, true, true, true, false, false, false, false] rfl rfl (by kernel_rfl) (by decide) (fun K hK => ?_)
        go_simp
        refine (mown_walk _ _ _ _ _ _ _ _ _ _ _ _).mono ?_
        rintro e wN ⟨rfl, hbN⟩
        have hq : Below wz.heap.size wz wN := (by first | exact below_then hq hq.size hbN | exact below_then (below_drew hq) (below_drew hq).size hbN | exact below_then (below_drew (below_drew hq)) (below_drew (below_drew hq)).size hbN)
        try go_wp2_with fail
        refine hK.out _ _ ?_ (fun hHeld2 => ?_)
        · (try dsimp only)
          first | with_reducible exact hHeld | exact ⟨pw_cell_below hq a0, pw_cell_below hq a1, pw_cell_below hq a2, pw_cell_below hq a3, pw_cell_below hq a4, pw_cell_below hq a5, pw_cell_below hq a6, pw_cell_below hq b0, pw_cell_below hq b1, pw_cell_below hq b2, pw_cell_below hq b3, pw_cell_below hq b4, pw_cell_below hq b5, pw_cell_below hq b6, pw_cell_below hq d0, pw_cell_below hq d1, pw_cell_below hq d2, pw_cell_below hq d3, pw_cell_below hq d4, pw_cell_below hq d5, pw_cell_below hq d6, pw_cell_below hq j0, pw_cell_below hq j1, pw_cell_below hq j2, pw_cell_below hq j3, pw_cell_below hq j4, pw_cell_below hq j5, pw_cell_below hq j6⟩
        clear hHeld hK K
        have hHeld := hHeld2
        clear hHeld2
        try simp only [Act.put, List.setIfInBounds_toArray, List.set_cons_zero, List.set_cons_succ]
        refine one_ (i := 43) (N := some 77) #[true, true, true, true, true, true, true, true, true, true, true, true, true, true, true, true, true, true, true, true, true, true, true, true, true, true, true, true, true, true, true, true, true, true, true, true, true, true, true, true, true, true, true, true, false, false, false] rfl rfl (by kernel_rfl) (by decide) (fun K hK => ?_)
        go_simp
        refine (rsame_walk y z _ _ _ _ _ _ _ _ _ _ _ _ _ (by first | exact HY1.out.1.below hq | exact HY1.out.1.below (below_drew hq) | exact HY1.out.1.below (below_drew (below_drew hq))) (by first | exact HZ1.out.1.below hq | exact HZ1.out.1.below (below_drew hq) | exact HZ1.out.1.below (below_drew (below_drew hq))) (by first | exact HY1.out.2.below hq | exact HY1.out.2.below (below_drew hq) | exact HY1.out.2.below (below_drew (below_drew hq))) (by first | exact HZ1.out.2.below hq | exact HZ1.out.2.below (below_drew hq) | exact HZ1.out.2.below (below_drew (below_drew hq)))).mono ?_
        rintro e wN ⟨rfl, hbN⟩
        rw [HSB.out]
        have hq : Below wz.heap.size wz wN := (by first | exact below_then hq hq.size hbN | exact below_then (below_drew hq) (below_drew hq).size hbN | exact below_then (below_drew (below_drew hq)) (below_drew (below_drew hq)).size hbN)
        try go_wp2_with fail
        refine hK.out _ _ ?_ (fun hHeld2 => ?_)
        · (try dsimp only)
          first | with_reducible exact hHeld | exact ⟨pw_cell_below hq a0, pw_cell_below hq a1, pw_cell_below hq a2, pw_cell_below hq a3, pw_cell_below hq a4, pw_cell_below hq a5, pw_cell_below hq a6, pw_cell_below hq b0, pw_cell_below hq b1, pw_cell_below hq b2, pw_cell_below hq b3, pw_cell_below hq b4, pw_cell_below hq b5, pw_cell_below hq b6, pw_cell_below hq d0, pw_cell_below hq d1, pw_cell_below hq d2, pw_cell_below hq d3, pw_cell_below hq d4, pw_cell_below hq d5, pw_cell_below hq d6, pw_cell_below hq j0, pw_cell_below hq j1, pw_cell_below hq j2, pw_cell_below hq j3, pw_cell_below hq j4, pw_cell_below hq j5, pw_cell_below hq j6⟩
        clear hHeld hK K
        have hHeld := hHeld2
        clear hHeld2
        try simp only [Act.put, List.setIfInBounds_toArray, List.set_cons_zero, List.set_cons_succ]
        refine pure_ (i := 44) (N := some 78) (v := ?_) (a' := ?_) #[true, true, true, true, true, true, true, true, true, true, true, true, true, true, true, true, true, true, true, true, true, true, true, true, true, true, true, true, true, true, true, true, true, true, true, true, true, true, true, true, true, true, true, true, true, false, false] rfl rfl (by kernel_rfl) (fun _ _ _ h => h) (Or.inl ⟨by rfl, ?_⟩) ?_ ?_
        rotate_left
        · intro w'
          go_simp
          (try with_reducible rfl)
        rotate_left
        · simp only [Act.put, List.setIfInBounds_toArray, List.set_cons_zero, List.set_cons_succ]
          rfl
        refine pure_ (i := 45) (N := some 79) (v := ?_) (a' := ?_) #[true, true, true, true, true, true, true, true, true, true, true, true, true, true, true, true, true, true, true, true, true, true, true, true, true, true, true, true, true, true, true, true, true, true, true, true, true, true, true, true, true, true, true, true, true, true, false] rfl rfl (by kernel_rfl) (fun _ _ _ h => h) (Or.inl ⟨by rfl, ?_⟩) ?_ ?_
        rotate_left
        · intro w'
          go_simp
          (try with_reducible rfl)
        rotate_left
        · simp only [Act.put, List.setIfInBounds_toArray, List.set_cons_zero, List.set_cons_succ]
          rfl
        refine pure_ (i := 46) (N := some 6) (v := ?_) (a' := ?_) #[true, true, true, true, true, true, true, true, true, true, true, true, true, true, true, true, true, true, true, true, true, true, true, true, true, true, true, true, true, true, true, true, true, true, true, true, true, true, true, true, true, true, true, true, true, true, true] rfl rfl (by kernel_rfl) (fun _ _ _ h => h) (Or.inl ⟨by rfl, ?_⟩) ?_ ?_
        rotate_left
        · intro w'
          go_simp
          (try with_reducible rfl)
        rotate_left
        · simp only [Act.put, List.setIfInBounds_toArray, List.set_cons_zero, List.set_cons_succ]
          rfl
        refine wpAnyLast_done (by kernel_rfl) ?_ _
        go_wp2_with fail
        go_ret
        exact ⟨by first | rfl | simp, by first | exact below_then BZ.out BZ.out.size hq | exact below_then BZ.out BZ.out.size (below_drew hq) | exact below_then BZ.out BZ.out.size (below_drew (below_drew hq))⟩
      have ky : (convert 31 9 (.slice A6 n6 c6)).run Try.prog wN = .ok (.string S1) wN := (by rw [HS1.out]; exact str_of HE6.out)
      go_simp
      refine hK.out _ _ ?_ (fun hHeld2 => ?_)
      · (try dsimp only)
        first | with_reducible exact hHeld | exact ⟨pw_cell_below hq a0, pw_cell_below hq a1, pw_cell_below hq a2, pw_cell_below hq a3, pw_cell_below hq a4, pw_cell_below hq a5, pw_cell_below hq a6, pw_cell_below hq b0, pw_cell_below hq b1, pw_cell_below hq b2, pw_cell_below hq b3, pw_cell_below hq b4, pw_cell_below hq b5, pw_cell_below hq b6, pw_cell_below hq d0, pw_cell_below hq d1, pw_cell_below hq d2, pw_cell_below hq d3, pw_cell_below hq d4, pw_cell_below hq d5, pw_cell_below hq d6, pw_cell_below hq j0, pw_cell_below hq j1, pw_cell_below hq j2, pw_cell_below hq j3, pw_cell_below hq j4, pw_cell_below hq j5, pw_cell_below hq j6⟩
      clear hHeld hK K
      have hHeld := hHeld2
      clear hHeld2
      try simp only [Act.put, List.setIfInBounds_toArray, List.set_cons_zero, List.set_cons_succ]
      refine one_ (i := 28) (N := some 62) #[true, true, true, true, true, true, true, true, true, true, true, true, true, true, true, true, true, true, true, true, true, true, true, true, true, true, true, true, true, true, true, true, true, false, false, false, false, false, false, false, false, false, false, false, false, false, false] rfl rfl (by kernel_rfl) (by decide) (fun K hK => ?_)
      have kx : (convert 31 9 (.slice A5 n5 c5)).run Try.prog wN = .ok (.string S1) wN := (by rw [HS1.out]; exact str_of HE5.out)
      go_simp
      refine hK.out _ _ ?_ (fun hHeld2 => ?_)
      · (try dsimp only)
        first | with_reducible exact hHeld | exact ⟨pw_cell_below hq a0, pw_cell_below hq a1, pw_cell_below hq a2, pw_cell_below hq a3, pw_cell_below hq a4, pw_cell_below hq a5, pw_cell_below hq a6, pw_cell_below hq b0, pw_cell_below hq b1, pw_cell_below hq b2, pw_cell_below hq b3, pw_cell_below hq b4, pw_cell_below hq b5, pw_cell_below hq b6, pw_cell_below hq d0, pw_cell_below hq d1, pw_cell_below hq d2, pw_cell_below hq d3, pw_cell_below hq d4, pw_cell_below hq d5, pw_cell_below hq d6, pw_cell_below hq j0, pw_cell_below hq j1, pw_cell_below hq j2, pw_cell_below hq j3, pw_cell_below hq j4, pw_cell_below hq j5, pw_cell_below hq j6⟩
      clear hHeld hK K
      have hHeld := hHeld2
      clear hHeld2
      try simp only [Act.put, List.setIfInBounds_toArray, List.set_cons_zero, List.set_cons_succ]
      refine pure_ (i := 33) (N := some 67) (v := ?_) (a' := ?_) #[true, true, true, true, true, true, true, true, true, true, true, true, true, true, true, true, true, true, true, true, true, true, true, true, true, true, true, true, true, true, true, true, true, true, false, false, false, false, false, false, false, false, false, false, false, false, false] rfl rfl (by kernel_rfl) (fun _ _ _ h => h) (Or.inl ⟨by rfl, ?_⟩) ?_ ?_
      rotate_left
      · intro w'
        go_simp
        (try with_reducible rfl)
      rotate_left
      · simp only [Act.put, List.setIfInBounds_toArray, List.set_cons_zero, List.set_cons_succ]
        rfl
      refine pure_ (i := 34) (N := some 68) (v := ?_) (a' := ?_) #[true, true, true, true, true, true, true, true, true, true, true, true, true, true, true, true, true, true, true, true, true, true, true, true, true, true, true, true, true, true, true, true, true, true, true, false, false, false, false, false, false, false, false, false, false, false, false] rfl rfl (by kernel_rfl) (fun _ _ _ h => h) (Or.inl ⟨by rfl, ?_⟩) ?_ ?_
      rotate_left
      · intro w'
        go_simp
        (try with_reducible rfl)
      rotate_left
      · simp only [Act.put, List.setIfInBounds_toArray, List.set_cons_zero, List.set_cons_succ]
        rfl
      refine pure_ (i := 35) (N := some 69) (v := ?_) (a' := ?_) #[true, true, true, true, true, true, true, true, true, true, true, true, true, true, true, true, true, true, true, true, true, true, true, true, true, true, true, true, true, true, true, true, true, true, true, true, false, false, false, false, false, false, false, false, false, false, false] rfl rfl (by kernel_rfl) (fun _ _ _ h => h) (Or.inl ⟨by rfl, ?_⟩) ?_ ?_
      rotate_left
      · intro w'
        go_simp
        (try with_reducible rfl)
      rotate_left
      · simp only [Act.put, List.setIfInBounds_toArray, List.set_cons_zero, List.set_cons_succ]
        rfl
      refine take_ (i := 36) (N := some 70) (v := ?_) (a' := ?_) #[true, true, true, true, true, true, true, true, true, true, true, true, true, true, true, true, true, true, true, true, true, true, true, true, true, true, true, true, true, true, true, true, true, true, true, true, true, false, false, false, false, false, false, false, false, false, false] rfl rfl (by kernel_rfl) (fun _ _ _ h => h) (Or.inl ⟨by rfl, ?_⟩) hHeld ?_ ?_
      rotate_left
      · rintro w' ⟨s0, s1, s2, s3, s4, s5, s6, s7, s8, s9, s10, s11, s12, s13, s14, s15, s16, s17, s18, s19, s20, s21, s22, s23, s24, s25, s26, s27⟩
        go_simp
        (try with_reducible rfl)
      rotate_left
      · simp only [Act.put, List.setIfInBounds_toArray, List.set_cons_zero, List.set_cons_succ]
        rfl
      refine take_ (i := 37) (N := some 71) (v := ?_) (a' := ?_) #[true, true, true, true, true, true, true, true, true, true, true, true, true, true, true, true, true, true, true, true, true, true, true, true, true, true, true, true, true, true, true, true, true, true, true, true, true, true, false, false, false, false, false, false, false, false, false] rfl rfl (by kernel_rfl) (fun _ _ _ h => h) (Or.inl ⟨by rfl, ?_⟩) hHeld ?_ ?_
      rotate_left
      · rintro w' ⟨s0, s1, s2, s3, s4, s5, s6, s7, s8, s9, s10, s11, s12, s13, s14, s15, s16, s17, s18, s19, s20, s21, s22, s23, s24, s25, s26, s27⟩
        go_simp
        (try with_reducible rfl)
      rotate_left
      · simp only [Act.put, List.setIfInBounds_toArray, List.set_cons_zero, List.set_cons_succ]
        rfl
      refine take_ (i := 39) (N := some 73) (v := ?_) (a' := ?_) #[true, true, true, true, true, true, true, true, true, true, true, true, true, true, true, true, true, true, true, true, true, true, true, true, true, true, true, true, true, true, true, true, true, true, true, true, true, true, false, true, false, false, false, false, false, false, false] rfl rfl (by kernel_rfl) (fun _ _ _ h => h) (Or.inl ⟨by rfl, ?_⟩) hHeld ?_ ?_
      rotate_left
      · rintro w' ⟨s0, s1, s2, s3, s4, s5, s6, s7, s8, s9, s10, s11, s12, s13, s14, s15, s16, s17, s18, s19, s20, s21, s22, s23, s24, s25, s26, s27⟩
        go_simp
        (try with_reducible rfl)
      rotate_left
      · simp only [Act.put, List.setIfInBounds_toArray, List.set_cons_zero, List.set_cons_succ]
        rfl
      refine take_ (i := 41) (N := some 75) (v := ?_) (a' := ?_) #[true, true, true, true, true, true, true, true, true, true, true, true, true, true, true, true, true, true, true, true, true, true, true, true, true, true, true, true, true, true, true, true, true, true, true, true, true, true, false, true, false, true, false, false, false, false, false] rfl rfl (by kernel_rfl) (fun _ _ _ h => h) (Or.inl ⟨by rfl, ?_⟩) hHeld ?_ ?_
      rotate_left
      · rintro w' ⟨s0, s1, s2, s3, s4, s5, s6, s7, s8, s9, s10, s11, s12, s13, s14, s15, s16, s17, s18, s19, s20, s21, s22, s23, s24, s25, s26, s27⟩
        go_simp
        (try with_reducible rfl)
      rotate_left
      · simp only [Act.put, List.setIfInBounds_toArray, List.set_cons_zero, List.set_cons_succ]
        rfl
      refine one_ (i := 38) (N := some 72) #[true, true, true, true, true, true, true, true, true, true, true, true, true, true, true, true, true, true, true, true, true, true, true, true, true, true, true, true, true, true, true, true, true, true, true, true, true, true, true, true, false, true, false, false, false, false, false] rfl rfl (by kernel_rfl) (by decide) (fun K hK => ?_)
      go_simp
      refine (same_walk y z _ _ _ _ _ _ _ _ _ _ _ _ _ (by first | exact HY1.out.1.below hq | exact HY1.out.1.below (below_drew hq) | exact HY1.out.1.below (below_drew (below_drew hq))) (by first | exact HZ1.out.1.below hq | exact HZ1.out.1.below (below_drew hq) | exact HZ1.out.1.below (below_drew (below_drew hq))) (by first | exact HY1.out.2.below hq | exact HY1.out.2.below (below_drew hq) | exact HY1.out.2.below (below_drew (below_drew hq))) (by first | exact HZ1.out.2.below hq | exact HZ1.out.2.below (below_drew hq) | exact HZ1.out.2.below (below_drew (below_drew hq)))).mono ?_
      rintro e wN ⟨rfl, hbN⟩
      rw [HSB.out]
      have hq : Below wz.heap.size wz wN := (by first | exact below_then hq hq.size hbN | exact below_then (below_drew hq) (below_drew hq).size hbN | exact below_then (below_drew (below_drew hq)) (below_drew (below_drew hq)).size hbN)
      try go_wp2_with fail
      refine hK.out _ _ ?_ (fun hHeld2 => ?_)
      · (try dsimp only)
        first | with_reducible exact hHeld | exact ⟨pw_cell_below hq a0, pw_cell_below hq a1, pw_cell_below hq a2, pw_cell_below hq a3, pw_cell_below hq a4, pw_cell_below hq a5, pw_cell_below hq a6, pw_cell_below hq b0, pw_cell_below hq b1, pw_cell_below hq b2, pw_cell_below hq b3, pw_cell_below hq b4, pw_cell_below hq b5, pw_cell_below hq b6, pw_cell_below hq d0, pw_cell_below hq d1, pw_cell_below hq d2, pw_cell_below hq d3, pw_cell_below hq d4, pw_cell_below hq d5, pw_cell_below hq d6, pw_cell_below hq j0, pw_cell_below hq j1, pw_cell_below hq j2, pw_cell_below hq j3, pw_cell_below hq j4, pw_cell_below hq j5, pw_cell_below hq j6⟩
      clear hHeld hK K
      have hHeld := hHeld2
      clear hHeld2
      try simp only [Act.put, List.setIfInBounds_toArray, List.set_cons_zero, List.set_cons_succ]
      refine one_ (i := 40) (N := some 74) #[true, true, true, true, true, true, true, true, true, true, true, true, true, true, true, true, true, true, true, true, true, true, true, true, true, true, true, true, true, true, true, true, true, true, true, true, true, true, true, true, true, true, false, false, false, false, false] rfl rfl (by kernel_rfl) (by decide) (fun K hK => ?_)
      go_simp
      refine (mown_walk _ _ _ _ _ _ _ _ _ _ _ _).mono ?_
      rintro e wN ⟨rfl, hbN⟩
      have hq : Below wz.heap.size wz wN := (by first | exact below_then hq hq.size hbN | exact below_then (below_drew hq) (below_drew hq).size hbN | exact below_then (below_drew (below_drew hq)) (below_drew (below_drew hq)).size hbN)
      try go_wp2_with fail
      refine hK.out _ _ ?_ (fun hHeld2 => ?_)
      · (try dsimp only)
        first | with_reducible exact hHeld | exact ⟨pw_cell_below hq a0, pw_cell_below hq a1, pw_cell_below hq a2, pw_cell_below hq a3, pw_cell_below hq a4, pw_cell_below hq a5, pw_cell_below hq a6, pw_cell_below hq b0, pw_cell_below hq b1, pw_cell_below hq b2, pw_cell_below hq b3, pw_cell_below hq b4, pw_cell_below hq b5, pw_cell_below hq b6, pw_cell_below hq d0, pw_cell_below hq d1, pw_cell_below hq d2, pw_cell_below hq d3, pw_cell_below hq d4, pw_cell_below hq d5, pw_cell_below hq d6, pw_cell_below hq j0, pw_cell_below hq j1, pw_cell_below hq j2, pw_cell_below hq j3, pw_cell_below hq j4, pw_cell_below hq j5, pw_cell_below hq j6⟩
      clear hHeld hK K
      have hHeld := hHeld2
      clear hHeld2
      try simp only [Act.put, List.setIfInBounds_toArray, List.set_cons_zero, List.set_cons_succ]
      refine one_ (i := 42) (N := some 76) #[true, true, true, true, true, true, true, true, true, true, true, true, true, true, true, true, true, true, true, true, true, true, true, true, true, true, true, true, true, true, true, true, true, true, true, true, true, true, true, true, true, true, true, false, false, false, false] rfl rfl (by kernel_rfl) (by decide) (fun K hK => ?_)
      go_simp
      refine (mown_walk _ _ _ _ _ _ _ _ _ _ _ _).mono ?_
      rintro e wN ⟨rfl, hbN⟩
      have hq : Below wz.heap.size wz wN := (by first | exact below_then hq hq.size hbN | exact below_then (below_drew hq) (below_drew hq).size hbN | exact below_then (below_drew (below_drew hq)) (below_drew (below_drew hq)).size hbN)
      try go_wp2_with fail
      refine hK.out _ _ ?_ (fun hHeld2 => ?_)
      · (try dsimp only)
        first | with_reducible exact hHeld | exact ⟨pw_cell_below hq a0, pw_cell_below hq a1, pw_cell_below hq a2, pw_cell_below hq a3, pw_cell_below hq a4, pw_cell_below hq a5, pw_cell_below hq a6, pw_cell_below hq b0, pw_cell_below hq b1, pw_cell_below hq b2, pw_cell_below hq b3, pw_cell_below hq b4, pw_cell_below hq b5, pw_cell_below hq b6, pw_cell_below hq d0, pw_cell_below hq d1, pw_cell_below hq d2, pw_cell_below hq d3, pw_cell_below hq d4, pw_cell_below hq d5, pw_cell_below hq d6, pw_cell_below hq j0, pw_cell_below hq j1, pw_cell_below hq j2, pw_cell_below hq j3, pw_cell_below hq j4, pw_cell_below hq j5, pw_cell_below hq j6⟩
      clear hHeld hK K
      have hHeld := hHeld2
      clear hHeld2
      try simp only [Act.put, List.setIfInBounds_toArray, List.set_cons_zero, List.set_cons_succ]
      refine one_ (i := 43) (N := some 77) #[true, true, true, true, true, true, true, true, true, true, true, true, true, true, true, true, true, true, true, true, true, true, true, true, true, true, true, true, true, true, true, true, true, true, true, true, true, true, true, true, true, true, true, true, false, false, false] rfl rfl (by kernel_rfl) (by decide) (fun K hK => ?_)
      go_simp
      refine (rsame_walk y z _ _ _ _ _ _ _ _ _ _ _ _ _ (by first | exact HY1.out.1.below hq | exact HY1.out.1.below (below_drew hq) | exact HY1.out.1.below (below_drew (below_drew hq))) (by first | exact HZ1.out.1.below hq | exact HZ1.out.1.below (below_drew hq) | exact HZ1.out.1.below (below_drew (below_drew hq))) (by first | exact HY1.out.2.below hq | exact HY1.out.2.below (below_drew hq) | exact HY1.out.2.below (below_drew (below_drew hq))) (by first | exact HZ1.out.2.below hq | exact HZ1.out.2.below (below_drew hq) | exact HZ1.out.2.below (below_drew (below_drew hq)))).mono ?_
      rintro e wN ⟨rfl, hbN⟩
      rw [HSB.out]
      have hq : Below wz.heap.size wz wN := (by first | exact below_then hq hq.size hbN | exact below_then (below_drew hq) (below_drew hq).size hbN | exact below_then (below_drew (below_drew hq)) (below_drew (below_drew hq)).size hbN)
      try go_wp2_with fail
      refine hK.out _ _ ?_ (fun hHeld2 => ?_)
      · (try dsimp only)
        first | with_reducible exact hHeld | exact ⟨pw_cell_below hq a0, pw_cell_below hq a1, pw_cell_below hq a2, pw_cell_below hq a3, pw_cell_below hq a4, pw_cell_below hq a5, pw_cell_below hq a6, pw_cell_below hq b0, pw_cell_below hq b1, pw_cell_below hq b2, pw_cell_below hq b3, pw_cell_below hq b4, pw_cell_below hq b5, pw_cell_below hq b6, pw_cell_below hq d0, pw_cell_below hq d1, pw_cell_below hq d2, pw_cell_below hq d3, pw_cell_below hq d4, pw_cell_below hq d5, pw_cell_below hq d6, pw_cell_below hq j0, pw_cell_below hq j1, pw_cell_below hq j2, pw_cell_below hq j3, pw_cell_below hq j4, pw_cell_below hq j5, pw_cell_below hq j6⟩
      clear hHeld hK K
      have hHeld := hHeld2
      clear hHeld2
      try simp only [Act.put, List.setIfInBounds_toArray, List.set_cons_zero, List.set_cons_succ]
      refine pure_ (i := 44) (N := some 78) (v := ?_) (a' := ?_) #[true, true, true, true, true, true, true, true, true, true, true, true, true, true, true, true, true, true, true, true, true, true, true, true, true, true, true, true, true, true, true, true, true, true, true, true, true, true, true, true, true, true, true, true, true, false, false] rfl rfl (by kernel_rfl) (fun _ _ _ h => h) (Or.inl ⟨by rfl, ?_⟩) ?_ ?_
      rotate_left
      · intro w'
        go_simp
        (try with_reducible rfl)
      rotate_left
      · simp only [Act.put, List.setIfInBounds_toArray, List.set_cons_zero, List.set_cons_succ]
        rfl
      refine pure_ (i := 45) (N := some 79) (v := ?_) (a' := ?_) #[true, true, true, true, true, true, true, true, true, true, true, true, true, true, true, true, true, true, true, true, true, true, true, true, true, true, true, true, true, true, true, true, true, true, true, true, true, true, true, true, true, true, true, true, true, true, false] rfl rfl (by kernel_rfl) (fun _ _ _ h => h) (Or.inl ⟨by rfl, ?_⟩) ?_ ?_
      rotate_left
      · intro w'
        go_simp
        (try with_reducible rfl)
      rotate_left
      · simp only [Act.put, List.setIfInBounds_toArray, List.set_cons_zero, List.set_cons_succ]
        rfl
      refine pure_ (i := 46) (N := some 6) (v := ?_) (a' := ?_) #[true, true, true, true, true, true, true, true, true, true, true, true, true, true, true, true, true, true, true, true, true, true, true, true, true, true, true, true, true, true, true, true, true, true, true, true, true, true, true, true, true, true, true, true, true, true, true] rfl rfl (by kernel_rfl) (fun _ _ _ h => h) (Or.inl ⟨by rfl, ?_⟩) ?_ ?_
      rotate_left
      · intro w'
        go_simp
        (try with_reducible rfl)
      rotate_left
      · simp only [Act.put, List.setIfInBounds_toArray, List.set_cons_zero, List.set_cons_succ]
        rfl
      refine wpAnyLast_done (by kernel_rfl) ?_ _
      go_wp2_with fail
      go_ret
      exact ⟨by first | rfl | simp, by first | exact below_then BZ.out BZ.out.size hq | exact below_then BZ.out BZ.out.size (below_drew hq) | exact below_then BZ.out BZ.out.size (below_drew (below_drew hq))⟩
end Go.Proofs.Ytbjjfgfepbklnaa
