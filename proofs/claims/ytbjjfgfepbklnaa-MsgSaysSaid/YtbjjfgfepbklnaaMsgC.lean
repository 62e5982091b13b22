/- Walks of msg.Same and of the reference's Same (printed by a program of mine, mksame.py). -/
import Derived.Test.YtbjjfgfepbklnaaMsgB
set_option linter.unusedVariables false
set_option linter.unusedSimpArgs false
namespace Go.Proofs.Ytbjjfgfepbklnaa
open Go.RowKit Go.Proofs.YtbjjfgfepbklnaaW.PrintWords Go.Proofs.Ytbjjfgfepbklnaa.K

def Ms.eqb (x y : Ms) : Bool := decide (x.k = y.k) && (decide (x.f = y.f) && (decide (x.t = y.t) && (decide (x.v = y.v) && (decide (x.s = y.s) && (decide (x.n = y.n) && decide (x.w = y.w))))))
theorem Ms.eqb_iff (x y : Ms) : x.eqb y = true ↔ x = y := by
  cases x; cases y
  simp [Ms.eqb]
theorem Ms.eqb_ne {x y : Ms} (h : x ≠ y) : x.eqb y = false := by
  rw [Bool.eq_false_iff]; exact fun e => h ((Ms.eqb_iff x y).1 e)
theorem Ms.eqb_eq {x y : Ms} (h1 : x.k = y.k) (h2 : x.f = y.f) (h3 : x.t = y.t) (h4 : x.v = y.v) (h5 : x.s = y.s) (h6 : x.n = y.n) (h7 : x.w = y.w) : x.eqb y = true := by
  simp [Ms.eqb, h1, h2, h3, h4, h5, h6, h7]
theorem heap_keep' {w w' : World} {k : Nat} {o : Obj} (hb : Below w.heap.size w w') (h : w.heap[k]? = some o) : w'.heap[k]? = some o := (hb.block k (lt_of_heap h)).trans h
theorem two_old (W : World) (o o' : Obj) : ((W.alloc o).alloc o').heap[W.heap.size]? = some o := by simp only [hal]; exact hpush3 _ _ _
theorem two_new (W : World) (o o' : Obj) : ((W.alloc o).alloc o').heap[W.heap.size + 1]? = some o' := by simp only [hal]; exact hpush2 _ _ _
set_option maxRecDepth 100000 in
set_option maxHeartbeats 2000000 in
theorem same_walk (x y : Ms) (A A' B B' : Option Addr) (n c n' c' m d m' d' : Nat) (W : World) (hx : ReadsInt W .i64 A n x.n) (hx' : ReadsInt W .i64 A' n' y.n) (hy : WidesAt W B m x.w) (hy' : WidesAt W B' m' y.w) :
    Calls Try.prog 12 #[.agg (msC x.k x.f x.t x.v x.s (.slice A n c) (.slice B m d)), .agg (msC y.k y.f y.t y.v y.s (.slice A' n' c') (.slice B' m' d'))] W fun e w' => e = .returned (.bool (x.eqb y)) ∧ Below W.heap.size W w' := by
  have hb : ∀ o o' : Obj, Below W.heap.size W ((W.alloc o).alloc o') := fun o o' => alloc_back2 o o'
  have HB := Lib.hid hb
  have HX := Lib.hid hx; have HX' := Lib.hid hx'; have HY := Lib.hid hy; have HY' := Lib.hid hy'
  have n1 := hx.2.1; have n2 := hx'.2.1; have n3 := hy.2.1; have n4 := hy'.2.1
  clear hb hx hx' hy hy'
  by_cases e0 : x.k = y.k
  · have E0 := Lib.hid e0
    have b0 : (x.k == y.k) = true := by simp [e0]
    have c0 : (x.k != y.k) = false := by simp [e0]
    clear e0
    by_cases e1 : x.f = y.f
    · have E1 := Lib.hid e1
      have b1 : (x.f == y.f) = true := by simp [e1]
      have c1 : (x.f != y.f) = false := by simp [e1]
      clear e1
      by_cases e2 : x.t = y.t
      · have E2 := Lib.hid e2
        have b2 : (x.t == y.t) = true := by simp [e2]
        have c2 : (x.t != y.t) = false := by simp [e2]
        clear e2
        by_cases e3 : x.v = y.v
        · have E3 := Lib.hid e3
          have b3 : (x.v == y.v) = true := by simp [e3]
          have c3 : (x.v != y.v) = false := by simp [e3]
          clear e3
          by_cases e4 : x.s = y.s
          · have E4 := Lib.hid e4
            have b4 : (x.s == y.s) = true := by simp [e4]
            have c4 : (x.s != y.s) = false := by simp [e4]
            clear e4
            by_cases e5 : x.n = y.n
            · have E5 := Lib.hid e5
              clear e5
              by_cases e6 : x.w = y.w
              · have MB := Lib.hid (Ms.eqb_eq E0.out E1.out E2.out E3.out E4.out E5.out e6)
                have E6 := Lib.hid e6
                clear e6
                go_enter Try.func12, Try.ntmps12
                go_wp2_with fail
                refine (equal64_walk A A' n n' c c' x.n y.n _ (HX.out.below (HB.out _ _)) (HX'.out.below (HB.out _ _))).mono ?_
                rintro e w1 ⟨rfl, hb1⟩
                rw [decide_eq_true E5.out]
                have hs := (HB.out (.cells (msC x.k x.f x.t x.v x.s (.slice A n c) (.slice B m d)) 27) (.cells (msC y.k y.f y.t y.v y.s (.slice A' n' c') (.slice B' m' d')) 27)).size
                have B1 := Lib.hid (below_then (HB.out _ _) hs hb1)
                obtain ⟨x0, x1, x2, x3, x4, x5, x6⟩ := msC_cells (heap_keep' hb1 (two_old W (.cells (msC x.k x.f x.t x.v x.s (.slice A n c) (.slice B m d)) 27) (.cells (msC y.k y.f y.t y.v y.s (.slice A' n' c') (.slice B' m' d')) 27)))
                obtain ⟨y0, y1, y2, y3, y4, y5, y6⟩ := msC_cells (heap_keep' hb1 (two_new W (.cells (msC x.k x.f x.t x.v x.s (.slice A n c) (.slice B m d)) 27) (.cells (msC y.k y.f y.t y.v y.s (.slice A' n' c') (.slice B' m' d')) 27)))
                clear x0 x1 x2 x3 x4 x5 y0 y1 y2 y3 y4 y5 hs hb1
                go_wp2_with fail
                refine (equalW_walk B B' m m' d d' x.w y.w _ (HY.out.below B1.out) (HY'.out.below B1.out)).mono ?_
                rintro e w2 ⟨rfl, hb2⟩
                rw [decide_eq_true E6.out]
                have B2 := Lib.hid (below_then B1.out B1.out.size hb2)
                go_wp2_with fail
                go_ret
                exact ⟨by rw [MB.out]; rfl, B2.out⟩
              · have MB := Lib.hid (Ms.eqb_ne (x := x) (y := y) (fun e => e6 (by rw [e])))
                have E6 := Lib.hid e6
                clear e6
                go_enter Try.func12, Try.ntmps12
                go_wp2_with fail
                refine (equal64_walk A A' n n' c c' x.n y.n _ (HX.out.below (HB.out _ _)) (HX'.out.below (HB.out _ _))).mono ?_
                rintro e w1 ⟨rfl, hb1⟩
                rw [decide_eq_true E5.out]
                have hs := (HB.out (.cells (msC x.k x.f x.t x.v x.s (.slice A n c) (.slice B m d)) 27) (.cells (msC y.k y.f y.t y.v y.s (.slice A' n' c') (.slice B' m' d')) 27)).size
                have B1 := Lib.hid (below_then (HB.out _ _) hs hb1)
                obtain ⟨x0, x1, x2, x3, x4, x5, x6⟩ := msC_cells (heap_keep' hb1 (two_old W (.cells (msC x.k x.f x.t x.v x.s (.slice A n c) (.slice B m d)) 27) (.cells (msC y.k y.f y.t y.v y.s (.slice A' n' c') (.slice B' m' d')) 27)))
                obtain ⟨y0, y1, y2, y3, y4, y5, y6⟩ := msC_cells (heap_keep' hb1 (two_new W (.cells (msC x.k x.f x.t x.v x.s (.slice A n c) (.slice B m d)) 27) (.cells (msC y.k y.f y.t y.v y.s (.slice A' n' c') (.slice B' m' d')) 27)))
                clear x0 x1 x2 x3 x4 x5 y0 y1 y2 y3 y4 y5 hs hb1
                go_wp2_with fail
                refine (equalW_walk B B' m m' d d' x.w y.w _ (HY.out.below B1.out) (HY'.out.below B1.out)).mono ?_
                rintro e w2 ⟨rfl, hb2⟩
                rw [decide_eq_false E6.out]
                have B2 := Lib.hid (below_then B1.out B1.out.size hb2)
                go_wp2_with fail
                go_ret
                exact ⟨by rw [MB.out]; rfl, B2.out⟩
            · have MB := Lib.hid (Ms.eqb_ne (x := x) (y := y) (fun e => e5 (by rw [e])))
              have E5 := Lib.hid e5
              clear e5
              go_enter Try.func12, Try.ntmps12
              go_wp2_with fail
              refine (equal64_walk A A' n n' c c' x.n y.n _ (HX.out.below (HB.out _ _)) (HX'.out.below (HB.out _ _))).mono ?_
              rintro e w1 ⟨rfl, hb1⟩
              rw [decide_eq_false E5.out]
              have hs := (HB.out (.cells (msC x.k x.f x.t x.v x.s (.slice A n c) (.slice B m d)) 27) (.cells (msC y.k y.f y.t y.v y.s (.slice A' n' c') (.slice B' m' d')) 27)).size
              have B1 := Lib.hid (below_then (HB.out _ _) hs hb1)
              clear hs hb1
              go_wp2_with fail
              go_ret
              exact ⟨by rw [MB.out]; rfl, B1.out⟩
          · have MB := Lib.hid (Ms.eqb_ne (x := x) (y := y) (fun e => e4 (by rw [e])))
            have b4 : (x.s == y.s) = false := by simp [e4]
            have c4 : (x.s != y.s) = true := by simp [e4]
            clear e4
            go_enter Try.func12, Try.ntmps12
            go_wp2_with fail
            go_ret
            exact ⟨by rw [MB.out]; rfl, HB.out _ _⟩
        · have MB := Lib.hid (Ms.eqb_ne (x := x) (y := y) (fun e => e3 (by rw [e])))
          have b3 : (x.v == y.v) = false := by simp [e3]
          have c3 : (x.v != y.v) = true := by simp [e3]
          clear e3
          go_enter Try.func12, Try.ntmps12
          go_wp2_with fail
          go_ret
          exact ⟨by rw [MB.out]; rfl, HB.out _ _⟩
      · have MB := Lib.hid (Ms.eqb_ne (x := x) (y := y) (fun e => e2 (by rw [e])))
        have b2 : (x.t == y.t) = false := by simp [e2]
        have c2 : (x.t != y.t) = true := by simp [e2]
        clear e2
        go_enter Try.func12, Try.ntmps12
        go_wp2_with fail
        go_ret
        exact ⟨by rw [MB.out]; rfl, HB.out _ _⟩
    · have MB := Lib.hid (Ms.eqb_ne (x := x) (y := y) (fun e => e1 (by rw [e])))
      have b1 : (x.f == y.f) = false := by simp [e1]
      have c1 : (x.f != y.f) = true := by simp [e1]
      clear e1
      go_enter Try.func12, Try.ntmps12
      go_wp2_with fail
      go_ret
      exact ⟨by rw [MB.out]; rfl, HB.out _ _⟩
  · have MB := Lib.hid (Ms.eqb_ne (x := x) (y := y) (fun e => e0 (by rw [e])))
    have b0 : (x.k == y.k) = false := by simp [e0]
    have c0 : (x.k != y.k) = true := by simp [e0]
    clear e0
    go_enter Try.func12, Try.ntmps12
    go_wp2_with fail
    go_ret
    exact ⟨by rw [MB.out]; rfl, HB.out _ _⟩
set_option maxRecDepth 100000 in
set_option maxHeartbeats 2000000 in
theorem rsame_walk (x y : Ms) (A A' B B' : Option Addr) (n c n' c' m d m' d' : Nat) (W : World) (hx : ReadsInt W .i64 A n x.n) (hx' : ReadsInt W .i64 A' n' y.n) (hy : WidesAt W B m x.w) (hy' : WidesAt W B' m' y.w) :
    Calls Try.prog 15 #[.agg (msC x.k x.f x.t x.v x.s (.slice A n c) (.slice B m d)), .agg (msC y.k y.f y.t y.v y.s (.slice A' n' c') (.slice B' m' d'))] W fun e w' => e = .returned (.bool (x.eqb y)) ∧ Below W.heap.size W w' := by
  have hb : ∀ o o' : Obj, Below W.heap.size W ((W.alloc o).alloc o') := fun o o' => alloc_back2 o o'
  have HB := Lib.hid hb
  have HX := Lib.hid hx; have HX' := Lib.hid hx'; have HY := Lib.hid hy; have HY' := Lib.hid hy'
  have n1 := hx.2.1; have n2 := hx'.2.1; have n3 := hy.2.1; have n4 := hy'.2.1
  clear hb hx hx' hy hy'
  by_cases e0 : x.k = y.k
  · have E0 := Lib.hid e0
    have b0 : (x.k == y.k) = true := by simp [e0]
    have c0 : (x.k != y.k) = false := by simp [e0]
    clear e0
    by_cases e1 : x.f = y.f
    · have E1 := Lib.hid e1
      have b1 : (x.f == y.f) = true := by simp [e1]
      have c1 : (x.f != y.f) = false := by simp [e1]
      clear e1
      by_cases e2 : x.t = y.t
      · have E2 := Lib.hid e2
        have b2 : (x.t == y.t) = true := by simp [e2]
        have c2 : (x.t != y.t) = false := by simp [e2]
        clear e2
        by_cases e3 : x.v = y.v
        · have E3 := Lib.hid e3
          have b3 : (x.v == y.v) = true := by simp [e3]
          have c3 : (x.v != y.v) = false := by simp [e3]
          clear e3
          by_cases e4 : x.s = y.s
          · have E4 := Lib.hid e4
            have b4 : (x.s == y.s) = true := by simp [e4]
            have c4 : (x.s != y.s) = false := by simp [e4]
            clear e4
            by_cases hl : n = n'
            · subst hl
              by_cases hm : m = m'
              · subst hm
                go_enter Try.func15, Try.ntmps15
                go_wp2_with fail
                obtain ⟨w0, hw0⟩ : ∃ w0, w0 = (W.alloc (.cells (msC x.k x.f x.t x.v x.s (.slice A n c) (.slice B m d)) 35)).alloc (.cells (msC y.k y.f y.t y.v y.s (.slice A' n c') (.slice B' m d')) 35) := ⟨_, rfl⟩
                have hb0 : Below W.heap.size W w0 := by rw [hw0]; exact HB.out _ _
                obtain ⟨x0, x1, x2, x3, x4, x5, x6⟩ := msC_cells (show w0.heap[W.heap.size]? = some (.cells (msC x.k x.f x.t x.v x.s (.slice A n c) (.slice B m d)) 35 (0, 0)) by rw [hw0]; exact two_old _ _ _)
                obtain ⟨y0, y1, y2, y3, y4, y5, y6⟩ := msC_cells (show w0.heap[W.heap.size + 1]? = some (.cells (msC y.k y.f y.t y.v y.s (.slice A' n c') (.slice B' m d')) 35 (0, 0)) by rw [hw0]; exact two_new _ _ _)
                rw [← hw0]
                clear hw0 x0 x1 x2 x3 x4 y0 y1 y2 y3 y4 b0 b1 b2 b3 b4 c0 c1 c2 c3 c4
                have HB0 := Lib.hid hb0; clear hb0
                go_loopw [5] (fun i wr => ∃ k : Nat, k ≤ n ∧ i = .int .i64 k ∧ Aside0 ((∃ q, wr = w0.drewN q) ∧ ∀ j, j < k → x.n.getD j 0 = y.n.getD j 0)) (fun i _ => n - (intOf i).toNat)
                case atStart => exact ⟨0, Nat.zero_le _, rfl, ⟨⟨0, rfl⟩, fun j hj => by omega⟩⟩
                case round =>
                  obtain ⟨k, hk, rfl, HK⟩ := hrel
                  by_cases hlt : k < n
                  · obtain ⟨ad, rfl, hck⟩ := reads_at (HX.out.below HB0.out) k hlt
                    obtain ⟨bd, rfl, hcb⟩ := reads_at (HX'.out.below HB0.out) k hlt
                    obtain ⟨q, hq⟩ := HK.out.1
                    subst hq
                    have g1 : (0 : Int) ≤ (k : Int) := Int.natCast_nonneg _
                    have g2 : (k : Int) < (n : Int) := by omega
                    have hrest : (¬ x.n.getD k 0 = y.n.getD k 0) → x ≠ y := fun h e => h (by rw [e])
                    obtain ⟨u, hu⟩ : ∃ u, u = x.n.getD k 0 := ⟨_, rfl⟩
                    obtain ⟨v, hv⟩ : ∃ u, u = y.n.getD k 0 := ⟨_, rfl⟩
                    rw [← hu] at hck hrest
                    rw [← hv] at hcb hrest
                    have HU := Lib.hid hu; have HV := Lib.hid hv
                    clear hu hv
                    by_cases he : u = v
                    · have HE := Lib.hid he
                      rw [he] at hck
                      clear he hrest
                      go_wp2
                      go_quiet (fail)
                      go_wp2
                      go_roundw
                      case rel => exact ⟨k + 1, by omega, by go_num, ⟨⟨_, rfl⟩, fun j hj => by
                        rcases Nat.lt_succ_iff_lt_or_eq.1 hj with h | rfl
                        · exact HK.out.2 j h
                        · rw [← HU.out, ← HV.out]; exact HE.out⟩⟩
                      case measure => simp [intOf]; omega
                    · have MB := Lib.hid (Ms.eqb_ne (hrest he))
                      have he' : (u != v) = true := by simpa using he
                      clear hrest
                      go_wp2
                      go_quiet (fail)
                      go_wp2
                      go_ret
                      exact ⟨by rw [MB.out]; rfl, pw_below_drewN (pw_below_drewN HB0.out _) _⟩
                  · obtain rfl : k = n := by omega
                    obtain ⟨q, hq⟩ := HK.out.1
                    subst hq
                    have E5 : Hid (x.n = y.n) := Lib.hid (list_eq 0 (by rw [HX.out.1, HX'.out.1]) fun j h1 => HK.out.2 j (by have := HX.out.1; omega))
                    go_wp2
                    go_loopw [6] (fun i wr => ∃ p : Nat, p ≤ m ∧ i = .int .i64 p ∧ Aside0 ((∃ q, wr = w0.drewN q) ∧ ∀ j, j < p → x.w.getD j (0, 0) = y.w.getD j (0, 0))) (fun i _ => m - (intOf i).toNat)
                    case atStart => exact ⟨0, Nat.zero_le _, rfl, ⟨⟨q, rfl⟩, fun j hj => by omega⟩⟩
                    case round =>
                      obtain ⟨p, hp, rfl, HP⟩ := hrel
                      by_cases hlp : p < m
                      · obtain ⟨ad, rfl, hck, hck'⟩ := (HY.out.below HB0.out).2.2 p hlp
                        obtain ⟨bd, rfl, hcb, hcb'⟩ := (HY'.out.below HB0.out).2.2 p hlp
                        obtain ⟨q, hq⟩ := HP.out.1
                        subst hq
                        have g1 : (0 : Int) ≤ (p : Int) := Int.natCast_nonneg _
                        have g2 : (p : Int) < (m : Int) := by omega
                        have hrest : (¬ x.w.getD p (0, 0) = y.w.getD p (0, 0)) → x ≠ y := fun h e => h (by rw [e])
                        obtain ⟨⟨u1, u2⟩, hu⟩ : ∃ u, u = x.w.getD p (0, 0) := ⟨_, rfl⟩
                        obtain ⟨⟨v1, v2⟩, hv⟩ : ∃ u, u = y.w.getD p (0, 0) := ⟨_, rfl⟩
                        rw [← hu] at hck hck' hrest
                        rw [← hv] at hcb hcb' hrest
                        dsimp only at hck hck' hcb hcb'
                        have HU := Lib.hid hu; have HV := Lib.hid hv
                        clear hu hv
                        have he0 := fun W => eqW u1 u2 v1 v2 W
                        by_cases he : (u1, u2) = (v1, v2)
                        · have HE := Lib.hid he
                          have e1 : (u1 == v1 && u2 == v2) = true := by injection he with h1 h2; simp [h1, h2]
                          simp only [e1, Bool.not_true] at he0
                          clear he e1 hrest
                          go_wp2
                          go_quiet (fail)
                          go_wp2
                          go_roundw
                          case rel => exact ⟨p + 1, by omega, by go_num, ⟨⟨_, rfl⟩, fun j hj => by
                            rcases Nat.lt_succ_iff_lt_or_eq.1 hj with h | rfl
                            · exact HP.out.2 j h
                            · rw [← HU.out, ← HV.out]; exact HE.out⟩⟩
                          case measure => simp [intOf]; omega
                        · have MB := Lib.hid (Ms.eqb_ne (hrest he))
                          have e1 : (u1 == v1 && u2 == v2) = false := by
                            rw [Bool.eq_false_iff]; intro h; simp at h; exact he (by rw [h.1, h.2])
                          simp only [e1, Bool.not_false] at he0
                          clear he e1 hrest
                          go_wp2
                          go_quiet (fail)
                          go_wp2
                          go_ret
                          exact ⟨by rw [MB.out]; rfl, pw_below_drewN (pw_below_drewN HB0.out _) _⟩
                      · obtain rfl : p = m := by omega
                        obtain ⟨q, hq⟩ := HP.out.1
                        subst hq
                        have E6 : Hid (x.w = y.w) := Lib.hid (list_eq (0, 0) (by rw [HY.out.1, HY'.out.1]) fun j h1 => HP.out.2 j (by have := HY.out.1; omega))
                        have MB := Lib.hid (Ms.eqb_eq E0.out E1.out E2.out E3.out E4.out E5.out E6.out)
                        go_wp2
                        go_ret
                        exact ⟨by rw [MB.out]; rfl, pw_below_drewN HB0.out _⟩
              · have MB := Lib.hid (Ms.eqb_ne (x := x) (y := y) (fun e => hm (by rw [← HY.out.1, ← HY'.out.1, e])))
                have hm2 : ((m : Int) == (m' : Int)) = false := by simp; omega
                have hm3 : ¬ ((m : Int) = (m' : Int)) := by omega
                go_enter Try.func15, Try.ntmps15
                go_wp2_with fail
                go_ret
                exact ⟨by rw [MB.out]; rfl, HB.out _ _⟩
            · have MB := Lib.hid (Ms.eqb_ne (x := x) (y := y) (fun e => hl (by rw [← HX.out.1, ← HX'.out.1, e])))
              have hl2 : ((n : Int) == (n' : Int)) = false := by simp; omega
              have hl3 : ¬ ((n : Int) = (n' : Int)) := by omega
              go_enter Try.func15, Try.ntmps15
              go_wp2_with fail
              go_ret
              exact ⟨by rw [MB.out]; rfl, HB.out _ _⟩
          · have MB := Lib.hid (Ms.eqb_ne (x := x) (y := y) (fun e => e4 (by rw [e])))
            have b4 : (x.s == y.s) = false := by simp [e4]
            have c4 : (x.s != y.s) = true := by simp [e4]
            clear e4
            go_enter Try.func15, Try.ntmps15
            go_wp2_with fail
            go_ret
            exact ⟨by rw [MB.out]; rfl, HB.out _ _⟩
        · have MB := Lib.hid (Ms.eqb_ne (x := x) (y := y) (fun e => e3 (by rw [e])))
          have b3 : (x.v == y.v) = false := by simp [e3]
          have c3 : (x.v != y.v) = true := by simp [e3]
          clear e3
          go_enter Try.func15, Try.ntmps15
          go_wp2_with fail
          go_ret
          exact ⟨by rw [MB.out]; rfl, HB.out _ _⟩
      · have MB := Lib.hid (Ms.eqb_ne (x := x) (y := y) (fun e => e2 (by rw [e])))
        have b2 : (x.t == y.t) = false := by simp [e2]
        have c2 : (x.t != y.t) = true := by simp [e2]
        clear e2
        go_enter Try.func15, Try.ntmps15
        go_wp2_with fail
        go_ret
        exact ⟨by rw [MB.out]; rfl, HB.out _ _⟩
    · have MB := Lib.hid (Ms.eqb_ne (x := x) (y := y) (fun e => e1 (by rw [e])))
      have b1 : (x.f == y.f) = false := by simp [e1]
      have c1 : (x.f != y.f) = true := by simp [e1]
      clear e1
      go_enter Try.func15, Try.ntmps15
      go_wp2_with fail
      go_ret
      exact ⟨by rw [MB.out]; rfl, HB.out _ _⟩
  · have MB := Lib.hid (Ms.eqb_ne (x := x) (y := y) (fun e => e0 (by rw [e])))
    have b0 : (x.k == y.k) = false := by simp [e0]
    have c0 : (x.k != y.k) = true := by simp [e0]
    clear e0
    go_enter Try.func15, Try.ntmps15
    go_wp2_with fail
    go_ret
    exact ⟨by rw [MB.out]; rfl, HB.out _ _⟩
end Go.Proofs.Ytbjjfgfepbklnaa
