/- The walk of LinkElder. -/
import Derived.Test.YtbkpgkkfkjlnnaaLgZ
set_option linter.unusedVariables false
set_option linter.unusedSimpArgs false
namespace Go.Proofs.Ytbkpgkkfkjlnnaa.G
open Go.RowKit Go.Proofs.YtbkpgkkfkjlnnaaW.PrintWords Go.Proofs.YtbkpgkkfkjlnnaaW.PrintLast Go.Proofs.Ytbkpgkkfkjlnnaa.K Go.Proofs.Ytbkpgkkfkjlnnaa.Row Go.Proofs.Ytbkpgkkfkjlnnaa

/-- Back to an elder block. -/
theorem TwoX.old {W w : World} {ra rb N q q' : Nat} {da db : DS} {o o' : Obj} (h : TwoX W w ra rb da db N q o) (hq : W.heap[q']? = some o') : TwoX W w ra rb da db N q' o' := by
  obtain ⟨xa, xb, Sa, Sb, h1, h2, h3, h4, h5, h6, h7⟩ := h.ex
  have hl := lt_of_heap hq
  exact ⟨⟨xa, xb, Sa, Sb, h1, h2, h3, fun b hb => ⟨(h4 b hb).1, fun e => by have := (h4 b hb).1; omega⟩, fun b hb => ⟨(h5 b hb).1, fun e => by have := (h5 b hb).1; omega⟩, h6, h7⟩, h.ia, h.ib, (h.B.block q' hl).trans hq, h.B⟩
/-- Ahead of round i. -/
def Eld (W w : World) (ra rb i : Nat) (q : Nat) (o : Obj) : Prop := ∃ d, TwoX W w ra rb d d (3 * i) q o ∧ d.own = 0 ∧ d.peer = 1 ∧ d.view = 7
set_option maxRecDepth 100000 in
set_option maxHeartbeats 8000000 in
theorem elder_walk (W : World) (v0 : Value) (o0 : ∃ k f t vi s A n c xs B m d ys, v0 = .agg (msC k f t vi s (.slice A n c) (.slice B m d)) ∧ MsR W A n c xs B m d ys ∧ (0 ≤ vi ∧ vi < 4294967296) ∧ (0 ≤ s ∧ s < 4294967296))
    (v1 : Value) (o1 : ∃ A n c X, v1 = .slice A n c ∧ LAts W A n X ∧ n ≤ c) : Calls Try.prog 7 #[v0, v1] W fun e w' => e = .returned (.bool true) ∧ Below W.heap.size W w' := by
  obtain ⟨k, f, t, vi, s, A, n, c, xs, B, m, d, ys, rfl, hM, -, hs0⟩ := o0
  obtain ⟨LA, nl, lc, X, rfl, hX, hlc⟩ := o1
  have HM := Lib.hid hM; have HX := Lib.hid hX; clear hM hX
  obtain ⟨W1, hW1⟩ : ∃ W1, W1 = W.alloc (.cells (msC k f t vi s (.slice A n c) (.slice B m d)) 32) := ⟨_, rfl⟩
  have hs1 : W1.heap.size = W.heap.size + 1 := by rw [hW1]; simp
  have HQ := Lib.hid (show W1.heap[W.heap.size]? = some (.cells (msC k f t vi s (.slice A n c) (.slice B m d)) 32 (0, 0)) by rw [hW1]; exact heap_alloc_new _ _)
  have HB1 := Lib.hid (show Below W.heap.size W W1 by rw [hW1]; exact alloc_back _)
  have HW1 := Lib.hid hW1; have HS1 := Lib.hid hs1; clear hW1 hs1
  go_enter Try.func7, Try.ntmps7
  go_wp2_with fail
  refine (awake_walk _).mono ?_
  rintro e wA ⟨rfl, hbA⟩
  rw [show (W.alloc (.cells (msC k f t vi s (.slice A n c) (.slice B m d)) 32)) = W1 from HW1.out.symm] at hbA
  have hqA := heap_keep hbA HQ.out
  obtain ⟨c0, c1, c2, c3, c4, c5, c6⟩ := msC_cells hqA
  have HBA := Lib.hid hbA; have HQA := Lib.hid hqA; clear hbA hqA
  have hfin : ∀ (w' : World), Below W1.heap.size W1 w' → Below W.heap.size W w' := fun w' h => below_then HB1.out HB1.out.size h
  have HF := Lib.hid hfin; clear hfin
  by_cases g50 : 50 < nl
  · go_wp2_with fail
    go_ret
    exact ⟨rfl, HF.out _ HBA.out⟩
  by_cases g10 : 10 < n
  · go_wp2_with fail
    go_ret
    exact ⟨rfl, HF.out _ HBA.out⟩
  by_cases g11 : 10 < m
  · go_wp2_with fail
    go_ret
    exact ⟨rfl, HF.out _ HBA.out⟩
  by_cases gm : f = 1 ∧ t = 0 ∧ vi = 7
  · obtain ⟨rfl, rfl, rfl⟩ := gm
    go_wp2_with fail
    go_ret
    exact ⟨rfl, HF.out _ HBA.out⟩
  have hnl : nl ≤ 50 := by omega
  have hn10 : n ≤ 10 := by omega
  have hm10 : m ≤ 10 := by omega
  have HGM := Lib.hid gm; clear gm
  have HZ := Lib.hid (show (decide (50 < (nl : Int)) || decide (10 < (n : Int)) || decide (10 < (m : Int))) = false by rw [decide_eq_false (by omega), decide_eq_false (by omega), decide_eq_false (by omega)]; rfl)
  go_upto_region 3 with (fail)
  go_cut [51] (fun s51 wx => s51 = .bool false ∧ Aside0 (wx = wA))
  case first =>
    by_cases f1 : f = 1
    · subst f1
      by_cases t0 : t = 0
      · subst t0
        have v7 : (vi == 7) = false := by rw [beq_eq_false_iff_ne]; exact fun h => HGM.out ⟨rfl, rfl, h⟩
        go_wp2_with fail
        go_meet
        exact ⟨by rw [HZ.out], ⟨rfl⟩⟩
      · have t0' : (t == 0) = false := by rw [beq_eq_false_iff_ne]; exact t0
        go_wp2_with fail
        go_meet
        exact ⟨by rw [HZ.out], ⟨rfl⟩⟩
    · have f1' : (f == 1) = false := by rw [beq_eq_false_iff_ne]; exact f1
      go_wp2_with fail
      go_meet
      exact ⟨by rw [HZ.out], ⟨rfl⟩⟩
  case rest =>
  obtain ⟨rfl, ⟨hwc⟩⟩ := hcut
  subst hwc
  clear c0 c1 c2 c3 c4 c5 c6 g50 g10 g11 HZ
  go_wp2_with fail
  refine (new_ok 0 1 7 _ (by decide) (by decide) (by decide)).mono ?_
  rintro e w2 ⟨rfl, hw2⟩
  have N3 := Lib.hid (fun w => new_ok 0 1 7 w (by decide) (by decide) (by decide))
  have HW2 := Lib.hid hw2; clear hw2
  go_wp2_with fail
  refine (N3.out _).mono ?_
  rintro e w3 ⟨rfl, hw3⟩
  have T0 := Lib.hid (TwoX.made (W := W1) 0 1 7 (by decide) (by decide) HBA.out HQA.out (by rw [HS1.out]; omega))
  rw [← HW2.out, ← hw3] at T0
  have hrb : w2.heap.size = wc.heap.size + 1 := by rw [HW2.out]; simp
  rw [hrb]
  have E0 := Lib.hid (show Eld W1 w3 wc.heap.size (wc.heap.size + 1) 0 W.heap.size _ from ⟨_, T0.out, rfl, rfl, rfl⟩)
  obtain ⟨ra, hra⟩ : ∃ ra, ra = wc.heap.size := ⟨_, rfl⟩
  obtain ⟨rb, hrb2⟩ : ∃ rb, rb = wc.heap.size + 1 := ⟨_, rfl⟩
  rw [← hrb2, ← hra] at E0
  rw [← hrb2, ← hra]
  clear T0 hra hrb2 hrb hw3 N3 HW2
  go_wp2_with fail
  go_loopw [9] (fun s9 wr => ∃ i : Nat, i ≤ nl ∧ s9 = .int .i64 i ∧ Aside0 (Eld W1 wr ra rb i W.heap.size (.cells (msC k f t vi s (.slice A n c) (.slice B m d)) 32 (0, 0)))) (fun s9 _ => nl - (intOf s9).toNat)
  case atStart => exact ⟨0, Nat.zero_le _, rfl, ⟨E0.out⟩⟩
  case round =>
    obtain ⟨i, hi, rfl, HK⟩ := hrel
    by_cases hlt : i < nl
    · obtain ⟨D, hT, hD⟩ := HK.out
      obtain ⟨c0, c1, c2, c3, c4, c5, c6⟩ := msC_cells hT.hq
      have C1 := Lib.hid (hT.getBad k f t vi s A B n c m d xs ys (by omega) (HM.out.below HB1.out) hn10 hm10 hs0 (by rw [hD.1, hD.2.1, hD.2.2]; exact HGM.out))
      have HD := Lib.hid hD; clear hD hT HK
      go_wp2_with fail
      refine C1.out.mono ?_
      rintro e w2 ⟨⟨A1, k1, A2, k2, E, rfl, hE⟩, hT2⟩
      obtain ⟨ad, rfl, hact⟩ := HX.out.2 i hlt
      obtain ⟨x, hx⟩ : ∃ x, x = X i := ⟨_, rfl⟩
      rw [← hx] at hact
      obtain ⟨op, fit, xk, xf, xt, xv, xs', xA, xn, xc, xxs, xB, xm, xd, xys, xnow⟩ := x
      obtain ⟨a0, a1, a2, a3, a4, a5, a6, a7, a8, a9, ar, avr, asr, anr⟩ := hact.below (HF.out _ hT2.B)
      simp only at a0 a1 a2 a3 a4 a5 a6 a7 a8 a9 ar avr asr anr
      have HA := Lib.hid hact; have T2 := Lib.hid hT2
      have p0 : ∀ o, (w2.alloc o).cell? (ad.add (i * 10)) = some (.int .i64 op) := fun o => pw_cell_below (alloc_back o) a0
      have p9 : ∀ o, (w2.alloc o).cell? ⟨(ad.add (i * 10)).block, (ad.add (i * 10)).off + 9, none⟩ = some (.int .i64 xnow) := fun o => pw_cell_below (alloc_back o) a9
      clear hact hT2 hx C1 c0 c1 c2 c3 c4 c5 c6 ar avr
      by_cases x10 : 10 < xn
      · go_wp2_with fail
        go_ret
        exact ⟨rfl, HF.out _ (T2.out.B.alloc T2.out.B.size _)⟩
      by_cases y10 : 10 < xm
      · go_wp2_with fail
        go_ret
        exact ⟨rfl, HF.out _ (T2.out.B.alloc T2.out.B.size _)⟩
      have M3 := Lib.hid (HA.out.r.below HB1.out)
      have x10' : xn ≤ 10 := by omega
      have y10' : xm ≤ 10 := by omega
      have LX := Lib.hid (And.intro x10' y10'); clear x10' y10'
      obtain ⟨wx, hwx⟩ : ∃ wx, wx = w2.alloc (.cells #[.int .i64 xk, .int .i64 1, .int .i64 0, .int .u32 7, .int .u32 xs', .slice xA xn xc, .slice xB xm xd] 32) := ⟨_, rfl⟩
      have T3 := Lib.hid (show TwoX W1 wx ra rb D D (3 * i + 1) w2.heap.size (.cells (msC xk 1 0 7 xs' (.slice xA xn xc) (.slice xB xm xd)) 32 (0, 0)) by rw [hwx]; exact T2.out.box)
      have HWX := Lib.hid hwx; clear hwx
      have HLT := Lib.hid hlt; clear hlt
      go_upto_if 108 with (fail)
      rw [← HWX.out]
      have p0 := pw_cell_below (HF.out _ T3.out.B) HA.out.c0
      have p9 := pw_cell_below (HF.out _ T3.out.B) HA.out.c9
      simp only at p0 p9
      obtain ⟨q, hq⟩ : ∃ q, q = w2.heap.size := ⟨_, rfl⟩
      rw [← hq] at T3
      rw [← hq]
      clear hq a0 a1 a2 a3 a4 a5 a6 a7 a8 a9 hE x10 y10 HWX
      obtain ⟨c0, c1, c2, c3, c4, c5, c6⟩ := msC_cells T3.out.hq
      go_cut [115] (fun s115 wy => Aside0 (∃ D5, TwoX W1 wy ra rb D5 D5 (3 * i + 3) q (.cells (msC xk 1 0 7 xs' (.slice xA xn xc) (.slice xB xm xd)) 32 (0, 0)) ∧ D5.own = 0 ∧ D5.peer = 1 ∧ D5.view = 7))
      case first =>
        have hN : 3 * i + 1 ≤ 600 := by omega
        have HN := Lib.hid hN; clear hN
        by_cases o0 : op = 0
        · subst o0
          as_aux_lemma =>
            obtain ⟨E5, D5, h5⟩ : ∃ E5 D5, dPush D ⟨xk, 1, 0, 7, xs', xxs, xys⟩ = (E5, D5) := ⟨_, _, rfl⟩
            have id5 := dPush_id D ⟨xk, 1, 0, 7, xs', xxs, xys⟩
            have CA : ∀ (w : World) (db : DS) (N : Nat) (o : Obj), TwoX W1 w ra rb D db N q o → N ≤ 700 → Calls Try.prog 10 #[.pointer (some ⟨ra, 0, none⟩), .agg (msC xk 1 0 7 xs' (.slice xA xn xc) (.slice xB xm xd))] w fun e w' => e = .returned (.int .i64 E5) ∧ TwoX W1 w' ra rb D5 db (N + 1) q o := fun w db N o h hN => by
              have := h.push xk 1 0 7 xs' xA xB xn xc xm xd xxs xys hN M3.out LX.out.1 LX.out.2
              rw [h5] at this; exact this
            have CB : ∀ (w : World) (da : DS) (N : Nat) (o : Obj), TwoX W1 w ra rb da D N q o → N ≤ 700 → Calls Try.prog 10 #[.pointer (some ⟨rb, 0, none⟩), .agg (msC xk 1 0 7 xs' (.slice xA xn xc) (.slice xB xm xd))] w fun e w' => e = .returned (.int .i64 E5) ∧ TwoX W1 w' ra rb da D5 (N + 1) q o := fun w da N o h hN => by
              have := h.swap.push xk 1 0 7 xs' xA xB xn xc xm xd xxs xys hN M3.out LX.out.1 LX.out.2
              rw [h5] at this; exact this.mono (fun e w' ⟨h1, h2⟩ => ⟨h1, h2.swap⟩)
            rw [h5] at id5
            have ID := Lib.hid id5; have HA5 := Lib.hid CA; have HB5 := Lib.hid CB
            clear id5 CA CB h5
            go_wp2_with fail
            have hBd := T3.out.below (below_drew (Below.refl _ _))
            first
            | (go_region_held3 (fun w' => w'.cell? ⟨q, 0, none⟩ = some (.int .i64 xk) ∧ w'.cell? ⟨q, 1, none⟩ = some (.int .i64 1) ∧ w'.cell? ⟨q, 2, none⟩ = some (.int .i64 0) ∧ w'.cell? ⟨q, 3, none⟩ = some (.int .u32 7) ∧ w'.cell? ⟨q, 4, none⟩ = some (.int .u32 xs') ∧ w'.cell? ⟨q, 5, none⟩ = some (.slice xA xn xc) ∧ w'.cell? ⟨q, 6, none⟩ = some (.slice xB xm xd))
                (first | with_reducible exact ⟨t0, t1, t2, t3, t4, t5, t6⟩ | exact ⟨c0, c1, c2, c3, c4, c5, c6⟩ | go_keep)
                (first
                  | (go_at_call 10; (with_reducible refine (HA5.out _ _ _ _ hBd (by have := HN.out; omega)).mono ?_); rintro e w5 ⟨rfl, h5⟩; obtain ⟨t0, t1, t2, t3, t4, t5, t6⟩ := msC_cells h5.hq; clear hBd; have hBd := h5; clear h5)
                  | (go_at_call 10; (with_reducible refine (HB5.out _ _ _ _ hBd (by have := HN.out; omega)).mono ?_); rintro e w5 ⟨rfl, h5⟩; obtain ⟨t0, t1, t2, t3, t4, t5, t6⟩ := msC_cells h5.hq; clear hBd; have hBd := h5; clear h5)))
            | fail "held"
            all_goals
              (try go_wp2_with fail)
              go_meet
              exact ⟨D5, hBd, ID.out.1.trans HD.out.1, ID.out.2.1.trans HD.out.2.1, ID.out.2.2.trans HD.out.2.2⟩
        have n0 : (op == 0) = false := by simpa using o0
        clear o0
        by_cases o1 : op = 1
        · subst o1
          as_aux_lemma =>
            obtain ⟨L5, D5, h5⟩ : ∃ L5 D5, dTick D xnow = (L5, D5) := ⟨_, _, rfl⟩
            obtain ⟨l5, hl5⟩ : ∃ l5, l5 = L5.length := ⟨_, rfl⟩
            have id5 := dTick_id D xnow
            have CA : ∀ (w : World) (db : DS) (N : Nat) (o : Obj), TwoX W1 w ra rb D db N q o → N ≤ 700 → Calls Try.prog 11 #[.pointer (some ⟨ra, 0, none⟩), .int .i64 xnow] w fun e w' => (∃ A c, e = .returned (.slice A l5 c)) ∧ TwoX W1 w' ra rb D5 db (N + 1) q o := fun w db N o h hN => by
              have := h.tick xnow hN anr
              rw [h5, ← hl5] at this; exact this
            have CB : ∀ (w : World) (da : DS) (N : Nat) (o : Obj), TwoX W1 w ra rb da D N q o → N ≤ 700 → Calls Try.prog 11 #[.pointer (some ⟨rb, 0, none⟩), .int .i64 xnow] w fun e w' => (∃ A c, e = .returned (.slice A l5 c)) ∧ TwoX W1 w' ra rb da D5 (N + 1) q o := fun w da N o h hN => by
              have := h.swap.tick xnow hN anr
              rw [h5, ← hl5] at this; exact this.mono (fun e w' ⟨h1, h2⟩ => ⟨h1, h2.swap⟩)
            rw [h5] at id5
            have ID := Lib.hid id5; have HA5 := Lib.hid CA; have HB5 := Lib.hid CB
            clear id5 CA CB h5 hl5
            go_wp2_with fail
            have hBd := T3.out.below (below_drew (Below.refl _ _))
            first
            | (go_region_held3 (fun w' => w'.cell? ⟨(ad.add (i * 10)).block, (ad.add (i * 10)).off + 9, none⟩ = some (.int .i64 xnow))
                (first | with_reducible exact t9 | exact p9 | go_keep)
                (first
                  | (go_at_call 11; (with_reducible refine (HA5.out _ _ _ _ hBd (by have := HN.out; omega)).mono ?_); rintro e w5 ⟨⟨Z1, z1, rfl⟩, h5⟩; have t9 := pw_cell_below (HF.out _ h5.B) HA.out.c9; simp only at t9; clear hBd; have hBd := h5; clear h5)
                  | (go_at_call 11; (with_reducible refine (HB5.out _ _ _ _ hBd (by have := HN.out; omega)).mono ?_); rintro e w5 ⟨⟨Z1, z1, rfl⟩, h5⟩; have t9 := pw_cell_below (HF.out _ h5.B) HA.out.c9; simp only at t9; clear hBd; have hBd := h5; clear h5)))
            | fail "held"
            all_goals
              (try go_wp2_with fail)
              go_meet
              exact ⟨D5, hBd, ID.out.1.trans HD.out.1, ID.out.2.1.trans HD.out.2.1, ID.out.2.2.trans HD.out.2.2⟩
        have n1 : (op == 1) = false := by simpa using o1
        clear o1
        as_aux_lemma =>
          obtain ⟨L5, L6, E5, D5, h5⟩ : ∃ L5 L6 E5 D5, dGet D ⟨xk, 1, 0, 7, xs', xxs, xys⟩ = ((L5, L6, E5), D5) := ⟨_, _, _, _, rfl⟩
          obtain ⟨l5, hl5⟩ : ∃ l5, l5 = L5.length := ⟨_, rfl⟩
          obtain ⟨l6, hl6⟩ : ∃ l6, l6 = L6.length := ⟨_, rfl⟩
          have id5 := dGet_id D ⟨xk, 1, 0, 7, xs', xxs, xys⟩
          have CA := T3.out.get xk 1 0 7 xs' xA xB xn xc xm xd xxs xys (by have := HN.out; omega) M3.out LX.out.1 LX.out.2 asr
          have CB : ∀ (w : World) (da : DS) (N : Nat) (o : Obj), TwoX W1 w ra rb da D N q o → N ≤ 700 → Calls Try.prog 13 #[.pointer (some ⟨rb, 0, none⟩), .agg (msC xk 1 0 7 xs' (.slice xA xn xc) (.slice xB xm xd))] w fun e w' => (∃ A1 c1 A2 c2, e = .returned (.tuple #[.slice A1 l5 c1, .slice A2 l6 c2, .int .i64 E5])) ∧ TwoX W1 w' ra rb da D5 (N + 1) q o := fun w da N o h hN => by
            have := h.swap.get xk 1 0 7 xs' xA xB xn xc xm xd xxs xys hN M3.out LX.out.1 LX.out.2 asr
            rw [h5, ← hl5, ← hl6] at this; exact this.mono (fun e w' ⟨h1, h2⟩ => ⟨h1, h2.swap⟩)
          rw [h5] at id5
          rw [h5] at CA
          have ID := Lib.hid id5; have HA5 := Lib.hid CA; have HB5 := Lib.hid CB
          clear id5 CA CB h5 hl5 hl6
          go_wp2_with fail
          refine HA5.out.mono ?_
          rintro e w5 ⟨⟨Z1, z1, Z2, z2, rfl⟩, h5⟩
          have HB6 := Lib.hid (HB5.out _ _ _ _ h5 (by have := HN.out; omega))
          obtain ⟨t0, t1, t2, t3, t4, t5, t6⟩ := msC_cells h5.hq
          clear h5 HA5 HB5 c0 c1 c2 c3 c4 c5 c6
          go_wp2_with fail
          refine HB6.out.mono ?_
          rintro e w6 ⟨⟨Z3, z3, Z4, z4, rfl⟩, h6⟩
          have H6 := Lib.hid h6; clear h6 HB6
          go_wp2_with fail
          go_meet
          exact ⟨D5, H6.out, ID.out.1.trans HD.out.1, ID.out.2.1.trans HD.out.2.1, ID.out.2.2.trans HD.out.2.2⟩
      case rest =>
        obtain ⟨D5, hT5, hid5⟩ := hcut.out
        obtain ⟨l1, hl1⟩ : ∃ l1, l1 = D5.out.length := ⟨_, rfl⟩
        obtain ⟨l2, hl2⟩ : ∃ l2, l2 = D5.held.length := ⟨_, rfl⟩
        obtain ⟨l3, hl3⟩ : ∃ l3, l3 = D5.next := ⟨_, rfl⟩
        have WA := Lib.hid hT5.wait; have WB := Lib.hid hT5.swap.wait
        have AA := Lib.hid hT5.ahead; have AB := Lib.hid hT5.swap.ahead
        have NA := Lib.hid hT5.nxt; have NB := Lib.hid hT5.swap.nxt
        rw [← hl1] at WA WB
        rw [← hl2] at AA AB
        rw [← hl3] at NA NB
        have T6 := Lib.hid (hT5.old HQ.out)
        have ID := Lib.hid hid5
        clear hl1 hl2 hl3 hT5 hid5 hcut c0 c1 c2 c3 c4 c5 c6 p0 p9
        go_wp2_with fail
        refine WA.out.mono ?_
        rintro e w' ⟨rfl, rfl⟩
        go_wp2_with fail
        refine WB.out.mono ?_
        rintro e w' ⟨rfl, rfl⟩
        go_wp2_with fail
        refine AA.out.mono ?_
        rintro e w' ⟨rfl, rfl⟩
        go_wp2_with fail
        refine AB.out.mono ?_
        rintro e w' ⟨rfl, rfl⟩
        go_wp2_with fail
        refine NA.out.mono ?_
        rintro e w' ⟨rfl, rfl⟩
        go_wp2_with fail
        refine NB.out.mono ?_
        rintro e w' ⟨rfl, rfl⟩
        have hi50 := HLT.out
        have e3 : 3 * (i + 1) = 3 * i + 3 := by omega
        go_wp2_with fail
        go_roundw
        case rel => exact ⟨i + 1, by omega, by go_num, ⟨D5, by rw [e3]; exact T6.out, ID.out⟩⟩
        case measure => simp [intOf]; omega
    · obtain rfl : i = nl := by omega
      obtain ⟨D, hT, hD⟩ := HK.out
      have HT := Lib.hid hT.B; clear hT HK hD
      go_wp2_with fail
      go_ret
      exact ⟨rfl, HF.out _ HT.out⟩
end Go.Proofs.Ytbkpgkkfkjlnnaa.G
