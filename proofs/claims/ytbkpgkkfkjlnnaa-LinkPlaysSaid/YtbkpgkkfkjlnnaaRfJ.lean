/- The walk of LinkPlays (printed by a program of mine, mkrfj.py). -/
import Derived.Test.YtbkpgkkfkjlnnaaRfI
set_option linter.unusedVariables false
set_option linter.unusedSimpArgs false
namespace Go.Proofs.Ytbkpgkkfkjlnnaa.G
open Go.RowKit Go.Proofs.YtbkpgkkfkjlnnaaW.PrintWords Go.Proofs.YtbkpgkkfkjlnnaaW.PrintLast Go.Proofs.Ytbkpgkkfkjlnnaa.K Go.Proofs.Ytbkpgkkfkjlnnaa.Row Go.Proofs.Ytbkpgkkfkjlnnaa

theorem ply_made {W w : World} (own peer view : Int) (h1 : 0 ≤ own ∧ own < 16) (h2 : 0 ≤ peer ∧ peer < 16) (hB : Below W.heap.size W w) :
    PlyX W ((w.alloc (.cells (lkC own peer view 0 (.slice none 0 0) 0 0 1 (.slice none 0 0)) 61)).alloc (.cells (rlC own peer view (.slice none 0 0) 0 0 (.slice none 0 0) 0 0) 47)) w.heap.size (w.heap.size + 1) (⟨own, peer, view, 0, 0, 0, 1, [], []⟩ : LSt).ds (⟨own, peer, view, 0, 0, 0, 1, [], []⟩ : LSt).ds 0 [] [] := by
  have hb1 := alloc_back (W := w) (.cells (lkC own peer view 0 (.slice none 0 0) 0 0 1 (.slice none 0 0)) 61)
  have hb2 := alloc_back (W := w.alloc (.cells (lkC own peer view 0 (.slice none 0 0) 0 0 1 (.slice none 0 0)) 61)) (.cells (rlC own peer view (.slice none 0 0) 0 0 (.slice none 0 0) 0 0) 47)
  have hn := heap_alloc_new (w.alloc (.cells (lkC own peer view 0 (.slice none 0 0) 0 0 1 (.slice none 0 0)) 61)) (.cells (rlC own peer view (.slice none 0 0) 0 0 (.slice none 0 0) 0 0) 47)
  rw [World.size_alloc] at hn
  have hs := hB.size
  have hsz : ((w.alloc (.cells (lkC own peer view 0 (.slice none 0 0) 0 0 1 (.slice none 0 0)) 61)).alloc (.cells (rlC own peer view (.slice none 0 0) 0 0 (.slice none 0 0) 0 0) 47)).heap.size = w.heap.size + 1 + 1 := by simp
  refine ⟨⟨_, _, fun b => b = w.heap.size + 1, fun b => b < W.heap.size, (lk_made w own peer view).below hb2, rfl, ⟨fun b hb => by rw [hsz, hb]; omega, fun b hb => by rw [hsz]; omega, fun b hb hu => by omega, rfl, ⟨.slice none 0 0, none, 0, [], [], ⟨hn, Q.QRow.nil _ _ _ _, (fun b hb => by simp [Value.ownBlock] at hb), nil_own _ _ _ _, rfl, rfl, (fun p hp => by cases hp), (fun p hp => by cases hp)⟩⟩⟩, fun b hb => ⟨by omega, by omega, by omega⟩, fun b hb => by omega, fun b hb => hb, (fun p hp => by cases hp), (fun p hp => by cases hp)⟩, inv_new h1 h2, inv_new h1 h2, (fun p hp => by cases hp), below_then hB hs (below_then hb1 hb1.size hb2)⟩
theorem box10 {w : World} {r : Nat} {a0 a1 a2 a3 a4 a5 a6 a7 a8 a9 : Value} {ty : TypeId} (hh : w.heap[r]? = some (.cells #[a0, a1, a2, a3, a4, a5, a6, a7, a8, a9] ty (0, 0))) :
    w.cell? ⟨r, 0, none⟩ = some a0 ∧ w.cell? ⟨r, 1, none⟩ = some a1 ∧ w.cell? ⟨r, 2, none⟩ = some a2 ∧ w.cell? ⟨r, 3, none⟩ = some a3 ∧ w.cell? ⟨r, 4, none⟩ = some a4 ∧ w.cell? ⟨r, 5, none⟩ = some a5 ∧ w.cell? ⟨r, 6, none⟩ = some a6 ∧ w.cell? ⟨r, 7, none⟩ = some a7 ∧ w.cell? ⟨r, 8, none⟩ = some a8 ∧ w.cell? ⟨r, 9, none⟩ = some a9 := by
  simp [World.cell?, hh]
theorem rdyD_len (m : Nat) (nx : Int) (held out : List Dt) : (rdyD m nx held out).1.length ≤ out.length + held.length := by
  induction m generalizing nx held out with
  | zero => exact Nat.le_add_right _ _
  | succ m ih =>
    rw [rdyD]
    cases hx : held[held.findIdx (fun h => h.s == nx)]? with
    | none => exact Nat.le_add_right _ _
    | some x =>
      have hlt := (List.getElem?_eq_some_iff.1 hx).1
      have h1 := ih (nx + 1) (held.eraseIdx (held.findIdx (fun h => h.s == nx))) (out ++ [x])
      rw [List.length_eraseIdx_of_lt hlt, List.length_append, List.length_singleton] at h1
      exact Nat.le_trans h1 (by omega)
theorem dGet_len (d : DS) (m : Dt) : (dGet d m).1.1.length ≤ d.held.length + 1 ∧ (dGet d m).1.2.1.length ≤ 1 := by
  unfold dGet
  repeat' split
  all_goals first
    | (constructor <;> simp)
    | skip
  have := rdyD_len (d.held.length + 1) d.next (d.held ++ [m]) []
  simp at this
  exact this
set_option maxRecDepth 100000 in
set_option maxHeartbeats 8000000 in
theorem plays_walk (W : World) (own : Int) (wo : (Lit.int .i64 own).wf = true) (peer : Int) (wp : (Lit.int .i64 peer).wf = true) (view : Int) (wv : (Lit.int .u32 view).wf = true) (v1 : Value) (o1 : ∃ A n c X, v1 = .slice A n c ∧ LAts W A n X ∧ n ≤ c) :
    Calls Try.prog 6 #[.int .i64 own, .int .i64 peer, .int .u32 view, v1] W fun e w' => e = .returned (.bool true) ∧ Below W.heap.size W w' := by
  obtain ⟨LA, nl, lc, X, rfl, hX, hlc⟩ := o1
  have HX := Lib.hid hX; clear hX
  by_cases hmay : (0 ≤ own ∧ own < 16) ∧ (0 ≤ peer ∧ peer < 16) ∧ own ≠ peer
  case neg =>
    have CM := Lib.hid (fun w => maylink_walk own peer w)
    rw [show mayB own peer = false by unfold mayB; rw [decide_eq_false hmay]] at CM
    have CN := Lib.hid (fun w => new_bad own peer view w hmay)
    clear hmay wo wp wv
    go_enter Try.func6, Try.ntmps6
    go_wp2_with fail
    refine (awake_walk _).mono ?_
    rintro e wA ⟨rfl, hbA⟩
    have HBA := Lib.hid hbA; clear hbA
    go_wp2_with fail
    refine (CN.out _).mono ?_
    rintro e w1 ⟨rfl, rfl⟩
    go_wp2_with fail
    refine (CM.out _).mono ?_
    rintro e w1 ⟨rfl, rfl⟩
    go_wp2_with fail
    go_ret
    exact ⟨by first | rfl | simp, HBA.out⟩
  have CM := Lib.hid (fun w => maylink_walk own peer w)
  rw [show mayB own peer = true by unfold mayB; rw [decide_eq_true hmay]] at CM
  have CN := Lib.hid (fun w => new_ok own peer view w hmay.1 hmay.2.1 hmay.2.2)
  have HMAY := Lib.hid hmay
  clear hmay wo wp wv
  go_enter Try.func6, Try.ntmps6
  go_wp2_with fail
  refine (awake_walk _).mono ?_
  rintro e wA ⟨rfl, hbA⟩
  have HBA := Lib.hid hbA; clear hbA
  go_wp2_with fail
  refine (CN.out _).mono ?_
  rintro e w1 ⟨rfl, hw1⟩
  have PM := Lib.hid (ply_made own peer view HMAY.out.1 HMAY.out.2.1 HBA.out)
  rw [← hw1] at PM
  have hs1 : w1.heap.size = wA.heap.size + 1 := by rw [hw1]; simp
  have HB1 := Lib.hid (show Below W.heap.size W w1 by rw [hw1]; exact HBA.out.alloc HBA.out.size _)
  obtain ⟨rk, hrk⟩ : ∃ rk, rk = wA.heap.size := ⟨_, rfl⟩
  rw [← hs1] at PM
  rw [← hrk] at PM
  rw [← hrk]
  clear hw1 hs1 hrk CN
  go_wp2_with fail
  refine (CM.out _).mono ?_
  rintro e w2 ⟨rfl, rfl⟩
  by_cases h100 : 100 < nl
  · go_wp2_with fail
    go_ret
    exact ⟨by first | rfl | simp, HB1.out⟩
  have hnl : nl ≤ 100 := by omega
  have d100 : decide ((100 : Int) < (nl : Int)) = false := decide_eq_false (by omega)
  obtain ⟨w3, hw3⟩ : ∃ w3, w3 = w1.alloc (.cells #[.int .i64 own, .int .i64 peer, .int .u32 view, .slice none 0 0, .int .u32 0, .int .u32 0, .int .u32 0, .slice none 0 0, .int .u32 0, .int .i64 0] 47) := ⟨_, rfl⟩
  obtain ⟨rr, hrr⟩ : ∃ rr, rr = w1.heap.size := ⟨_, rfl⟩
  rw [← hrr] at PM
  have P3 := Lib.hid (show PlyX W w3 rk rr (⟨own, peer, view, 0, 0, 0, 1, [], []⟩ : LSt).ds (⟨own, peer, view, 0, 0, 0, 1, [], []⟩ : LSt).ds 0 [] [] by rw [hw3]; exact PM.out)
  have HW3 := Lib.hid hw3.symm; have HRR := Lib.hid hrr.symm
  clear hw3 hrr PM h100 CM
  go_upto_region 9 with (fail)
  rw [HW3.out, HRR.out]
  clear d100
  go_wp2_with fail
  go_loopw [12] (fun s12 wr => ∃ i : Nat, i ≤ nl ∧ s12 = .int .i64 i ∧ Aside0 (∃ D, PlyX W wr rk rr D D (2 * i) [] [] ∧ HInv D)) (fun s12 _ => nl - (intOf s12).toNat)
  case atStart => exact ⟨0, Nat.zero_le _, rfl, ⟨_, P3.out, ⟨List.nodup_nil, fun h hh => by cases hh⟩⟩⟩
  case round =>
    obtain ⟨i, hi, rfl, HK⟩ := hrel
    by_cases hlt : i < nl
    · obtain ⟨D, hP, hH⟩ := HK.out
      have HP := Lib.hid hP; have HH := Lib.hid hH; clear HK hP hH
      obtain ⟨ad, rfl, hact⟩ := HX.out.2 i hlt
      obtain ⟨x, hx⟩ : ∃ x, x = X i := ⟨_, rfl⟩
      rw [← hx] at hact
      obtain ⟨op, fit, xk, xf, xt, xv, xs', xA, xn, xc, xxs, xB, xm, xd, xys, xnow⟩ := x
      obtain ⟨a0, a1, a2, a3, a4, a5, a6, a7, a8, a9, ar, avr, asr, anr⟩ := hact.below HP.out.B
      simp only at a0 a1 a2 a3 a4 a5 a6 a7 a8 a9 ar avr asr anr
      have HA := Lib.hid hact
      have HR := Lib.hid hact.r
      clear hact hx ar avr
      obtain ⟨q1, hq1⟩ : ∃ q1, q1 = wr.heap.size := ⟨_, rfl⟩
      obtain ⟨wx, hwx⟩ : ∃ wx, wx = wr.alloc (.cells #[.int .i64 op, .bool fit, .int .i64 xk, .int .i64 xf, .int .i64 xt, .int .u32 xv, .int .u32 xs', .slice xA xn xc, .slice xB xm xd, .int .i64 xnow] 49) := ⟨_, rfl⟩
      have P4 := Lib.hid (show PlyX W wx rk rr D D (2 * i) [(q1, _)] [] by rw [hwx, hq1]; exact HP.out.box)
      have HWX := Lib.hid hwx.symm; have HQ1 := Lib.hid hq1.symm
      have HLT := Lib.hid hlt
      clear hwx hq1 hlt
      go_upto_region 13 with (fail)
      rw [HWX.out, HQ1.out]
      obtain ⟨b0, b1, b2, b3, b4, b5, b6, b7, b8, b9⟩ := box10 (P4.out.hq _ (List.mem_cons_self ..))
      obtain ⟨q2, hq2⟩ : ∃ q2, q2 = wx.heap.size := ⟨_, rfl⟩
      obtain ⟨wy, hwy⟩ : ∃ wy, wy = wx.alloc (.cells #[.int .i64 xk, .int .i64 xf, .int .i64 xt, .int .u32 xv, .int .u32 xs', .slice xA xn xc, .slice xB xm xd] 32) := ⟨_, rfl⟩
      have hne : q1 ≠ q2 := fun e => by have := lt_of_heap (P4.out.hq _ (List.mem_cons_self ..)); simp only at this; omega
      have P5 := Lib.hid (show PlyX W wy rk rr D D (2 * i) [(q2, .cells (msC xk xf xt xv xs' (.slice xA xn xc) (.slice xB xm xd)) 32 (0, 0)), (q1, _)] [] by rw [hwy, hq2]; exact P4.out.box)
      have HWY := Lib.hid hwy.symm; have HQ2 := Lib.hid hq2.symm; have HNE := Lib.hid hne
      clear hwy hq2 hne a0 a1 a2 a3 a4 a5 a6 a7 a8 a9
      go_upto_region 14 with (fail)
      rw [HWY.out, HQ2.out]
      clear b0 b1 b2 b3 b4 b5 b6 b7 b8 b9
      obtain ⟨b0, b1, b2, b3, b4, b5, b6, b7, b8, b9⟩ := box10 (P5.out.hq (q1, _) (List.mem_cons_of_mem _ (List.mem_cons_self ..)))
      obtain ⟨c0, c1, c2, c3, c4, c5, c6⟩ := msC_cells (P5.out.hq (q2, _) (List.mem_cons_self ..))
      by_cases x10 : 10 < xn
      · go_wp2_with fail
        go_ret
        exact ⟨rfl, P5.out.B⟩
      by_cases y10 : 10 < xm
      · go_wp2_with fail
        go_ret
        exact ⟨rfl, P5.out.B⟩
      have LX := Lib.hid (show xn ≤ 10 ∧ xm ≤ 10 from ⟨by omega, by omega⟩)
      go_upto_if 78 with (fail)
      clear x10 y10 c0 c1 c2 c3 c4 c5 c6 b0 b1 b2 b3 b4 b5 b6 b7 b8 b9
      go_cut [84] (fun s84 wz => Aside0 (∃ mf mt mv, PlyX W wz rk rr D D (2 * i) [(q2, .cells (msC xk mf mt mv xs' (.slice xA xn xc) (.slice xB xm xd)) 32 (0, 0)), (q1, .cells #[.int .i64 op, .bool fit, .int .i64 xk, .int .i64 xf, .int .i64 xt, .int .u32 xv, .int .u32 xs', .slice xA xn xc, .slice xB xm xd, .int .i64 xnow] 49 (0, 0))] []))
      case first =>
        by_cases hf : fit = true
        · subst hf
          have h0 := P5.out.hq (q2, _) (List.mem_cons_self ..)
          obtain ⟨c0, c1, c2, c3, c4, c5, c6⟩ := msC_cells h0
          have f1 := froz h0 1
          have f2 := froz h0 2
          have f3 := froz h0 3
          have HS := Lib.hid (P5.out.set (w' := ((wy.setCell ⟨q2, 1, none⟩ (.int .i64 peer)).setCell ⟨q2, 2, none⟩ (.int .i64 own)).setCell ⟨q2, 3, none⟩ (.int .u32 view)) (fun p hp => by obtain rfl := List.mem_singleton.1 hp; exact HNE.out) (World.grownBy.trans (World.grownBy.trans (grown_set _) (grown_set _)) (grown_set _)) (mset3' h0))
          clear h0
          go_wp2_with fail
          go_meet
          exact ⟨peer, own, view, HS.out⟩
        · have hf' : fit = false := by simpa using hf
          subst hf'
          clear hf
          go_wp2_with fail
          go_meet
          exact ⟨xf, xt, xv, P5.out⟩
      case rest =>
      obtain ⟨mf, mt, mv, hP6⟩ := hcut.out
      have P6 := Lib.hid hP6
      clear hP6 hcut P5 P4 HWX HQ1 HWY HQ2
      obtain ⟨b0, b1, b2, b3, b4, b5, b6, b7, b8, b9⟩ := box10 (P6.out.hq (q1, _) (List.mem_cons_of_mem _ (List.mem_cons_self ..)))
      go_upto_block 2 with (fail)
      go_cut [15] (fun s15 wz => s15 = .bool true ∧ Aside0 (∃ D', PlyX W wz rk rr D' D' (2 * i + 2) [] [] ∧ HInv D'))
      case first =>
        obtain ⟨b0, b1, b2, b3, b4, b5, b6, b7, b8, b9⟩ := box10 (P6.out.hq (q1, _) (List.mem_cons_of_mem _ (List.mem_cons_self ..)))
        obtain ⟨c0, c1, c2, c3, c4, c5, c6⟩ := msC_cells (P6.out.hq (q2, _) (List.mem_cons_self ..))
        have HN := Lib.hid (show 2 * i + 2 ≤ 700 from by have := HLT.out; omega)
        by_cases o0 : op = 0
        · subst o0
          as_aux_lemma =>
            obtain ⟨E5, D5, h5⟩ : ∃ E5 D5, dPush D ⟨xk, mf, mt, mv, xs', xxs, xys⟩ = (E5, D5) := ⟨_, _, rfl⟩
            have HH5 := HH.out.push ⟨xk, mf, mt, mv, xs', xxs, xys⟩
            rw [h5] at HH5
            have HHD := Lib.hid HH5
            have CK : ∀ (w : World) (N : Nat) Qs, PlyX W w rk rr D D N Qs [] → N ≤ 700 → Calls Try.prog 10 #[.pointer (some ⟨rk, 0, none⟩), .agg (msC xk mf mt mv xs' (.slice xA xn xc) (.slice xB xm xd))] w fun e w' => e = .returned (.int .i64 E5) ∧ PlyX W w' rk rr D5 D (N + 1) Qs [] := fun w N Qs h hN => by
              have := h.kpush xk mf mt mv xs' xA xB xn xc xm xd xxs xys hN HR.out LX.out.1 LX.out.2
              rw [h5] at this; exact this
            have CR : ∀ (w : World) (N : Nat) Qs, PlyX W w rk rr D5 D N Qs [] → N ≤ 700 → Calls Try.prog 17 #[.pointer (some ⟨rr, 0, none⟩), .agg (msC xk mf mt mv xs' (.slice xA xn xc) (.slice xB xm xd))] w fun e w' => e = .returned (.int .i64 E5) ∧ PlyX W w' rk rr D5 D5 (N + 1) Qs [] := fun w N Qs h hN => by
              have := h.rpush xk mf mt mv xs' xA xB xn xc xm xd xxs xys hN HR.out LX.out.1 LX.out.2
              rw [h5] at this; exact this
            have CM := Lib.hid (fun w => mown_walk xk mf mt mv xs' xA xB xn xc xm xd w)
            have CK' := Lib.hid CK; have CR' := Lib.hid CR
            clear h5 HH5 CK CR
            go_wp2_with fail
            have hBd := P6.out.below (below_drew (Below.refl _ _))
            first
            | (go_region_held3 (fun w' => w'.cell? ⟨q2, 0, none⟩ = some (.int .i64 xk) ∧ w'.cell? ⟨q2, 1, none⟩ = some (.int .i64 mf) ∧ w'.cell? ⟨q2, 2, none⟩ = some (.int .i64 mt) ∧ w'.cell? ⟨q2, 3, none⟩ = some (.int .u32 mv) ∧ w'.cell? ⟨q2, 4, none⟩ = some (.int .u32 xs') ∧ w'.cell? ⟨q2, 5, none⟩ = some (.slice xA xn xc) ∧ w'.cell? ⟨q2, 6, none⟩ = some (.slice xB xm xd))
                (first | with_reducible exact ⟨t0, t1, t2, t3, t4, t5, t6⟩ | exact ⟨c0, c1, c2, c3, c4, c5, c6⟩ | go_keep)
                (first
                  | (go_at_call 10; (with_reducible refine (CK'.out _ _ _ hBd (by have := HN.out; omega)).mono ?_); rintro e w5 ⟨rfl, h5⟩; obtain ⟨t0, t1, t2, t3, t4, t5, t6⟩ := msC_cells (h5.hq (q2, _) (List.mem_cons_self ..)); clear hBd; have hBd := h5; clear h5)
                  | (go_at_call 18; (with_reducible refine (CM.out _).mono ?_); rintro e w5 ⟨rfl, hb5⟩; have h5 := hBd.below hb5; obtain ⟨t0, t1, t2, t3, t4, t5, t6⟩ := msC_cells (h5.hq (q2, _) (List.mem_cons_self ..)); clear hBd hb5; have hBd := h5; clear h5)
                  | (go_at_call 17; (with_reducible refine (CR'.out _ _ _ hBd (by have := HN.out; omega)).mono ?_); rintro e w5 ⟨rfl, h5⟩; obtain ⟨t0, t1, t2, t3, t4, t5, t6⟩ := msC_cells (h5.hq (q2, _) (List.mem_cons_self ..)); clear hBd; have hBd := h5; clear h5)))
            | fail "held"
            all_goals
              (try go_wp2_with fail)
              go_meet
              exact ⟨by first | rfl | simp, ⟨D5, hBd.drop, HHD.out⟩⟩
        have n0 : (op == 0) = false := by simpa using o0
        clear o0
        by_cases o1 : op = 1
        · subst o1
          as_aux_lemma =>
            obtain ⟨L5, D5, h5⟩ : ∃ L5 D5, dTick D xnow = (L5, D5) := ⟨_, _, rfl⟩
            have hL5 : L5.length ≤ 100000 := by
              have h6 : L5 = (dTick D xnow).1 := by rw [h5]
              have h7 := P6.out.ik.len
              have h8 := HN.out
              rw [h6]; unfold dTick dueDL
              rw [List.length_map]
              have h9 := List.length_filter_le (dueD (nowD D xnow)) (D.out.take (min D.out.length 32))
              rw [List.length_take] at h9
              omega
            have HH5 := HH.out.tick xnow
            rw [h5] at HH5
            have HHD := Lib.hid HH5
            have CK : ∀ (w : World) (N : Nat) Qs, PlyX W w rk rr D D N Qs [] → N ≤ 700 → Calls Try.prog 11 #[.pointer (some ⟨rk, 0, none⟩), .int .i64 xnow] w fun e w' => ∃ V, e = .returned V ∧ PlyX W w' rk rr D5 D (N + 1) Qs [(V, L5)] := fun w N Qs h hN => by
              have := h.ktick xnow hN anr
              rw [h5] at this; exact this
            have CR : ∀ (w : World) (N : Nat) Qs V, PlyX W w rk rr D5 D N Qs [(V, L5)] → N ≤ 700 → Calls Try.prog 20 #[.pointer (some ⟨rr, 0, none⟩), .int .i64 xnow] w fun e w' => ∃ V2, e = .returned V2 ∧ PlyX W w' rk rr D5 D5 (N + 1) Qs [] ∧ RowC w' V2 L5 ∧ RowC w' V L5 := fun w N Qs V h hN => by
              have := h.rtick xnow hN anr
              rw [h5] at this
              exact this.mono (fun e w' ⟨V2, h1, h2, h3, h4⟩ => ⟨V2, h1, h3, h2, h4 (V, L5) (List.mem_singleton_self _)⟩)
            have CK' := Lib.hid CK; have CR' := Lib.hid CR
            have CA := Lib.hid (fun w V1 V2 h1 h2 => all_walk w V1 V2 L5 h1 h2 hL5)
            clear h5 HH5 CK CR hL5
            go_wp2_with fail
            have hBd := P6.out.below (below_drew (Below.refl _ _))
            first
            | (go_region_held3 (fun w' => w'.cell? ⟨q1, 9, none⟩ = some (.int .i64 xnow))
                (first | with_reducible exact t9 | exact b9 | go_keep)
                (first
                  | (go_at_call 11; (with_reducible refine (CK'.out _ _ _ hBd (by have := HN.out; omega)).mono ?_); rintro e w5 ⟨Va, rfl, h5⟩; obtain ⟨-, -, -, -, -, -, -, -, -, t9⟩ := box10 (h5.hq (q1, _) (List.mem_cons_of_mem _ (List.mem_cons_self ..))); clear hBd; have hBd := h5; clear h5)
                  | (go_at_call 20; (with_reducible refine (CR'.out _ _ _ _ hBd (by have := HN.out; omega)).mono ?_); rintro e w5 ⟨Vb, rfl, h5, h6, h7⟩; obtain ⟨-, -, -, -, -, -, -, -, -, t9⟩ := box10 (h5.hq (q1, _) (List.mem_cons_of_mem _ (List.mem_cons_self ..))); clear hBd; have hBd := h5; have hRa := h7; have hRb := h6; clear h5 h6 h7)
                  | (go_at_call 19; (with_reducible refine (CA.out _ _ _ hRa hRb).mono ?_); rintro e w5 ⟨rfl, hb5⟩; have h5 := hBd.below hb5; obtain ⟨-, -, -, -, -, -, -, -, -, t9⟩ := box10 (h5.hq (q1, _) (List.mem_cons_of_mem _ (List.mem_cons_self ..))); clear hBd hb5; have hBd := h5; clear h5)))
            | fail "held"
            all_goals
              (try go_wp2_with fail)
              go_meet
              exact ⟨by first | rfl | simp, ⟨D5, hBd.drop, HHD.out⟩⟩
        have n1 : (op == 1) = false := by simpa using o1
        clear o1
        as_aux_lemma =>
          obtain ⟨L5, L6, E5, D5, h5⟩ : ∃ L5 L6 E5 D5, dGet D ⟨xk, mf, mt, mv, xs', xxs, xys⟩ = ((L5, L6, E5), D5) := ⟨_, _, _, _, rfl⟩
          have hL5 : L5.length ≤ 100000 ∧ L6.length ≤ 100000 := by
            have h6 := dGet_len D ⟨xk, mf, mt, mv, xs', xxs, xys⟩
            rw [h5] at h6
            have h7 := P6.out.ik.next
            have h8 := HN.out
            simp only at h6; omega
          have HH5 := HH.out.get ⟨xk, mf, mt, mv, xs', xxs, xys⟩
          rw [h5] at HH5
          have HHD := Lib.hid HH5
          have CK := P6.out.kget xk mf mt mv xs' xA xB xn xc xm xd xxs xys (by have := HN.out; omega) HR.out LX.out.1 LX.out.2 asr
          rw [h5] at CK
          have CR : ∀ (w : World) (N : Nat) Qs V1 V2, PlyX W w rk rr D5 D N Qs [(V1, L5), (V2, L6)] → N ≤ 700 → Calls Try.prog 21 #[.pointer (some ⟨rr, 0, none⟩), .agg (msC xk mf mt mv xs' (.slice xA xn xc) (.slice xB xm xd))] w fun e w' => ∃ U1 U2, e = .returned (.tuple #[U1, U2, .int .i64 E5]) ∧ PlyX W w' rk rr D5 D5 (N + 1) Qs [] ∧ RowC w' U1 L5 ∧ RowC w' U2 L6 ∧ RowC w' V1 L5 ∧ RowC w' V2 L6 := fun w N Qs V1 V2 h hN => by
            have := h.rget xk mf mt mv xs' xA xB xn xc xm xd xxs xys hN HR.out asr
            rw [h5] at this
            exact this.mono (fun e w' ⟨U1, U2, h1, h2, h3, h4, h6⟩ => ⟨U1, U2, h1, h4, h2, h3, h6 (V1, L5) (List.mem_cons_self ..), h6 (V2, L6) (List.mem_cons_of_mem _ (List.mem_cons_self ..))⟩)
          have CM := Lib.hid (fun w => mown_walk xk mf mt mv xs' xA xB xn xc xm xd w)
          have CK' := Lib.hid CK; have CR' := Lib.hid CR
          have CA := Lib.hid (fun w V1 V2 h1 h2 => all_walk w V1 V2 L5 h1 h2 hL5.1)
          have CB := Lib.hid (fun w V1 V2 h1 h2 => all_walk w V1 V2 L6 h1 h2 hL5.2)
          clear h5 HH5 CK CR hL5
          go_wp2_with fail
          refine CK'.out.mono ?_
          rintro e w5 ⟨V1, V2, rfl, h5⟩
          have H5 := Lib.hid h5
          obtain ⟨t0, t1, t2, t3, t4, t5, t6⟩ := msC_cells (h5.hq (q2, _) (List.mem_cons_self ..))
          clear h5 CK' c0 c1 c2 c3 c4 c5 c6 b0 b1 b2 b3 b4 b5 b6 b7 b8 b9
          go_wp2_with fail
          refine (CM.out _).mono ?_
          rintro e w6 ⟨rfl, hb6⟩
          have H6 := Lib.hid (CR'.out _ _ _ _ _ (H5.out.below hb6) (by have := HN.out; omega))
          clear hb6 t0 t1 t2 t3 t4 t5 t6
          go_wp2_with fail
          refine H6.out.mono ?_
          rintro e w7 ⟨U1, U2, rfl, h7, g1, g2, g3, g4⟩
          have H7 := Lib.hid h7
          have C1 := Lib.hid (CA.out _ _ _ g3 g1)
          have G24 := Lib.hid (And.intro g2 g4)
          clear h7 g1 g2 g3 g4
          go_wp2_with fail
          refine C1.out.mono ?_
          rintro e w8 ⟨rfl, hb8⟩
          have C2 := Lib.hid (CB.out _ _ _ (G24.out.2.below hb8) (G24.out.1.below hb8))
          have H8 := Lib.hid (H7.out.below hb8)
          clear hb8
          go_wp2_with fail
          refine C2.out.mono ?_
          rintro e w9 ⟨rfl, hb9⟩
          have H9 := Lib.hid (H8.out.below hb9)
          clear hb9
          go_wp2_with fail
          go_meet
          exact ⟨by first | rfl | simp, ⟨D5, H9.out.drop, HHD.out⟩⟩
      case rest =>
      obtain ⟨rfl, hK⟩ := hcut
      obtain ⟨D5, hP5, hH5⟩ := hK.out
      obtain ⟨k1, k2, k3, k4, k5, k6⟩ := hP5.counts (by have := HLT.out; omega)
      have hl31 := hH5.len
      obtain ⟨l1, hl1⟩ : ∃ l1, l1 = D5.out.length := ⟨_, rfl⟩
      obtain ⟨l2, hl2⟩ : ∃ l2, l2 = D5.held.length := ⟨_, rfl⟩
      obtain ⟨l3, hl3⟩ : ∃ l3, l3 = D5.next := ⟨_, rfl⟩
      rw [← hl1] at k1 k4
      rw [← hl2] at k2 k5 hl31
      rw [← hl3] at k3 k6
      have K1 := Lib.hid k1; have K2 := Lib.hid k2; have K3 := Lib.hid k3; have K4 := Lib.hid k4; have K5 := Lib.hid k5; have K6 := Lib.hid k6
      have P9 := Lib.hid hP5; have H9 := Lib.hid hH5
      have c32 : ¬ (32 : Int) < (l2 : Int) := by omega
      have d32 : decide ((32 : Int) < (l2 : Int)) = false := decide_eq_false c32
      clear k1 k2 k3 k4 k5 k6 hl1 hl2 hl3 hP5 hH5 hK hl31 b0 b1 b2 b3 b4 b5 b6 b7 b8 b9
      go_wp2_with fail
      refine K1.out.mono ?_
      rintro e w' ⟨rfl, rfl⟩
      go_wp2_with fail
      refine K4.out.mono ?_
      rintro e w' ⟨rfl, rfl⟩
      go_wp2_with fail
      refine K2.out.mono ?_
      rintro e w' ⟨rfl, rfl⟩
      go_wp2_with fail
      refine K5.out.mono ?_
      rintro e w' ⟨rfl, rfl⟩
      go_wp2_with fail
      refine K3.out.mono ?_
      rintro e w' ⟨rfl, rfl⟩
      go_wp2_with fail
      refine K6.out.mono ?_
      rintro e w' ⟨rfl, rfl⟩
      go_wp2_with fail
      refine K2.out.mono ?_
      rintro e w' ⟨rfl, rfl⟩
      have hi100 := HLT.out
      have e2 : 2 * (i + 1) = 2 * i + 2 := by omega
      go_wp2_with fail
      go_roundw
      case rel => exact ⟨i + 1, by omega, by go_num, ⟨D5, by rw [e2]; exact P9.out, H9.out⟩⟩
      case measure => simp [intOf]; omega
    · obtain rfl : i = nl := by omega
      obtain ⟨D, hP, hH⟩ := HK.out
      have HB := Lib.hid hP.B; clear HK hP hH
      go_wp2_with fail
      go_ret
      exact ⟨by first | rfl | simp, HB.out⟩
end Go.Proofs.Ytbkpgkkfkjlnnaa.G
