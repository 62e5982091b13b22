/- The walk of RingSums. -/
import Derived.Test.YtjidjbjbngbhpaaRingQd
import Derived.Deep.RegionHeld3
import Derived.Deep.DeepCutAuto
set_option linter.unusedVariables false
set_option linter.unusedSimpArgs false
namespace Go.Proofs.Ytjidjbjbngbhpaa
open Go.RowKit Go.Proofs.YtjidjbjbngbhpaaW.PrintWords Go.Proofs.Ytjidjbjbngbhpaa.K Go.ChangeShapes Go.WideShapes Go.Deep

set_option maxRecDepth 100000 in
set_option maxHeartbeats 16000000 in
theorem sums_walk (W : World) (v : Value) (ov : ∃ A n c R, v = .slice A n c ∧ WRows W A n R ∧ n ≤ c) (TA : Option Addr) (tn tc : Nat) (tz : List Int) (htz : ReadsInt W .i64 TA tn tz) (htw : ∀ x ∈ tz, (Lit.int .i64 x).wf = true) (htc : tn ≤ tc) (hty : tn * 8 ≤ 140737488351232) :
    Calls Try.prog 3 #[v, .slice TA tn tc] W fun e w' => e = .returned (.bool true) ∧ Below W.heap.size W w' := by
  obtain ⟨RA, n, rc, R, rfl, hr, hrc⟩ := ov
  have HR := Lib.hid hr; have HT := Lib.hid htz
  have hnm := hr.1
  clear hr htz htw
  by_cases h1 : n = 0
  · subst h1
    go_enter Try.func3, Try.ntmps3
    go_wp2_with fail
    refine (awake_walk W).mono ?_
    rintro e w0 ⟨rfl, hb0⟩
    go_wp2_with fail
    go_ret
    exact ⟨rfl, hb0⟩
  by_cases h2 : 8 < n
  · go_enter Try.func3, Try.ntmps3
    go_wp2_with fail
    refine (awake_walk W).mono ?_
    rintro e w0 ⟨rfl, hb0⟩
    go_wp2_with fail
    go_ret
    exact ⟨rfl, hb0⟩
  by_cases h3 : 400 < tn
  · go_enter Try.func3, Try.ntmps3
    go_wp2_with fail
    refine (awake_walk W).mono ?_
    rintro e w0 ⟨rfl, hb0⟩
    go_wp2_with fail
    go_ret
    exact ⟨rfl, hb0⟩
  obtain ⟨ad, B0, k, bc, hRA, hc0, hw0, hwf0, hB0⟩ := HR.out.2 0 (by omega)
  rw [show ad.add 0 = ad from rfl] at hc0
  subst hRA
  have HC0 := Lib.hid hc0
  have hk63 := hw0.2.1
  by_cases h4 : 40 < k
  · go_enter Try.func3, Try.ntmps3
    go_wp2_with fail
    refine (awake_walk W).mono ?_
    rintro e w0 ⟨rfl, hb0⟩
    have hc0' := pw_cell_below hb0 hc0
    have HB0 := Lib.hid hb0
    clear hb0
    go_wp2_with fail
    go_ret
    exact ⟨rfl, HB0.out⟩
  have d1 : decide ((n : Int) < 1) = false := decide_eq_false (by omega)
  have d2 : decide ((8 : Int) < (n : Int)) = false := decide_eq_false (by omega)
  have d3 : decide ((400 : Int) < (tn : Int)) = false := decide_eq_false (by omega)
  have d4 : decide ((40 : Int) < (k : Int)) = false := decide_eq_false (by omega)
  have hN1 : 1 ≤ n := by omega
  have hN8 : n ≤ 8 := by omega
  have hk40 : k ≤ 40 := by omega
  have htn : tn ≤ 400 := by omega
  have HWFA := Lib.hid (show ∀ j, j < n → ∀ p ∈ R j, WwfP p from fun j hj => by obtain ⟨_, _, _, _, _, _, _, h, _⟩ := HR.out.2 j hj; exact h)
  have mk := make_objW k (by omega)
  have HW0 := Lib.hid hw0; have HWF0 := Lib.hid hwf0
  clear h1 h2 h3 h4 hw0 hwf0 hB0 hrc hnm htc hty hk63 hc0
  go_enter Try.func3, Try.ntmps3
  go_wp2_with fail
  refine (awake_walk W).mono ?_
  rintro e w0 ⟨rfl, hb0⟩
  have hc0' := pw_cell_below hb0 HC0.out
  obtain ⟨w1, hw1⟩ : ∃ w1, w1 = w0.alloc (objW k) := ⟨_, rfl⟩
  have hb1 : Below W.heap.size W w1 := by rw [hw1]; exact below_then hb0 hb0.size (alloc_below _ _)
  have S0 := Lib.hid (show SumS W w1 w1.heap.size w1.heap.size w0.heap.size none 0 [] 0 n k R (fun _ => 0) (fun _ => 0) (wantL R k 0) from ⟨Rings.none' _ _ _ _ _ (Nat.le_refl _), own_nil _ _ _ _, by rw [hw1]; exact wides_zero w0 W.heap.size k hb0.size (by omega), by rw [hw1]; simp, hb1⟩)
  have HB1 := Lib.hid hb1
  clear hb0 hb1
  go_wp2_with fail
  rw [← hw1]
  obtain ⟨gw, hgw⟩ : ∃ gw, gw = w0.heap.size := ⟨_, rfl⟩
  obtain ⟨B, hB⟩ : ∃ B, B = w1.heap.size := ⟨_, rfl⟩
  rw [← hgw] at S0 ⊢
  rw [← hB] at S0
  clear hw1 hc0' hgw hB mk
  go_loopw [6, 8] (fun s i wr => ∃ (m : Nat) (A : Option Addr) (c : Nat), m ≤ n ∧ i = .int .i64 m ∧ s = .slice A m c ∧ Aside0 ((∀ j, j < m → (R j).length = k) ∧ ∃ ids top, SumS W wr B top gw A c ids m n k R (fun _ => 0) (fun _ => 0) (wantL R k m))) (fun _ i _ => n - (intOf i).toNat)
  case atStart => exact ⟨0, none, 0, Nat.zero_le _, rfl, rfl, ⟨fun j hj => absurd hj (Nat.not_lt_zero _), _, _, S0.out⟩⟩
  case round =>
    obtain ⟨m, A, c, hm, rfl, rfl, HK⟩ := hrel
    by_cases hlt : m < n
    · obtain ⟨hlen, ids, top, hS⟩ := HK.out
      have HS := Lib.hid hS; have HLEN := Lib.hid hlen; clear hS HK hlen
      obtain ⟨ad', B1, k1, c1, hA', hc1, hw1, hwf1, hB1⟩ := (HR.out.below HS.out.bw).2 m hlt
      injection hA' with hA'
      subst hA'
      have hc0 := pw_cell_below HS.out.bw HC0.out
      have HW1 := Lib.hid hw1; have HWF1 := Lib.hid hwf1; have HB1' := Lib.hid hB1
      have hk1 := hw1.2.1
      clear hw1 hwf1 hB1
      have q0 : (0 : Int) ≤ (m : Int) := by omega
      have q1 : (m : Int) < (n : Int) := by omega
      have q2 : (0 : Int) < (n : Int) := by omega
      have q3 : 0 < n := by omega
      by_cases hkk : k1 = k
      · subst hkk
        have e1 : ((k1 : Int) != (k1 : Int)) = false := by simp
        go_wp2_with fail
        go_quiet (fail)
        obtain ⟨x0, hx0⟩ : ∃ x0, x0 = wr.drewN nq := ⟨_, rfl⟩
        rw [← hx0]
        have b0 : Below wr.heap.size wr x0 := by rw [hx0]; exact pw_below_drewN (Below.refl _ _) _
        have S1 := Lib.hid (HS.out.below b0)
        have hc1x := pw_cell_below b0 hc1
        have HW1x := Lib.hid (HW1.out.below b0)
        have C1 := Lib.hid (new_ok (m : Int) n B1 k1 c1 (R m) x0 HW1x.out HWF1.out HB1'.out (by omega) (by omega) (by omega) (by omega) (by omega))
        clear hx0 b0 hc1 hc0 HW1
        go_wp2_with fail
        refine C1.out.mono ?_
        rintro e x2 ⟨id, rfl, hs, hid, hb2⟩
        have HRS := Lib.hid (S1.out.rs.more hb2 hs hid)
        have HP2 := Lib.hid ((show PtrRow x2 W.heap.size A c ids from pw_own_below S1.out.pr hb2).raw S1.out.rs.len)
        have HB2 := Lib.hid (below_then S1.out.bw S1.out.bw.size hb2); have HL := Lib.hid S1.out.rs.len
        have HWT := Lib.hid (pw_own_below S1.out.wt hb2)
        have HLM := Lib.hid (show (R m).length = k1 from HW1x.out.1)
        have HC1 := Lib.hid (pw_cell_below hb2 hc1x); have HW2 := Lib.hid (HW1x.out.below hb2)
        clear hs hid hb2 C1 hc1x HW1x
        go_wp2_with (at_builtin; refine app_ptr W.heap.size rfl (.tmp 75) (.tmp 77) 26 27 rfl Try.underlying26 (by kernel_rfl) _ (ptrs ids) _ m rfl rfl HP2.out HB2.out HB2.out.size (by omega) ?_; intro A1 c1' x3 hown hB3 hg3; have HO3 := Lib.hid hown; have HB3 := Lib.hid hB3; have HG3 := Lib.hid hg3; clear hown hB3 hg3)
        have S3 := Lib.hid (show SumS W x3 B x2.heap.size gw A1 c1' (ids ++ [id]) (m + 1) n k1 R (fun _ => 0) (fun _ => 0) (gotL (wantL R k1 m) 0 true (R m) 0) from ⟨HRS.out.grownT HP2.out HG3.out (by decide) (by decide) (by decide), PtrRow.mk' HL.out HO3.out, own_grownT HP2.out HG3.out HWT.out (by decide), HS.out.gb, HB3.out⟩)
        have HC3 := Lib.hid ((HR.out.below HB3.out).2 m hlt)
        clear HRS HP2 HB2 HWT HO3 HG3 HC1 HW2 S1
        go_loopw [11] (fun i wr => ∃ x : Nat, x ≤ k1 ∧ i = .int .i64 x ∧ Aside0 (SumS W wr B x2.heap.size gw A1 c1' (ids ++ [id]) (m + 1) n k1 R (fun _ => 0) (fun _ => 0) (gotL (wantL R k1 m) 0 true (R m) x))) (fun i _ => k1 - (intOf i).toNat)
        case atStart => exact ⟨0, Nat.zero_le _, rfl, ⟨S3.out⟩⟩
        case round =>
          obtain ⟨x, hx, rfl, HX⟩ := hrel
          by_cases hxk : x < k1
          · obtain ⟨ad2, B2, k2, c2, hA2, hc2, hw2, hwf2, -⟩ := (HR.out.below HX.out.bw).2 m hlt
            injection hA2 with hA2
            subst hA2
            obtain rfl : k1 = k2 := by rw [← hw2.1]; exact HLM.out.symm
            obtain ⟨ad5, hB2, m0, m1⟩ := hw2.2.2 x hxk
            subst hB2
            obtain ⟨y0, y1, f0, f1⟩ := HX.out.wcell hxk
            obtain ⟨xv, hxv⟩ : ∃ xv, xv = (R m).getD x (0, 0) := ⟨_, rfl⟩
            obtain ⟨yv, hyv⟩ : ∃ yv, yv = (gotL (wantL R k1 m) 0 true (R m) x).getD x (0, 0) := ⟨_, rfl⟩
            rw [← hxv] at m0 m1
            rw [← hyv] at y0 y1
            have hx1 : WwfP xv := by rw [hxv]; exact getD_wf hwf2 x
            have hy1 : WwfP yv := by rw [hyv]; exact getD_wf (gotL_wf 0 true (wantL_wf R k1 m (fun j hj => HWFA.out j (by omega))) hwf2 x) x
            have CC := Lib.hid (WAdd_walk yv xv hy1 hx1)
            have HS4 := Lib.hid HX.out
            have HFIN := Lib.hid (show ∀ wc, WantAt wr gw x (wsum yv xv) wc → SumS W wc B x2.heap.size gw A1 c1' (ids ++ [id]) (m + 1) n k1 R (fun _ => 0) (fun _ => 0) (gotL (wantL R k1 m) 0 true (R m) (x + 1)) from fun wc hwc => by
              obtain ⟨w5, hb5, rfl⟩ := hwc
              have := (HS4.out.below hb5).want hxk (wsum yv xv)
              rw [hyv, hxv, gotL_next] at this
              rw [hyv, hxv]
              exact this)
            have i0 : (0 : Int) ≤ (x : Int) := by omega
            have i1 : (x : Int) < (k1 : Int) := by omega
            clear hw2 hwf2 hxv hyv hx1 hy1
            go_wp2_with fail
            go_region_with ((go_at_call 8; (with_reducible refine (CC.out _).mono ?_); rintro e w5 ⟨rfl, hb5⟩; have hq5 : Below wr.heap.size wr w5 := below_then (below_drew (Below.refl wr.heap.size wr)) (Nat.le_refl _) hb5; obtain ⟨t0, t1, t2, t3⟩ := (HS4.out.below hq5).wcell hxk; have BQ5 := Lib.hid hq5; clear hq5 hb5))
            all_goals (
              go_wp2_with fail
              go_roundw
              case rel => first | exact ⟨x + 1, by omega, by go_num, ⟨HFIN.out _ ⟨_, BQ5.out, rfl⟩⟩⟩ | exact ⟨x + 1, by omega, by go_num, ⟨HFIN.out _ (WantAt.drew ⟨_, BQ5.out, rfl⟩)⟩⟩
              case measure => simp [intOf]; omega)
          · obtain rfl : x = k1 := by omega
            go_wp2_with fail
            go_roundw
            case rel => exact ⟨m + 1, A1, c1', by omega, by go_num, rfl, ⟨fun j hj => by
              rcases Nat.lt_or_ge j m with h | h
              · exact HLEN.out j h
              · obtain rfl : j = m := by omega
                exact HLM.out, _, _, HX.out⟩⟩
            case measure => simp [intOf]; omega
      · have e1 : ((k1 : Int) != (k : Int)) = true := by rw [bne_iff_ne]; omega
        go_wp2_with fail
        go_quiet (fail)
        go_wp2_with fail
        go_ret
        exact ⟨rfl, pw_below_drewN HS.out.bw _⟩
    · obtain rfl : m = n := by omega
      obtain ⟨hlen, ids, top, hS⟩ := HK.out
      have HROK1 := Lib.hid (show Rok1 R k m from ⟨hN1, by omega, fun i hi => ⟨hlen i hi, HWFA.out i hi⟩⟩)
      have HL := Lib.hid hS.rs.len
      obtain ⟨gA, hgA, -⟩ := hS.pr.at (i := 0) (by rw [HL.out]; omega)
      subst hgA
      have HS := Lib.hid hS
      clear hS HK hlen
      have mkw := make_ways m (by omega)
      obtain ⟨x1, hx1⟩ : ∃ x1, x1 = wr.alloc (.cells (madeCells #[.slice none 0 0] m) 40) := ⟨_, rfl⟩
      have b1 : Below wr.heap.size wr x1 := by rw [hx1]; exact alloc_below _ _
      have HS1 := Lib.hid (HS.out.below b1)
      have HY1 := Lib.hid (show Ways x1 W.heap.size top R k m (fun _ => 0) (fun _ => 0) wr.heap.size (fun _ => .slice none 0 0) (fun _ => []) by rw [hx1]; exact ways_start wr W.heap.size top R k m HS.out.bw.size (by omega))
      obtain ⟨gy, hgy⟩ : ∃ gy, gy = wr.heap.size := ⟨_, rfl⟩
      have hgyW : W.heap.size ≤ gy := by rw [hgy]; exact HS.out.bw.size
      rw [← hgy] at HY1
      clear b1
      go_wp2_with fail
      rw [← hx1, ← hgy]
      clear hx1 hgy mkw
      obtain ⟨N2, hN2⟩ : ∃ N2, N2 = 8 * m * m := ⟨_, rfl⟩
      have hN2b : N2 ≤ 512 := by rw [hN2]; exact Nat.mul_le_mul (Nat.mul_le_mul (Nat.le_refl 8) hN8) hN8
      have hNI : IntKind.i64.wrap (8 * (m : Int) * (m : Int)) = (N2 : Int) := by rw [hN2, IntKind.wrap_i64]; have : ((8 * m * m : Nat) : Int) = 8 * (m : Int) * (m : Int) := by simp
                                                                                 omega
      have HN2 := Lib.hid hN2
      clear hN2
      obtain ⟨f, hf⟩ : ∃ f : Nat → Nat, f = fun i => if i < tn then ((bits .and .i64 (tz.getD i 0) 65535) % (m : Int)).toNat else i % m := ⟨_, rfl⟩
      have HF := Lib.hid hf
      have HFN := Lib.hid (show ∀ i, f i < m from fun i => by
        rw [hf]
        simp only []
        split
        · have := Int.emod_lt_of_pos (bits .and .i64 (tz.getD i 0) 65535) (show (0 : Int) < (m : Int) by omega)
          have := Int.emod_nonneg (bits .and .i64 (tz.getD i 0) 65535) (show (m : Int) ≠ 0 by omega)
          omega
        · exact Nat.mod_lt _ (by omega))
      clear hf
      go_loopw [13] (fun s wr => ∃ i : Nat, i ≤ tn + N2 ∧ s = .int .i64 i ∧ Aside0 (∃ V LL, SumS W wr B top gw (some ⟨gA, 0, none⟩) c ids m m k R (turnO m f i).1 (turnO m f i).2 (wantL R k m) ∧ Ways wr W.heap.size top R k m (turnO m f i).1 (turnO m f i).2 gy V LL)) (fun s _ => tn + N2 - (intOf s).toNat)
      case atStart => exact ⟨0, Nat.zero_le _, rfl, ⟨_, _, HS1.out, HY1.out⟩⟩
      case round =>
        obtain ⟨i, hi, rfl, HI⟩ := hrel
        by_cases hlt3 : i < tn + N2
        · have g3 : (i : Int) < (tn : Int) + (N2 : Int) := by omega
          have jn0 : ¬ (m = 0) := by omega
          have jn1 : ((m : Int) == 0) = false := beq_eq_false_iff_ne.2 (by omega)
          obtain ⟨p, hp⟩ : ∃ p, p = f i := ⟨_, rfl⟩
          have hpm : p < m := by rw [hp]; exact HFN.out i
          obtain ⟨V, LL, hS3, hY3⟩ := HI.out
          have HS3 := Lib.hid hS3; have HY3 := Lib.hid hY3; have HPF := Lib.hid hp
          clear HI hS3 hY3 hp
          have p0 : (0 : Int) ≤ (p : Int) := by omega
          have p1 : (p : Int) < (m : Int) := by omega
          have hde : decide ((i : Int) < (tn : Int) + (N2 : Int)) = true := decide_eq_true g3
          go_upto_if 119 with (fail)
          go_cut [14] (fun s14 wx => s14 = .int .i64 p ∧ Aside0 (wx = wr))
          case first =>
            by_cases hit : i < tn
            · have hit' : (i : Int) < (tn : Int) := by omega
              obtain ⟨av, hav⟩ : ∃ av, av = bits .and .i64 (tz.getD i 0) 65535 := ⟨_, rfl⟩
              have hav2 := and_16 (tz.getD i 0)
              rw [← hav] at hav2
              have hpe : av % (m : Int) = (p : Int) := by
                have := Int.emod_nonneg av (show (m : Int) ≠ 0 by omega)
                rw [HPF.out, HF.out]
                simp only []
                rw [if_pos hit, ← hav]
                omega
              obtain ⟨adT, hTA, hct⟩ := reads_at (HT.out.below HS3.out.bw) i hit
              subst hTA
              obtain ⟨tv, htv⟩ : ∃ tv, tv = tz.getD i 0 := ⟨_, rfl⟩
              rw [← htv] at hct hav
              have hbe : bits .and .i64 tv 65535 = av := hav.symm
              have hav3 := hav2.1
              have i0 : (0 : Int) ≤ (i : Int) := by omega
              have HPE := Lib.hid hpe
              clear hav hpe htv
              go_wp2_with fail
              go_meet
              first | exact ⟨by rw [HPE.out], ⟨rfl⟩⟩ | exact ⟨by rw [Int.tmod_eq_emod_of_nonneg hav3, HPE.out], ⟨rfl⟩⟩
            · have hit' : ¬ (i : Int) < (tn : Int) := by omega
              have hpe : (i : Int) % (m : Int) = (p : Int) := by
                rw [HPF.out, HF.out]
                simp only []
                rw [if_neg hit]
                simp
              have HPE := Lib.hid hpe
              clear hpe
              go_wp2_with fail
              go_meet
              first | exact ⟨by rw [HPE.out], ⟨rfl⟩⟩ | exact ⟨by rw [Int.tmod_eq_emod_of_nonneg hav3, HPE.out], ⟨rfl⟩⟩
          case rest =>
            obtain ⟨rfl, HWX⟩ := hcut
            have hwx := HWX.out
            subst hwx
            have HINV := Lib.hid (turnO_inv HFN.out i)
            obtain ⟨o, ho⟩ : ∃ o, o = (turnO m f i).1 := ⟨_, rfl⟩
            obtain ⟨g, hg⟩ : ∃ g, g = (turnO m f i).2 := ⟨_, rfl⟩
            have HNEXT := Lib.hid (show (turnO m f (i + 1)).1 = outs m o g p ∧ (turnO m f (i + 1)).2 = gets m (outs m o g p) g p from by rw [HPF.out, ho, hg]; exact ⟨rfl, rfl⟩)
            rw [← ho, ← hg] at HS3 HY3 HINV
            clear ho hg HWX HPF
            have hne := HINV.out.near p hpm
            have hcapp := HINV.out.cap p hpm
            go_upto_region 28 with (fail)
            go_cut [15, 16] (fun s15 s16 wx => ∃ X b, s15 = .pointer (some ⟨X, 0, none⟩) ∧ s16 = .bool b ∧ Aside0 (OutR W wx B top gw (some ⟨gA, 0, none⟩) c ids k m R o g (wantL R k m) gy V LL p X b))
            case first =>
              have pc := HS3.out.pr.cell (i := p) (by rw [HL.out]; exact hpm)
              by_cases hsend : o p ≤ g p ∧ o p < 2 * m - 2
              · have HSEND := Lib.hid hsend
                have HROK := Lib.hid (HROK1.out.up (by omega))
                have C1 := Lib.hid (out_step HS3.out.rs HROK.out hpm (o p) rfl hsend.1 hne.2 hsend.2)
                clear hsend
                go_wp2_with fail
                refine C1.out.mono ?_
                rintro e y1 ⟨A4, c4, rfl, hp4, hr4, hf4⟩
                obtain ⟨y2, hy2⟩ : ∃ y2, y2 = y1.alloc (.cells (ptA R k m (o p) p A4 c4) 37) := ⟨_, rfl⟩
                have b2 : Below y1.heap.size y1 y2 := by rw [hy2]; exact alloc_below _ _
                have HS4 := Lib.hid ((HS3.out.turned hpm hr4 hf4).below b2)
                have HY4 := Lib.hid ((HY3.out.turned (HS3.out.rs.st p hpm) (HS3.out.rs.inn p hpm) hf4).below b2)
                have HO4 := Lib.hid (show Part y2 top R k m (o p) p A4 c4 from pw_own_below (own_base_le hp4 HS3.out.rs.tw) b2)
                have HX4 := Lib.hid (show y2.heap[y1.heap.size]? = some (.cells (ptA R k m (o p) p A4 c4) 37 (0, 0)) by rw [hy2]; exact heap_alloc_new _ _)
                have hXW := Nat.le_trans HS3.out.bw.size hf4.size
                clear hp4 hr4 hf4 b2 pc C1
                go_wp2_with fail
                rw [← hy2]
                go_meet
                exact ⟨_, true, rfl, rfl, ⟨.inl ⟨rfl, HSEND.out, HS4.out, HY4.out, hXW, A4, c4, HX4.out, HO4.out⟩⟩⟩
              · have HSEND := Lib.hid hsend
                have hst := HS3.out.rs.st p hpm
                have C1 : Calls Try.prog 9 #[.pointer (some ⟨(idn ids p).r, 0, none⟩)] wc fun e w' => e = .returned (.tuple #[.agg #[.int .i64 0, .int .i64 0, .slice none 0 0], .bool false]) ∧ Below wc.heap.size wc w' := by
                  by_cases ht : g p < o p
                  · rw [decide_eq_true ht] at hst
                    exact out_told wc (idn ids p) p m k _ _ _ hst
                  · rw [decide_eq_false ht, Nat.min_eq_left (by omega)] at hst
                    exact out_done wc (idn ids p) p m k _ _ _ hst (by omega)
                have HC1 := Lib.hid C1
                clear hsend hst C1
                go_wp2_with fail
                refine HC1.out.mono ?_
                rintro e y1 ⟨rfl, hb1⟩
                obtain ⟨y2, hy2⟩ : ∃ y2, y2 = y1.alloc (.cells #[.int .i64 0, .int .i64 0, .slice none 0 0] 37) := ⟨_, rfl⟩
                have b2 : Below wc.heap.size wc y2 := by rw [hy2]; exact below_then hb1 hb1.size (alloc_below _ _)
                have HS4 := Lib.hid (HS3.out.below b2)
                have HY4 := Lib.hid (HY3.out.below b2)
                clear hb1 b2 pc HC1
                go_wp2_with fail
                rw [← hy2]
                go_meet
                exact ⟨_, false, rfl, rfl, ⟨.inr ⟨rfl, HSEND.out, HS4.out, HY4.out⟩⟩⟩
            case rest =>
              obtain ⟨X, b, rfl, rfl, HO⟩ := hcut
              go_upto_if 135 with (fail)
              go_cut [150] (fun s150 wx => Aside0 (∃ V LL, SumS W wx B top gw (some ⟨gA, 0, none⟩) c ids m m k R (outs m o g p) g (wantL R k m) ∧ Ways wx W.heap.size top R k m (outs m o g p) g gy V LL))
              case first =>
                cases b with
                | false =>
                  obtain ⟨hc1, hS, hY⟩ : (¬ (o p ≤ g p ∧ o p < 2 * m - 2)) ∧ SumS W wc B top gw (some ⟨gA, 0, none⟩) c ids m m k R o g (wantL R k m) ∧ Ways wc W.heap.size top R k m o g gy V LL := by
                    rcases HO.out with ⟨h, _⟩ | ⟨_, h1, h2, h3⟩
                    · cases h
                    · exact ⟨h1, h2, h3⟩
                  have HFIN := Lib.hid (show SumS W wc B top gw (some ⟨gA, 0, none⟩) c ids m m k R (outs m o g p) g (wantL R k m) ∧ Ways wc W.heap.size top R k m (outs m o g p) g gy V LL by unfold outs; rw [if_neg hc1]; exact ⟨hS, hY⟩)
                  clear hc1 hS hY HO
                  go_wp2_with fail
                  go_meet
                  exact ⟨V, LL, HFIN.out⟩
                | true =>
                  obtain ⟨hc1, hS, hY, hXW, A4, c4, hX, hP⟩ : (o p ≤ g p ∧ o p < 2 * m - 2) ∧ SumS W wc B top gw (some ⟨gA, 0, none⟩) c ids m m k R (upd o p (o p + 1)) g (wantL R k m) ∧ Ways wc W.heap.size top R k m o g gy V LL ∧ W.heap.size ≤ X ∧ ∃ A c, wc.heap[X]? = some (.cells (ptA R k m (o p) p A c) 37 (0, 0)) ∧ Part wc top R k m (o p) p A c := by
                    rcases HO.out with ⟨_, h⟩ | ⟨h, _⟩
                    · exact h
                    · cases h
                  obtain ⟨i1, hi1⟩ : ∃ i1, i1 = (p + 1) % m := ⟨_, rfl⟩
                  have hi2 : i1 < m := by rw [hi1]; exact Nat.mod_lt _ (by omega)
                  have hpre := pre_fwd (n := m) hpm
                  rw [← hi1] at hpre
                  have hw6 : IntKind.i64.wrap ((p : Int) + 1) = (p : Int) + 1 := by rw [IntKind.wrap_i64]; omega
                  have hw7 : ((p : Int) + 1).tmod (m : Int) = (i1 : Int) := by rw [Int.tmod_eq_emod_of_nonneg (by omega), hi1]; simp
                  have hw8 : IntKind.i64.wrap ((i1 : Nat) : Int) = (i1 : Int) := by rw [IntKind.wrap_i64]; omega
                  have q0 : (0 : Int) ≤ (i1 : Int) := by omega
                  have q1 : (i1 : Int) < (m : Int) := by omega
                  obtain ⟨yc, yf⟩ := hY.cell hi2
                  obtain ⟨x0, x1, x2⟩ := rbox3 hX
                  have hway := HINV.out.way i1 hi2
                  rw [hpre] at hway
                  have hlen : (LL i1).length ≤ 100000 := by have := (hY.each i1 hi2).len; rw [hpre] at this; omega
                  have HS5 := Lib.hid hS; have HY5 := Lib.hid hY; have HP5 := Lib.hid hP; have HPRE := Lib.hid hpre; have HC1 := Lib.hid hc1
                  have HFIN := Lib.hid (show ∀ w5 v1, QRow w5 W.heap.size 37 v1 ((LL i1).length + 1) (ptCells R k m (LL i1) ++ [.int .i64 (o p : Int), .int .i64 (csn m p (o p) : Int), .slice A4 (Vs R k m (o p) p).length c4]) → wc.grownBy w5 (V i1).ownBlock → (v1.ownBlock = (V i1).ownBlock ∨ ∃ b, v1.ownBlock = some b ∧ wc.heap.size ≤ b) → ∃ V LL, SumS W (w5.setCell ⟨gy, i1, none⟩ v1) B top gw (some ⟨gA, 0, none⟩) c ids m m k R (outs m o g p) g (wantL R k m) ∧ Ways (w5.setCell ⟨gy, i1, none⟩ v1) W.heap.size top R k m (outs m o g p) g gy V LL from fun w5 v1 hq hg hv => by
                    obtain ⟨_, _, cs, hcs⟩ := ways_cellK HY5.out hi2 hg
                    unfold outs
                    rw [if_pos HC1.out]
                    exact ⟨_, _, (HS5.out.grownQ (HY5.out.each i1 hi2).q hg (Nat.le_refl _)).setFar hcs (by decide) (by decide) (by decide) (by decide) hgyW _ _, HY5.out.send hpm hi2 HPRE.out hway HP5.out hq hg hv⟩)
                  have HQ := Lib.hid (hY.each i1 hi2).q
                  have hWw := hS.bw.size
                  have yca : ∀ o : Obj, (wc.alloc o).cell? ⟨gy, i1, none⟩ = some (V i1) := fun o => pw_cell_below (alloc_below wc o) yc
                  have ycb : ∀ o : Obj, (wc.drew.alloc o).cell? ⟨gy, i1, none⟩ = some (V i1) := fun o => pw_cell_below (alloc_below wc.drew o) yc
                  clear hc1 hS hY HO hX hP hi1 hpre
                  go_wp2_with fail
                  go_region_law ((refine step_qapp W.heap.size rfl (.tmp 147) (.tmp 149) rfl (V i1) (ptCells R k m (LL i1)) (LL i1).length _ _ _ _ _ (by rfl) (by rfl) (HQ.out.below (below_drew (Below.refl _ _))) hWw hlen ?_; intro v1 w5 hq5 hg5 hv5; obtain ⟨A7, c7, rfl⟩ := hq5.shape; have hg6 := grown_undrew hg5; obtain ⟨t0, t1, -⟩ := ways_cellK HY5.out hi2 hg6; have HQ5 := Lib.hid hq5; have HG6 := Lib.hid hg6; have HV5 := Lib.hid hv5; clear hq5 hg5 hg6 hv5))
                  all_goals (go_wp2_with fail)
                  all_goals go_meet
                  all_goals first | exact ⟨HFIN.out _ _ HQ5.out HG6.out HV5.out⟩ | (obtain ⟨V9, LL9, h8, h9⟩ := HFIN.out _ _ HQ5.out HG6.out HV5.out; exact ⟨⟨V9, LL9, h8.below (below_drew (Below.refl _ _)), h9.below (below_drew (Below.refl _ _))⟩⟩) | trace_state
              case rest =>
                obtain ⟨V1, L1, hS, hY⟩ := hcut.out
                obtain ⟨o1, ho1⟩ : ∃ o1, o1 = outs m o g p := ⟨_, rfl⟩
                rw [← ho1] at hS hY
                have HINV1 := Lib.hid (show Inv m o1 g by rw [ho1]; exact HINV.out.out hpm)
                have HNEXT1 := Lib.hid (show (turnO m f (i + 1)).1 = o1 ∧ (turnO m f (i + 1)).2 = gets m o1 g p by rw [ho1]; exact HNEXT.out)
                clear ho1 HINV HNEXT HO hcut
                have HFIN := Lib.hid (show ∀ w5 V5 L5 g5, gets m o1 g p = g5 → SumS W w5 B top gw (some ⟨gA, 0, none⟩) c ids m m k R o1 g5 (wantL R k m) → Ways w5 W.heap.size top R k m o1 g5 gy V5 L5 → ∃ V LL, SumS W w5 B top gw (some ⟨gA, 0, none⟩) c ids m m k R (turnO m f (i + 1)).1 (turnO m f (i + 1)).2 (wantL R k m) ∧ Ways w5 W.heap.size top R k m (turnO m f (i + 1)).1 (turnO m f (i + 1)).2 gy V LL from fun w5 V5 L5 g5 e h1 h2 => by
                  rw [HNEXT1.out.1, HNEXT1.out.2, e]
                  exact ⟨V5, L5, h1, h2⟩)
                have hq := (hY.each p hpm).q
                have hlen := (hY.each p hpm).len
                have hway1 := HINV1.out.way p hpm
                have hnear1 := HINV1.out.near p hpm
                have hcap1 := HINV1.out.cap (pre m p) (pre_lt hN1)
                obtain ⟨A6, c6, hv⟩ := hq.shape
                obtain ⟨yc, yf⟩ := hY.cell hpm
                have HSA := Lib.hid hS; have HYA := Lib.hid hY; have HV := Lib.hid hv
                rw [hv] at yc
                have pc := hS.pr.cell (i := p) (by rw [HL.out]; exact hpm)
                cases hL : L1 p with
                | nil =>
                  rw [hL] at yc hlen
                  have hge : gets m o1 g p = g := by unfold gets; rw [if_neg]; intro h; simp at hlen; omega
                  have HGE := Lib.hid hge
                  clear hge hlen hq hv hL hS hY
                  go_wp2_with fail
                  go_roundw
                  case rel => exact ⟨i + 1, by omega, by go_num, ⟨HFIN.out _ _ _ _ HGE.out HSA.out HYA.out⟩⟩
                  case measure => simp [intOf]; omega
                | cons x L =>
                  have hpt := (hY.each p hpm).pt 0 (by rw [hL]; simp)
                  rw [hL] at yc hq hlen hpt
                  simp only [List.length_cons, List.getD_cons_zero, Nat.add_zero] at yc hq hlen hpt
                  obtain ⟨t0, t1, t2⟩ := hpt
                  obtain ⟨gq, off, cap, e1, r0⟩ := hq.at (j := 0) (u := .int .i64 (x.t : Int)) rfl
                  obtain ⟨gq', off', cap', e2, r1⟩ := hq.at (j := 1) (u := .int .i64 (csn m x.p x.t : Int)) rfl
                  obtain ⟨gq'', off'', cap'', e3, r2⟩ := hq.at (j := 2) (u := .slice x.A (Vs R k m x.t x.p).length x.c) rfl
                  rw [e1] at e2 e3
                  rw [hv] at e1
                  simp only [Value.slice.injEq, Option.some.injEq, Addr.mk.injEq, and_true, true_and] at e1 e2 e3
                  obtain ⟨e1, -, e6⟩ := e1
                  obtain ⟨⟨e2, e4⟩, -⟩ := e2
                  obtain ⟨⟨e3, e5⟩, -⟩ := e3
                  subst e1 e2 e3 e4 e5 e6
                  rw [t0] at r0
                  rw [t0, t1] at r1 r2
                  rw [Nat.add_zero] at r0
                  have hz0 : (0 : Int) < ((L.length + 1 : Nat) : Int) := by omega
                  have hz1 : 0 < L.length + 1 := by omega
                  have HROK := Lib.hid (HROK1.out.up (by omega))
                  have HLL := Lib.hid hL; have HQ1 := Lib.hid hq; have HPT := Lib.hid t2
                  by_cases hok : g p ≤ o1 p
                  · have C1 := Lib.hid (sums_get hS hY HROK.out hpm hok hnear1.1 (by omega) t2)
                    have HGE := Lib.hid (show gets m o1 g p = upd g p (g p + 1) by unfold gets; rw [if_pos ⟨by omega, hok⟩])
                    have HCE := Lib.hid (And.intro pc (And.intro yc (And.intro r0 (And.intro r1 r2))))
                    clear hq hlen hL hS hY t0 t1 t2 hv
                    go_wp2_with fail
                    go_cut [17] (fun s17 wx => s17 = .int .i64 0 ∧ Aside0 (SumS W wx B top gw (some ⟨gA, 0, none⟩) c ids m m k R o1 (upd g p (g p + 1)) (wantL R k m) ∧ Ways wx W.heap.size top R k m o1 g gy V1 L1))
                    case first =>
                      obtain ⟨pc, yc, r0, r1, r2⟩ := HCE.out
                      go_region_with ((go_at_call 10; (with_reducible refine (C1.out _ (by repeat (first | with_reducible exact Below.refl _ _ | with_reducible apply pw_below_drewN | with_reducible apply below_drew))).mono ?_); rintro e w5 ⟨rfl, h5, h6⟩; have HS5 := Lib.hid h5; have HY5 := Lib.hid h6; clear h5 h6))
                      all_goals (go_wp2_with fail)
                      all_goals go_meet
                      all_goals first | exact ⟨rfl, ⟨HS5.out, HY5.out⟩⟩ | exact ⟨rfl, ⟨HS5.out.below (below_drew (Below.refl _ _)), HY5.out.below (below_drew (Below.refl _ _))⟩⟩
                    case rest =>
                      obtain ⟨rfl, HG⟩ := hcut
                      skip
                      have hQ2 : QRow wc W.heap.size 37 (.slice (some ⟨gq, off, none⟩) (L.length + 1) c6) (L.length + 1) (.int .i64 (x.t : Int) :: .int .i64 (csn m x.p x.t : Int) :: .slice x.A (Vs R k m x.t x.p).length x.c :: ptCells R k m L) := by
                        have := (HG.out.2.each p hpm).q
                        rw [HV.out, HLL.out] at this
                        exact this
                      obtain ⟨hq9, hv9⟩ := QRow_cutv hQ2
                      obtain ⟨yc, yf⟩ := HG.out.2.cell hpm
                      rw [HV.out, HLL.out] at yc
                      simp only [List.length_cons] at yc
                      have hcs := own_typed HG.out.2.row gy rfl
                      obtain ⟨cs9, hcs9⟩ := hcs
                      have HEND := Lib.hid (HFIN.out _ _ _ _ HGE.out (HG.out.1.setFar hcs9 (by decide) (by decide) (by decide) (by decide) hgyW p _) (HG.out.2.pop hpm HLL.out hq9 (by rw [hv9, HV.out]; rfl)))
                      clear hQ2 hq9 hv9 hcs9
                      go_wp2_with fail
                      go_roundw
                      case rel => exact ⟨i + 1, by omega, by go_num, ⟨HEND.out⟩⟩
                      case measure => simp [intOf]; omega
                  · have C1 := Lib.hid (sums_wait (A := x.A) (c := x.c) hS hY (by omega) hpm hok (by omega) (csn m (pre m p) (g p) : Int) (Vs R k m (g p) (pre m p)).length)
                    have HGE := Lib.hid (show gets m o1 g p = g by unfold gets; rw [if_neg (fun h => hok h.2)])
                    have HCE := Lib.hid (And.intro pc (And.intro yc (And.intro r0 (And.intro r1 r2))))
                    clear hq hlen hL hS hY t0 t1 t2 hv
                    go_wp2_with fail
                    go_cut [17] (fun s17 wx => s17 = .int .i64 10 ∧ Aside0 (SumS W wx B top gw (some ⟨gA, 0, none⟩) c ids m m k R o1 (g) (wantL R k m) ∧ Ways wx W.heap.size top R k m o1 g gy V1 L1))
                    case first =>
                      obtain ⟨pc, yc, r0, r1, r2⟩ := HCE.out
                      go_region_with ((go_at_call 10; (with_reducible refine (C1.out _ (by repeat (first | with_reducible exact Below.refl _ _ | with_reducible apply pw_below_drewN | with_reducible apply below_drew))).mono ?_); rintro e w5 ⟨rfl, h5, h6⟩; have HS5 := Lib.hid h5; have HY5 := Lib.hid h6; clear h5 h6))
                      all_goals (go_wp2_with fail)
                      all_goals go_meet
                      all_goals first | exact ⟨rfl, ⟨HS5.out, HY5.out⟩⟩ | exact ⟨rfl, ⟨HS5.out.below (below_drew (Below.refl _ _)), HY5.out.below (below_drew (Below.refl _ _))⟩⟩
                    case rest =>
                      obtain ⟨rfl, HG⟩ := hcut
                      go_wp2_with fail
                      go_roundw
                      case rel => exact ⟨i + 1, by omega, by go_num, ⟨HFIN.out _ _ _ _ HGE.out HG.out.1 HG.out.2⟩⟩
                      case measure => simp [intOf]; omega
        · obtain rfl : i = tn + N2 := by omega
          obtain ⟨V9, L9, hS9, hY9⟩ := HI.out
          have hov := over_all (n := m) (f := f) (T := tn) hN1 HFN.out (fun i hi => by rw [HF.out]; simp only []; rw [if_neg (by omega)]) (N := tn + N2) (by rw [HN2.out]; exact Nat.le_refl _)
          have HS9 := Lib.hid (show SumS W wr B top gw (some ⟨gA, 0, none⟩) c ids m m k R (fun _ => 2 * m - 2) (fun _ => 2 * m - 2) (wantL R k m) from ⟨hS9.rs.congr (fun i hi => (hov i hi).1.symm) (fun i hi => (hov i hi).2.symm), hS9.pr, hS9.wt, hS9.gb, hS9.bw⟩)
          have HWA := Lib.hid (show ∀ q, q < m → Gs R k m (2 * m - 2) q = wantL R k m from fun q hq => want_all HROK1.out hq)
          clear hov hS9 hY9 HI
          have hge : ¬ (((tn + N2 : Nat) : Int) < (tn : Int) + (N2 : Int)) := by omega
          have hge2 : decide (((tn + N2 : Nat) : Int) < (tn : Int) + (N2 : Int)) = false := decide_eq_false hge
          go_wp2_with fail
          go_loopw [18] (fun s wr => ∃ q : Nat, q ≤ m ∧ s = .int .i64 q ∧ Aside0 (SumS W wr B top gw (some ⟨gA, 0, none⟩) c ids m m k R (fun _ => 2 * m - 2) (fun _ => 2 * m - 2) (wantL R k m))) (fun s _ => m - (intOf s).toNat)
          case atStart => exact ⟨0, Nat.zero_le _, rfl, ⟨HS9.out⟩⟩
          case round =>
            obtain ⟨q, hq, rfl, HQ⟩ := hrel
            by_cases hqm : q < m
            · have q0 : (0 : Int) ≤ (q : Int) := by omega
              have q1 : (q : Int) < (m : Int) := by omega
              have pc := HQ.out.pr.cell (i := q) (by rw [HL.out]; exact hqm)
              have hst : RgS wr (idn ids q) (q : Int) m k (wantL R k m) ((2 * m - 2 : Nat) : Int) false false := by
                have := HQ.out.rs.st q hqm
                simp only [Nat.min_self, Nat.lt_irrefl, decide_false] at this
                rw [HWA.out q hqm] at this
                exact this
              have C1 := Lib.hid (sum_done wr (idn ids q) q m k (wantL R k m) _ false false hst (by omega))
              clear hst
              go_wp2_with fail
              refine C1.out.mono ?_
              rintro e y1 ⟨A1, c1, rfl, ho1, hb1⟩
              have HS2 := Lib.hid (HQ.out.below hb1)
              have C2 := Lib.hid (wides_same A1 (some ⟨gw, 0, none⟩) k c1 k (wantL R k m) y1 (part_read ho1 (by omega)) (part_read HS2.out.wt (by omega)) (by omega))
              clear ho1 hb1 pc C1
              go_wp2_with fail
              refine C2.out.mono ?_
              rintro e y2 ⟨rfl, hb2⟩
              have HS3 := Lib.hid (HS2.out.below hb2)
              clear hb2 C2
              go_wp2_with fail
              go_roundw
              case rel => exact ⟨q + 1, by omega, by go_num, ⟨HS3.out⟩⟩
              case measure => simp [intOf]; omega
            · go_wp2_with fail
              go_ret
              exact ⟨rfl, HQ.out.bw⟩
end Go.Proofs.Ytjidjbjbngbhpaa
