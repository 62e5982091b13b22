/- The walk of MsgSpoilt. -/
import Derived.Test.YtbjjfgfepbklnaaMsgQ
set_option linter.unusedVariables false
set_option linter.unusedSimpArgs false
namespace Go.Proofs.Ytbjjfgfepbklnaa
open Go.RowKit Go.Proofs.YtbjjfgfepbklnaaW.PrintWords Go.Proofs.Ytbjjfgfepbklnaa.K

theorem xor_ne (a b : Int) (ha : 0 ≤ a ∧ a < 256) (hb : 0 < b ∧ b < 256) : (Lit.int .u8 (bits .xor .u8 a b)).wf = true ∧ bits .xor .u8 a b ≠ a := by
  obtain ⟨x, rfl⟩ := Int.eq_ofNat_of_zero_le ha.1
  obtain ⟨z, rfl⟩ := Int.eq_ofNat_of_zero_le (Int.le_of_lt hb.1)
  rw [u8_xor_nat x z (by omega) (by omega)]
  have hlt : x ^^^ z < 256 := Nat.xor_lt_two_pow (n := 8) (by omega) (by omega)
  refine ⟨wf_u8.2 (by omega), fun e => ?_⟩
  have e' : x ^^^ z = x := by exact_mod_cast e
  have : z = 0 := by
    have h2 : x ^^^ (x ^^^ z) = x ^^^ x := by rw [e']
    rwa [← Nat.xor_assoc, Nat.xor_self, Nat.zero_xor] at h2
  omega
theorem mset_none {x : Ms} (gx : x.good) (wx : x.wf) (i : Nat) (z : Int) (hi : i < (menc x).length) (hz : (Lit.int .u8 z).wf = true) (hne : z ≠ (menc x).getD i 0) : ¬ ∃ y, MIs ((menc x).set i z) y := by
  have hi' : i < (enc (mfr x)).length := hi
  have e2 : (enc (mfr x))[i] = (menc x).getD i 0 := by
    unfold menc; rw [List.getD_eq_getElem?_getD, List.getElem?_eq_getElem hi']; rfl
  exact no_msg' (fun ⟨y, hy⟩ => set_none (mfr_good gx) (mfr_wf wx) i z hi' hz (by rw [e2]; exact hne) ⟨y, hy⟩)
set_option maxRecDepth 100000 in
set_option maxHeartbeats 4000000 in
theorem spoilt_walk (W : World) (v : Value) (o : ∃ x A n c B m d, v = .agg (msC x.k x.f x.t x.v x.s (.slice A n c) (.slice B m d)) ∧ MsArg W x A n c B m d) (a : Int) (ha : (Lit.int .i64 a).wf = true) (by_ : Int) (hby : (Lit.int .u8 by_).wf = true) :
    Calls Try.prog 6 #[v, .int .i64 a, .int .u8 by_] W fun e w' => e = .returned (.bool true) ∧ Below W.heap.size W w' := by
  obtain ⟨x, A, n, c, B, m, d, rfl, hx⟩ := o
  have hb8 := wf_u8.1 hby
  have HX := Lib.hid hx
  have hn := hx.rd.2.1
  have hm := hx.wd.2.1
  clear hx ha hby
  obtain ⟨W0, hW0⟩ : ∃ W0, W0 = W.alloc (.cells (msC x.k x.f x.t x.v x.s (.slice A n c) (.slice B m d)) 27) := ⟨_, rfl⟩
  have hb0 : Below W.heap.size W W0 := by rw [hW0]; exact alloc_back _
  have q0 : W0.heap[W.heap.size]? = some (.cells (msC x.k x.f x.t x.v x.s (.slice A n c) (.slice B m d)) 27 (0, 0)) := by rw [hW0]; exact heap_alloc_new _ _
  have B0 := Lib.hid hb0; have Q0 := Lib.hid q0; have HW0 := Lib.hid hW0
  clear hb0 q0 hW0
  go_enter Try.func6, Try.ntmps6
  go_wp2_with fail
  rw [← HW0.out]
  refine (awake_walk W0).mono ?_
  rintro e w1 ⟨rfl, hb1⟩
  have B1 := Lib.hid (below_then B0.out B0.out.size hb1); have Q1 := Lib.hid (heap_keep' hb1 Q0.out)
  obtain ⟨x0, x1, x2, x3, x4, x5, x6⟩ := msC_cells Q1.out
  clear hb1
  go_wp2_with fail
  refine (heavy_walk x.k x.f x.t x.v x.s A B n c m d w1).mono ?_
  rintro e w2 ⟨rfl, hb2⟩
  have B2 := Lib.hid (below_then B1.out B1.out.size hb2); have Q2 := Lib.hid (heap_keep' hb2 Q1.out)
  clear x0 x1 x2 x3 x4 x5 x6 hb2
  obtain ⟨x0, x1, x2, x3, x4, x5, x6⟩ := msC_cells Q2.out
  by_cases h520 : n ≤ 520 ∧ m ≤ 520
  · rw [show heavyB n m = false by unfold heavyB; rw [decide_eq_false (by omega), decide_eq_false (by omega)]; rfl]
    go_wp2_with fail
    refine (mgood_walk x.k x.f x.t x.v x.s A B n c m d (by omega) (by omega) w2).mono ?_
    rintro e w3 ⟨rfl, hb3⟩
    have B3 := Lib.hid (below_then B2.out B2.out.size hb3); have Q3 := Lib.hid (heap_keep' hb3 Q2.out)
    clear x0 x1 x2 x3 x4 x5 x6 hb3
    obtain ⟨x0, x1, x2, x3, x4, x5, x6⟩ := msC_cells Q3.out
    by_cases hg : x.good
    · rw [show msB x.k x.f x.t n m = true by rw [← HX.out.rd.1, ← HX.out.wd.1]; exact (msB_iff x).2 hg]
      have HG := Lib.hid hg
      clear hg
      by_cases h0 : by_ = 0
      · subst h0
        go_wp2_with fail
        go_ret
        exact ⟨rfl, B3.out⟩
      · have hpos : 0 < by_ := by omega
        have hne0 : (by_ == 0) = false := by simpa using h0
        have H8 := Lib.hid (And.intro hb8 hpos)
        clear hb8 hpos
        have HRD := Lib.hid (HX.out.rd.below B3.out); have HWD := Lib.hid (HX.out.wd.below B3.out)
        go_wp2_with fail
        refine (mput_walk x HG.out HX.out.wf A B n c m d w3 HRD.out HWD.out).mono ?_
        rintro e w4 ⟨A4, c4, rfl, ho4, hb4⟩
        have O4 := Lib.hid ho4; have B4 := Lib.hid (below_then B3.out B3.out.size hb4)
        have hlen := (own_info ho4).2.1
        have HLEN := Lib.hid hlen
        clear ho4 hb4 hlen
        by_cases ha0 : a < 0
        · go_wp2_with fail
          go_ret
          exact ⟨rfl, B4.out⟩
        by_cases ha1 : ((23 + 8 * n + 16 * m : Nat) : Int) ≤ a
        · go_wp2_with fail
          go_ret
          exact ⟨rfl, B4.out⟩
        obtain ⟨i, rfl⟩ : ∃ i : Nat, a = i := ⟨a.toNat, by omega⟩
        have hi : i < 23 + 8 * n + 16 * m := by omega
        obtain ⟨g, cap, e, hgb, hgl⟩ := O4.out.form (by omega)
        injection e with e1 e2 e3
        subst e1 e3
        have h1 := own_at O4.out (i : Int) (Int.natCast_nonneg _) (by omega)
        obtain ⟨f1, f2⟩ := h1
        simp only [Int.toNat_natCast] at f1 f2
        have hrd : rd (menc x) ((i : Nat) : Int) = (menc x).getD i 0 := by unfold rd; rw [Int.toNat_natCast]
        rw [hrd] at f1
        have hil : i < (menc x).length := by rw [HLEN.out]; omega
        have HIL := Lib.hid hil
        have HGC := Lib.hid (And.intro hgb hgl)
        clear hrd hil hgb hgl e2
        go_wp2_with fail
        clear f1 f2
        obtain ⟨s1, s2⟩ := own_store O4.out ((i : Nat) : Int) (bits .xor .u8 ((menc x).getD i 0) by_)
        simp only [Int.toNat_natCast] at s1 s2
        have hxw := xor_ne ((menc x).getD i 0) by_ (getD_rng (menc_wf HG.out HX.out.wf) i) (by have := H8.out; omega)
        have hset := mset_none HG.out HX.out.wf i _ HIL.out hxw.1 hxw.2
        have hwf : ∀ z ∈ (menc x).set i (bits .xor .u8 ((menc x).getD i 0) by_), (Lit.int .u8 z).wf = true := fun z hz => by
          rcases List.mem_or_eq_of_mem_set hz with h | h
          · exact menc_wf HG.out HX.out.wf z h
          · rw [h]; exact hxw.1
        have HS1 := Lib.hid (own_info s1).2.2.2.1
        have HBS := Lib.hid (pw_below_grown B4.out (some g) B4.out.size s2 (fun k e => by cases e; exact Nat.le_trans B3.out.size HGC.out.1))
        clear s1 s2
        refine (mget_walk (some ⟨g, 0, none⟩) (23 + 8 * n + 16 * m) c4 _ _ HS1.out hwf).mono ?_
        rintro e w9 ⟨hd, hb9⟩
        obtain ⟨-, rfl⟩ := hd.resolve_left (fun ⟨y, hy, _⟩ => hset ⟨y, hy⟩)
        have HB9 := Lib.hid (below_then HBS.out HBS.out.size hb9)
        clear hb9 hxw hset hwf
        go_wp2_with fail
        go_ret
        exact ⟨rfl, HB9.out.alloc HB9.out.size _⟩
    · rw [show msB x.k x.f x.t n m = false by rw [← HX.out.rd.1, ← HX.out.wd.1, Bool.eq_false_iff]; exact fun h => hg ((msB_iff x).1 h)]
      go_wp2_with fail
      go_ret
      exact ⟨rfl, B3.out⟩
  · rw [show heavyB n m = true by unfold heavyB; rw [← Bool.decide_or]; exact decide_eq_true (by omega)]
    go_wp2_with fail
    go_ret
    exact ⟨rfl, B2.out⟩
end Go.Proofs.Ytbjjfgfepbklnaa
