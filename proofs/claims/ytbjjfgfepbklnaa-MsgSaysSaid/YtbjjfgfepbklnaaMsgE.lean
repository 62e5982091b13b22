/- The walk of msg.Put. -/
import Derived.Test.YtbjjfgfepbklnaaMsgD
set_option linter.unusedVariables false
set_option linter.unusedSimpArgs false
namespace Go.Proofs.Ytbjjfgfepbklnaa
open Go.RowKit Go.Proofs.YtbjjfgfepbklnaaW.PrintWords Go.Proofs.Ytbjjfgfepbklnaa.K

theorem n2_mod (n : Nat) (h : n ≤ 500) : bes ((n : Int) % 18446744073709551616) 2 2 = n2 n := by
  unfold n2; rw [show (n : Int) % 18446744073709551616 = (n : Int) by omega]
set_option maxRecDepth 100000 in
set_option maxHeartbeats 4000000 in
theorem mput_walk (x : Ms) (hg : x.good) (hw : x.wf) (A B : Option Addr) (n c m d : Nat) (W : World) (hr : ReadsInt W .i64 A n x.n) (hwd : WidesAt W B m x.w) :
    Calls Try.prog 10 #[.agg (msC x.k x.f x.t x.v x.s (.slice A n c) (.slice B m d))] W (Wrote W (23 + 8 * n + 16 * m) (menc x)) := by
  have hn : n ≤ 500 := by rw [← hr.1]; exact hg.2.2.2.1
  have hm : m ≤ 500 := by rw [← hwd.1]; exact hg.2.2.2.2
  have HG := Lib.hid hg; have HW := Lib.hid hw; have HR := Lib.hid hr; have HWD := Lib.hid hwd
  obtain ⟨w0, hw0⟩ : ∃ w0, w0 = W.alloc (.cells (msC x.k x.f x.t x.v x.s (.slice A n c) (.slice B m d)) 27) := ⟨_, rfl⟩
  have hb0 : Below W.heap.size W w0 := by rw [hw0]; exact alloc_back _
  have q0 : w0.heap[W.heap.size]? = some (.cells (msC x.k x.f x.t x.v x.s (.slice A n c) (.slice B m d)) 27 (0, 0)) := by rw [hw0]; exact heap_alloc_new _ _
  have HB0 := Lib.hid hb0; have Q0 := Lib.hid q0; have HW0 := Lib.hid hw0
  clear hg hw hr hwd hw0 hb0 q0
  go_enter Try.func10, Try.ntmps10
  go_wp2_with fail
  rw [← HW0.out]
  refine (mgood_walk x.k x.f x.t x.v x.s A B n c m d (by omega) (by omega) w0).mono ?_
  rintro e w1 ⟨rfl, hb1⟩
  rw [show msB x.k x.f x.t n m = true by rw [← HR.out.1, ← HWD.out.1]; exact (msB_iff x).2 HG.out]
  have B1 := Lib.hid (below_then HB0.out HB0.out.size hb1)
  obtain ⟨c0, c1, c2, c3, c4, c5, c6⟩ := msC_cells (heap_keep' hb1 Q0.out)
  have Q1 := Lib.hid (heap_keep' hb1 Q0.out)
  have HR1 := Lib.hid (HR.out.below B1.out); have HWD1 := Lib.hid (HWD.out.below B1.out)
  clear hb1
  go_wp2_with fail
  refine (wU16_walk none [] 0 0 n w1 (reads_nil _ _) (by decide)).mono ?_
  rintro e w2 ⟨A2, k2, rfl, ho2, hb2⟩
  have HO2 := Lib.hid ho2; have HB2 := Lib.hid hb2
  have e5 := pw_cell_below hb2 c5
  clear ho2 hb2
  go_wp2_with fail
  clear e5 c0 c1 c2 c3 c4
  go_loopw [3, 18] (fun b i wr => ∃ (k : Nat) (A1 : Option Addr) (k1 : Nat), k ≤ n ∧ i = .int .i64 k ∧ b = .slice A1 (2 + 8 * k) k1 ∧ Aside0 (wr.ownsRow w1.heap.size 5 1 (.slice A1 (2 + 8 * k) k1) (2 + 8 * k) (nums .u8 (n2 n ++ nB (x.n.take k))) ∧ Below w1.heap.size w1 wr)) (fun _ i _ => n - (intOf i).toNat)
  case atStart => exact ⟨0, A2, k2, Nat.zero_le _, rfl, rfl, ⟨by rw [← n2_mod n hn]; simpa [nB] using HO2.out, HB2.out⟩⟩
  case round =>
    obtain ⟨k, A1, k1, hk, rfl, rfl, HK⟩ := hrel
    by_cases hlt : k < n
    · have HO := Lib.hid HK.out.1; have HB := Lib.hid HK.out.2
      obtain ⟨ad, rfl, hck⟩ := reads_at (HR1.out.below HB.out) k hlt
      have hlx : k < x.n.length := by rw [HR.out.1]; exact hlt
      have hwf : (Lit.int .i64 (x.n.getD k 0)).wf = true := HW.out.2.2.1 _ (by simp [List.getD_eq_getElem?_getD, hlx])
      have HT := Lib.hid (nB_take hlx)
      obtain ⟨u, hu⟩ : ∃ u, u = x.n.getD k 0 := ⟨_, rfl⟩
      rw [← hu] at hck HT hwf
      have hrng := wf_i64 hwf
      have hm8 : 0 ≤ u % 18446744073709551616 ∧ u % 18446744073709551616 < 18446744073709551616 := by omega
      have HLX := Lib.hid hlx
      clear hu hwf hlx
      go_wp2_with fail
      refine (wU64_walk none [] 0 0 (u % 18446744073709551616) wr (reads_nil _ _) (by decide) hm8).mono ?_
      rintro e w4 ⟨A4, k4, rfl, ho4, hb4⟩
      have HO4 := Lib.hid ho4; have HB4 := Lib.hid hb4
      clear ho4 hb4
      go_wp2_with (first | (at_builtin; refine K.app_row (w0 := w1) w1.heap.size rfl (.tmp 22) (.tmp 25) 31 5 .u8 1 rfl Try.underlying31 (by kernel_rfl) (by decide) (.slice A1 (2 + 8 * k) k1) (n2 n ++ nB (x.n.take k)) (n8 u) A4 8 k4 rfl rfl (by rw [show (n2 n ++ nB (x.n.take k)).length = 2 + 8 * k by rw [List.length_append, n2_len, nB_len, List.length_take]; have := HLX.out; omega]; exact pw_own_below HO.out HB4.out) (own_info HO4.out).2.2.2.1 (below_then HB.out HB.out.size HB4.out) (below_then HB.out HB.out.size HB4.out).size (by rw [List.length_append, n2_len, nB_len, List.length_take]; omega) (2 + 8 * (k + 1)) (by simp only [List.length_append, n2_len, nB_len, List.length_take, n8_len]; have := HLX.out; omega) ?_; intro A5 k5 w5 ho5 hb5 hg5; have R5 := Lib.hid (And.intro ho5 hb5); clear ho5 hb5 hg5))
      go_roundw
      case rel => exact ⟨k + 1, A5, k5, by omega, by go_num, rfl, ⟨by rw [HT.out, ← List.append_assoc]; exact R5.out.1, R5.out.2⟩⟩
      case measure => simp [intOf]; omega
    · obtain rfl : k = n := by omega
      have HO := Lib.hid HK.out.1; have HB := Lib.hid HK.out.2
      have HX := Lib.hid (show x.n.take k = x.n from List.take_of_length_le (by rw [HR.out.1]; exact Nat.le_refl _))
      have HRD := Lib.hid (own_info HO.out).2.2.2.1
      rw [HX.out] at HRD
      have c6' := pw_cell_below HB.out c6
      go_wp2_with fail
      refine (wU16_walk A1 (n2 k ++ nB x.n) (2 + 8 * k) k1 m wr HRD.out (by omega)).mono ?_
      rintro e w6 ⟨A6, k6, rfl, ho6, hb6⟩
      have HO6 := Lib.hid (own_base_le ho6 HB.out.size); have HB6 := Lib.hid (below_then HB.out HB.out.size hb6)
      have e6 := pw_cell_below hb6 c6'
      clear ho6 hb6 c6'
      go_wp2_with fail
      clear e6
      go_loopw [3, 36] (fun b i wr => ∃ (j : Nat) (A1 : Option Addr) (k1 : Nat), j ≤ m ∧ i = .int .i64 j ∧ b = .slice A1 (4 + 8 * k + 16 * j) k1 ∧ Aside0 (wr.ownsRow w1.heap.size 5 1 (.slice A1 (4 + 8 * k + 16 * j) k1) (4 + 8 * k + 16 * j) (nums .u8 (n2 k ++ nB x.n ++ n2 m ++ wB (x.w.take j))) ∧ Below w1.heap.size w1 wr)) (fun _ i _ => m - (intOf i).toNat)
      case atStart => exact ⟨0, A6, k6, Nat.zero_le _, rfl, by rw [show 4 + 8 * k + 16 * 0 = 2 + 8 * k + 2 by omega], ⟨by rw [← n2_mod m hm, show 4 + 8 * k + 16 * 0 = 2 + 8 * k + 2 by omega]; simpa [wB] using HO6.out, HB6.out⟩⟩
      case round =>
        obtain ⟨j, A7, k7, hj, rfl, rfl, HJ⟩ := hrel
        by_cases hlj : j < m
        · have HO7 := Lib.hid HJ.out.1; have HB7 := Lib.hid HJ.out.2
          obtain ⟨ad, rfl, hck, hck'⟩ := (HWD1.out.below HB7.out).2.2 j hlj
          have hlx : j < x.w.length := by rw [HWD.out.1]; exact hlj
          have hwf := HW.out.2.2.2 (x.w.getD j (0, 0)) (by simp [List.getD_eq_getElem?_getD, hlx])
          have HT := Lib.hid (wB_take hlx)
          obtain ⟨⟨u, v⟩, hu⟩ : ∃ u, u = x.w.getD j (0, 0) := ⟨_, rfl⟩
          rw [← hu] at hck hck' HT hwf
          dsimp only at hck hck' hwf
          have HWF := Lib.hid hwf
          have HLX := Lib.hid hlx
          clear hu hwf hlx
          go_wp2_with fail
          have hab := Lib.hid (alloc_back (W := wr) (.cells #[.int .i64 u, .int .u64 v] 47))
          refine (wput_walk u v HWF.out.1 HWF.out.2 _).mono ?_
          rintro e w8 ⟨A8, k8, rfl, ho8, hb8⟩
          have HO8 := Lib.hid ho8; have HB8 := Lib.hid (below_then hab.out hab.out.size hb8)
          clear ho8 hb8
          go_wp2_with (first | (at_builtin; refine K.app_row (w0 := w1) w1.heap.size rfl (.tmp 40) (.tmp 42) 31 5 .u8 1 rfl Try.underlying31 (by kernel_rfl) (by decide) (.slice A7 (4 + 8 * k + 16 * j) k7) (n2 k ++ nB x.n ++ n2 m ++ wB (x.w.take j)) (w16 (u, v)) A8 16 k8 rfl rfl (by rw [show (n2 k ++ nB x.n ++ n2 m ++ wB (x.w.take j)).length = 4 + 8 * k + 16 * j by simp only [List.length_append, n2_len, nB_len, wB_len, List.length_take]; have := HLX.out; have := HR.out.1; omega]; exact pw_own_below HO7.out HB8.out) (own_info HO8.out).2.2.2.1 (below_then HB7.out HB7.out.size HB8.out) (below_then HB7.out HB7.out.size HB8.out).size (by simp only [List.length_append, n2_len, nB_len, wB_len, List.length_take]; have := HR.out.1; omega) (4 + 8 * k + 16 * (j + 1)) (by simp only [List.length_append, n2_len, nB_len, wB_len, List.length_take, w16_len]; have := HLX.out; have := HR.out.1; omega) ?_; intro A9 k9 w9 ho9 hb9 hg9; have R9 := Lib.hid (And.intro ho9 hb9); clear ho9 hb9 hg9))
          go_roundw
          case rel => exact ⟨j + 1, A9, k9, by omega, by go_num, rfl, ⟨by rw [HT.out, ← List.append_assoc]; exact R9.out.1, R9.out.2⟩⟩
          case measure => simp [intOf]; omega
        · obtain rfl : j = m := by omega
          have HO7 := Lib.hid HJ.out.1; have HB7 := Lib.hid HJ.out.2
          have HXW := Lib.hid (show x.w.take j = x.w from List.take_of_length_le (by rw [HWD.out.1]; exact Nat.le_refl _))
          have HQ := Lib.hid (heap_keep' HB7.out Q1.out)
          obtain ⟨f0, f1, f2, f3, f4, f5, f6⟩ := msC_cells HQ.out
          have hbd : n2 k ++ nB x.n ++ n2 j ++ wB x.w = (mfr x).b := by
            show _ = mbody x
            unfold mbody; rw [HR.out.1, HWD.out.1]
          have HRB := Lib.hid (own_info HO7.out).2.2.2.1
          rw [HXW.out, hbd] at HRB
          clear hbd c5 c6
          go_wp2_with fail
          refine (frameOf_walk x.k x.f x.t x.v x.s A B A7 k c j d (4 + 8 * k + 16 * j) k7 wr).mono ?_
          rintro e w10 ⟨rfl, hb10⟩
          have HB10 := Lib.hid hb10
          clear hb10 f0 f1 f2 f3 f4 f5 f6
          go_wp2_with fail
          refine (encode_walk (mfr x) (mfr_good HG.out) (mfr_wf HW.out) A7 (4 + 8 * k + 16 * j) k7 w10 (HRB.out.below HB10.out)).mono ?_
          rintro e w11 ⟨A11, k11, rfl, ho11, hb11⟩
          have HO11 := Lib.hid ho11; have HB11 := Lib.hid hb11
          clear ho11 hb11
          go_wp2_with fail
          go_ret
          have b10 := below_then B1.out B1.out.size (below_then HB7.out HB7.out.size HB10.out)
          refine ⟨A11, k11, by rw [show 23 + 8 * k + 16 * j = 19 + (4 + 8 * k + 16 * j) by omega]; rfl, ?_, below_then b10 b10.size HB11.out⟩
          rw [show 23 + 8 * k + 16 * j = 19 + (4 + 8 * k + 16 * j) by omega]
          exact own_base_le HO11.out b10.size
end Go.Proofs.Ytbjjfgfepbklnaa
