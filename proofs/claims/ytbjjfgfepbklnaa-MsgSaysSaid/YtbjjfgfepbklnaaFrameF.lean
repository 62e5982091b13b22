/- The walk of the reference's Decode. -/
import Derived.Test.YtbjjfgfepbklnaaFrameE
import Derived.Deep.RegionWith
set_option linter.unusedVariables false
set_option linter.unusedSimpArgs false
namespace Go.Proofs.Ytbjjfgfepbklnaa
open Go.RowKit Go.Proofs.YtbjjfgfepbklnaaW.PrintWords Go.Proofs.Ytbjjfgfepbklnaa.K

set_option maxRecDepth 100000 in
set_option maxHeartbeats 40000000 in
theorem rdecode_walk (A : Option Addr) (n c : Nat) (xs : List Int) (W : World) (h : ReadsInt W .u8 A n xs) (hw : ∀ y ∈ xs, (Lit.int .u8 y).wf = true) (h19 : 19 ≤ n) (hm : n ≤ 1000000) (hc : n ≤ c) :
    Calls Try.prog 35 #[.slice A n c] W (Recd W xs) := by
  have HL := Lib.hid h
  have HW := Lib.hid hw
  have hl := h.1
  have hbW : Below W.heap.size W (W.alloc (.cells (frC 0 0 0 0 0 (.slice none 0 0)) 68)) := (Below.refl _ _).alloc (Nat.le_refl _) _
  have h0 := h.below hbW
  obtain ⟨ad, rfl, k2⟩ := reads_at h0 2 (by omega)
  obtain ⟨ad', e, k3⟩ := reads_at h0 3 (by omega)
  cases e
  obtain ⟨ad', e, k4⟩ := reads_at h0 4 (by omega)
  cases e
  have j2 : (W.alloc (.cells (frC 0 0 0 0 0 (.slice none 0 0)) 68)).cell? ⟨ad.block, ad.off + 2, none⟩ = some (.int .u8 (xs.getD 2 0)) := k2
  have j3 : (W.alloc (.cells (frC 0 0 0 0 0 (.slice none 0 0)) 68)).cell? ⟨ad.block, ad.off + 3, none⟩ = some (.int .u8 (xs.getD 3 0)) := k3
  have j4 : (W.alloc (.cells (frC 0 0 0 0 0 (.slice none 0 0)) 68)).cell? ⟨ad.block, ad.off + 4, none⟩ = some (.int .u8 (xs.getD 4 0)) := k4
  have H0 := Lib.hid h0
  clear h hw h0 k2 k3 k4
  have i2 : (2 : Int) < (n : Int) := by omega
  have i3 : (3 : Int) < (n : Int) := by omega
  have i4 : (4 : Int) < (n : Int) := by omega
  have g1 : (19 : Int) ≤ (n : Int) := by omega
  have g2 : (n : Int) ≤ (c : Int) := by omega
  have g3 : IntKind.i64.wrap ((n : Int) - 4) = (n : Int) - 4 := by rw [IntKind.wrap_i64]; omega
  have g4 : (0 : Int) ≤ (n : Int) - 4 := by omega
  have g5 : (15 : Int) ≤ (n : Int) - 4 := by omega
  have g6 : (n : Int) - 4 ≤ (c : Int) := by omega
  go_enter Try.func35, Try.ntmps35
  go_wp2_with fail
  generalize hW1 : (W.alloc (.cells (frC 0 0 0 0 0 (.slice none 0 0)) 68)) = W1 at *
  have A5 : ∀ w : World, ReadsInt w .u8 (some ad) n xs → Calls Try.prog 36 #[.slice (some ad) n c, .int .i64 5, .int .i64 4] w fun e w' => e = .returned (.int .u64 (atU xs 5 4)) ∧ w = w' := fun w h => at_walk _ xs n c 5 4 w h (by omega) (by decide)
  have A9 : ∀ w : World, ReadsInt w .u8 (some ad) n xs → Calls Try.prog 36 #[.slice (some ad) n c, .int .i64 9, .int .i64 4] w fun e w' => e = .returned (.int .u64 (atU xs 9 4)) ∧ w = w' := fun w h => at_walk _ xs n c 9 4 w h (by omega) (by decide)
  have HA5 := Lib.hid A5; clear A5
  have HA9 := Lib.hid A9; clear A9
  have hD : ReadsInt W1 .u8 (some ⟨ad.block, ad.off + 15, none⟩) (((n : Int) - 4).toNat - 15) ((xs.drop 15).take (n - 19)) := by
    have h1 := (H0.out.drop_ (c := c) 15 (by omega) hc).take_ (n - 19) (by omega)
    rw [if_neg (by omega)] at h1
    rw [show ((n : Int) - 4).toNat - 15 = n - 19 by omega]
    exact h1
  have HD := Lib.hid hD; clear hD
  have e2 : IntKind.i64.wrap (xs[2]?.getD 0) = xs.getD 2 0 := by have := getD_rng HW.out 2; rw [← List.getD_eq_getElem?_getD, IntKind.wrap_i64]; omega
  have e3 : IntKind.i64.wrap (xs[3]?.getD 0) = xs.getD 3 0 := by have := getD_rng HW.out 3; rw [← List.getD_eq_getElem?_getD, IntKind.wrap_i64]; omega
  have e4 : IntKind.i64.wrap (xs[4]?.getD 0) = xs.getD 4 0 := by have := getD_rng HW.out 4; rw [← List.getD_eq_getElem?_getD, IntKind.wrap_i64]; omega
  have e5 : IntKind.u32.wrap (atU xs 5 4) = atU xs 5 4 := by have := atU_rng xs 5 4 (by decide) HW.out; rw [IntKind.wrap_u32]; omega
  have e9 : IntKind.u32.wrap (atU xs 9 4) = atU xs 9 4 := by have := atU_rng xs 9 4 (by decide) HW.out; rw [IntKind.wrap_u32]; omega
  have E2 := Lib.hid e2; have E3 := Lib.hid e3; have E4 := Lib.hid e4; have E5 := Lib.hid e5; have E9 := Lib.hid e9
  clear e2 e3 e4 e5 e9
  have HBW := Lib.hid (show Below W.heap.size W W1 ∧ W1.heap.size = W.heap.size + 1 ∧ W1.heap[W.heap.size]? = some (.cells (frC 0 0 0 0 0 (.slice none 0 0)) 68 (0, 0)) from ⟨hbW, by rw [← hW1]; simp, by rw [← hW1]; exact heap_alloc_new _ _⟩)
  go_cut [4] (fun s4 wx => ∃ fb A3 c3, s4 = .pointer (some ⟨fb, 0, none⟩) ∧ Aside0 (FinR W fb (xs.getD 2 0) (xs.getD 3 0) (xs.getD 4 0) (atU xs 5 4) (atU xs 9 4) A3 (n - 19) c3 ((xs.drop 15).take (n - 19)) wx))
  case first =>
    go_region_held3 (fun w' => w'.cell? ⟨ad.block, ad.off + 2, none⟩ = some (.int .u8 (xs.getD 2 0)) ∧ w'.cell? ⟨ad.block, ad.off + 3, none⟩ = some (.int .u8 (xs.getD 3 0)) ∧ w'.cell? ⟨ad.block, ad.off + 4, none⟩ = some (.int .u8 (xs.getD 4 0)))
      (first | with_reducible exact ⟨pw_cell_below hb3 j2, pw_cell_below hb3 j3, pw_cell_below hb3 j4⟩ | (with_reducible exact ⟨pw_cell_below (by repeat (first | with_reducible exact hb3 | with_reducible exact Below.refl _ _ | with_reducible apply below_drew | with_reducible refine Below.alloc ?_ ?_ _ | with_reducible refine bset6 ?_ ?_ ?_ | exact hb3.size | omega | (simp; done) | (simp; omega))) j2, pw_cell_below (by repeat (first | with_reducible exact hb3 | with_reducible exact Below.refl _ _ | with_reducible apply below_drew | with_reducible refine Below.alloc ?_ ?_ _ | with_reducible refine bset6 ?_ ?_ ?_ | exact hb3.size | omega | (simp; done) | (simp; omega))) j3, pw_cell_below (by repeat (first | with_reducible exact hb3 | with_reducible exact Below.refl _ _ | with_reducible apply below_drew | with_reducible refine Below.alloc ?_ ?_ _ | with_reducible refine bset6 ?_ ?_ ?_ | exact hb3.size | omega | (simp; done) | (simp; omega))) j4⟩) | go_keep)
      (first
        | (go_at_call 36; with_reducible refine (HA5.out _ (by repeat (first | with_reducible exact H0.out | with_reducible apply rd_drew | with_reducible apply rd_alloc))).mono ?_; rintro e w' ⟨rfl, rfl⟩)
        | (go_at_call 36; with_reducible refine (HA9.out _ (by repeat (first | with_reducible exact H0.out | with_reducible apply rd_drew | with_reducible apply rd_alloc))).mono ?_; rintro e w' ⟨rfl, rfl⟩)
        | (refine step_app_row (w0 := W1) W1.heap.size (by rfl) _ _ 31 5 .u8 1 (by rfl) Try.underlying31 (by kernel_rfl) (by decide) _ [] ((xs.drop 15).take (n - 19)) (some ⟨ad.block, ad.off + 15, none⟩) (((n : Int) - 4).toNat - 15) (c - 15) (by rfl) (by rfl) (own_empty (by simp only [hdr, hal]; first | exact hpush1 _ _ | exact hpush2 _ _ _ | exact hpush3 _ _ _) (by omega)) (by repeat (first | with_reducible exact HD.out | with_reducible apply rd_drew | with_reducible apply rd_alloc)) (by repeat (first | with_reducible exact Below.refl _ _ | with_reducible apply below_drew | with_reducible refine Below.alloc ?_ ?_ _ | omega | (simp; done) | (simp; omega))) (by simp <;> omega) (by simp <;> omega) (n - 19) (by simp <;> omega) ?_; intro A3 c3 w3 hown hb3 hg3; have HO := Lib.hid hown; clear hown; have hg4 := as_some hg3; have hcf := far_cell hg4; have hff := far_froz hg4))
    all_goals (go_wp2_with fail)
    all_goals go_meet
    all_goals refine ⟨_, A3, c3, rfl, ⟨?_⟩⟩
    all_goals (rw [E2.out, E3.out, E4.out, E5.out, E9.out])
    all_goals first
      | with_reducible exact finA HBW.out.1 HBW.out.2.1 HBW.out.2.2 hb3 HO.out
      | with_reducible exact (finA HBW.out.1 HBW.out.2.1 HBW.out.2.2 hb3 HO.out).drew
      | with_reducible exact finB HBW.out.1 HBW.out.2.1 HBW.out.2.2 hb3 HO.out hg4 (by simp only [hdr, hal]; first | exact hpush1 _ _ | exact hpush2 _ _ _ | exact hpush3 _ _ _) (by omega) (by omega)
      | with_reducible exact (finB HBW.out.1 HBW.out.2.1 HBW.out.2.2 hb3 HO.out hg4 (by simp only [hdr, hal]; first | exact hpush1 _ _ | exact hpush2 _ _ _ | exact hpush3 _ _ _) (by omega) (by omega)).drew
      | trace_state
  case rest =>
    obtain ⟨fb, A3, c3, rfl, HK⟩ := hcut
    have HS := Lib.hid (frR_wf xs HW.out)
    have hx : xs.length - 19 = n - 19 := by omega
    have HX := Lib.hid hx; clear hx
    have hbl : ((xs.drop 15).take (n - 19)).length = n - 19 := by rw [List.length_take, List.length_drop]; omega
    have HBL := Lib.hid hbl; clear hbl
    clear hW1 hbW H0 HA5 HA9 HD HBW E2 E3 E4 E5 E9 j2 j3 j4 i2 i3 i4 g1 g2 g3 g4 g5 g6
    have hgd : goodB (xs.getD 2 0) (xs.getD 3 0) (xs.getD 4 0) (n - 19) ↔ (frR xs).good := by
      have : (frR xs).good ↔ goodB (xs.getD 2 0) (xs.getD 3 0) (xs.getD 4 0) ((xs.drop 15).take (xs.length - 19)).length := Iff.rfl
      rw [this, HX.out, HBL.out]
    have hrd : ReadsInt wc .u8 A3 (n - 19) (frR xs).b := by
      have := (own_info HK.out.own).2.2.2.1
      rw [← HX.out] at this
      rw [← HX.out]
      exact this
    have HR := Lib.hid hrd; clear hrd
    obtain ⟨S0, hS0⟩ : ∃ S : ByteArray, S = strOfNums xs := ⟨_, rfl⟩
    have HS0 := Lib.hid hS0; clear hS0
    have K0 : ∀ w : World, Below W.heap.size W w → (convert 31 9 (.slice (some ad) n c)).run Try.prog w = .ok (.string S0) w := fun w hb => by rw [HS0.out]; exact str_of (HL.out.below hb)
    have HK0 := Lib.hid K0; clear K0
    by_cases hg : goodB (xs.getD 2 0) (xs.getD 3 0) (xs.getD 4 0) (n - 19)
    · have HG := Lib.hid (hgd.1 hg); clear hgd hg
      obtain ⟨S1, hS1⟩ : ∃ S : ByteArray, S = strOfNums (enc (frR xs)) := ⟨_, rfl⟩
      have HS1 := Lib.hid hS1; clear hS1
      have hc16 : ∀ w : World, ReadsInt w .u8 A3 (n - 19) (frR xs).b → Calls Try.prog 42 #[.agg #[.int .i64 (xs.getD 2 0), .int .i64 (xs.getD 3 0), .int .i64 (xs.getD 4 0), .int .u32 (atU xs 5 4), .int .u32 (atU xs 9 4), .slice A3 (n - 19) c3]] w (Wrote w n (enc (frR xs))) := fun w h => by
        have := rencode_walk (frR xs) HG.out HS.out A3 (n - 19) c3 w h
        rw [show 19 + (n - 19) = n by omega] at this
        exact this
      have HC := Lib.hid hc16; clear hc16
      obtain ⟨bb, hbb⟩ : ∃ bb : Bool, bb = (!(S1.toList == S0.toList)) := ⟨_, rfl⟩
      have HBB := Lib.hid hbb
      clear hbb
      go_wp2_with fail
      go_cut [40] (fun s40 wx => s40 = .bool bb ∧ Aside0 (Below wc.heap.size wc wx))
      case first =>
        obtain ⟨c0, c1, c2, c3', c4, c5⟩ := box_cells HK.out.fr
        have k0 := HK0.out _ (below_drew HK.out.bel)
        go_region_with (go_at_call 42; refine (HC.out _ (rd_drew HR.out)).mono ?_; rintro e w5 ⟨A5, c5', rfl, ho5, hb5⟩; have hq5 := below_then (below_drew (Below.refl wc.heap.size wc)) (Nat.le_refl _) hb5; have k5 := HK0.out _ (below_then HK.out.bel HK.out.bel.size hq5); have kx : (convert 31 9 (.slice A5 n c5')).run Try.prog w5 = .ok (.string S1) w5 := (by rw [HS1.out]; exact str_of (own_info ho5).2.2.2.1))
        all_goals (go_wp2_with fail)
        all_goals go_meet
        all_goals first | exact ⟨by rw [HBB.out], ⟨hq5⟩⟩ | exact ⟨by rw [HBB.out], ⟨below_drew hq5⟩⟩
      case rest =>
        obtain ⟨rfl, HQ⟩ := hcut
        have hb6 := below_then HK.out.bel HK.out.bel.size HQ.out
        have HB6 := Lib.hid hb6; clear hb6
        obtain ⟨r0, r1, r2, r3, r4, r5⟩ := box_cells (HQ.out.block _ (lt_of_heap HK.out.re) |>.trans HK.out.re)
        have y0 := froz (HQ.out.block _ (lt_of_heap HK.out.re) |>.trans HK.out.re) 0
        have y1 := froz (HQ.out.block _ (lt_of_heap HK.out.re) |>.trans HK.out.re) 1
        have y2 := froz (HQ.out.block _ (lt_of_heap HK.out.re) |>.trans HK.out.re) 2
        have y3 := froz (HQ.out.block _ (lt_of_heap HK.out.re) |>.trans HK.out.re) 3
        have y4 := froz (HQ.out.block _ (lt_of_heap HK.out.re) |>.trans HK.out.re) 4
        have y5 := froz (HQ.out.block _ (lt_of_heap HK.out.re) |>.trans HK.out.re) 5
        cases bb with
        | true =>
          have hne : enc (frR xs) ≠ xs := fun e => by
            have := HBB.out
            rw [HS1.out, HS0.out, strOf_eqb (enc_wf HG.out HS.out) HW.out, decide_eq_true e] at this
            cases this
          have HN := Lib.hid (no_frameR (xs := xs) (fun h => hne h.2)); clear hne
          go_wp2_with fail
          (try simp only [Exit.inBlock, Exit.then])
          refine bodyPost_ret (results_ct rfl _ _ W.heap.size 68 (frC 0 0 0 0 0 (.slice none 0 0)) (0, 0) _ rfl (set6 (HQ.out.block _ (lt_of_heap HK.out.re) |>.trans HK.out.re)) Try.underlying68 rfl (by kernel_rfl)) rfl ?_
          exact ⟨.inr ⟨HN.out, rfl⟩, bset6 HB6.out (Nat.le_refl _) HB6.out.size⟩
        | false =>
          have he : enc (frR xs) = xs := by
            have := HBB.out
            rw [HS1.out, HS0.out, strOf_eqb (enc_wf HG.out HS.out) HW.out] at this
            simpa using this
          have HI := Lib.hid he; clear he
          obtain ⟨q0, q1, q2, q3, q4, q5⟩ := box_cells (HQ.out.block _ (lt_of_heap HK.out.fr) |>.trans HK.out.fr)
          have HO6 := Lib.hid (pw_own_below HK.out.own HQ.out)
          have hlen : (frR xs).b.length = n - 19 := by
            show ((xs.drop 15).take (xs.length - 19)).length = n - 19
            rw [HX.out]; exact HBL.out
          have HLN := Lib.hid hlen; clear hlen
          have hbx : (xs.drop 15).take (n - 19) = (frR xs).b := by rw [← HX.out]; rfl
          have HBX := Lib.hid hbx; clear hbx
          go_wp2_with fail
          (try simp only [Exit.inBlock, Exit.then])
          refine bodyPost_ret (results_ct rfl _ _ W.heap.size 68 (frC (frR xs).k (frR xs).f (frR xs).t (frR xs).v (frR xs).s (.slice A3 (n - 19) c3)) (0, 0) _ rfl (set6 (HQ.out.block _ (lt_of_heap HK.out.re) |>.trans HK.out.re)) Try.underlying68 rfl (by kernel_rfl)) rfl ?_
          refine ⟨.inl ⟨frR xs, ⟨HG.out, HS.out, HI.out⟩, A3, c3, by rw [HLN.out]; rfl, ?_⟩, bset6 HB6.out (Nat.le_refl _) HB6.out.size⟩
          rw [HLN.out, ← HBX.out]
          have hlt : W.heap.size < W.heap.size + 1 := Nat.lt_succ_self _
          exact (own_info (reads_set (reads_set (reads_set (reads_set (reads_set (reads_set HO6.out hlt) hlt) hlt) hlt) hlt) hlt)).2.2.2.1
    · have HN := Lib.hid (no_frameR (xs := xs) (fun h => hg (hgd.2 h.1))); clear hgd
      have hc16 : ∀ w : World, Calls Try.prog 42 #[.agg #[.int .i64 (xs.getD 2 0), .int .i64 (xs.getD 3 0), .int .i64 (xs.getD 4 0), .int .u32 (atU xs 5 4), .int .u32 (atU xs 9 4), .slice A3 (n - 19) c3]] w fun e w' => e = .returned (.slice none 0 0) ∧ Below w.heap.size w w' := fun w => rencode_bad _ _ _ _ _ A3 (n - 19) c3 (by omega) hg w
      have HC := Lib.hid hc16; clear hc16 hg
      have kn : ∀ w : World, (convert 31 9 (.slice none 0 0)).run Try.prog w = .ok (.string (strOfNums [])) w := fun w => str_of (reads_nil w .u8)
      obtain ⟨S1, hS1⟩ : ∃ S : ByteArray, S = strOfNums [] := ⟨_, rfl⟩
      rw [← hS1] at kn
      have HKN := Lib.hid kn; clear kn
      have hbb : (!(S1.toList == S0.toList)) = true := by
        rw [hS1, HS0.out, strOf_eqb (by simp) HW.out, decide_eq_false (fun e => by rw [← e] at hl; simp at hl; omega)]
        rfl
      have HBB := Lib.hid hbb; clear hbb hS1
      go_wp2_with fail
      go_cut [40] (fun s40 wx => s40 = .bool true ∧ Aside0 (Below wc.heap.size wc wx))
      case first =>
        obtain ⟨c0, c1, c2, c3', c4, c5⟩ := box_cells HK.out.fr
        have k0 := HK0.out _ (below_drew HK.out.bel)
        go_region_with (go_at_call 42; refine (HC.out _).mono ?_; rintro e w5 ⟨rfl, hb5⟩; have hq5 := below_then (below_drew (Below.refl wc.heap.size wc)) (Nat.le_refl _) hb5; have k5 := HK0.out _ (below_then HK.out.bel HK.out.bel.size hq5); have kx := HKN.out w5)
        all_goals (go_wp2_with fail)
        all_goals go_meet
        all_goals first | exact ⟨by rw [HBB.out], ⟨hq5⟩⟩ | exact ⟨by rw [HBB.out], ⟨below_drew hq5⟩⟩
      case rest =>
        obtain ⟨rfl, HQ⟩ := hcut
        have hb6 := below_then HK.out.bel HK.out.bel.size HQ.out
        have HB6 := Lib.hid hb6; clear hb6
        obtain ⟨r0, r1, r2, r3, r4, r5⟩ := box_cells (HQ.out.block _ (lt_of_heap HK.out.re) |>.trans HK.out.re)
        have y0 := froz (HQ.out.block _ (lt_of_heap HK.out.re) |>.trans HK.out.re) 0
        have y1 := froz (HQ.out.block _ (lt_of_heap HK.out.re) |>.trans HK.out.re) 1
        have y2 := froz (HQ.out.block _ (lt_of_heap HK.out.re) |>.trans HK.out.re) 2
        have y3 := froz (HQ.out.block _ (lt_of_heap HK.out.re) |>.trans HK.out.re) 3
        have y4 := froz (HQ.out.block _ (lt_of_heap HK.out.re) |>.trans HK.out.re) 4
        have y5 := froz (HQ.out.block _ (lt_of_heap HK.out.re) |>.trans HK.out.re) 5
        go_wp2_with fail
        (try simp only [Exit.inBlock, Exit.then])
        refine bodyPost_ret (results_ct rfl _ _ W.heap.size 68 (frC 0 0 0 0 0 (.slice none 0 0)) (0, 0) _ rfl (set6 (HQ.out.block _ (lt_of_heap HK.out.re) |>.trans HK.out.re)) Try.underlying68 rfl (by kernel_rfl)) rfl ?_
        exact ⟨.inr ⟨HN.out, rfl⟩, bset6 HB6.out (Nat.le_refl _) HB6.out.size⟩
end Go.Proofs.Ytbjjfgfepbklnaa
