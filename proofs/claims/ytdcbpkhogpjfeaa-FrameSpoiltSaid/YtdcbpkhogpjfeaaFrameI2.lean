/- FrameSpoilt: the early exits, and the whole walk (printed by a program of mine, mkspoilt.py). -/
import Derived.Test.YtdcbpkhogpjfeaaFrameI
set_option linter.unusedVariables false
set_option linter.unusedSimpArgs false
namespace Go.Proofs.Ytdcbpkhogpjfeaa
open Go.RowKit Go.Proofs.YtdcbpkhogpjfeaaW.PrintWords Go.Proofs.Ytdcbpkhogpjfeaa.K

set_option maxRecDepth 100000 in
set_option maxHeartbeats 4000000 in
theorem spoilt_walk (W : World) (y : Fr) (A' : Option Addr) (n' c' : Nat) (hy : FrArg W y A' n' c') (at_ by_ cut : Int) (hby : (Lit.int .u8 by_).wf = true) (A : Option Addr) (n c : Nat) (xs : List Int) (h : ReadsInt W .u8 A n xs) (hw : ∀ z ∈ xs, (Lit.int .u8 z).wf = true) :
    Calls Try.prog 6 #[.agg (frC y.k y.f y.t y.v y.s (.slice A' n' c')), .int .i64 at_, .int .u8 by_, .int .i64 cut, .slice A n c] W fun e w' => e = .returned (.bool true) ∧ Below W.heap.size W w' := by
  have hy0 := Lib.hid hy
  have h0 := Lib.hid h
  have hw0 := Lib.hid hw
  have hby0 := Lib.hid hby
  have HL := Lib.hid h
  have HW := Lib.hid hw
  have HY := Lib.hid hy
  have hn := h.2.1
  have hn' := hy.rd.2.1
  have hb8 := wf_u8.1 hby
  have HB8 := Lib.hid hb8
  clear h hw hy hby hb8
  have hbx : ∀ w1, Below (W.alloc (.cells (frC y.k y.f y.t y.v y.s (.slice A' n' c')) 26)).heap.size (W.alloc (.cells (frC y.k y.f y.t y.v y.s (.slice A' n' c')) 26)) w1 → Below W.heap.size W w1 ∧ w1.heap[W.heap.size]? = some (.cells (frC y.k y.f y.t y.v y.s (.slice A' n' c')) 26 (0, 0)) := fun w1 hb =>
    ⟨below_box hb, heap_keep hb (heap_alloc_new _ _)⟩
  have HBX := Lib.hid hbx; clear hbx
  by_cases q1 : 600 < n'
  · go_enter Try.func6, Try.ntmps6
    go_wp2_with (first | (go_at_call 8; refine (awake_walk _).mono ?_; rintro e w1 ⟨rfl, hb1⟩; have B1 := Lib.hid (HBX.out _ hb1); clear hb1; obtain ⟨x0, x1, x2, x3, x4, x5⟩ := box_cells B1.out.2) | (go_at_call 11; refine (good_walk _ _ _ _ _ _ _ _ (by omega) _).mono ?_; rintro e w2 ⟨rfl, hw2⟩; rw [HGB.out]; have B2 := Lib.hid (show Below W.heap.size W w2 ∧ w2.heap[W.heap.size]? = some (.cells (frC y.k y.f y.t y.v y.s (.slice A' n' c')) 26 (0, 0)) from ⟨by rw [← hw2]; exact B1.out.1.alloc B1.out.1.size _, by rw [← hw2]; exact heap_alloc_keep _ B1.out.2⟩); clear hw2 x0 x1 x2 x3 x4 x5 B1; obtain ⟨x0, x1, x2, x3, x4, x5⟩ := box_cells B2.out.2) | (go_at_call 10; refine (encode_walk y HGOOD.out HY.out.wf A' n' c' _ (HY.out.rd.below B2.out.1)).mono ?_; rintro e w3 ⟨A5, c5, rfl, ho5, hb3⟩; obtain ⟨g, cap, e5, hgb, hgl⟩ := ho5.form (by omega); injection e5 with e5 _ e6; subst e5 e6; have HO5 := Lib.hid ho5; have HG5 := Lib.hid (And.intro hgb hgl); have hcap := own_le ho5; clear ho5 hgb hgl; have HB3 := Lib.hid (below_then B2.out.1 B2.out.1.size hb3); clear hb3 x0 x1 x2 x3 x4 x5))
    go_ret
    exact ⟨rfl, B1.out.1⟩
  by_cases q2 : ¬ goodB y.k y.f y.t n'
  · have HGB := Lib.hid (decide_eq_false q2)
    clear q2
    go_enter Try.func6, Try.ntmps6
    go_wp2_with (first | (go_at_call 8; refine (awake_walk _).mono ?_; rintro e w1 ⟨rfl, hb1⟩; have B1 := Lib.hid (HBX.out _ hb1); clear hb1; obtain ⟨x0, x1, x2, x3, x4, x5⟩ := box_cells B1.out.2) | (go_at_call 11; refine (good_walk _ _ _ _ _ _ _ _ (by omega) _).mono ?_; rintro e w2 ⟨rfl, hw2⟩; rw [HGB.out]; have B2 := Lib.hid (show Below W.heap.size W w2 ∧ w2.heap[W.heap.size]? = some (.cells (frC y.k y.f y.t y.v y.s (.slice A' n' c')) 26 (0, 0)) from ⟨by rw [← hw2]; exact B1.out.1.alloc B1.out.1.size _, by rw [← hw2]; exact heap_alloc_keep _ B1.out.2⟩); clear hw2 x0 x1 x2 x3 x4 x5 B1; obtain ⟨x0, x1, x2, x3, x4, x5⟩ := box_cells B2.out.2) | (go_at_call 10; refine (encode_walk y HGOOD.out HY.out.wf A' n' c' _ (HY.out.rd.below B2.out.1)).mono ?_; rintro e w3 ⟨A5, c5, rfl, ho5, hb3⟩; obtain ⟨g, cap, e5, hgb, hgl⟩ := ho5.form (by omega); injection e5 with e5 _ e6; subst e5 e6; have HO5 := Lib.hid ho5; have HG5 := Lib.hid (And.intro hgb hgl); have hcap := own_le ho5; clear ho5 hgb hgl; have HB3 := Lib.hid (below_then B2.out.1 B2.out.1.size hb3); clear hb3 x0 x1 x2 x3 x4 x5))
    go_ret
    exact ⟨rfl, B2.out.1⟩
  have HGB := Lib.hid (decide_eq_true (Decidable.not_not.1 q2))
  have HGOOD := Lib.hid ((goodB_iff y n' HY.out.rd.1).1 (Decidable.not_not.1 q2))
  clear q2
  by_cases q3 : by_ = 0
  · subst q3
    go_enter Try.func6, Try.ntmps6
    go_wp2_with (first | (go_at_call 8; refine (awake_walk _).mono ?_; rintro e w1 ⟨rfl, hb1⟩; have B1 := Lib.hid (HBX.out _ hb1); clear hb1; obtain ⟨x0, x1, x2, x3, x4, x5⟩ := box_cells B1.out.2) | (go_at_call 11; refine (good_walk _ _ _ _ _ _ _ _ (by omega) _).mono ?_; rintro e w2 ⟨rfl, hw2⟩; rw [HGB.out]; have B2 := Lib.hid (show Below W.heap.size W w2 ∧ w2.heap[W.heap.size]? = some (.cells (frC y.k y.f y.t y.v y.s (.slice A' n' c')) 26 (0, 0)) from ⟨by rw [← hw2]; exact B1.out.1.alloc B1.out.1.size _, by rw [← hw2]; exact heap_alloc_keep _ B1.out.2⟩); clear hw2 x0 x1 x2 x3 x4 x5 B1; obtain ⟨x0, x1, x2, x3, x4, x5⟩ := box_cells B2.out.2) | (go_at_call 10; refine (encode_walk y HGOOD.out HY.out.wf A' n' c' _ (HY.out.rd.below B2.out.1)).mono ?_; rintro e w3 ⟨A5, c5, rfl, ho5, hb3⟩; obtain ⟨g, cap, e5, hgb, hgl⟩ := ho5.form (by omega); injection e5 with e5 _ e6; subst e5 e6; have HO5 := Lib.hid ho5; have HG5 := Lib.hid (And.intro hgb hgl); have hcap := own_le ho5; clear ho5 hgb hgl; have HB3 := Lib.hid (below_then B2.out.1 B2.out.1.size hb3); clear hb3 x0 x1 x2 x3 x4 x5))
    go_ret
    exact ⟨rfl, B2.out.1⟩
  have q3' : (by_ == 0) = false := by simpa using q3
  have Q3 := Lib.hid q3
  clear q3
  by_cases q4 : n < 1
  · go_enter Try.func6, Try.ntmps6
    go_wp2_with (first | (go_at_call 8; refine (awake_walk _).mono ?_; rintro e w1 ⟨rfl, hb1⟩; have B1 := Lib.hid (HBX.out _ hb1); clear hb1; obtain ⟨x0, x1, x2, x3, x4, x5⟩ := box_cells B1.out.2) | (go_at_call 11; refine (good_walk _ _ _ _ _ _ _ _ (by omega) _).mono ?_; rintro e w2 ⟨rfl, hw2⟩; rw [HGB.out]; have B2 := Lib.hid (show Below W.heap.size W w2 ∧ w2.heap[W.heap.size]? = some (.cells (frC y.k y.f y.t y.v y.s (.slice A' n' c')) 26 (0, 0)) from ⟨by rw [← hw2]; exact B1.out.1.alloc B1.out.1.size _, by rw [← hw2]; exact heap_alloc_keep _ B1.out.2⟩); clear hw2 x0 x1 x2 x3 x4 x5 B1; obtain ⟨x0, x1, x2, x3, x4, x5⟩ := box_cells B2.out.2) | (go_at_call 10; refine (encode_walk y HGOOD.out HY.out.wf A' n' c' _ (HY.out.rd.below B2.out.1)).mono ?_; rintro e w3 ⟨A5, c5, rfl, ho5, hb3⟩; obtain ⟨g, cap, e5, hgb, hgl⟩ := ho5.form (by omega); injection e5 with e5 _ e6; subst e5 e6; have HO5 := Lib.hid ho5; have HG5 := Lib.hid (And.intro hgb hgl); have hcap := own_le ho5; clear ho5 hgb hgl; have HB3 := Lib.hid (below_then B2.out.1 B2.out.1.size hb3); clear hb3 x0 x1 x2 x3 x4 x5))
    go_ret
    exact ⟨rfl, B2.out.1⟩
  by_cases q5 : 100 < n
  · go_enter Try.func6, Try.ntmps6
    go_wp2_with (first | (go_at_call 8; refine (awake_walk _).mono ?_; rintro e w1 ⟨rfl, hb1⟩; have B1 := Lib.hid (HBX.out _ hb1); clear hb1; obtain ⟨x0, x1, x2, x3, x4, x5⟩ := box_cells B1.out.2) | (go_at_call 11; refine (good_walk _ _ _ _ _ _ _ _ (by omega) _).mono ?_; rintro e w2 ⟨rfl, hw2⟩; rw [HGB.out]; have B2 := Lib.hid (show Below W.heap.size W w2 ∧ w2.heap[W.heap.size]? = some (.cells (frC y.k y.f y.t y.v y.s (.slice A' n' c')) 26 (0, 0)) from ⟨by rw [← hw2]; exact B1.out.1.alloc B1.out.1.size _, by rw [← hw2]; exact heap_alloc_keep _ B1.out.2⟩); clear hw2 x0 x1 x2 x3 x4 x5 B1; obtain ⟨x0, x1, x2, x3, x4, x5⟩ := box_cells B2.out.2) | (go_at_call 10; refine (encode_walk y HGOOD.out HY.out.wf A' n' c' _ (HY.out.rd.below B2.out.1)).mono ?_; rintro e w3 ⟨A5, c5, rfl, ho5, hb3⟩; obtain ⟨g, cap, e5, hgb, hgl⟩ := ho5.form (by omega); injection e5 with e5 _ e6; subst e5 e6; have HO5 := Lib.hid ho5; have HG5 := Lib.hid (And.intro hgb hgl); have hcap := own_le ho5; clear ho5 hgb hgl; have HB3 := Lib.hid (below_then B2.out.1 B2.out.1.size hb3); clear hb3 x0 x1 x2 x3 x4 x5))
    go_ret
    exact ⟨rfl, B2.out.1⟩
  by_cases q6 : at_ < 0
  · go_enter Try.func6, Try.ntmps6
    go_wp2_with (first | (go_at_call 8; refine (awake_walk _).mono ?_; rintro e w1 ⟨rfl, hb1⟩; have B1 := Lib.hid (HBX.out _ hb1); clear hb1; obtain ⟨x0, x1, x2, x3, x4, x5⟩ := box_cells B1.out.2) | (go_at_call 11; refine (good_walk _ _ _ _ _ _ _ _ (by omega) _).mono ?_; rintro e w2 ⟨rfl, hw2⟩; rw [HGB.out]; have B2 := Lib.hid (show Below W.heap.size W w2 ∧ w2.heap[W.heap.size]? = some (.cells (frC y.k y.f y.t y.v y.s (.slice A' n' c')) 26 (0, 0)) from ⟨by rw [← hw2]; exact B1.out.1.alloc B1.out.1.size _, by rw [← hw2]; exact heap_alloc_keep _ B1.out.2⟩); clear hw2 x0 x1 x2 x3 x4 x5 B1; obtain ⟨x0, x1, x2, x3, x4, x5⟩ := box_cells B2.out.2) | (go_at_call 10; refine (encode_walk y HGOOD.out HY.out.wf A' n' c' _ (HY.out.rd.below B2.out.1)).mono ?_; rintro e w3 ⟨A5, c5, rfl, ho5, hb3⟩; obtain ⟨g, cap, e5, hgb, hgl⟩ := ho5.form (by omega); injection e5 with e5 _ e6; subst e5 e6; have HO5 := Lib.hid ho5; have HG5 := Lib.hid (And.intro hgb hgl); have hcap := own_le ho5; clear ho5 hgb hgl; have HB3 := Lib.hid (below_then B2.out.1 B2.out.1.size hb3); clear hb3 x0 x1 x2 x3 x4 x5))
    go_ret
    exact ⟨rfl, HB3.out⟩
  have q6' : 0 ≤ at_ := by omega
  by_cases q7 : ((19 + n' : Nat) : Int) ≤ at_
  · go_enter Try.func6, Try.ntmps6
    go_wp2_with (first | (go_at_call 8; refine (awake_walk _).mono ?_; rintro e w1 ⟨rfl, hb1⟩; have B1 := Lib.hid (HBX.out _ hb1); clear hb1; obtain ⟨x0, x1, x2, x3, x4, x5⟩ := box_cells B1.out.2) | (go_at_call 11; refine (good_walk _ _ _ _ _ _ _ _ (by omega) _).mono ?_; rintro e w2 ⟨rfl, hw2⟩; rw [HGB.out]; have B2 := Lib.hid (show Below W.heap.size W w2 ∧ w2.heap[W.heap.size]? = some (.cells (frC y.k y.f y.t y.v y.s (.slice A' n' c')) 26 (0, 0)) from ⟨by rw [← hw2]; exact B1.out.1.alloc B1.out.1.size _, by rw [← hw2]; exact heap_alloc_keep _ B1.out.2⟩); clear hw2 x0 x1 x2 x3 x4 x5 B1; obtain ⟨x0, x1, x2, x3, x4, x5⟩ := box_cells B2.out.2) | (go_at_call 10; refine (encode_walk y HGOOD.out HY.out.wf A' n' c' _ (HY.out.rd.below B2.out.1)).mono ?_; rintro e w3 ⟨A5, c5, rfl, ho5, hb3⟩; obtain ⟨g, cap, e5, hgb, hgl⟩ := ho5.form (by omega); injection e5 with e5 _ e6; subst e5 e6; have HO5 := Lib.hid ho5; have HG5 := Lib.hid (And.intro hgb hgl); have hcap := own_le ho5; clear ho5 hgb hgl; have HB3 := Lib.hid (below_then B2.out.1 B2.out.1.size hb3); clear hb3 x0 x1 x2 x3 x4 x5))
    go_ret
    exact ⟨rfl, HB3.out⟩
  by_cases q8 : cut < 0
  · go_enter Try.func6, Try.ntmps6
    go_wp2_with (first | (go_at_call 8; refine (awake_walk _).mono ?_; rintro e w1 ⟨rfl, hb1⟩; have B1 := Lib.hid (HBX.out _ hb1); clear hb1; obtain ⟨x0, x1, x2, x3, x4, x5⟩ := box_cells B1.out.2) | (go_at_call 11; refine (good_walk _ _ _ _ _ _ _ _ (by omega) _).mono ?_; rintro e w2 ⟨rfl, hw2⟩; rw [HGB.out]; have B2 := Lib.hid (show Below W.heap.size W w2 ∧ w2.heap[W.heap.size]? = some (.cells (frC y.k y.f y.t y.v y.s (.slice A' n' c')) 26 (0, 0)) from ⟨by rw [← hw2]; exact B1.out.1.alloc B1.out.1.size _, by rw [← hw2]; exact heap_alloc_keep _ B1.out.2⟩); clear hw2 x0 x1 x2 x3 x4 x5 B1; obtain ⟨x0, x1, x2, x3, x4, x5⟩ := box_cells B2.out.2) | (go_at_call 10; refine (encode_walk y HGOOD.out HY.out.wf A' n' c' _ (HY.out.rd.below B2.out.1)).mono ?_; rintro e w3 ⟨A5, c5, rfl, ho5, hb3⟩; obtain ⟨g, cap, e5, hgb, hgl⟩ := ho5.form (by omega); injection e5 with e5 _ e6; subst e5 e6; have HO5 := Lib.hid ho5; have HG5 := Lib.hid (And.intro hgb hgl); have hcap := own_le ho5; clear ho5 hgb hgl; have HB3 := Lib.hid (below_then B2.out.1 B2.out.1.size hb3); clear hb3 x0 x1 x2 x3 x4 x5))
    go_ret
    exact ⟨rfl, HB3.out⟩
  have q8' : 0 ≤ cut := by omega
  by_cases q9 : ((19 + n' : Nat) : Int) ≤ cut
  · go_enter Try.func6, Try.ntmps6
    go_wp2_with (first | (go_at_call 8; refine (awake_walk _).mono ?_; rintro e w1 ⟨rfl, hb1⟩; have B1 := Lib.hid (HBX.out _ hb1); clear hb1; obtain ⟨x0, x1, x2, x3, x4, x5⟩ := box_cells B1.out.2) | (go_at_call 11; refine (good_walk _ _ _ _ _ _ _ _ (by omega) _).mono ?_; rintro e w2 ⟨rfl, hw2⟩; rw [HGB.out]; have B2 := Lib.hid (show Below W.heap.size W w2 ∧ w2.heap[W.heap.size]? = some (.cells (frC y.k y.f y.t y.v y.s (.slice A' n' c')) 26 (0, 0)) from ⟨by rw [← hw2]; exact B1.out.1.alloc B1.out.1.size _, by rw [← hw2]; exact heap_alloc_keep _ B1.out.2⟩); clear hw2 x0 x1 x2 x3 x4 x5 B1; obtain ⟨x0, x1, x2, x3, x4, x5⟩ := box_cells B2.out.2) | (go_at_call 10; refine (encode_walk y HGOOD.out HY.out.wf A' n' c' _ (HY.out.rd.below B2.out.1)).mono ?_; rintro e w3 ⟨A5, c5, rfl, ho5, hb3⟩; obtain ⟨g, cap, e5, hgb, hgl⟩ := ho5.form (by omega); injection e5 with e5 _ e6; subst e5 e6; have HO5 := Lib.hid ho5; have HG5 := Lib.hid (And.intro hgb hgl); have hcap := own_le ho5; clear ho5 hgb hgl; have HB3 := Lib.hid (below_then B2.out.1 B2.out.1.size hb3); clear hb3 x0 x1 x2 x3 x4 x5))
    go_ret
    exact ⟨rfl, HB3.out⟩
  obtain ⟨a, rfl⟩ := Int.eq_ofNat_of_zero_le q6'
  obtain ⟨q, rfl⟩ := Int.eq_ofNat_of_zero_le q8'
  exact spoilt_main W y A' n' c' hy0.out by_ a q hby0.out A n c xs h0.out hw0.out HGOOD.out (by omega) Q3.out (by omega) (by omega) (by omega) (by omega)
end Go.Proofs.Ytdcbpkhogpjfeaa
