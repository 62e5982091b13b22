/- The walk of FrameSpoilt (printed by a program of mine, mkspoilt.py). -/
import Derived.Test.YtdcbpkhogpjfeaaFrameO
set_option linter.unusedVariables false
set_option linter.unusedSimpArgs false
namespace Go.Proofs.Ytdcbpkhogpjfeaa
open Go.RowKit Go.Proofs.YtdcbpkhogpjfeaaW.PrintWords Go.Proofs.Ytdcbpkhogpjfeaa.K

theorem heap_keep {w w' : World} {k : Nat} {o : Obj} (hb : Below w.heap.size w w') (h : w.heap[k]? = some o) : w'.heap[k]? = some o := (hb.block k (lt_of_heap h)).trans h
theorem heap_alloc_keep {w : World} {k : Nat} {o : Obj} (o' : Obj) (h : w.heap[k]? = some o) : (w.alloc o').heap[k]? = some o := heap_keep (alloc_back o') h
theorem goodB_iff (y : Fr) (n : Nat) (h : y.b.length = n) : goodB y.k y.f y.t n ↔ y.good := by subst h; exact Iff.rfl
theorem xor_ne (a b : Int) (ha : 0 ≤ a ∧ a < 256) (hb : 0 < b ∧ b < 256) : (Lit.int .u8 (bits .xor .u8 a b)).wf = true ∧ bits .xor .u8 a b ≠ a := by
  obtain ⟨x, rfl⟩ := Int.eq_ofNat_of_zero_le ha.1
  obtain ⟨z, rfl⟩ := Int.eq_ofNat_of_zero_le (Int.le_of_lt hb.1)
  rw [u8_xor_nat x z (by omega) (by omega)]
  have hlt : x ^^^ z < 256 := Nat.xor_lt_two_pow (n := 8) (by omega) (by omega)
  refine ⟨wf_u8.2 (by omega), fun e => ?_⟩
  have e' : x ^^^ z = x := by exact_mod_cast e
  have : z = 0 := by
    have h2 : x ^^^ (x ^^^ z) = x ^^^ x := by rw [e']
    rwa [← Nat.xor_assoc, Nat.xor_self, Nat.zero_xor] at h2
  omega
set_option maxRecDepth 100000 in
set_option maxHeartbeats 4000000 in
theorem spoilt_main (W : World) (y : Fr) (A' : Option Addr) (n' c' : Nat) (hy : FrArg W y A' n' c') (by_ : Int) (a q : Nat) (hby : (Lit.int .u8 by_).wf = true) (A : Option Addr) (n c : Nat) (xs : List Int) (h : ReadsInt W .u8 A n xs) (hw : ∀ z ∈ xs, (Lit.int .u8 z).wf = true) (hg : y.good) (q1 : n' ≤ 600) (q3 : by_ ≠ 0) (q4 : 1 ≤ n) (q5 : n ≤ 100) (q7 : a < 19 + n') (q9 : q < 19 + n') :
    Calls Try.prog 6 #[.agg (frC y.k y.f y.t y.v y.s (.slice A' n' c')), .int .i64 a, .int .u8 by_, .int .i64 q, .slice A n c] W fun e w' => e = .returned (.bool true) ∧ Below W.heap.size W w' := by
  have HL := Lib.hid h
  have HW := Lib.hid hw
  have HY := Lib.hid hy
  have hn := h.2.1
  have hn' := hy.rd.2.1
  have hb8 := wf_u8.1 hby
  have HB8 := Lib.hid hb8
  clear h hw hy hby hb8
  have hbx : ∀ w1, Below (W.alloc (.cells (frC y.k y.f y.t y.v y.s (.slice A' n' c')) 26)).heap.size (W.alloc (.cells (frC y.k y.f y.t y.v y.s (.slice A' n' c')) 26)) w1 → Below W.heap.size W w1 ∧ w1.heap[W.heap.size]? = some (.cells (frC y.k y.f y.t y.v y.s (.slice A' n' c')) 26 (0, 0)) := fun w1 hb =>
    ⟨below_box hb, heap_keep hb (heap_alloc_new _ _)⟩
  have HBX := Lib.hid hbx; clear hbx
  have HGB := Lib.hid (decide_eq_true ((goodB_iff y n' HY.out.rd.1).2 hg))
  have HGOOD := Lib.hid hg; clear hg
  have q3' : (by_ == 0) = false := by simpa using q3
  have Q3 := Lib.hid q3; clear q3
  have hlen := enc_len y
  rw [HY.out.rd.1] at hlen
  have HLEN := Lib.hid hlen; clear hlen
  go_enter Try.func6, Try.ntmps6
  go_wp2_with (first | (go_at_call 8; refine (awake_walk _).mono ?_; rintro e w1 ⟨rfl, hb1⟩; have B1 := Lib.hid (HBX.out _ hb1); clear hb1; obtain ⟨x0, x1, x2, x3, x4, x5⟩ := box_cells B1.out.2) | (go_at_call 11; refine (good_walk _ _ _ _ _ _ _ _ (by omega) _).mono ?_; rintro e w2 ⟨rfl, hw2⟩; rw [HGB.out]; have B2 := Lib.hid (show Below W.heap.size W w2 ∧ w2.heap[W.heap.size]? = some (.cells (frC y.k y.f y.t y.v y.s (.slice A' n' c')) 26 (0, 0)) from ⟨by rw [← hw2]; exact B1.out.1.alloc B1.out.1.size _, by rw [← hw2]; exact heap_alloc_keep _ B1.out.2⟩); clear hw2 x0 x1 x2 x3 x4 x5 B1; obtain ⟨x0, x1, x2, x3, x4, x5⟩ := box_cells B2.out.2) | (go_at_call 10; refine (encode_walk y HGOOD.out HY.out.wf A' n' c' _ (HY.out.rd.below B2.out.1)).mono ?_; rintro e w3 ⟨A5, c5, rfl, ho5, hb3⟩; obtain ⟨g, cap, e5, hgb, hgl⟩ := ho5.form (by omega); injection e5 with e5 _ e6; subst e5 e6; have HO5 := Lib.hid ho5; have HG5 := Lib.hid (And.intro hgb hgl); have hcap := own_le ho5; clear ho5 hgb hgl; have HB3 := Lib.hid (below_then B2.out.1 B2.out.1.size hb3); clear hb3 x0 x1 x2 x3 x4 x5))
  have hq1 : (0 : Int) ≤ (q : Int) := Int.natCast_nonneg _
  have hq2 : (q : Int) ≤ (c5 : Int) := by omega
  go_wp2_with fail
  refine (decode_any (some ⟨g, 0, none⟩) q c5 ((enc y).take q) _ ((own_info HO5.out).2.2.2.1.take_ q (by omega)) (fun z hz => enc_wf HGOOD.out HY.out.wf z (List.mem_of_mem_take hz))).mono ?_
  rintro e w4 ⟨hd, hb4⟩
  have hd := hd.resolve_left (fun ⟨x, hx, _⟩ => cut_none HGOOD.out q (by rw [HLEN.out]; omega) ⟨x, hx⟩)
  obtain ⟨-, rfl⟩ := hd
  have O4 := Lib.hid (pw_own_below HO5.out hb4)
  have HB4 := Lib.hid (below_then HB3.out HB3.out.size hb4)
  have hg4 : g < w4.heap.size := Nat.lt_of_lt_of_le HG5.out.2 hb4.size
  have HG4 := Lib.hid hg4
  clear hb4 hg4 HO5 hq1 hq2
  have hl1 : ([] ++ enc y : List Int).length = 19 + n' := by rw [List.nil_append]; exact HLEN.out
  have hl2 : (([] ++ enc y : List Int) ++ xs).length = 19 + n' + n := by rw [List.length_append, hl1, HL.out.1]
  have HL1 := Lib.hid hl1; have HL2 := Lib.hid hl2; clear hl1 hl2
  have HR4 := Lib.hid (show ReadsInt (w4.alloc (.cells (frC 0 0 0 0 0 (.slice none 0 0)) 26)) .u8 (some ⟨g, 0, none⟩) (19 + n') (enc y) from rd_alloc (own_info O4.out).2.2.2.1 _)
  have HRX := Lib.hid (show ReadsInt (w4.alloc (.cells (frC 0 0 0 0 0 (.slice none 0 0)) 26)) .u8 A n xs from rd_alloc (HL.out.below HB4.out) _)
  have hzs : (w4.alloc (.cells (frC 0 0 0 0 0 (.slice none 0 0)) 26)).heap.size = w4.heap.size + 1 := by simp
  have HE1 := Lib.hid (show ((w4.alloc (.cells (frC 0 0 0 0 0 (.slice none 0 0)) 26)).alloc (.cells #[] 5)).ownsRow (w4.heap.size + 1) 5 1 (.slice (some ⟨w4.heap.size + 1, 0, none⟩) 0 0) ([] : List Int).length (nums .u8 []) from own_empty (by simp only [hal]; exact hpush2 _ _ _) (Nat.le_refl _))
  have HE2 := Lib.hid (show Below (w4.heap.size + 1) (w4.alloc (.cells (frC 0 0 0 0 0 (.slice none 0 0)) 26)) ((w4.alloc (.cells (frC 0 0 0 0 0 (.slice none 0 0)) 26)).alloc (.cells #[] 5)) by rw [← hzs]; exact alloc_back _)
  have HE3 := Lib.hid (show w4.heap.size + 1 ≤ ((w4.alloc (.cells (frC 0 0 0 0 0 (.slice none 0 0)) 26)).alloc (.cells #[] 5)).heap.size by simp)
  have HZS := Lib.hid hzs; clear hzs
  go_wp2_with (first
    | (at_builtin; refine K.app_row (w0 := (w4.alloc (.cells (frC 0 0 0 0 0 (.slice none 0 0)) 26))) (w4.heap.size + 1) rfl (.tmp 71) (.tmp 72) 24 5 .u8 1 rfl Try.underlying24 (by kernel_rfl) (by decide) _ [] (enc y) (some ⟨g, 0, none⟩) (19 + n') c5 rfl rfl HE1.out (rd_alloc HR4.out _) HE2.out HE3.out (by simp; omega) (19 + n') HL1.out ?_; intro A6 c6 w5 hown hB5 _; have HO6 := Lib.hid hown; clear hown)
    | (at_builtin; refine K.app_row (w0 := (w4.alloc (.cells (frC 0 0 0 0 0 (.slice none 0 0)) 26))) (w4.heap.size + 1) rfl (.tmp 73) (.tmp 74) 24 5 .u8 1 rfl Try.underlying24 (by kernel_rfl) (by decide) _ ([] ++ enc y) xs A n c rfl rfl (by rw [HL1.out]; exact HO6.out) (HRX.out.below (by rw [HZS.out]; exact hB5)) hB5 (by have := hB5.size; rw [HZS.out] at this; exact this) (by rw [HL1.out]; omega) (19 + n' + n) HL2.out ?_; intro A7 c7 w6 hown hB6 _; have HO7 := Lib.hid hown; clear hown))
  refine (decode_any A7 (19 + n' + n) c7 (enc y ++ xs) _ (own_info HO7.out).2.2.2.1 (fun z hz => by
    rcases List.mem_append.1 hz with hz | hz
    · exact enc_wf HGOOD.out HY.out.wf z hz
    · exact HW.out z hz)).mono ?_
  rintro e w7 ⟨hd, hb7⟩
  have hd := hd.resolve_left (fun ⟨x, hx, _⟩ => more_none HGOOD.out xs (by rw [HL.out.1]; omega) ⟨x, hx⟩)
  obtain ⟨-, rfl⟩ := hd
  have hB6' : Below (w4.alloc (.cells (frC 0 0 0 0 0 (.slice none 0 0)) 26)).heap.size (w4.alloc (.cells (frC 0 0 0 0 0 (.slice none 0 0)) 26)) w6 := by rw [HZS.out]; exact hB6
  have hB7 := below_then hB6' hB6'.size hb7
  have O7 := Lib.hid (pw_own_below (pw_own_below O4.out (alloc_back _)) hB7)
  have HB7 := Lib.hid (below_then (HB4.out.alloc HB4.out.size (.cells (frC 0 0 0 0 0 (.slice none 0 0)) 26)) (HB4.out.alloc HB4.out.size (.cells (frC 0 0 0 0 0 (.slice none 0 0)) 26)).size hB7)
  clear hB7 hb7 hB6 hB6' hB5 HO6 HO7 HR4 HRX O4
  have O8 := Lib.hid (pw_own_below O7.out (alloc_back (.cells (frC 0 0 0 0 0 (.slice none 0 0)) 26)))
  obtain ⟨f1, f2⟩ := own_at O8.out ((a : Nat) : Int) (by omega) (by omega)
  have ha1 : (a : Int) < ((19 + n' : Nat) : Int) := by omega
  have HA1 := Lib.hid ha1
  simp only [Int.toNat_natCast] at f1 f2
  have hrd : rd (enc y) ((a : Nat) : Int) = (enc y).getD a 0 := by unfold rd; rw [Int.toNat_natCast]
  rw [hrd] at f1
  clear hrd
  go_wp2_with fail
  clear f1 f2
  obtain ⟨s1, s2⟩ := own_store O8.out ((a : Nat) : Int) (bits .xor .u8 ((enc y).getD a 0) by_)
  simp only [Int.toNat_natCast] at s1 s2
  have hea : (enc y)[a]? = some ((enc y).getD a 0) := by
    rw [List.getElem?_eq_getElem (by rw [HLEN.out]; omega), List.getD_eq_getElem?_getD, List.getElem?_eq_getElem (by rw [HLEN.out]; omega)]
    rfl
  have hxw := xor_ne ((enc y).getD a 0) by_ (getD_rng (enc_wf HGOOD.out HY.out.wf) a) (by have := HB8.out; have := Q3.out; omega)
  have hset := set_none HGOOD.out HY.out.wf a (bits .xor .u8 ((enc y).getD a 0) by_) (by rw [HLEN.out]; omega) hxw.1 (by
    have e : (enc y)[a]'(by rw [HLEN.out]; omega) = (enc y).getD a 0 := by rw [List.getD_eq_getElem?_getD, List.getElem?_eq_getElem (by rw [HLEN.out]; omega)]; rfl
    rw [e]; exact hxw.2)
  have HS1 := Lib.hid (own_info s1).2.2.2.1
  have HBS := Lib.hid (pw_below_grown (HB7.out.alloc HB7.out.size (.cells (frC 0 0 0 0 0 (.slice none 0 0)) 26)) (some g) (HB7.out.alloc HB7.out.size (.cells (frC 0 0 0 0 0 (.slice none 0 0)) 26)).size s2 (fun k e => by cases e; exact Nat.le_trans B2.out.1.size HG5.out.1))
  have hwf : ∀ z ∈ (enc y).set a (bits .xor .u8 ((enc y).getD a 0) by_), (Lit.int .u8 z).wf = true := fun z hz => by
    rcases List.mem_or_eq_of_mem_set hz with h | h
    · exact enc_wf HGOOD.out HY.out.wf z h
    · rw [h]; exact hxw.1
  clear s1 s2
  refine (decode_any (some ⟨g, 0, none⟩) (19 + n') c5 ((enc y).set a (bits .xor .u8 ((enc y).getD a 0) by_)) _ HS1.out hwf).mono ?_
  rintro e w9 ⟨hd, hb9⟩
  have hd := hd.resolve_left (fun ⟨x, hx, _⟩ => hset ⟨x, hx⟩)
  obtain ⟨-, rfl⟩ := hd
  have HB9 := Lib.hid (below_then HBS.out HBS.out.size hb9)
  clear hb9 hea hxw hset hwf
  go_wp2_with fail
  go_ret
  exact ⟨rfl, HB9.out.alloc HB9.out.size _⟩
end Go.Proofs.Ytdcbpkhogpjfeaa
