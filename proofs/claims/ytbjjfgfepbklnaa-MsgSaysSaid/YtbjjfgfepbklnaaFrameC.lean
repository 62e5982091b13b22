/- Walks of the reference's frames: Encode. -/
import Derived.Test.YtbjjfgfepbklnaaFrameB
set_option linter.unusedVariables false
set_option linter.unusedSimpArgs false
namespace Go.Proofs.Ytbjjfgfepbklnaa
open Go.RowKit Go.Proofs.YtbjjfgfepbklnaaW.PrintWords Go.Proofs.Ytbjjfgfepbklnaa.K

theorem rw16_walk (A : Option Addr) (xs : List Int) (l cap : Nat) (v : Int) (w : World) (h : ReadsInt w .u8 A l xs) (hn : l ≤ 100000) :
    Calls Try.prog 39 #[.slice A l cap, .int .i64 v] w (Wrote w (l + 2) (xs ++ bes (v % 18446744073709551616) 2 2)) := by
  have C := ru16_walk A xs l cap v w h (by omega)
  rw [be2_eq] at C
  exact C
theorem rw32_walk (A : Option Addr) (xs : List Int) (l cap : Nat) (v : Int) (w : World) (h : ReadsInt w .u8 A l xs) (hn : l ≤ 100000) (hv : 0 ≤ v ∧ v < 4294967296) :
    Calls Try.prog 50 #[.slice A l cap, .int .u32 v] w (Wrote w (l + 4) (xs ++ bes v 4 4)) := by
  have C := ru32_walk A xs l cap v w h hn hv
  obtain ⟨m, rfl⟩ := Int.eq_ofNat_of_zero_le hv.1
  have e := be4_eq m (by omega)
  rw [show be4 ((m : Nat) : Int) = bes (m : Int) 4 4 from e] at C
  exact C
set_option maxHeartbeats 800000 in
theorem rencode_walk (x : Fr) (hg : x.good) (hw : x.wf) (A : Option Addr) (n c : Nat) (W : World) (h : ReadsInt W .u8 A n x.b) :
    Calls Try.prog 42 #[.agg (frC x.k x.f x.t x.v x.s (.slice A n c))] W (Wrote W (19 + n) (enc x)) := by
  have hn : n ≤ 16384 := by rw [← h.1]; exact hg.2.2.2
  have HG := Lib.hid hg
  have hwx : ∀ W1, W1 = W.alloc (.cells (frC x.k x.f x.t x.v x.s (.slice A n c)) 68) → Below W.heap.size W W1 ∧ W1.heap[W.heap.size]? = some (.cells (frC x.k x.f x.t x.v x.s (.slice A n c)) 68 (0, 0)) ∧ W1.heap.size = W.heap.size + 1 := by
    rintro _ rfl
    exact ⟨(Below.refl _ _).alloc (Nat.le_refl _) _, heap_alloc_new _ _, by simp⟩
  have HX := Lib.hid hwx; clear hwx
  have HL := Lib.hid h
  have hB : goodB x.k x.f x.t n := by rw [← h.1]; exact hg
  have HB := Lib.hid hB
  obtain ⟨⟨g1, g2⟩, ⟨g3, g4⟩, ⟨g5, g6⟩, g7⟩ := hB
  have e1 := byte_good x.k (by omega)
  have e2 := byte_good x.f (by omega)
  have e3 := byte_good x.t (by omega)
  obtain ⟨⟨v1, v2⟩, ⟨s1, s2⟩, -⟩ := hw
  clear hg h
  go_enter Try.func42, Try.ntmps42
  go_wp2_with (go_at_call 51; refine (rgood_walk _ _ _ _ _ _ _ _ (by omega) _).mono ?_; rintro e w1 ⟨rfl, hw1⟩; rw [decide_eq_true HB.out]; have hb1 := (by rw [← hw1]; exact (HX.out _ rfl).1.alloc (HX.out _ rfl).1.size _ : Below W.heap.size W w1); have h1 := (by rw [← hw1, heap_alloc_old _ _ (by simp)]; exact (HX.out _ rfl).2.1 : w1.heap[W.heap.size]? = some (.cells (frC x.k x.f x.t x.v x.s (.slice A n c)) 68 (0, 0))); clear hw1; obtain ⟨b0, b1, b2, b3, b4, b5⟩ := box_cells h1; have H1 := Lib.hid h1; clear h1)
  have HR0 := Lib.hid (reads_lit w1 .u8 [82, 1, x.k, x.f, x.t] 5 (0, 0) 5 rfl (by decide))
  have hb0 : Below W.heap.size W (w1.alloc (.cells (nums .u8 [82, 1, x.k, x.f, x.t]).toArray 5)) := hb1.alloc hb1.size _
  have c3 := pw_cell_below ((Below.refl w1.heap.size w1).alloc (Nat.le_refl _) (.cells (nums .u8 [82, 1, x.k, x.f, x.t]).toArray 5)) b3
  have c4 := pw_cell_below ((Below.refl w1.heap.size w1).alloc (Nat.le_refl _) (.cells (nums .u8 [82, 1, x.k, x.f, x.t]).toArray 5)) b4
  have c5 := pw_cell_below ((Below.refl w1.heap.size w1).alloc (Nat.le_refl _) (.cells (nums .u8 [82, 1, x.k, x.f, x.t]).toArray 5)) b5
  clear b0 b1 b2 b3 b4 b5
  change Code.wp _ _ _ _ (w1.alloc (.cells (nums .u8 [82, 1, x.k, x.f, x.t]).toArray 5))
  generalize hw2 : w1.alloc (.cells (nums .u8 [82, 1, x.k, x.f, x.t]).toArray 5) = w2 at *
  go_region_held3 (fun w' => w'.cell? ⟨W.heap.size, 3, none⟩ = some (.int .u32 x.v) ∧ w'.cell? ⟨W.heap.size, 4, none⟩ = some (.int .u32 x.s))
    (first | go_keep | (go_split_ands; exact ⟨pw_cell_below hd (by assumption), pw_cell_below hd (by assumption)⟩) | (go_split_ands; exact ⟨pw_cell_below hc (by assumption), pw_cell_below hc (by assumption)⟩))
    (first
      | (go_at_call 50; (with_reducible refine (rw32_walk _ [82, 1, x.k, x.f, x.t] 5 5 x.v _ (rd_drew HR0.out) (by decide) ⟨v1, v2⟩).mono ?_); rintro e w3 ⟨A1, c1, rfl, ho1, hc⟩; have HO1 := Lib.hid ho1; clear ho1; have hb3 := below_then (below_drew hb0) hb0.size hc)
      | (go_at_call 50; refine (rw32_walk _ ([82, 1, x.k, x.f, x.t] ++ bes x.v 4 4) 9 c1 x.s _ (own_info HO1.out).2.2.2.1 (by decide) ⟨s1, s2⟩).mono ?_; rintro e w4 ⟨A2, c2, rfl, ho2, hd⟩; have HO2 := Lib.hid ho2; clear ho2; have hb4 := below_then hb3 hb3.size hd; have d5 := pw_cell_below hd (pw_cell_below hc (pw_cell_below (below_drew (Below.refl _ _)) c5))))
  go_wp2
  clear c3 c4 c5
  have hl : (x.b.length : Int) = (n : Int) := by have := HL.out.1; omega
  go_region_held3 (fun w' => w'.cell? ⟨W.heap.size, 5, none⟩ = some (.slice A n c))
    (first | go_keep | (exact pw_cell_below hb6 (pw_cell_below (below_drew (Below.refl _ _)) d5)) | (exact pw_cell_below hf (pw_cell_below (below_drew (Below.refl _ _)) d5)))
    (first
      | (go_at_call 39; refine (rw16_walk _ ([82, 1, x.k, x.f, x.t] ++ bes x.v 4 4 ++ bes x.s 4 4) 13 c2 n _ (rd_drew (own_info HO2.out).2.2.2.1) (by decide)).mono ?_; rintro e w5 ⟨A3, c3, rfl, ho3, hf⟩; have HO3 := Lib.hid ho3; clear ho3; have hb5 := below_then (below_drew hb4) hb4.size hf)
      | (refine step_app_row (w0 := w4.drew) w4.drew.heap.size (by rfl) _ _ 31 5 .u8 1 (by rfl) Try.underlying31 (by kernel_rfl) (by decide) (.slice A3 15 c3) ([82, 1, x.k, x.f, x.t] ++ bes x.v 4 4 ++ bes x.s 4 4 ++ bes ((n : Int) % 18446744073709551616) 2 2) x.b A n c (by rfl) (by rfl) HO3.out (HL.out.below hb5) hf hf.size (by simp [bes_len]; omega) (15 + n) (by have := HL.out.1; simp [bes_len]; omega) ?_; intro A4 c4 w6 hown4 hb6 _; have HO4 := Lib.hid hown4; clear hown4))
  have hb6' := below_then (below_drew hb4) hb4.size hb6
  have hB2 : [82, 1, x.k, x.f, x.t] ++ bes x.v 4 4 ++ bes x.s 4 4 ++ bes ((n : Int) % 18446744073709551616) 2 2 ++ x.b = frB x := by
    rw [show ((n : Int) % 18446744073709551616) = (n : Int) by omega, ← hl]; rfl
  have HR6 := Lib.hid (show ReadsInt w6 .u8 A4 (15 + n) (frB x) by rw [← hB2]; exact (own_info HO4.out).2.2.2.1)
  have hfin : (frB x ++ bes (moreI 0 (frB x)) 4 4) = enc x := rfl
  have HF := Lib.hid hfin; clear hfin hB2
  have hmr := moreI_rng 0 (frB x)
  go_wp2_with (first
    | (go_at_call 52; refine (crc_walk _ (frB x) _ _ _ HR6.out).mono ?_; rintro e w7 ⟨rfl, rfl⟩)
    | (go_at_call 50; refine (rw32_walk _ (frB x) (15 + n) _ (moreI 0 (frB x)) _ HR6.out (by omega) hmr).mono ?_; rintro e w7 ⟨A5, c5, rfl, ho5, hi⟩; have HO5 := Lib.hid ho5; clear ho5))
  go_ret
  refine ⟨A5, c5, by rw [show 19 + n = 15 + n + 4 by omega]; rfl, ?_, below_then hb6' hb6'.size hi⟩
  have := HO5.out
  rw [HF.out, show 15 + n + 4 = 19 + n by omega] at this
  exact own_base_le this hb6'.size
set_option maxHeartbeats 400000 in
theorem rencode_bad (k f t v s : Int) (A : Option Addr) (n c : Nat) (hn : n ≤ 140737488351232) (hg : ¬ goodB k f t n) (W : World) :
    Calls Try.prog 42 #[.agg (frC k f t v s (.slice A n c))] W fun e w' => e = .returned (.slice none 0 0) ∧ Below W.heap.size W w' := by
  have hb : ∀ o o' : Obj, Below W.heap.size W ((W.alloc o).alloc o') := fun o o' => ((Below.refl _ _).alloc (Nat.le_refl _) _).alloc ((Below.refl _ _).alloc (Nat.le_refl _) _).size _
  go_enter Try.func42, Try.ntmps42
  go_wp2_with (go_at_call 51; refine (rgood_walk _ _ _ _ _ _ _ _ hn _).mono ?_; rintro e w1 ⟨rfl, hw1⟩; rw [decide_eq_false hg])
  go_ret
  subst hw1
  exact ⟨rfl, hb _ _⟩
end Go.Proofs.Ytbjjfgfepbklnaa
