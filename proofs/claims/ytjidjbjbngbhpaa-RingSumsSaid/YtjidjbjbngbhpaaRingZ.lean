/- The reference's WAdd is wide.Add's sum. -/
import Derived.Test.YtjidjbjbngbhpaaRingY
import Derived.Deep.DeepCutAuto
import Derived.Deep.RegionHeld3
set_option linter.unusedVariables false
set_option linter.unusedSimpArgs false
namespace Go.Proofs.Ytjidjbjbngbhpaa
open Go.RowKit Go.Proofs.YtjidjbjbngbhpaaW.PrintWords Go.Proofs.Ytjidjbjbngbhpaa.K

theorem rf2 {u : World} {N M i j o : Nat} {v x y : Value} (hc : u.cell? ⟨M, o, none⟩ = some v) (h : M ≠ N) : ((u.setCell ⟨N, i, none⟩ x).setCell ⟨N, j, none⟩ y).cell? ⟨M, o, none⟩ = some v := by
  rw [cell_far (by exact h), cell_far (by exact h)]; exact hc
def And3 (Q : Ending → World → Prop) (w3 : World) (e : Ending) (w' : World) : Prop := Q e w' ∧ Below w3.heap.size w3 w'
theorem lift3 {P : Program} {f : FuncId} {args : Array Value} {W : World} {Q : Ending → World → Prop} (h : Calls P f args W Q) (hq : ∀ e w', Q e w' → Below W.heap.size W w') {w3 : World} (hb : Below w3.heap.size w3 W) : Calls P f args W (And3 Q w3) :=
  h.mono fun e w' q => ⟨q, below_then hb hb.size (hq e w' q)⟩
theorem wsum_fin {a b p : Int × Int} (hp : WwfP p) {va vb vp : Int} (h1 : (va - (a.1 * 18446744073709551616 + a.2)) % 340282366920938463463374607431768211456 = 0) (h2 : (vb - (b.1 * 18446744073709551616 + b.2)) % 340282366920938463463374607431768211456 = 0) (h3 : (vp - (va + vb)) % 340282366920938463463374607431768211456 = 0) (h4 : (p.1 * 18446744073709551616 + p.2 - vp) % 340282366920938463463374607431768211456 = 0) : p = wsum a b := by
  refine wm_inj hp (wsum_wf a b) ?_
  rw [wm_sum]
  unfold wm
  omega
set_option maxHeartbeats 4000000 in
theorem WAdd_walk (a b : Int × Int) (ha : WwfP a) (hb : WwfP b) (w : World) : Calls Try.prog 8 #[.agg #[.int .i64 a.1, .int .u64 a.2], .agg #[.int .i64 b.1, .int .u64 b.2]] w fun e w' => e = .returned (.agg #[.int .i64 (wsum a b).1, .int .u64 (wsum a b).2]) ∧ Below w.heap.size w w' := by
  have CA := Lib.hid (fun (w3 W : World) (hb3 : Below w3.heap.size w3 W) => lift3 (num_walk a ha W) (fun e w' ⟨_, _, _, _, _, h⟩ => h) hb3)
  have CB := Lib.hid (fun (w3 W : World) (hb3 : Below w3.heap.size w3 W) => lift3 (num_walk b hb W) (fun e w' ⟨_, _, _, _, _, h⟩ => h) hb3)
  have CP := Lib.hid (fun (w3 W : World) (n n' : Bool) (m m' : Nat → Int) (hm : In4 m) (hm' : In4 m') (hb3 : Below w3.heap.size w3 W) => lift3 (Plus_walk n n' m m' hm hm' W) (fun e w' ⟨_, _, _, _, _, h⟩ => h) hb3)
  have CW := Lib.hid (fun (w3 W : World) (n : Bool) (m : Nat → Int) (hm : In4 m) (hb3 : Below w3.heap.size w3 W) => lift3 (wide_any n m hm W) (fun e w' ⟨_, _, _, _, h⟩ => h) hb3)
  clear ha hb
  obtain ⟨a1, a2⟩ := a
  obtain ⟨b1, b2⟩ := b
  simp only [] at CA CB ⊢
  obtain ⟨h1, h2, h3, hb3⟩ := three_all w (.cells #[.int .i64 a1, .int .u64 a2] 33) (.cells #[.int .i64 b1, .int .u64 b2] 33) (.cells #[.int .i64 0, .int .u64 0] 33)
  obtain ⟨w3, hw3⟩ : ∃ w3, w3 = ((w.alloc (.cells #[.int .i64 a1, .int .u64 a2] 33)).alloc (.cells #[.int .i64 b1, .int .u64 b2] 33)).alloc (.cells #[.int .i64 0, .int .u64 0] 33) := ⟨_, rfl⟩
  rw [← hw3] at h1 h2 h3 hb3
  have H3 := Lib.hid h3; have B3 := Lib.hid hb3
  obtain ⟨x0, x1, -, -⟩ := cells_2 h1
  obtain ⟨y0, y1, -, -⟩ := cells_2 h2
  clear h1 h2 h3 hb3
  have ne1 : w.heap.size ≠ w.heap.size + 1 + 1 := by omega
  have ne2 : w.heap.size + 1 ≠ w.heap.size + 1 + 1 := by omega
  go_enter Try.func8, Try.ntmps8
  go_wp2_with fail
  rw [← hw3]
  clear hw3
  go_region_held3 (fun w' => w'.cell? ⟨w.heap.size, 0, none⟩ = some (.int .i64 a1) ∧ w'.cell? ⟨w.heap.size, 1, none⟩ = some (.int .u64 a2) ∧ w'.cell? ⟨w.heap.size + 1, 0, none⟩ = some (.int .i64 b1) ∧ w'.cell? ⟨w.heap.size + 1, 1, none⟩ = some (.int .u64 b2))
    (first | (with_reducible exact ⟨rf2 (pw_cell_below hq4 x0) ne1, rf2 (pw_cell_below hq4 x1) ne1, rf2 (pw_cell_below hq4 y0) ne2, rf2 (pw_cell_below hq4 y1) ne2⟩) | (with_reducible exact ⟨pw_cell_below hq4 x0, pw_cell_below hq4 x1, pw_cell_below hq4 y0, pw_cell_below hq4 y1⟩) | (with_reducible exact ⟨pw_cell_below hq3 x0, pw_cell_below hq3 x1, pw_cell_below hq3 y0, pw_cell_below hq3 y1⟩) | (with_reducible exact ⟨pw_cell_below hq2 x0, pw_cell_below hq2 x1, pw_cell_below hq2 y0, pw_cell_below hq2 y1⟩) | (with_reducible exact ⟨pw_cell_below hq1 x0, pw_cell_below hq1 x1, pw_cell_below hq1 y0, pw_cell_below hq1 y1⟩) | exact ⟨x0, x1, y0, y1⟩ | go_keep)
    ((first
    | (go_at_call 20; (with_reducible refine (CA.out w3 _ (by repeat (first | with_reducible exact Below.refl _ _ | with_reducible exact hq1 | with_reducible exact hq2 | with_reducible exact hq3 | with_reducible apply below_drew))).mono ?_); rintro e w4 ⟨⟨n1, m1, rfl, hm1, hv1, -⟩, hq1⟩; have M1 := Lib.hid hm1; have V1 := Lib.hid hv1; clear hm1 hv1)
    | (go_at_call 20; (with_reducible refine (CB.out w3 _ (by repeat (first | with_reducible exact Below.refl _ _ | with_reducible exact hq1 | with_reducible exact hq2 | with_reducible exact hq3 | with_reducible apply below_drew))).mono ?_); rintro e w5 ⟨⟨n2, m2, rfl, hm2, hv2, -⟩, hq2⟩; have M2 := Lib.hid hm2; have V2 := Lib.hid hv2; clear hm2 hv2)
    | (go_at_call 19; (with_reducible refine (CP.out w3 _ _ _ _ _ M1.out M2.out (by repeat (first | with_reducible exact Below.refl _ _ | with_reducible exact hq1 | with_reducible exact hq2 | with_reducible exact hq3 | with_reducible apply below_drew))).mono ?_); rintro e w6 ⟨⟨n3, m3, rfl, hm3, hv3, -⟩, hq3⟩; have M3 := Lib.hid hm3; have V3 := Lib.hid hv3; clear hm3 hv3)
    | (go_at_call 18; (with_reducible refine (CW.out w3 _ _ _ M3.out (by repeat (first | with_reducible exact Below.refl _ _ | with_reducible exact hq1 | with_reducible exact hq2 | with_reducible exact hq3 | with_reducible apply below_drew))).mono ?_); rintro e w7 ⟨⟨p, rfl, hp4, hv4, -⟩, hq4⟩; have M4 := Lib.hid hp4; have V4 := Lib.hid hv4; obtain ⟨z0, z1, f0, f1⟩ := cells_2 (rheap_keep hq4 H3.out); have Q4 := Lib.hid hq4; clear hp4 hv4)))
  all_goals (go_wp2_with fail)
  all_goals (try simp only [Exit.inBlock, Exit.then])
  all_goals (have hp : p = wsum (a1, a2) (b1, b2) := wsum_fin M4.out V1.out V2.out V3.out V4.out)
  all_goals refine bodyPost_ret (results_cell_row rfl _ _ (w.heap.size + 1 + 1) 33 #[.int .i64 p.1, .int .u64 p.2] (0, 0) _ rfl (by rw [heap_set _ (heap_set _ (rheap_keep Q4.out H3.out))]; rfl) Try.underlying33 rfl (by kernel_rfl)) rfl ?_
  all_goals exact ⟨by rw [hp], ((below_then B3.out B3.out.size Q4.out).setCell (by show w.heap.size ≤ w.heap.size + 1 + 1; omega) _).setCell (by show w.heap.size ≤ w.heap.size + 1 + 1; omega) _⟩
end Go.Proofs.Ytjidjbjbngbhpaa
