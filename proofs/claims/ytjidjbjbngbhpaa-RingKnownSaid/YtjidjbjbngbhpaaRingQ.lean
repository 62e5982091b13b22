/- The walk of RingKnown. -/
import Derived.Test.YtjidjbjbngbhpaaRingP
import Derived.Test.YtjidjbjbngbhpaaRingJ
set_option linter.unusedVariables false
set_option linter.unusedSimpArgs false
namespace Go.Proofs.Ytjidjbjbngbhpaa
open Go.RowKit Go.Proofs.YtjidjbjbngbhpaaW.PrintWords Go.Proofs.Ytjidjbjbngbhpaa.K

theorem RgF.older {w w' : World} {id : RgId} {lo hi b m c T : Nat} {A : Option Addr} {M : List Value} (h : RgF w w' id) (hi' : RgIn id lo hi) (hT : ∀ ad, A = some ad → ad.block < T) (hb : T ≤ lo) (ho : w.ownsRow b 33 2 (.slice A m c) m M) : w'.ownsRow b 33 2 (.slice A m c) m M :=
  own_move ho fun k hk => by
    cases A with
    | none => cases hk
    | some ad =>
      injection hk with hk
      subst hk
      have h1 := hT ad rfl
      exact h.block _ (own_lt ho _ rfl) (by have := hi'.1; omega) (fun ad' e => by have := (hi'.2.2 ad' e).1; omega)
theorem one_wf (n : Int) (h0 : 0 ≤ n) (h1 : n ≤ 1000) : ∀ p ∈ [((0 : Int), n)], WwfP p := fun p hp => by
  obtain rfl : p = (0, n) := by simpa using hp
  rw [wwf_iff]
  simp only []
  omega
set_option maxRecDepth 100000 in
set_option maxHeartbeats 8000000 in
theorem known_walk (W : World) : Calls Try.prog 5 #[] W fun e w' => e = .returned (.bool true) ∧ Below W.heap.size W w' := by
  have mk1 : ∀ W : World, (Instr.makeSlice 25 (.int .i64 401) (.int .i64 401)).run Try.prog W = .ok (.slice (some ⟨W.heap.size, 0, none⟩) 401 401) (W.alloc (objW 401)) := fun W => make_objW 401 (by decide) W
  have mk3 : ∀ W : World, (Instr.makeSlice 25 (.int .i64 3) (.int .i64 3)).run Try.prog W = .ok (.slice (some ⟨W.heap.size, 0, none⟩) 3 3) (W.alloc (objW 3)) := fun W => make_objW 3 (by decide) W
  have bx : ∀ (w : World) (o : Obj), Below w.heap.size w (w.alloc o) := fun w o => (Below.refl _ _).alloc (Nat.le_refl _) o
  have BX := Lib.hid bx; clear bx
  have C0 := Lib.hid (fun w => new_bad 2 2 none 0 0 w (by decide) (by omega))
  have C401 := Lib.hid (fun (w : World) (g : Nat) => new_bad 0 1 (some ⟨g, 0, none⟩) 401 401 w (by decide) (by omega))
  go_enter Try.func5, Try.ntmps5
  go_wp2_with fail
  refine (awake_walk W).mono ?_
  rintro e w0 ⟨rfl, hb0⟩
  have B0 := Lib.hid hb0; clear hb0
  go_wp2_with fail
  refine (C0.out w0).mono ?_
  rintro e w0' ⟨rfl, rfl⟩
  go_wp2_with fail
  obtain ⟨w1, hw1⟩ : ∃ w1, w1 = w0.alloc (objW 401) := ⟨_, rfl⟩
  have B1 := Lib.hid (show Below W.heap.size W w1 from by rw [hw1]; exact below_then B0.out B0.out.size (BX.out _ _))
  rw [← hw1]
  clear hw1
  refine (C401.out w1 _).mono ?_
  rintro e w1' ⟨rfl, rfl⟩
  clear C0 C401 mk1
  go_wp2_with fail
  refine (one_ok 7 w1 (by decide) (by decide)).mono ?_
  rintro e w2 ⟨g1, rfl, ho1, hb1⟩
  have B2 := Lib.hid (below_then B1.out B1.out.size hb1); have C1 := Lib.hid (new_ok 0 1 (some ⟨g1, 0, none⟩) 1 1 [(0, 7)] w2 (part_read ho1 (by decide)) (one_wf 7 (by decide) (by decide)) (fun h => by cases h) (by decide) (by decide) (by decide) (by decide) (by decide))
  clear hb1 ho1
  go_wp2_with fail
  refine (C1.out).mono ?_
  rintro e w3 ⟨r, rfl, hr, hrb, hb3⟩
  have B3 := Lib.hid (below_then B2.out B2.out.size hb3); have HR3 := Lib.hid hr
  have C3 := Lib.hid (sum_done w3 r 0 1 1 [(0, 7)] 0 false false hr (by decide))
  have IR := Lib.hid hr.in'
  clear hb3 hr hrb C1
  go_wp2_with fail
  refine (C3.out).mono ?_
  rintro e w4 ⟨A4, c4, rfl, ho4, hb4⟩
  have HO4 := Lib.hid ho4; have B4 := Lib.hid (below_then B3.out B3.out.size hb4); have HR4 := Lib.hid (HR3.out.below hb4)
  clear ho4 hb4 C3
  have C5 := Lib.hid (out_done w4 r 0 1 1 [(0, 7)] 0 false HR4.out (by decide))
  go_wp2_with fail
  refine (C5.out).mono ?_
  rintro e w5 ⟨rfl, hb5⟩
  have HO5 := Lib.hid (pw_own_below HO4.out hb5); have B5 := Lib.hid (below_then B4.out B4.out.size hb5); have HR5 := Lib.hid (HR4.out.below hb5)
  clear hb5 C5
  go_wp2_with fail
  obtain ⟨w6, hw6⟩ : ∃ w6, w6 = (w5.alloc (.cells #[.int .i64 0, .int .i64 0, .slice none 0 0] 37)).alloc (objW 3) := ⟨_, rfl⟩
  have b6 : Below w5.heap.size w5 w6 := by rw [hw6]; exact below_then (BX.out _ _) (BX.out _ _).size (BX.out _ _)
  have r6 : WidesAt w6 (some ⟨w5.heap.size + 1, 0, none⟩) 3 (List.replicate 3 (0, 0)) := by
    rw [hw6]
    have := made_objW (w5.alloc (.cells #[.int .i64 0, .int .i64 0, .slice none 0 0] 37)) 3 (by decide)
    simpa using this
  rw [← hw6]
  clear hw6
  have C6 := Lib.hid (new_ok 0 3 (some ⟨w5.heap.size + 1, 0, none⟩) 3 3 (List.replicate 3 (0, 0)) w6 r6 (rep_wf 3) (fun h => by cases h) (by decide) (by decide) (by decide) (by decide) (by decide))
  have HO6 := Lib.hid (pw_own_below HO5.out b6); have B6 := Lib.hid (below_then B5.out B5.out.size b6); have HR6 := Lib.hid (HR5.out.below b6)
  clear r6 b6 mk3
  refine (C6.out).mono ?_
  rintro e w7 ⟨q, rfl, hq, hqb, hb7⟩
  have HQ7 := Lib.hid hq; have IQ := Lib.hid hq.in'; have QB := Lib.hid hqb
  have HO7 := Lib.hid (pw_own_below HO6.out hb7); have B7 := Lib.hid (below_then B6.out B6.out.size hb7); have HR7 := Lib.hid (HR6.out.below hb7)
  have T4 := Lib.hid (show ∀ ad, A4 = some ad → ad.block < w6.heap.size from fun ad e => (ownA HO6.out e).1)
  have AP := Lib.hid (RgIn.apart (HR6.out.in') (IQ.out.mono (by rw [QB.out]; exact Nat.le_refl _) (Nat.le_refl _)))
  clear hb7 hq hqb C6
  have C8 := Lib.hid (get_soon w7 q 0 3 3 (List.replicate 3 (0, 0)) 0 false false HQ7.out 1 0 none 0 0 (by decide) (by decide))
  go_wp2_with fail
  refine (C8.out).mono ?_
  rintro e w8 ⟨rfl, hb8⟩
  have Z8 := Lib.hid hb8.size; have HO8 := Lib.hid (pw_own_below HO7.out hb8); have B8 := Lib.hid (below_then B7.out B7.out.size hb8); have HR8 := Lib.hid (HR7.out.below hb8); have HQ8 := Lib.hid (HQ7.out.below hb8)
  clear hb8 C8
  go_wp2_with fail
  refine (one_ok 1 w8 (by decide) (by decide)).mono ?_
  rintro e w9 ⟨g9, rfl, ho9, hb9⟩
  have HX9 := Lib.hid ho9
  have Z9 := Lib.hid hb9.size; have HO9 := Lib.hid (pw_own_below HO8.out hb9); have B9 := Lib.hid (below_then B8.out B8.out.size hb9); have HR9 := Lib.hid (HR8.out.below hb9); have HQ9 := Lib.hid (HQ8.out.below hb9)
  clear ho9 hb9
  have C10 := Lib.hid (get_form w9 q 0 3 3 (List.replicate 3 (0, 0)) 0 false HQ9.out 0 (some ⟨g9, 0, none⟩) 1 1 (by decide) 2 (by decide) (by decide) (.inl (by decide)))
  go_wp2_with fail
  refine (C10.out).mono ?_
  rintro e w10 ⟨rfl, hb10⟩
  have Z10 := Lib.hid hb10.size; have HO10 := Lib.hid (pw_own_below HO9.out hb10); have B10 := Lib.hid (below_then B9.out B9.out.size hb10); have HR10 := Lib.hid (HR9.out.below hb10); have HQ10 := Lib.hid (HQ9.out.below hb10)
  clear hb10 C10
  have C11 := Lib.hid (get_form w10 q 0 3 3 (List.replicate 3 (0, 0)) 0 false HQ10.out 2 none 0 0 (by decide) 2 (by decide) (by decide) (.inr (by decide)))
  go_wp2_with fail
  refine (C11.out).mono ?_
  rintro e w11 ⟨rfl, hb11⟩
  have Z11 := Lib.hid hb11.size; have HO11 := Lib.hid (pw_own_below HO10.out hb11); have B11 := Lib.hid (below_then B10.out B10.out.size hb11); have HR11 := Lib.hid (HR10.out.below hb11); have HQ11 := Lib.hid (HQ10.out.below hb11)
  clear hb11 C11
  go_wp2_with fail
  refine (one_ok 1 w11 (by decide) (by decide)).mono ?_
  rintro e w12 ⟨g12, rfl, ho12, hb12⟩
  have HX12 := Lib.hid ho12
  have HO12 := Lib.hid (pw_own_below HO11.out hb12); have B12 := Lib.hid (below_then B11.out B11.out.size hb12); have HR12 := Lib.hid (HR11.out.below hb12); have HQ12 := Lib.hid (HQ11.out.below hb12)
  clear ho12 hb12
  have B8S := Lib.hid (show w7.heap.size ≤ w11.heap.size from Nat.le_trans Z8.out (Nat.le_trans Z9.out (Nat.le_trans Z10.out Z11.out)))
  have C13 := Lib.hid (get_ok w12 q 0 3 3 (List.replicate 3 (0, 0)) 0 false HQ12.out 2 (some ⟨g12, 0, none⟩) 1 1 (by decide) 2 (by decide) (by decide) [(0, 1)] (part_read HX12.out (by decide)) (one_wf 1 (by decide) (by decide)) (part_ap (IQ.out.mono (Nat.le_refl _) (Nat.le_trans B8S.out (Nat.le_refl _))) (Nat.le_refl _) HX12.out) ⟨rfl, by decide⟩ true (by decide))
  go_wp2_with fail
  refine (C13.out).mono ?_
  rintro e w13 ⟨rfl, hq13, hf13⟩
  rw [show gotL (List.replicate 3 (0, 0)) (cstart 3 3 2) true [(0, 1)] [((0 : Int), (1 : Int))].length = [(0, 0), (0, 0), (0, 1)] by first | decide | kernel_rfl] at hq13
  have HQ13 := Lib.hid (show RgS w13 q 0 3 3 [(0, 0), (0, 0), (0, 1)] 0 false true from hq13)
  have HO13 := Lib.hid (hf13.older IQ.out T4.out (by rw [QB.out]; exact Nat.le_refl _) HO12.out)
  have HR13 := Lib.hid (HR12.out.other HQ12.out AP.out.1 hf13)
  have B13 := Lib.hid (hf13.belowW (IQ.out.mono (by rw [QB.out]; exact B6.out.size) (Nat.le_refl _)) B12.out B12.out.size)
  have HF13 := Lib.hid hf13
  clear hq13 hf13 C13
  go_wp2_with fail
  refine (one_ok 1 w13 (by decide) (by decide)).mono ?_
  rintro e w14 ⟨g14, rfl, ho14, hb14⟩
  have HX14 := Lib.hid ho14
  have HO14 := Lib.hid (pw_own_below HO13.out hb14); have B14 := Lib.hid (below_then B13.out B13.out.size hb14); have HR14 := Lib.hid (HR13.out.below hb14); have HQ14 := Lib.hid (HQ13.out.below hb14)
  clear ho14 hb14
  have C15 := Lib.hid (get_twice w14 q 0 3 3 [(0, 0), (0, 0), (0, 1)] 0 false HQ14.out 2 (some ⟨g14, 0, none⟩) 1 1 (by decide))
  go_wp2_with fail
  refine (C15.out).mono ?_
  rintro e w15 ⟨rfl, hb15⟩
  have HO15 := Lib.hid (pw_own_below HO14.out hb15); have B15 := Lib.hid (below_then B14.out B14.out.size hb15); have HR15 := Lib.hid (HR14.out.below hb15); have HQ15 := Lib.hid (HQ14.out.below hb15)
  clear hb15 C15
  have C16 := Lib.hid (sum_no w15 q.r 0 3 _ _ 0 false true HQ15.out.obj (by decide) (by decide))
  go_wp2_with fail
  refine (C16.out).mono ?_
  rintro e w16 ⟨rfl, hb16⟩
  have HO16 := Lib.hid (pw_own_below HO15.out hb16); have B16 := Lib.hid (below_then B15.out B15.out.size hb16); have HR16 := Lib.hid (HR15.out.below hb16); have HQ16 := Lib.hid (HQ15.out.below hb16)
  clear hb16 C16
  go_wp2_with fail
  refine (round_walk w16 q.r 0 3 _ _ 0 false true HQ16.out.obj).mono ?_
  rintro e w16' ⟨rfl, rfl⟩
  have C17 := Lib.hid (out_ok w16 q 0 3 3 [(0, 0), (0, 0), (0, 1)] 0 true HQ16.out (by decide) 0 (by decide))
  go_wp2_with fail
  refine (C17.out).mono ?_
  rintro e w17 ⟨A17, c17, rfl, ho17, hq17, hf17⟩
  have HQ17 := Lib.hid (show RgS w17 q 0 3 3 [(0, 0), (0, 0), (0, 1)] 1 false false from hq17)
  have HO17 := Lib.hid (hf17.older IQ.out T4.out (by rw [QB.out]; exact Nat.le_refl _) HO16.out)
  have HR17 := Lib.hid (HR16.out.other HQ16.out AP.out.1 hf17)
  have B17 := Lib.hid (hf17.belowW (IQ.out.mono (by rw [QB.out]; exact B6.out.size) (Nat.le_refl _)) B16.out B16.out.size)
  clear hq17 hf17 ho17 C17
  go_wp2_with fail
  obtain ⟨w18, hw18⟩ : ∃ w18, w18 = w17.alloc (.cells #[.int .i64 0, .int .i64 0, .slice A17 (cstart 3 3 1 - cstart 3 3 0) c17] 37) := ⟨_, rfl⟩
  have hb18 : Below w17.heap.size w17 w18 := by rw [hw18]; exact BX.out _ _
  rw [← hw18]
  clear hw18
  have HO18 := Lib.hid (pw_own_below HO17.out hb18); have B18 := Lib.hid (below_then B17.out B17.out.size hb18); have HR18 := Lib.hid (HR17.out.below hb18); have HQ18 := Lib.hid (HQ17.out.below hb18)
  clear hb18
  refine (one_ok 7 w18 (by decide) (by decide)).mono ?_
  rintro e w19 ⟨g19, rfl, ho19, hb19⟩
  have HX19 := Lib.hid ho19
  have HO19 := Lib.hid (pw_own_below HO18.out hb19); have B19 := Lib.hid (below_then B18.out B18.out.size hb19); have HR19 := Lib.hid (HR18.out.below hb19); have HQ19 := Lib.hid (HQ18.out.below hb19)
  clear ho19 hb19
  have C20 := Lib.hid (wides_same A4 (some ⟨g19, 0, none⟩) 1 c4 1 [(0, 7)] w19 (part_read HO19.out (by decide)) (part_read HX19.out (by decide)) (by decide))
  go_wp2_with fail
  refine (C20.out).mono ?_
  rintro e w20 ⟨rfl, hb20⟩
  have HO20 := Lib.hid (pw_own_below HO19.out hb20); have B20 := Lib.hid (below_then B19.out B19.out.size hb20); have HR20 := Lib.hid (HR19.out.below hb20); have HQ20 := Lib.hid (HQ19.out.below hb20)
  clear hb20 C20
  have C21 := Lib.hid (done_any w20 r 0 1 1 [(0, 7)] 0 false false HR20.out true (by decide))
  go_wp2_with fail
  refine (C21.out).mono ?_
  rintro e w21 ⟨rfl, hb21⟩
  have HO21 := Lib.hid (pw_own_below HO20.out hb21); have B21 := Lib.hid (below_then B20.out B20.out.size hb21); have HR21 := Lib.hid (HR20.out.below hb21); have HQ21 := Lib.hid (HQ20.out.below hb21)
  clear hb21 C21
  go_wp2_with fail
  refine (round_walk w21 q.r 0 3 _ _ 1 false false HQ21.out.obj).mono ?_
  rintro e w21' ⟨rfl, rfl⟩
  have C22 := Lib.hid (get_done w21 r 0 1 1 [(0, 7)] 0 false false HR21.out 0 0 none 0 0 (by decide))
  go_wp2_with fail
  refine (C22.out).mono ?_
  rintro e w22 ⟨rfl, hb22⟩
  have HO22 := Lib.hid (pw_own_below HO21.out hb22); have B22 := Lib.hid (below_then B21.out B21.out.size hb22); have HR22 := Lib.hid (HR21.out.below hb22); have HQ22 := Lib.hid (HQ21.out.below hb22)
  clear hb22 C22
  go_wp2_with fail
  go_ret
  exact ⟨by first | rfl | simp, B22.out⟩
end Go.Proofs.Ytjidjbjbngbhpaa
