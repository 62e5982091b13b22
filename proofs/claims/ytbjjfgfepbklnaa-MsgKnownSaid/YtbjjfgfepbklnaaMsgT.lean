/- The walk of MsgKnown. -/
import Derived.Test.YtbjjfgfepbklnaaMsgR
set_option linter.unusedVariables false
set_option linter.unusedSimpArgs false
namespace Go.Proofs.Ytbjjfgfepbklnaa
open Go.RowKit Go.Proofs.YtbjjfgfepbklnaaW.PrintWords Go.Proofs.Ytbjjfgfepbklnaa.K

theorem no_empty : ¬ ∃ x : Ms, MIs [] x := by
  rintro ⟨x, _, _, h⟩
  have := menc_len x
  rw [h] at this
  have h0 : ([] : List Int).length = 0 := rfl
  omega
set_option maxRecDepth 100000 in
set_option maxHeartbeats 4000000 in
theorem known_walk (W : World) : Calls Try.prog 3 #[] W fun e w' => e = .returned (.bool true) ∧ Below W.heap.size W w' := by
  have mk1 : ∀ W : World, (Instr.makeSlice 24 (.int .i64 500) (.int .i64 500)).run Try.prog W = .ok (.slice (some ⟨W.heap.size, 0, none⟩) 500 500) (W.alloc (objN 500)) := fun W => make_nums 500 (by decide) W
  have mk2 : ∀ W : World, (Instr.makeSlice 25 (.int .i64 500) (.int .i64 500)).run Try.prog W = .ok (.slice (some ⟨W.heap.size, 0, none⟩) 500 500) (W.alloc (objW 500)) := fun W => make_wides 500 (by decide) W
  have mk3 : ∀ W : World, (Instr.makeSlice 24 (.int .i64 501) (.int .i64 501)).run Try.prog W = .ok (.slice (some ⟨W.heap.size, 0, none⟩) 501 501) (W.alloc (objN 501)) := fun W => make_nums 501 (by decide) W
  go_enter Try.func3, Try.ntmps3
  go_wp2_with fail
  refine (awake_walk W).mono ?_
  rintro e w0 ⟨rfl, hb0⟩
  have B0 := Lib.hid hb0; clear hb0
  go_wp2_with fail
  refine (mget_walk none 0 0 [] w0 (reads_nil _ _) (by simp)).mono ?_
  rintro e w1 ⟨hd, hb1⟩
  obtain ⟨-, rfl⟩ := hd.resolve_left (fun ⟨y, hy, _⟩ => no_empty ⟨y, hy⟩)
  have b1 := below_then B0.out B0.out.size hb1
  have B1 := Lib.hid (b1.alloc b1.size (.cells (msC 0 0 0 0 0 (.slice none 0 0) (.slice none 0 0)) 27))
  clear hb1 b1
  go_wp2_with fail
  have C2 := Lib.hid (mput_any (mz 1 501 0) (mz_wf 1 501 0) (some ⟨(w1.alloc (.cells (msC 0 0 0 0 0 (.slice none 0 0) (.slice none 0 0)) 27)).heap.size, 0, none⟩) none 501 501 0 0 ((w1.alloc (.cells (msC 0 0 0 0 0 (.slice none 0 0) (.slice none 0 0)) 27)).alloc (objN 501)) (made_nums _ 501 (by decide)) (wides_nil _) (by decide) (by decide))
  rw [show (w1.alloc (.cells (msC 0 0 0 0 0 (.slice none 0 0) (.slice none 0 0)) 27)).heap.size = w1.heap.size + 1 by simp] at C2
  refine C2.out.mono ?_
  rintro e w2 ⟨A2, n2', c2, rfl, ho2, hb2⟩
  have hl2 := (own_info ho2).2.1
  rw [mz_put (by decide), if_neg (by decide)] at hl2
  subst hl2
  have B2 := Lib.hid (below_then B1.out B1.out.size (below_then (alloc_back _) (alloc_back _).size hb2))
  clear ho2 hb2
  have BB : ∀ o o' : Obj, Below W.heap.size W ((w2.alloc o).alloc o').drew := fun o o' => below_drew ((B2.out.alloc B2.out.size o).alloc (B2.out.alloc B2.out.size o).size o')
  have DD : ∀ w : World, Below w.heap.size w w.drew := fun w => below_drew (Below.refl _ _)
  have C1 := Lib.hid (sizes_put W ((w2.alloc (objN 500)).alloc (objW 500)).drew (BB _ _) 500 500 (by decide) (by decide) _ _ 1 ((nums_old _ 500 _ (by decide)).below (DD _)) ((wides_new _ 500 _ (by decide)).below (DD _)) (by decide))
  have C3 := Lib.hid (sizes_put W ((w2.alloc (objW 500)).alloc (objN 500)).drew (BB _ _) 500 500 (by decide) (by decide) _ _ 1 ((nums_new _ 500 _ (by decide)).below (DD _)) ((wides_old _ 500 _ (by decide)).below (DD _)) (by decide))
  clear BB DD
  go_wp2_with fail
  go_region_with (first
    | (go_at_call 10; with_reducible refine C1.out.mono ?_; rintro e w3 ⟨A3, n3, c3, rfl, hn3, hb3⟩; have HN := Lib.hid hn3; clear hn3)
    | (go_at_call 10; with_reducible refine C3.out.mono ?_; rintro e w3 ⟨A3, n3, c3, rfl, hn3, hb3⟩; have HN := Lib.hid hn3; clear hn3))
  all_goals
    have hn : n3 = 12023 := by rw [HN.out]; decide
    subst hn
    have B3 := Lib.hid hb3
    clear hb3
    go_wp2_with fail
    refine (mgood_walk 0 0 0 0 0 none none 0 0 0 0 (by decide) (by decide) _).mono ?_
    rintro e w4 ⟨rfl, hb4⟩
    rw [show msB 0 0 0 0 0 = false by decide]
    have B4 := Lib.hid (below_then B3.out B3.out.size hb4)
    clear hb4
    go_wp2_with fail
    have R1 := Lib.hid ((reads_lit w4 .i64 [1] 2 (0, 0) 1 rfl (by decide)).below (alloc_back (.cells #[.int .i64 2] 2)))
    have R2 := Lib.hid (reads_lit (w4.alloc (.cells #[.int .i64 1] 2)) .i64 [2] 2 (0, 0) 1 rfl (by decide))
    rw [show (w4.alloc (.cells #[.int .i64 1] 2)).heap.size = w4.heap.size + 1 by simp] at R2
    refine (same_walk ⟨0, 0, 0, 0, 0, [1], []⟩ ⟨0, 0, 0, 0, 0, [2], []⟩ _ _ none none 1 1 1 1 0 0 0 0 _ R1.out R2.out (wides_nil _) (wides_nil _)).mono ?_
    rintro e w5 ⟨rfl, hb5⟩
    rw [show Ms.eqb ⟨0, 0, 0, 0, 0, [1], []⟩ ⟨0, 0, 0, 0, 0, [2], []⟩ = false by decide]
    have B5 := Lib.hid (below_then B4.out B4.out.size (below_then (alloc_back2 _ _) (alloc_back2 _ _).size hb5))
    clear hb5
    go_wp2_with fail
    go_ret
    exact ⟨rfl, B5.out⟩
end Go.Proofs.Ytbjjfgfepbklnaa
