/- The walk of NetCuts. -/
import Derived.Test.YtenbjmgmgdkapaaNetI
set_option linter.unusedVariables false
set_option linter.unusedSimpArgs false
namespace Go.Proofs.Ytenbjmgmgdkapaa
open Go.RowKit Go.Proofs.YtenbjmgmgdkapaaW.PrintWords Go.Proofs.Ytenbjmgmgdkapaa.K

theorem CutM.ne {w : World} {mb n : Nat} {f : Nat → Nat → Bool} (h : CutM w mb n f) {u : World} {bs sz k : Nat} {e : TypeId} {V : Value} {M : List Value} (ho : w.ownsRow bs e sz V k M) : V.ownBlock = none ∨ V.ownBlock ≠ some mb := by
  obtain ⟨D, ⟨es, clock, h1, _⟩, _⟩ := h
  rcases ho.2 with ⟨rfl, _⟩ | ⟨g, cap, cur, rfl, _, hh, _⟩
  · exact .inl rfl
  · refine .inr fun hk => ?_
    have e2 : g = mb := by simpa [Value.ownBlock] using hk
    rw [e2, h1] at hh
    simp at hh
theorem cut_ok (base r mb : Nat) (room : Int) (m : Nat) (f : Nat → Nat → Bool) (L : List Pk) (a b : Nat) (v : Bool) (w : World) (ha : a < 16) (hb : b < 16) (hm : m < 100000) (hS : NetS w base r mb room m f L) :
    Calls Try.prog 11 #[.pointer (some ⟨r, 0, none⟩), .int .i64 (a : Int), .int .i64 (b : Int), .bool v] w fun e w' => e = .returned (.tuple #[]) ∧ NetS w' base r mb room (m + 1) (upd f a b v) L ∧ ∀ W, Below base W w → Below base W w' := by
  obtain ⟨A, c, hc, ho⟩ := hS.cl
  refine (cut_walk w r room A L.length c mb m f hc hS.cu hm hS.ne a b ha hb v).mono ?_
  rintro e w' ⟨rfl, h1, h2, h3⟩
  refine ⟨rfl, ⟨⟨A, c, h1, own_other ho h3 (hS.cu.ne (u := w) ho)⟩, fun p hp => own_other (hS.bd p hp) h3 (hS.cu.ne (u := w) (hS.bd p hp)), hS.ap, h2, hS.br, hS.bm, hS.ne, Nat.le_trans hS.bw h3.size⟩, fun W hW => ?_⟩
  exact pw_below_grown hW (some mb) hS.bw h3 (fun k hk => by cases hk; exact hS.bm)
set_option maxRecDepth 100000 in
set_option maxHeartbeats 4000000 in
theorem cuts_body (x y a b : Nat) (hx : x < 16) (hy : y < 16) (ha : a < 16) (hb : b < 16) (W : World) : Calls Try.prog 3 #[.int .i64 (x : Int), .int .i64 (y : Int), .int .i64 (a : Int), .int .i64 (b : Int)] W fun e w' => e = .returned (.bool true) ∧ Below W.heap.size W w' := by
  go_enter Try.func3, Try.ntmps3
  go_wp2_with fail
  refine (awake_walk W).mono ?_
  rintro e w0 ⟨rfl, hb0⟩
  have B0 := Lib.hid hb0; clear hb0
  have n1 : ¬ (x : Int) < 0 := by omega
  have n2 : ¬ (15 : Int) < x := by omega
  have n3 : ¬ (y : Int) < 0 := by omega
  have n4 : ¬ (15 : Int) < y := by omega
  have n5 : ¬ (a : Int) < 0 := by omega
  have n6 : ¬ (15 : Int) < a := by omega
  have n7 : ¬ (b : Int) < 0 := by omega
  have n8 : ¬ (15 : Int) < b := by omega
  have HX := Lib.hid (And.intro hx (And.intro hy (And.intro ha hb)))
  clear hx hy ha hb
  go_wp2_with fail
  have C1 := Lib.hid (new_ok 9 w0 (by decide) (by decide))
  have S0 := Lib.hid (net_made w0 w0.heap.size 9 (Nat.le_refl _))
  have HB0 : ∀ o o' : Obj, Below w0.heap.size w0 ((w0.alloc o).alloc o') := fun o o' => alloc_back2 o o'
  have HB := Lib.hid HB0; clear HB0
  refine C1.out.mono ?_
  rintro e w1 ⟨rfl, hw1⟩
  have S1 := Lib.hid (show NetS w1 w0.heap.size (w0.heap.size + 1) w0.heap.size 9 0 (fun _ _ => false) [] by rw [hw1]; exact S0.out)
  have B1 := Lib.hid (show Below w0.heap.size w0 w1 by rw [hw1]; exact HB.out _ _)
  clear hw1
  go_wp2_with fail
  refine (send_ok w0.heap.size (w0.heap.size + 1) w0.heap.size 9 0 (fun _ _ => false) [] x y none 0 0 [] w1 HX.out.1 HX.out.2.1 (by decide) S1.out (reads_nil _ _) (fun _ => rfl) rfl (by decide) (by decide)).mono ?_
  rintro e w2 ⟨A1, c1, rfl, hS2, hB2⟩
  have S2 := Lib.hid hS2; have B2 := Lib.hid (hB2 w0 B1.out); clear hS2 hB2
  go_wp2_with fail
  refine (cut_ok w0.heap.size (w0.heap.size + 1) w0.heap.size 9 0 _ _ x y true w2 HX.out.1 HX.out.2.1 (by decide) S2.out).mono ?_
  rintro e w3 ⟨rfl, hS3, hB3⟩
  have S3 := Lib.hid hS3; have B3 := Lib.hid (hB3 w0 B2.out); clear hS3 hB3
  go_wp2_with fail
  by_cases hq : a = x ∧ b = y
  · obtain ⟨rfl, rfl⟩ := hq
    refine (send_cut w0.heap.size (w0.heap.size + 1) w0.heap.size 9 _ _ _ a b none 0 0 w3 HX.out.1 HX.out.2.1 (by decide) S3.out (by simp [upd])).mono ?_
    rintro e w4 ⟨rfl, hS4, hB4⟩
    have S4 := Lib.hid hS4; have B4 := Lib.hid (below_then B3.out B3.out.size hB4); clear hS4 hB4
    go_wp2_with fail
    refine S4.out.len.mono ?_
    rintro e w5 ⟨rfl, rfl⟩
    go_wp2_with fail
    refine (cut_ok w0.heap.size (w0.heap.size + 1) w0.heap.size 9 _ _ _ a b false w4 HX.out.1 HX.out.2.1 (by decide) S4.out).mono ?_
    rintro e w6 ⟨rfl, hS6, hB6⟩
    have S6 := Lib.hid hS6; have B6 := Lib.hid (hB6 w0 B4.out); clear hS6 hB6
    go_wp2_with fail
    refine (send_ok w0.heap.size (w0.heap.size + 1) w0.heap.size 9 _ _ _ a b none 0 0 [] w6 HX.out.1 HX.out.2.1 (by decide) S6.out (reads_nil _ _) (fun _ => rfl) (by simp [upd]) (by simp) (by decide)).mono ?_
    rintro e w7 ⟨A7, c7, rfl, hS7, hB7⟩
    have S7 := Lib.hid hS7; have B7 := Lib.hid (hB7 w0 B6.out); clear hS7 hB7
    go_wp2_with fail
    refine S7.out.len.mono ?_
    rintro e w8 ⟨rfl, rfl⟩
    go_wp2_with fail
    go_ret
    exact ⟨rfl, below_then B0.out B0.out.size B7.out⟩
  · refine (send_ok w0.heap.size (w0.heap.size + 1) w0.heap.size 9 _ _ _ a b none 0 0 [] w3 HX.out.2.2.1 HX.out.2.2.2 (by decide) S3.out (reads_nil _ _) (fun _ => rfl) (by simp only [upd]; rw [if_neg hq]) (by simp) (by decide)).mono ?_
    rintro e w4 ⟨A4, c4, rfl, hS4, hB4⟩
    have S4 := Lib.hid hS4; have B4 := Lib.hid (hB4 w0 B3.out); clear hS4 hB4
    by_cases q1 : a = x
    · have q3 := q1.symm; clear q1; subst q3
      have q2 : ¬ (b : Int) = (y : Int) := by intro h; exact hq ⟨rfl, by omega⟩
      go_wp2_with fail
      refine S4.out.len.mono ?_
      rintro e w5 ⟨rfl, rfl⟩
      go_wp2_with fail
      refine (cut_ok w0.heap.size (w0.heap.size + 1) w0.heap.size 9 _ _ _ x y false w4 HX.out.1 HX.out.2.1 (by decide) S4.out).mono ?_
      rintro e w6 ⟨rfl, hS6, hB6⟩
      have S6 := Lib.hid hS6; have B6 := Lib.hid (hB6 w0 B4.out); clear hS6 hB6
      go_wp2_with fail
      refine (send_ok w0.heap.size (w0.heap.size + 1) w0.heap.size 9 _ _ _ x y none 0 0 [] w6 HX.out.1 HX.out.2.1 (by decide) S6.out (reads_nil _ _) (fun _ => rfl) (by simp [upd]) (by simp) (by decide)).mono ?_
      rintro e w7 ⟨A7, c7, rfl, hS7, hB7⟩
      have S7 := Lib.hid hS7; have B7 := Lib.hid (hB7 w0 B6.out); clear hS7 hB7
      go_wp2_with fail
      refine S7.out.len.mono ?_
      rintro e w8 ⟨rfl, rfl⟩
      go_wp2_with fail
      go_ret
      exact ⟨rfl, below_then B0.out B0.out.size B7.out⟩
    · have q2 : ¬ (a : Int) = (x : Int) := by omega
      go_wp2_with fail
      refine S4.out.len.mono ?_
      rintro e w5 ⟨rfl, rfl⟩
      go_wp2_with fail
      refine (cut_ok w0.heap.size (w0.heap.size + 1) w0.heap.size 9 _ _ _ x y false w4 HX.out.1 HX.out.2.1 (by decide) S4.out).mono ?_
      rintro e w6 ⟨rfl, hS6, hB6⟩
      have S6 := Lib.hid hS6; have B6 := Lib.hid (hB6 w0 B4.out); clear hS6 hB6
      go_wp2_with fail
      refine (send_ok w0.heap.size (w0.heap.size + 1) w0.heap.size 9 _ _ _ x y none 0 0 [] w6 HX.out.1 HX.out.2.1 (by decide) S6.out (reads_nil _ _) (fun _ => rfl) (by simp [upd]) (by simp) (by decide)).mono ?_
      rintro e w7 ⟨A7, c7, rfl, hS7, hB7⟩
      have S7 := Lib.hid hS7; have B7 := Lib.hid (hB7 w0 B6.out); clear hS7 hB7
      go_wp2_with fail
      refine S7.out.len.mono ?_
      rintro e w8 ⟨rfl, rfl⟩
      go_wp2_with fail
      go_ret
      exact ⟨rfl, below_then B0.out B0.out.size B7.out⟩

set_option maxRecDepth 100000 in
set_option maxHeartbeats 4000000 in
theorem cuts_walk (W : World) (x : Int) (hx : (Lit.int .i64 x).wf = true) (y : Int) (hy : (Lit.int .i64 y).wf = true) (a : Int) (ha : (Lit.int .i64 a).wf = true) (b : Int) (hb : (Lit.int .i64 b).wf = true) :
    Calls Try.prog 3 #[.int .i64 x, .int .i64 y, .int .i64 a, .int .i64 b] W fun e w' => e = .returned (.bool true) ∧ Below W.heap.size W w' := by
  clear hx hy ha hb
  by_cases hall : (0 ≤ x ∧ x < 16) ∧ (0 ≤ y ∧ y < 16) ∧ (0 ≤ a ∧ a < 16) ∧ 0 ≤ b ∧ b < 16
  · obtain ⟨⟨x0, x1⟩, ⟨y0, y1⟩, ⟨a0, a1⟩, b0, b1⟩ := hall
    have := cuts_body x.toNat y.toNat a.toNat b.toNat (by omega) (by omega) (by omega) (by omega) W
    rwa [Int.toNat_of_nonneg x0, Int.toNat_of_nonneg y0, Int.toNat_of_nonneg a0, Int.toNat_of_nonneg b0] at this
  · go_enter Try.func3, Try.ntmps3
    go_wp2_with fail
    refine (awake_walk W).mono ?_
    rintro e w0 ⟨rfl, hb0⟩
    have B0 := Lib.hid hb0; clear hb0
    have HALL := Lib.hid hall; clear hall
    by_cases g0 : x < 0
    · go_wp2_with fail
      go_ret
      exact ⟨rfl, B0.out⟩
    by_cases g1 : (15 : Int) < x
    · go_wp2_with fail
      go_ret
      exact ⟨rfl, B0.out⟩
    by_cases g2 : y < 0
    · go_wp2_with fail
      go_ret
      exact ⟨rfl, B0.out⟩
    by_cases g3 : (15 : Int) < y
    · go_wp2_with fail
      go_ret
      exact ⟨rfl, B0.out⟩
    by_cases g4 : a < 0
    · go_wp2_with fail
      go_ret
      exact ⟨rfl, B0.out⟩
    by_cases g5 : (15 : Int) < a
    · go_wp2_with fail
      go_ret
      exact ⟨rfl, B0.out⟩
    by_cases g6 : b < 0
    · go_wp2_with fail
      go_ret
      exact ⟨rfl, B0.out⟩
    by_cases g7 : (15 : Int) < b
    · go_wp2_with fail
      go_ret
      exact ⟨rfl, B0.out⟩
    exact absurd ⟨⟨by omega, by omega⟩, ⟨by omega, by omega⟩, ⟨by omega, by omega⟩, by omega, by omega⟩ HALL.out
end Go.Proofs.Ytenbjmgmgdkapaa
