/- Walks of beat's awake and BeatNever. -/
import Derived.Test.YthebddhldembhaaBeatC
set_option linter.unusedVariables false
set_option linter.unusedSimpArgs false
namespace Go.Proofs.Ythebddhldembhaa
open Go.RowKit Go.Proofs.YthebddhldembhaaW.PrintWords Go.Proofs.Ythebddhldembhaa.K

theorem reads_lit' (w : World) (k : IntKind) (xs : List Int) (e : TypeId) (n : Nat) (hn : xs.length = n) (hm : n ≤ 9223372036854775807) :
    ReadsInt (w.alloc (.cells (nums k xs).toArray e)) k (some ⟨w.heap.size, 0, none⟩) n xs := reads_lit w k xs e (0, 0) n hn hm
/-- Tick, whichever way. -/
theorem tick_any (w : World) (base r mb n : Nat) (b : BeatA) (t : Int) (h : BeatS w base r mb n b) (ok : BeatOk b) (ht : t ≤ 1000000) :
    Calls Try.prog 8 #[.pointer (some ⟨r, 0, none⟩), .int .i64 t] w fun e w' => ∃ A1 p c1 A2 q c2 s, e = .returned (.tuple #[.slice A1 p c1, .slice A2 q c2]) ∧ ReadsInt w' .i64 A2 q (lateL b (max b.now t) b.mem) ∧ (-1 ≤ s ∧ s ≤ max b.now t) ∧ BeatS w' base r mb n { b with now := max b.now t, sent := s } ∧ ∀ W, Below base W w → Below base W w' := by
  have h1 := ok.s0; have h2 := ok.s1; have h3 := ok.n0
  by_cases hs : b.sent < 0 ∨ b.every ≤ max b.now t - b.sent
  · refine (tick_send w base r mb n b t h ok ht hs).mono ?_
    rintro e w' ⟨A1, p, c1, A2, q, c2, he, _, _, h2, _, h3, h4⟩
    exact ⟨A1, p, c1, A2, q, c2, _, he, h2, by omega, h3, h4⟩
  · refine (tick_none w base r mb n b t h ok ht (by omega) (by omega)).mono ?_
    rintro e w' ⟨A1, p, c1, A2, q, c2, he, _, _, h2, _, h3, h4⟩
    exact ⟨A1, p, c1, A2, q, c2, _, he, h2, by omega, h3, h4⟩
theorem new_okB (own : Int) (l : List Int) (every span : Int) (h : ∀ m ∈ l, 0 ≤ m ∧ m < 16) : BeatOk (newB own l every span) :=
  ⟨Int.le_refl _, by simp [newB], Int.le_refl _, by simp [newB], fun a => ⟨Int.le_refl _, Int.le_refl _⟩, h⟩
set_option maxRecDepth 100000 in
set_option maxHeartbeats 4000000 in
theorem awake_walk (W : World) : Calls Try.prog 6 #[] W fun e w' => e = .returned (.bool true) ∧ Below W.heap.size W w' := by
  have HN := Lib.hid (new_ok 0 (some ⟨W.heap.size, 0, none⟩) 2 2 [0, 1] 5 20 (W.alloc (.cells #[.int .i64 0, .int .i64 1] 3)) W.heap.size (by simp) (reads_lit' W .i64 [0, 1] 3 2 rfl (by decide)) (fun h => by cases h) (by decide) (by decide) (by decide) (by decide) (by decide) (by decide) (by decide))
  have HB0 := Lib.hid (alloc_back (W := W) (.cells #[.int .i64 0, .int .i64 1] 3))
  go_enter Try.func6, Try.ntmps6
  go_wp2_with fail
  refine HN.out.mono ?_
  rintro e w1 ⟨r, mb, rfl, hS, hB⟩
  have S1 := Lib.hid hS; have B1 := Lib.hid (below_then HB0.out HB0.out.size hB)
  clear hS hB
  go_wp2_with fail
  have HT := Lib.hid (tick_send w1 W.heap.size r mb 0 (newB 0 [0, 1] 5 20) 20 S1.out (new_okB _ _ _ _ (by decide)) (by decide) (.inl (by decide)))
  refine HT.out.mono ?_
  rintro e w2 ⟨A1, p, c1, A2, q, c2, rfl, hr1, hp1, hr2, hp2, hS2, hB2⟩
  have S2 := Lib.hid hS2; have B2 := Lib.hid (hB2 W B1.out); have R1 := Lib.hid (show ReadsInt w2 .i64 A1 p [1] from hr1); have R2 := Lib.hid (show ReadsInt w2 .i64 A2 q [1] from hr2)
  clear hS2 hB2 hr1 hr2 hp1 hp2
  go_wp2_with fail
  have C1 := Lib.hid (same_walk A1 (some ⟨w2.heap.size, 0, none⟩) p 1 c1 1 [1] [1] (w2.alloc (.cells #[.int .i64 1] 3)) (R1.out.below (alloc_back _)) (reads_lit' w2 .i64 [1] 3 1 rfl (by decide)))
  have HB3 := Lib.hid (alloc_back (W := w2) (.cells #[.int .i64 1] 3))
  refine C1.out.mono ?_
  rintro e w3 ⟨rfl, hb3⟩
  have B3 := Lib.hid (below_then HB3.out HB3.out.size hb3)
  rw [decide_eq_true rfl]
  clear hb3
  go_wp2_with fail
  have C2 := Lib.hid (same_walk A2 (some ⟨w3.heap.size, 0, none⟩) q 1 c2 1 [1] [1] (w3.alloc (.cells #[.int .i64 1] 3)) ((R2.out.below B3.out).below (alloc_back _)) (reads_lit' w3 .i64 [1] 3 1 rfl (by decide)))
  have HB4 := Lib.hid (alloc_back (W := w3) (.cells #[.int .i64 1] 3))
  refine C2.out.mono ?_
  rintro e w4 ⟨rfl, hb4⟩
  have B4 := Lib.hid (below_then B3.out B3.out.size (below_then HB4.out HB4.out.size hb4))
  rw [decide_eq_true rfl]
  clear hb4
  go_wp2_with fail
  have H1 := Lib.hid (heard_walk w4 W.heap.size r mb 0 _ 1 20 (S2.out.below B4.out) (by decide) (by decide) (by decide))
  refine H1.out.mono ?_
  rintro e w5 ⟨rfl, hS5, hB5⟩
  have S5 := Lib.hid hS5; have B5 := Lib.hid (hB5 W (below_then B2.out B2.out.size B4.out))
  clear hS5 hB5
  rw [show otherB { newB 0 [0, 1] 5 20 with now := max (newB 0 [0, 1] 5 20).now 20, sent := max (newB 0 [0, 1] 5 20).now 20 } 1 = true by decide]
  go_wp2_with fail
  have H2 := Lib.hid (heard_walk w5 W.heap.size r mb 1 _ 0 20 S5.out (by decide) (by decide) (by decide))
  refine H2.out.mono ?_
  rintro e w6 ⟨rfl, hS6, hB6⟩
  have B6 := Lib.hid (hB6 W B5.out)
  clear hS6 hB6
  rw [show otherB (heardA { newB 0 [0, 1] 5 20 with now := max (newB 0 [0, 1] 5 20).now 20, sent := max (newB 0 [0, 1] 5 20).now 20 } 1 20) 0 = false by decide]
  go_wp2_with fail
  go_ret
  exact ⟨rfl, B6.out⟩
end Go.Proofs.Ythebddhldembhaa
