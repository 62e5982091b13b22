/- The walk of BeatKnown. -/
import Derived.Test.YthebddhldembhaaBeatD
set_option linter.unusedVariables false
set_option linter.unusedSimpArgs false
namespace Go.Proofs.Ythebddhldembhaa
open Go.RowKit Go.Proofs.YthebddhldembhaaW.PrintWords Go.Proofs.Ythebddhldembhaa.K

theorem new_bad (own : Int) (A : Option Addr) (n c : Nat) (l : List Int) (every span : Int) (w : World) (h : ReadsInt w .i64 A n l) (hb : goodM l = false ∨ own ∉ l ∨ (span < every ∧ 1 ≤ every ∧ every ≤ 1000)) :
    Calls Try.prog 7 #[.int .i64 own, .slice A n c, .int .i64 every, .int .i64 span] w fun e w' => e = .returned (.tuple #[.pointer none, .int .i64 1]) ∧ w = w' := by
  have HG := Lib.hid (good_walk A n c l w h)
  have HC := Lib.hid (contains_walk A n c l own w h)
  have HB := Lib.hid hb
  clear h hb
  by_cases q1 : goodM l = false
  · rw [q1] at HG
    clear q1
    go_enter Try.func7, Try.ntmps7
    go_wp2_with (go_at_call 12; with_reducible refine HG.out.mono ?_; rintro e w' ⟨rfl, rfl⟩)
    go_ret2
    exact ⟨rfl, rfl⟩
  · have q1' : goodM l = true := by simpa using q1
    have Q1 := Lib.hid q1
    rw [q1'] at HG
    clear q1 q1'
    by_cases q2 : own ∈ l
    · rw [decide_eq_true q2] at HC
      have hs : span < every ∧ 1 ≤ every ∧ every ≤ 1000 := by
        rcases HB.out with h | h | h
        · exact absurd h Q1.out
        · exact absurd q2 h
        · exact h
      obtain ⟨h1, h2, h3⟩ := hs
      clear q2
      go_enter Try.func7, Try.ntmps7
      go_wp2_with (first
        | (go_at_call 12; with_reducible refine HG.out.mono ?_; rintro e w' ⟨rfl, rfl⟩)
        | (go_at_call 13; with_reducible refine HC.out.mono ?_; rintro e w' ⟨rfl, rfl⟩))
      go_ret2
      exact ⟨rfl, rfl⟩
    · rw [decide_eq_false q2] at HC
      clear q2
      go_enter Try.func7, Try.ntmps7
      go_wp2_with (first
        | (go_at_call 12; with_reducible refine HG.out.mono ?_; rintro e w' ⟨rfl, rfl⟩)
        | (go_at_call 13; with_reducible refine HC.out.mono ?_; rintro e w' ⟨rfl, rfl⟩))
      go_ret2
      exact ⟨rfl, rfl⟩
theorem okK {now s : Int} {f : Int → Int} (h0 : 0 ≤ now) (h1 : now ≤ 1000000) (h2 : -1 ≤ s) (h3 : s ≤ now) (h4 : ∀ a, 0 ≤ f a ∧ f a ≤ now) : BeatOk ⟨0, [0, 3], 5, 20, now, f, s⟩ :=
  ⟨h0, h1, h2, h3, h4, by simp⟩
def f0 : Int → Int := fun _ => 0
def f3 : Int → Int := updI (fun _ => 0) 3 10
theorem f3_le (a : Int) : 0 ≤ f3 a ∧ f3 a ≤ 10 := by unfold f3 updI; split <;> simp
set_option maxRecDepth 100000 in
set_option maxHeartbeats 4000000 in
theorem known_walk (W : World) : Calls Try.prog 5 #[] W fun e w' => e = .returned (.bool true) ∧ Below W.heap.size W w' := by
  go_enter Try.func5, Try.ntmps5
  go_wp2_with fail
  refine (awake_walk W).mono ?_
  rintro e w0 ⟨rfl, hb0⟩
  have B0 := Lib.hid hb0; clear hb0
  go_wp2_with fail
  have C1 := Lib.hid (new_bad 2 (some ⟨w0.heap.size, 0, none⟩) 2 2 [0, 1] 5 20 (w0.alloc (.cells #[.int .i64 0, .int .i64 1] 3)) (reads_lit' w0 .i64 [0, 1] 3 2 rfl (by decide)) (by decide))
  have A1 := Lib.hid (alloc_back (W := w0) (.cells #[.int .i64 0, .int .i64 1] 3))
  refine C1.out.mono ?_
  rintro e w1 ⟨rfl, hw⟩
  have B1 := Lib.hid (below_then B0.out B0.out.size (hw ▸ A1.out))
  clear hw C1 A1
  go_wp2_with fail
  have C1 := Lib.hid (new_bad 0 (some ⟨w1.heap.size, 0, none⟩) 2 2 [1, 0] 5 20 (w1.alloc (.cells #[.int .i64 1, .int .i64 0] 3)) (reads_lit' w1 .i64 [1, 0] 3 2 rfl (by decide)) (by decide))
  have A1 := Lib.hid (alloc_back (W := w1) (.cells #[.int .i64 1, .int .i64 0] 3))
  refine C1.out.mono ?_
  rintro e w2 ⟨rfl, hw⟩
  have B2 := Lib.hid (below_then B1.out B1.out.size (hw ▸ A1.out))
  clear hw C1 A1
  go_wp2_with fail
  have C1 := Lib.hid (new_bad 0 (some ⟨w2.heap.size, 0, none⟩) 1 1 [0] 5 4 (w2.alloc (.cells #[.int .i64 0] 3)) (reads_lit' w2 .i64 [0] 3 1 rfl (by decide)) (by decide))
  have A1 := Lib.hid (alloc_back (W := w2) (.cells #[.int .i64 0] 3))
  refine C1.out.mono ?_
  rintro e w3 ⟨rfl, hw⟩
  have B3 := Lib.hid (below_then B2.out B2.out.size (hw ▸ A1.out))
  clear hw C1 A1
  go_wp2_with fail
  have C1 := Lib.hid (new_ok 0 (some ⟨w3.heap.size, 0, none⟩) 2 2 [0, 3] 5 20 (w3.alloc (.cells #[.int .i64 0, .int .i64 3] 3)) W.heap.size (Nat.le_trans B3.out.size (by simp)) (reads_lit' w3 .i64 [0, 3] 3 2 rfl (by decide)) (fun h => by cases h) (by decide) (by decide) (by decide) (by decide) (by decide) (by decide) (by decide))
  have A1 := Lib.hid (alloc_back (W := w3) (.cells #[.int .i64 0, .int .i64 3] 3))
  refine C1.out.mono ?_
  rintro e w4 ⟨r, mb, rfl, hS, hB⟩
  have S4 := Lib.hid (show BeatS w4 W.heap.size r mb 0 ⟨0, [0, 3], 5, 20, 0, f0, -1⟩ from hS); have B4 := Lib.hid (below_then B3.out B3.out.size (below_then A1.out A1.out.size hB))
  clear hS hB C1 A1
  go_wp2_with fail
  have C1 := Lib.hid (tick_send w4 W.heap.size r mb 0 _ 1 S4.out (okK (by decide) (by decide) (by decide) (by decide) (fun a => by simp [f0])) (by decide) (.inl (by decide)))
  refine C1.out.mono ?_
  rintro e w5 ⟨A1, p1, c1, A2, q1, c2, rfl, hr1, _, hr2, _, hS, hB⟩
  have S5 := Lib.hid (show BeatS w5 W.heap.size r mb 0 ⟨0, [0, 3], 5, 20, 1, f0, 1⟩ from hS); have B5 := Lib.hid (hB W B4.out)
  obtain rfl : p1 = 1 := hr1.1.symm
  obtain rfl : q1 = 0 := hr2.1.symm
  clear hS hB hr1 hr2 C1
  go_wp2_with fail
  have C1 := Lib.hid (tick_none w5 W.heap.size r mb 0 _ 5 S5.out (okK (by decide) (by decide) (by decide) (by decide) (fun a => by simp [f0])) (by decide) (by decide) (by decide))
  refine C1.out.mono ?_
  rintro e w6 ⟨A3, p3, c3, A4, q4, c4, rfl, hr1, _, hr2, _, hS, hB⟩
  have S6 := Lib.hid (show BeatS w6 W.heap.size r mb 0 ⟨0, [0, 3], 5, 20, 5, f0, 1⟩ from hS); have B6 := Lib.hid (hB W B5.out)
  obtain rfl : p3 = 0 := hr1.1.symm
  clear hS hB hr1 hr2 C1
  go_wp2_with fail
  have C1 := Lib.hid (tick_send w6 W.heap.size r mb 0 _ 6 S6.out (okK (by decide) (by decide) (by decide) (by decide) (fun a => by simp [f0])) (by decide) (.inr (by decide)))
  refine C1.out.mono ?_
  rintro e w7 ⟨A5, p5, c5, A6, q6, c6, rfl, hr1, _, hr2, _, hS, hB⟩
  have S7 := Lib.hid (show BeatS w7 W.heap.size r mb 0 ⟨0, [0, 3], 5, 20, 6, f0, 6⟩ from hS); have B7 := Lib.hid (hB W B6.out)
  obtain rfl : p5 = 1 := hr1.1.symm
  clear hS hB hr1 hr2 C1
  go_wp2_with fail
  have C1 := Lib.hid (heard_walk w7 W.heap.size r mb 0 _ 3 10 S7.out (by decide) (by decide) (by decide))
  refine C1.out.mono ?_
  rintro e w8 ⟨rfl, hS, hB⟩
  have S8 := Lib.hid (show BeatS w8 W.heap.size r mb 1 ⟨0, [0, 3], 5, 20, 10, f3, 6⟩ from hS); have B8 := Lib.hid (hB W B7.out)
  clear hS hB C1
  go_wp2_with fail
  have C1 := Lib.hid (tick_send w8 W.heap.size r mb 1 _ 29 S8.out (okK (by decide) (by decide) (by decide) (by decide) f3_le) (by decide) (.inr (by decide)))
  refine C1.out.mono ?_
  rintro e w9 ⟨A7, p7, c7, A8, q8, c8, rfl, hr1, _, hr2, _, hS, hB⟩
  have S9 := Lib.hid (show BeatS w9 W.heap.size r mb 1 ⟨0, [0, 3], 5, 20, 29, f3, 29⟩ from hS); have B9 := Lib.hid (hB W B8.out)
  obtain rfl : q8 = 0 := hr2.1.symm
  clear hS hB hr1 hr2 C1
  go_wp2_with fail
  have C1 := Lib.hid (tick_none w9 W.heap.size r mb 1 _ 30 S9.out (okK (by decide) (by decide) (by decide) (by decide) (fun a => by have := f3_le a; omega)) (by decide) (by decide) (by decide))
  refine C1.out.mono ?_
  rintro e w10 ⟨A9, p9, c9, A10, q10, c10, rfl, hr1, _, hr2, _, hS, hB⟩
  have S10 := Lib.hid (show BeatS w10 W.heap.size r mb 1 ⟨0, [0, 3], 5, 20, 30, f3, 29⟩ from hS); have B10 := Lib.hid (hB W B9.out)
  obtain rfl : q10 = 1 := hr2.1.symm
  clear hS hB hr1 hr2 C1
  go_wp2_with fail
  have C1 := Lib.hid (last_walk w10 W.heap.size r mb 1 _ 3 S10.out (by decide))
  refine C1.out.mono ?_
  rintro e w' ⟨rfl, rfl⟩
  rw [show lastV ⟨0, [0, 3], 5, 20, 30, f3, 29⟩ 3 = .tuple #[.int .i64 10, .bool true] by rfl]
  clear C1
  go_wp2_with fail
  have C1 := Lib.hid (last_walk w10 W.heap.size r mb 1 _ 0 S10.out (by decide))
  refine C1.out.mono ?_
  rintro e w' ⟨rfl, rfl⟩
  rw [show lastV ⟨0, [0, 3], 5, 20, 30, f3, 29⟩ 0 = .tuple #[.int .i64 0, .bool false] by rfl]
  clear C1
  go_wp2_with fail
  go_ret
  exact ⟨rfl, B10.out⟩
end Go.Proofs.Ythebddhldembhaa
