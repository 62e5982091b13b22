/- The walk of DataKnown. -/
import Derived.Test.YtnldflbnngealaaPDataSaysx2
import Derived.Test.YtnldflbnngealaaK
set_option linter.unusedVariables false
set_option linter.unusedSimpArgs false
namespace Go.Proofs.Ytnldflbnngealaa
open Go.RowKit Go.Proofs.YtnldflbnngealaaW.PrintWords Go.Proofs.Ytnldflbnngealaa.K Go.Proofs.Ytnldflbnngealaa.PDataSays Go.Proofs.YtnldflbnngealaaW.PrintLast

theorem c_of {w : World} {A : Option Addr} {n : Nat} {xs : List Int} (h : ReadsInt w .i64 A n xs) : Kd.C (Kd.int .i64) w A n xs := by
  refine ⟨h.1, h.2.1, fun hp => ?_⟩
  obtain ⟨ad, e, hc⟩ := h.2.2 hp
  refine ⟨ad, e, fun j p hj => ⟨[.int .i64 p], rfl, rfl, fun i u hu => ?_⟩⟩
  have hj' : j < n := by rw [← h.1]; exact (List.getElem?_eq_some_iff.1 hj).1
  cases i with
  | zero =>
    simp only [List.getElem?_cons_zero, Option.some.injEq] at hu
    subst hu
    have := hc j hj'
    rw [List.getD_eq_getElem?_getD, hj] at this
    show w.cell? (ad.add (j * 1 + 0)) = _
    simpa using this
  | succ i => simp at hu
theorem len_of {w : World} {base : Nat} {v : Value} {xs : List Int} (h : Kd.R (Kd.int .i64) 3 w base (fun _ => True) v xs) : ∃ A c, v = .slice A xs.length c := Kd.R_slice h
set_option maxHeartbeats 4000000 in
theorem known_walk (w : World) : Calls Try.prog 3 #[] w fun e w' => e = .returned (.bool true) ∧ Below w.heap.size w w' := by
  go_enter Try.func3, Try.ntmps3
  go_wp2_with fail
  refine (carousellaw16_awake.calls 12 true w (by decide +kernel)).mono ?_
  rintro e w1 ⟨rfl, hb⟩
  go_wp2_with fail
  refine (data_Batch.calls 12 0 1 0 [] 1 w1 (by decide +kernel)).mono ?_
  rintro e w2 ⟨v2, rfl, -, hb2⟩
  have hb2 := below_then hb hb.size hb2
  go_wp2_with fail
  refine (data_Batch.calls 12 5 6 0 [] 1 w2 (by decide +kernel)).mono ?_
  rintro e w3 ⟨v3, rfl, -, hb3⟩
  have hb3 := below_then hb2 hb2.size hb3
  go_wp2_with fail
  refine (data_Batch.calls 12 5 1 (-1) [] 1 w3 (by decide +kernel)).mono ?_
  rintro e w4 ⟨v4, rfl, -, hb4⟩
  have hb4 := below_then hb3 hb3.size hb4
  go_wp2_with fail
  have hb4 := hb4.alloc hb4.size (.cells #[.int .i64 1] 3)
  refine (data_Shard.calls 12 none 0 [] _ 1 [1] 2 [] 1 _ (Kd.C_nil _ _) (by simp) (c_of (reads_lit w4 .i64 [1] 3 (0, 0) 1 rfl (by decide))) (by simp) (by decide +kernel)).mono ?_
  rintro e w5 ⟨v5, rfl, -, hb5⟩
  have hb5 := below_then hb4 hb4.size hb5
  go_wp2_with fail
  have hb5 := hb5.alloc hb5.size (.cells #[.int .i64 3, .int .i64 1] 3)
  refine (data_Shard.calls 12 none 0 [] _ 2 [3, 1] 1 [] 1 _ (Kd.C_nil _ _) (by simp) (c_of (reads_lit w5 .i64 [3, 1] 3 (0, 0) 2 rfl (by decide))) (by simp) (by decide +kernel)).mono ?_
  rintro e w6 ⟨v6, rfl, -, hb6⟩
  have hb6 := below_then hb5 hb5.size hb6
  go_wp2_with fail
  refine (data_Batch.calls 12 3 3 4611686018427387904 [0, 1, 2] 0 w6 (by decide +kernel)).mono ?_
  rintro e w7 ⟨v7, rfl, hx, hb7⟩
  have hb7 := below_then hb6 hb6.size hb7
  obtain ⟨A, c, rfl⟩ := len_of hx
  clear hx
  go_wp2_with fail
  refine (data_Good.calls 12 none 0 [] false w7 (Kd.C_nil _ _) (by simp) (by decide +kernel)).mono ?_
  rintro e w8 ⟨rfl, hd⟩
  have hb8 := below_then hb7 hb7.size hd.below
  go_wp2_with fail
  have hb8 := hb8.alloc hb8.size (.cells #[.int .i64 16] 3)
  refine (data_Good.calls 12 _ 1 [16] false _ (c_of (reads_lit w8 .i64 [16] 3 (0, 0) 1 rfl (by decide))) (by simp) (by decide +kernel)).mono ?_
  rintro e w9 ⟨rfl, hd9⟩
  have hb9 := below_then hb8 hb8.size hd9.below
  go_wp2_with fail
  have hb9 := hb9.alloc hb9.size (.cells #[.int .i64 1, .int .i64 1] 3)
  refine (data_Good.calls 12 _ 2 [1, 1] false _ (c_of (reads_lit w9 .i64 [1, 1] 3 (0, 0) 2 rfl (by decide))) (by simp) (by decide +kernel)).mono ?_
  rintro e w10 ⟨rfl, hd10⟩
  have hb10 := below_then hb9 hb9.size hd10.below
  go_wp2_with fail
  go_ret
  exact ⟨rfl, hb10⟩
end Go.Proofs.Ytnldflbnngealaa
