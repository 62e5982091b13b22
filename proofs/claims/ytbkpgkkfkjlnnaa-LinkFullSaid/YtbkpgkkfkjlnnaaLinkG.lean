/- The walk of LinkFull (printed by a program of mine, mklinkg.py). -/
import Derived.Test.YtbkpgkkfkjlnnaaLinkF
set_option linter.unusedVariables false
set_option linter.unusedSimpArgs false
namespace Go.Proofs.Ytbkpgkkfkjlnnaa
open Go.RowKit Go.Proofs.YtbkpgkkfkjlnnaaW.PrintWords Go.Proofs.Ytbkpgkkfkjlnnaa.K

/-- Fresh: none was sent. -/
def Fresh (L : List Sd) : Prop := ∀ p ∈ L, p.sent = false ∧ p.at_ = 0 ∧ p.xs = []
def NoughtAt (L : List Sd) : Prop := ∀ p ∈ L, p.at_ = 0 ∧ p.xs = []
theorem fresh_due {L : List Sd} (h : Fresh L) (m : Nat) : dueL 0 m L = L.take m := by
  unfold dueL
  rw [List.filter_eq_self]
  intro p hp
  have := (h p (List.mem_of_mem_take hp)).1
  simp [due, this]
theorem fresh_tick {L : List Sd} (h : Fresh L) (m : Nat) : tickL 0 m L = (L.take m).map (Sd.touch 0) ++ L.drop m := by
  unfold tickL
  congr 1
  apply List.map_congr_left
  intro p hp
  have := (h p (List.mem_of_mem_take hp)).1
  simp [tick1, due, this]
theorem tick_take {L : List Sd} {m : Nat} (hm : m ≤ L.length) : ((L.take m).map (Sd.touch 0) ++ L.drop m).take m = (L.take m).map (Sd.touch 0) := by
  rw [List.take_append_of_le_length (by simp; omega), List.take_of_length_le (by simp; omega)]
theorem tick_seven {L : List Sd} {m : Nat} (hm : m ≤ L.length) : dueL 7 m ((L.take m).map (Sd.touch 0) ++ L.drop m) = [] ∧ tickL 7 m ((L.take m).map (Sd.touch 0) ++ L.drop m) = (L.take m).map (Sd.touch 0) ++ L.drop m := by
  have hd : ∀ p ∈ (L.take m).map (Sd.touch 0), due 7 p = false := by
    intro p hp
    obtain ⟨q, _, rfl⟩ := List.mem_map.1 hp
    rfl
  refine ⟨?_, ?_⟩
  · unfold dueL
    rw [tick_take hm, List.filter_eq_nil_iff]
    intro p hp; rw [hd p hp]; decide
  · unfold tickL
    rw [tick_take hm]
    have e : ((L.take m).map (Sd.touch 0)).map (tick1 7) = (L.take m).map (Sd.touch 0) := by
      conv => rhs; rw [← List.map_id ((L.take m).map (Sd.touch 0))]
      apply List.map_congr_left
      intro p hp
      unfold tick1; rw [if_neg (by rw [hd p hp]; decide)]; rfl
    rw [e]
    congr 1
    rw [List.drop_append_of_le_length (by simp; omega), List.drop_of_length_le (by simp; omega), List.nil_append]
theorem tick_eight {L : List Sd} {m : Nat} (hm : m ≤ L.length) : (dueL 8 m ((L.take m).map (Sd.touch 0) ++ L.drop m)).length = m := by
  unfold dueL
  rw [tick_take hm, List.filter_eq_self.2 (by intro p hp; obtain ⟨q, _, rfl⟩ := List.mem_map.1 hp; rfl)]
  simp; omega
theorem nought_tick {L : List Sd} (h : NoughtAt L) (m : Nat) : NoughtAt ((L.take m).map (Sd.touch 0) ++ L.drop m) := by
  intro p hp
  rcases List.mem_append.1 hp with hp | hp
  · obtain ⟨q, hq, rfl⟩ := List.mem_map.1 hp
    exact ⟨rfl, (h q (List.mem_of_mem_take hq)).2⟩
  · exact h p (List.mem_of_mem_drop hp)
theorem nought_at {L : List Sd} (h : NoughtAt L) : ∀ p ∈ L, 0 ≤ p.at_ ∧ p.at_ ≤ 1000000 := fun p hp => by rw [(h p hp).1]; omega
theorem nought_xs {L : List Sd} (h : NoughtAt L) : ∀ p ∈ L, p.xs.length ≤ 500 := fun p hp => by rw [(h p hp).2]; simp
/-- The link behind i pushes. -/
structure FullS (W wr : World) (b i : Nat) (L : List Sd) : Prop where
  S : LkS wr b b 0 1 7 0 (min i 1024 : Nat) 0 1 L
  l : L.length = min i 1024
  f : Fresh L
  B : Below b W wr
theorem out_len {w : World} {base : Nat} {own peer view : Int} {V : Value} {n : Nat} {M L : List Sd} (h : OutS w base own peer view V n M) (he : M.map Sd.key = L.map Sd.key) : n = L.length := by
  rw [← h.l]; simpa using congrArg List.length he
set_option maxRecDepth 100000 in
set_option maxHeartbeats 8000000 in
theorem full_walk (W : World) (x : Int) (w0 : (Lit.int .i64 x).wf = true) : Calls Try.prog 3 #[.int .i64 x] W fun e w' => e = .returned (.bool true) ∧ Below W.heap.size W w' := by
  by_cases g0 : x < 0
  · go_enter Try.func3, Try.ntmps3
    go_wp2_with fail
    refine (awake_walk W).mono ?_
    rintro e wA ⟨rfl, hbA⟩
    go_wp2_with fail
    go_ret
    exact ⟨rfl, hbA⟩
  by_cases g1 : 1100 < x
  · go_enter Try.func3, Try.ntmps3
    go_wp2_with fail
    refine (awake_walk W).mono ?_
    rintro e wA ⟨rfl, hbA⟩
    go_wp2_with fail
    go_ret
    exact ⟨rfl, hbA⟩
  obtain ⟨n, rfl⟩ := Int.eq_ofNat_of_zero_le (show 0 ≤ x by omega)
  have hn : n ≤ 1100 := by omega
  go_enter Try.func3, Try.ntmps3
  go_wp2_with fail
  refine (awake_walk W).mono ?_
  rintro e wA ⟨rfl, hbA⟩
  have B0 := Lib.hid hbA; clear hbA
  go_wp2_with fail
  refine (new_ok 0 1 7 wA (by decide) (by decide) (by decide)).mono ?_
  rintro e w1 ⟨rfl, hw1⟩
  have F0 := Lib.hid (show FullS wA w1 wA.heap.size 0 [] from ⟨by rw [hw1]; exact lk_made wA wA.heap.size 0 1 7 (Nat.le_refl _), rfl, (fun p hp => by cases hp), by rw [hw1]; exact alloc_back _⟩)
  obtain ⟨b, hbb⟩ : ∃ b, b = wA.heap.size := ⟨_, rfl⟩
  have hb := Lib.hid (show ∀ (w' : World), Below b wA w' → Below wA.heap.size wA w' from by rw [hbb]; exact fun w' h => h)
  rw [← hbb] at F0
  rw [← hbb]
  clear hw1 hbb
  go_wp2_with fail
  go_loopw [5] (fun s5 wr => ∃ (i : Nat) (L : List Sd), i ≤ n ∧ s5 = .int .i64 i ∧ Aside0 (FullS wA wr b i L)) (fun s5 _ => n - (intOf s5).toNat)
  case atStart => exact ⟨0, [], Nat.zero_le _, rfl, ⟨F0.out⟩⟩
  case round =>
    obtain ⟨i, L, hi, rfl, HK⟩ := hrel
    have HF := Lib.hid HK.out
    by_cases hlt : i < n
    · by_cases hq : i < 1024
      · have hl := HF.out.l
        have e1 : min i 1024 = i := by omega
        have C := Lib.hid (push_ok b b 0 1 7 0 ((min i 1024 : Nat) : Int) 0 1 L 5 0 0 0 0 none 0 0 [] wr HF.out.S (reads_nil _ _) (fun _ => rfl) (by decide) (by decide) (by decide) (by decide) (by omega) (by omega))
        have hq2 : (i : Int) < 1024 := by omega
        clear hl
        go_wp2_with fail
        refine C.out.mono ?_
        rintro e w2 ⟨A1, c1, rfl, hS, hB⟩
        have F2 := Lib.hid (show FullS wA w2 b (i + 1) (L ++ [⟨5, ((min i 1024 : Nat) : Int) + 1, A1, c1, [], false, 0⟩]) from ⟨by rw [show ((min (i + 1) 1024 : Nat) : Int) = ((min i 1024 : Nat) : Int) + 1 by omega]; exact hS, by rw [List.length_append, HF.out.l]; simp; omega, (fun p hp => by
          rcases List.mem_append.1 hp with hp | hp
          · exact HF.out.f p hp
          · obtain rfl := List.mem_singleton.1 hp; exact ⟨rfl, rfl, rfl⟩), hB _ HF.out.B⟩)
        clear hS hB
        go_wp2_with fail
        go_roundw
        case rel => exact ⟨i + 1, _, by omega, by go_num, ⟨F2.out⟩⟩
        case measure => simp [intOf]; omega
      · have hl := HF.out.l
        have C := Lib.hid (push_full b b 0 1 7 0 ((min i 1024 : Nat) : Int) 0 1 L 5 0 0 0 0 none 0 0 [] wr HF.out.S (reads_nil _ _) (fun _ => rfl) (by decide) (by decide) (by decide) (by decide) (by omega))
        have hq2 : ¬ (i : Int) < 1024 := by omega
        clear hl
        go_wp2_with fail
        refine C.out.mono ?_
        rintro e w2 ⟨rfl, hS, hB⟩
        have F2 := Lib.hid (show FullS wA w2 b (i + 1) L from ⟨by rw [show min (i + 1) 1024 = min i 1024 by omega]; exact hS, by rw [HF.out.l]; omega, HF.out.f, hB _ HF.out.B⟩)
        clear hS hB
        go_wp2_with fail
        go_roundw
        case rel => exact ⟨i + 1, _, by omega, by go_num, ⟨F2.out⟩⟩
        case measure => simp [intOf]; omega
    · obtain rfl : i = n := by omega
      have HN := Lib.hid (show NoughtAt L from fun p hp => (HF.out.f p hp).2)
      have hl := HF.out.l
      by_cases h32 : 32 < i
      · obtain ⟨m, hm⟩ : ∃ m, m = 32 := ⟨_, rfl⟩
        by_cases h1024 : i ≤ 1024
        · have q1 : (i : Int) ≤ 1024 := by omega
          have T1 := Lib.hid (tick_ok b b 0 1 7 0 ((min i 1024 : Nat) : Int) 0 1 L 0 wr HF.out.S (by omega) (by decide) (by decide) (nought_at HN.out) (nought_xs HN.out) 0 rfl m (by omega))
          go_wp2_with fail
          refine T1.out.mono ?_
          rintro e w2 ⟨A2, k2, c2, M2, rfl, hT2⟩
          obtain rfl : k2 = m := by rw [out_len hT2.o hT2.e, fresh_due HF.out.f, List.length_take]; omega
          have S2 := hT2.S
          rw [fresh_tick HF.out.f] at S2
          have B2 := Lib.hid (hT2.B _ HF.out.B)
          have T2 := Lib.hid (tick_ok b b 0 1 7 0 _ _ 1 _ 7 w2 S2 (by simp; omega) (by decide) (by decide) (nought_at (nought_tick HN.out k2)) (nought_xs (nought_tick HN.out k2)) 7 rfl k2 (by simp; omega))
          clear hT2 S2 T1
          go_wp2_with fail
          refine T2.out.mono ?_
          rintro e w3 ⟨A3, k3, c3, M3, rfl, hT3⟩
          obtain rfl : k3 = 0 := by rw [out_len hT3.o hT3.e, (tick_seven (L := L) (m := k2) (by omega)).1]; rfl
          have S3 := hT3.S
          rw [(tick_seven (L := L) (m := k2) (by omega)).2] at S3
          have B3 := Lib.hid (hT3.B _ B2.out)
          have T3 := Lib.hid (tick_ok b b 0 1 7 7 _ _ 1 _ 8 w3 S3 (by simp; omega) (by decide) (by decide) (nought_at (nought_tick HN.out k2)) (nought_xs (nought_tick HN.out k2)) 8 rfl k2 (by simp; omega))
          clear hT3 S3 T2
          go_wp2_with fail
          refine T3.out.mono ?_
          rintro e w4 ⟨A4, k4, c4, M4, rfl, hT4⟩
          obtain rfl : k4 = k2 := by rw [out_len hT4.o hT4.e, tick_eight (by omega)]
          obtain ⟨A5, c5, hc5, -⟩ := hT4.S.cl
          have hl5 : (tickL 8 k4 ((L.take k4).map (Sd.touch 0) ++ L.drop k4)).length = i := by rw [tickL_len]; simp; omega
          rw [hl5] at hc5
          have C5 := Lib.hid (waiting_walk w4 b 0 1 7 8 A5 i c5 _ _ 1 _ hc5)
          have B4 := Lib.hid (hT4.B _ B3.out)
          clear hT4 hc5 hl5 T3
          go_wp2_with fail
          refine C5.out.mono ?_
          rintro e w' ⟨rfl, rfl⟩
          go_wp2_with fail
          go_ret
          exact ⟨by first | rfl | simp, below_then B0.out B0.out.size (hb.out _ B4.out)⟩
        · have q1 : ¬ (i : Int) ≤ 1024 := by omega
          have q2 : (1024 : Int) < (i : Int) := by omega
          have T1 := Lib.hid (tick_ok b b 0 1 7 0 ((min i 1024 : Nat) : Int) 0 1 L 0 wr HF.out.S (by omega) (by decide) (by decide) (nought_at HN.out) (nought_xs HN.out) 0 rfl m (by omega))
          go_wp2_with fail
          refine T1.out.mono ?_
          rintro e w2 ⟨A2, k2, c2, M2, rfl, hT2⟩
          obtain rfl : k2 = m := by rw [out_len hT2.o hT2.e, fresh_due HF.out.f, List.length_take]; omega
          have S2 := hT2.S
          rw [fresh_tick HF.out.f] at S2
          have B2 := Lib.hid (hT2.B _ HF.out.B)
          have T2 := Lib.hid (tick_ok b b 0 1 7 0 _ _ 1 _ 7 w2 S2 (by simp; omega) (by decide) (by decide) (nought_at (nought_tick HN.out k2)) (nought_xs (nought_tick HN.out k2)) 7 rfl k2 (by simp; omega))
          clear hT2 S2 T1
          go_wp2_with fail
          refine T2.out.mono ?_
          rintro e w3 ⟨A3, k3, c3, M3, rfl, hT3⟩
          obtain rfl : k3 = 0 := by rw [out_len hT3.o hT3.e, (tick_seven (L := L) (m := k2) (by omega)).1]; rfl
          have S3 := hT3.S
          rw [(tick_seven (L := L) (m := k2) (by omega)).2] at S3
          have B3 := Lib.hid (hT3.B _ B2.out)
          have T3 := Lib.hid (tick_ok b b 0 1 7 7 _ _ 1 _ 8 w3 S3 (by simp; omega) (by decide) (by decide) (nought_at (nought_tick HN.out k2)) (nought_xs (nought_tick HN.out k2)) 8 rfl k2 (by simp; omega))
          clear hT3 S3 T2
          go_wp2_with fail
          refine T3.out.mono ?_
          rintro e w4 ⟨A4, k4, c4, M4, rfl, hT4⟩
          obtain rfl : k4 = k2 := by rw [out_len hT4.o hT4.e, tick_eight (by omega)]
          obtain ⟨A5, c5, hc5, -⟩ := hT4.S.cl
          have hl5 : (tickL 8 k4 ((L.take k4).map (Sd.touch 0) ++ L.drop k4)).length = 1024 := by rw [tickL_len]; simp; omega
          rw [hl5] at hc5
          have C5 := Lib.hid (waiting_walk w4 b 0 1 7 8 A5 1024 c5 _ _ 1 _ hc5)
          have B4 := Lib.hid (hT4.B _ B3.out)
          clear hT4 hc5 hl5 T3
          go_wp2_with fail
          refine C5.out.mono ?_
          rintro e w' ⟨rfl, rfl⟩
          go_wp2_with fail
          go_ret
          exact ⟨by first | rfl | simp, below_then B0.out B0.out.size (hb.out _ B4.out)⟩
      · obtain ⟨m, hm⟩ : ∃ m, m = i := ⟨_, rfl⟩
        have q1 : (i : Int) ≤ 1024 := by omega
        have T1 := Lib.hid (tick_ok b b 0 1 7 0 ((min i 1024 : Nat) : Int) 0 1 L 0 wr HF.out.S (by omega) (by decide) (by decide) (nought_at HN.out) (nought_xs HN.out) 0 rfl m (by omega))
        go_wp2_with fail
        refine T1.out.mono ?_
        rintro e w2 ⟨A2, k2, c2, M2, rfl, hT2⟩
        obtain rfl : k2 = m := by rw [out_len hT2.o hT2.e, fresh_due HF.out.f, List.length_take]; omega
        have S2 := hT2.S
        rw [fresh_tick HF.out.f] at S2
        have B2 := Lib.hid (hT2.B _ HF.out.B)
        have T2 := Lib.hid (tick_ok b b 0 1 7 0 _ _ 1 _ 7 w2 S2 (by simp; omega) (by decide) (by decide) (nought_at (nought_tick HN.out k2)) (nought_xs (nought_tick HN.out k2)) 7 rfl k2 (by simp; omega))
        clear hT2 S2 T1
        go_wp2_with fail
        refine T2.out.mono ?_
        rintro e w3 ⟨A3, k3, c3, M3, rfl, hT3⟩
        obtain rfl : k3 = 0 := by rw [out_len hT3.o hT3.e, (tick_seven (L := L) (m := k2) (by omega)).1]; rfl
        have S3 := hT3.S
        rw [(tick_seven (L := L) (m := k2) (by omega)).2] at S3
        have B3 := Lib.hid (hT3.B _ B2.out)
        have T3 := Lib.hid (tick_ok b b 0 1 7 7 _ _ 1 _ 8 w3 S3 (by simp; omega) (by decide) (by decide) (nought_at (nought_tick HN.out k2)) (nought_xs (nought_tick HN.out k2)) 8 rfl k2 (by simp; omega))
        clear hT3 S3 T2
        go_wp2_with fail
        refine T3.out.mono ?_
        rintro e w4 ⟨A4, k4, c4, M4, rfl, hT4⟩
        obtain rfl : k4 = k2 := by rw [out_len hT4.o hT4.e, tick_eight (by omega)]
        obtain ⟨A5, c5, hc5, -⟩ := hT4.S.cl
        have hl5 : (tickL 8 k4 ((L.take k4).map (Sd.touch 0) ++ L.drop k4)).length = i := by rw [tickL_len]; simp; omega
        rw [hl5] at hc5
        have C5 := Lib.hid (waiting_walk w4 b 0 1 7 8 A5 i c5 _ _ 1 _ hc5)
        have B4 := Lib.hid (hT4.B _ B3.out)
        clear hT4 hc5 hl5 T3
        go_wp2_with fail
        refine C5.out.mono ?_
        rintro e w' ⟨rfl, rfl⟩
        go_wp2_with fail
        go_ret
        exact ⟨by first | rfl | simp, below_then B0.out B0.out.size (hb.out _ B4.out)⟩
end Go.Proofs.Ytbkpgkkfkjlnnaa
