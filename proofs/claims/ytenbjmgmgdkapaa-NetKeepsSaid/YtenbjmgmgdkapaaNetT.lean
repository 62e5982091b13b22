/- The walk of NetKeeps. -/
import Derived.Test.YtenbjmgmgdkapaaNetS
import Derived.StillTailTactics
set_option linter.unusedVariables false
set_option linter.unusedSimpArgs false
namespace Go.Proofs.Ytenbjmgmgdkapaa
open Go.RowKit Go.Proofs.YtenbjmgmgdkapaaW.PrintWords Go.Proofs.Ytenbjmgmgdkapaa.K

/-- A store into a row of bytes that is no packet's. -/
theorem NetS.byte {w w' : World} {base r mb N : Nat} {room : Int} {n : Nat} {f : Nat → Nat → Bool} {L : List Pk} {cs : Array Value} (h : NetS w base r mb room n f L) (hN : w.heap[N]? = some (.cells cs 5 (0, 0))) (hne : ∀ p ∈ L, p.val.ownBlock = none ∨ p.val.ownBlock ≠ some N) (hg : w.grownBy w' (some N)) : NetS w' base r mb room n f L := by
  obtain ⟨A, c, h1, h2⟩ := h.cl
  refine ⟨⟨A, c, ?_, own_other h2 hg (box_ne hN h2 (by decide))⟩, fun p hp => own_other (h.bd p hp) hg (hne p hp), h.ap, ?_, h.br, h.bm, h.ne, Nat.le_trans h.bw hg.size⟩
  · have hr : r ≠ N := by
      intro e
      unfold NetC at h1
      rw [e, hN] at h1; injection h1 with h1; injection h1 with _ h1; exact absurd h1 (by decide)
    unfold NetC at h1 ⊢
    exact (hg.block r (lt_of_heap h1) (fun e => hr (by injection e))).trans h1
  · refine h.cu.kept hg (fun e => ?_)
    injection e with e
    obtain ⟨D, ⟨es, clock, e1, _⟩, _⟩ := h.cu
    rw [e, hN] at e1; cases e1
theorem own_hi {w : World} {base n : Nat} {e : TypeId} {v : Value} {xs : List Value} {N : Nat} (h : w.ownsRow base e 1 v n xs) (hN : N < base) : v.ownBlock = none ∨ v.ownBlock ≠ some N := by
  rcases h.2 with ⟨rfl, _⟩ | ⟨g, cap, cur, rfl, hb, _⟩
  · exact .inl rfl
  · refine .inr fun e => ?_
    have : g = N := by simpa [Value.ownBlock] using e
    omega
theorem own_lo {w : World} {base n : Nat} {e : TypeId} {v : Value} {xs : List Value} {N : Nat} (h : w.ownsRow base e 1 v n xs) (hN : w.heap.size ≤ N) : v.ownBlock = none ∨ v.ownBlock ≠ some N := by
  rcases h.2 with ⟨rfl, _⟩ | ⟨g, cap, cur, rfl, hb, hh, _⟩
  · exact .inl rfl
  · refine .inr fun e => ?_
    have : g = N := by simpa [Value.ownBlock] using e
    have := lt_of_heap hh
    omega
theorem own_blk {w : World} {base n c g : Nat} {e : TypeId} {m : Nat} {xs : List Value} (h : w.ownsRow base e 1 (.slice (some ⟨g, 0, none⟩) m c) n xs) : ∃ cs, w.heap[g]? = some (.cells cs e (0, 0)) := by
  rcases h.2 with ⟨h1, _⟩ | ⟨g', cap, cur, h1, _, hh, _⟩
  · cases h1
  · injection h1 with h1; injection h1 with h1; injection h1 with h1
    rw [h1]; exact ⟨cur, hh⟩
set_option maxRecDepth 100000 in
set_option maxHeartbeats 4000000 in
theorem keeps_walk (W : World) (A : Option Addr) (n c : Nat) (xs : List Int) (hr : ReadsInt W .u8 A n xs) (hz : ∀ x ∈ xs, (Lit.int .u8 x).wf = true) (hc : n ≤ c) (hy : n * 1 ≤ 140737488351232) :
    Calls Try.prog 5 #[.slice A n c] W fun e w' => e = .returned (.bool true) ∧ Below W.heap.size W w' := by
  have HR := Lib.hid hr
  clear hr hz hc
  by_cases g0 : n < 1
  · go_enter Try.func5, Try.ntmps5
    go_wp2_with fail
    refine (awake_walk W).mono ?_
    rintro e w0 ⟨rfl, hb0⟩
    go_wp2_with fail
    go_ret
    exact ⟨rfl, hb0⟩
  by_cases g1 : 200 < n
  · go_enter Try.func5, Try.ntmps5
    go_wp2_with fail
    refine (awake_walk W).mono ?_
    rintro e w0 ⟨rfl, hb0⟩
    go_wp2_with fail
    go_ret
    exact ⟨rfl, hb0⟩
  go_enter Try.func5, Try.ntmps5
  go_wp2_with fail
  refine (awake_walk W).mono ?_
  rintro e w0 ⟨rfl, hb0⟩
  have B0 := Lib.hid hb0; clear hb0
  go_wp2_with fail
  have C1 := Lib.hid (new_ok 4 w0 (by decide) (by decide))
  have S0 := Lib.hid (net_made w0 w0.heap.size 4 (Nat.le_refl _))
  have HB0 : ∀ o o' : Obj, Below w0.heap.size w0 ((w0.alloc o).alloc o') := fun o o' => alloc_back2 o o'
  have HB := Lib.hid HB0; clear HB0
  refine C1.out.mono ?_
  rintro e w1 ⟨rfl, hw1⟩
  have S1 := Lib.hid (show NetS w1 w0.heap.size (w0.heap.size + 1) w0.heap.size 4 0 (fun _ _ => false) [] by rw [hw1]; exact S0.out)
  have B1 := Lib.hid (show Below w0.heap.size w0 w1 by rw [hw1]; exact HB.out _ _)
  clear hw1
  go_wp2_with (first | (at_builtin; refine K.app_row (w0 := w1) w1.heap.size rfl (.tmp 24) (.tmp 25) 28 5 .u8 1 rfl Try.underlying28 (by kernel_rfl) (by decide) _ [] xs _ _ _ rfl rfl (own_lit _ _ 5 .u8 [] (Nat.le_refl _) (by decide)) (HR.out.below (below_then B0.out B0.out.size (below_then B1.out B1.out.size (alloc_back _)))) (alloc_back _) (by simp) (by simp; omega) n HR.out.1 ?_; intro A2 c2 w2 hown hB1 _; have O2 := Lib.hid hown; have B2 := Lib.hid hB1; clear hown hB1))
  obtain ⟨g, cap, e, hgb, hgl⟩ := O2.out.form (by omega)
  injection e with e1 e2 e3
  subst e1 e3
  have S2 := Lib.hid (S1.out.below B2.out)
  refine (send_own w0.heap.size (w0.heap.size + 1) w0.heap.size 4 0 (fun _ _ => false) [] 0 0 (some ⟨g, 0, none⟩) n c2 xs w2 (by decide) (by decide) (by omega) S2.out (own_info O2.out).2.2.2.1 (fun h => by cases h) rfl (by decide) (by decide)).mono ?_
  rintro e w3 ⟨A3, c3, rfl, hS3, hB3, hK3, hO3⟩
  have S3 := Lib.hid hS3; have B3 := Lib.hid hB3; have O3 := Lib.hid (own_far O2.out hK3); have F3 := Lib.hid hO3
  clear hS3 hB3 hK3 hO3
  go_wp2_with fail
  have hxl := HR.out.1
  have HXL := Lib.hid hxl
  have C4 := Lib.hid (copy_ok w0.heap.size (w0.heap.size + 1) w0.heap.size 4 0 (fun _ _ => false) _ 0 ⟨0, 0, A3, c3, xs, false⟩ w3 S3.out rfl (by show xs.length ≤ 32768; omega) (by simp) (by decide))
  clear hxl
  refine C4.out.mono ?_
  rintro e w4 ⟨A4, c4, rfl, hS4, hB4, hK4, hO4⟩
  have S4 := Lib.hid hS4; have B4 := Lib.hid hB4; have O4 := Lib.hid (own_far O3.out hK4); have F4 := Lib.hid hO4
  clear hS4 hB4 hK4 hO4
  obtain ⟨f1, f2⟩ := own_at O4.out 0 (Int.le_refl _) (by omega)
  simp only [Int.toNat_zero] at f1 f2
  have hg0 : (0 : Int) < (n : Int) := by omega
  have hg1 : 0 < n := by omega
  obtain ⟨cs4, hcs4⟩ := own_blk O4.out
  have hne : ∀ p ∈ ([] ++ [(⟨0, 0, A3, c3, xs, false⟩ : Pk)] ++ [⟨0, 0, A4, c4, xs, false⟩]), p.val.ownBlock = none ∨ p.val.ownBlock ≠ some g := by
    intro p hp
    simp only [List.nil_append, List.cons_append, List.mem_cons, List.not_mem_nil, or_false] at hp
    have h3 := own_hi F3.out hgl
    have h4 := own_hi F4.out (Nat.lt_of_lt_of_le hgl (B3.out w2 (Below.refl _ _ |>.mono S2.out.bw)).size)
    rcases hp with rfl | rfl
    · have h5 : (Value.slice A3 xs.length c3).ownBlock = none ∨ (Value.slice A3 xs.length c3).ownBlock ≠ some g := by rw [HXL.out]; exact h3
      exact h5
    · exact h4
  have S5 := fun v => S4.out.byte hcs4 hne (grown_set (w := w4) (r := g) (j := 0) v)
  have HS5 := Lib.hid S5; have HN4 := Lib.hid hcs4; have HG := Lib.hid (And.intro hgb hgl)
  clear S5 hcs4 hne hgb hgl
  go_wp2_with fail
  obtain ⟨w5, hw5⟩ : ∃ w5, w5 = w4.setCell ⟨g, 0, none⟩ (.int .u8 (bits .xor .u8 (rd xs 0) 1)) := ⟨_, rfl⟩
  have S5 := Lib.hid (show NetS w5 w0.heap.size (w0.heap.size + 1) w0.heap.size 4 0 (fun _ _ => false) _ by rw [hw5]; exact HS5.out _)
  have B5 := Lib.hid (show Below w0.heap.size w0 w5 by
    rw [hw5]
    have b4 := B4.out w0 (B3.out w0 (below_then B1.out B1.out.size B2.out))
    exact bset' b4 (Nat.le_trans B1.out.size HG.out.1) b4.size)
  rw [← hw5]
  clear hw5 f1 f2 hg0 hg1
  refine (at_own w0.heap.size (w0.heap.size + 1) w0.heap.size 4 0 (fun _ _ => false) _ 0 ⟨0, 0, A3, c3, xs, false⟩ w5 S5.out rfl (by simp) (by show xs.length ≤ 32768; rw [HXL.out]; omega)).mono ?_
  rintro e w6 ⟨A6, c6, rfl, ho6, hb6⟩
  have ho6' : w6.ownsRow (w5.heap.size + 1) 5 1 (.slice A6 n c6) n (nums .u8 xs) := by have := ho6; simp only [HXL.out] at this; exact this
  obtain ⟨g6, cap, e, hgb, hgl⟩ := ho6'.form (by omega)
  injection e with e1 e2 e3
  subst e1 e3
  obtain ⟨w7, hw7⟩ : ∃ w7, w7 = w6.alloc (.cells #[.int .i64 0, .int .i64 0, .slice (some ⟨g6, 0, none⟩) n c6] 30) := ⟨_, rfl⟩
  have hb7 : Below w6.heap.size w6 w7 := by rw [hw7]; exact alloc_back _
  have q7 : w7.heap[w6.heap.size]? = some (.cells #[.int .i64 0, .int .i64 0, .slice (some ⟨g6, 0, none⟩) n c6] 30 (0, 0)) := by rw [hw7]; exact heap_alloc_new _ _
  have hw7' : w6.alloc (.cells #[.int .i64 0, .int .i64 0, .slice (some ⟨g6, 0, none⟩) xs.length c6] 30) = w7 := by rw [hw7, HXL.out]
  have HW7 := Lib.hid hw7'
  have O7 := Lib.hid (pw_own_below ho6' hb7)
  have S7 := Lib.hid ((S5.out.below hb6).below hb7)
  have S56 := Lib.hid hb6
  have B7 := Lib.hid (below_then B5.out B5.out.size (below_then hb6 hb6.size hb7))
  have HG6 := Lib.hid (And.intro hgb hgl)
  obtain ⟨z0, z1, z2⟩ := box3 q7
  obtain ⟨f1, f2⟩ := own_at O7.out 0 (Int.le_refl _) (by omega)
  simp only [Int.toNat_zero] at f1 f2
  have hg0 : (0 : Int) < (n : Int) := by omega
  have hg1 : 0 < n := by omega
  clear ho6 ho6' hb6 hb7 hw7 hw7' q7 hgb hgl
  go_wp2_with fail
  rw [HW7.out]
  go_still_tail 8, (by kernel_rfl)
  change wpList _ _ _ _ _ w7.drew
  obtain ⟨w8, hw8⟩ : ∃ w8, w8 = w7.drew := ⟨_, rfl⟩
  rw [← hw8]
  have d1 : w8.cell? ⟨g6, 0, none⟩ = some (.int .u8 (rd xs 0)) := by rw [hw8]; exact f1
  have d2 : w8.frozen? ⟨g6, 0, none⟩ = false := by rw [hw8]; exact f2
  have d0 : w8.cell? ⟨w6.heap.size, 2, none⟩ = some (.slice (some ⟨g6, 0, none⟩) n c6) := by rw [hw8]; exact z2
  have B8 := Lib.hid (show Below w0.heap.size w0 w8 by rw [hw8]; exact below_drew B7.out)
  have O8 := Lib.hid (show w8.ownsRow (w5.heap.size + 1) 5 1 (.slice (some ⟨g6, 0, none⟩) n c6) n (nums .u8 xs) by rw [hw8]; exact pw_own_below O7.out (below_drew (Below.refl _ _)))
  have S8 := Lib.hid (show NetS w8 w0.heap.size (w0.heap.size + 1) w0.heap.size 4 0 (fun _ _ => false) _ by rw [hw8]; exact S7.out.below (below_drew (Below.refl _ _)))
  clear hw8 z0 z1 z2 f1 f2
  have S9 := Lib.hid (fun v => (by
    obtain ⟨cs, hcs⟩ := own_blk O8.out
    exact S8.out.byte hcs (fun p hp => own_lo (S5.out.bd p hp) (Nat.le_trans (Nat.le_succ _) HG6.out.1)) (grown_set _)) : ∀ v, NetS (w8.setCell ⟨g6, 0, none⟩ v) w0.heap.size (w0.heap.size + 1) w0.heap.size 4 0 (fun _ _ => false) _)
  have B9 := Lib.hid (fun v => bset' B8.out (Nat.le_trans B5.out.size (Nat.le_trans (Nat.le_succ _) HG6.out.1)) B8.out.size : ∀ v, Below w0.heap.size w0 (w8.setCell ⟨g6, 0, none⟩ v))
  go_wp2_with fail
  clear d0 d1 d2 hg0 hg1
  have C9 := Lib.hid (spoil_ok w0.heap.size (w0.heap.size + 1) w0.heap.size 4 0 (fun _ _ => false) _ 1 0 4 ⟨0, 0, A4, c4, xs, false⟩ _ (S9.out (.int .u8 (bits .xor .u8 (rd xs 0) 2))) rfl (by simp) (by show xs.length ≤ 32768; rw [HXL.out]; omega) (by show 0 < xs.length; rw [HXL.out]; omega) (by decide) rfl)
  refine C9.out.mono ?_
  rintro e w10 ⟨rfl, hS10, hB10⟩
  have S10 := Lib.hid hS10; have B10 := Lib.hid (hB10 w0 (B9.out _))
  clear hS10 hB10
  go_wp2_with fail
  have C11 := Lib.hid (take_ok w0.heap.size (w0.heap.size + 1) w0.heap.size 4 0 (fun _ _ => false) _ 0 ⟨0, 0, A3, c3, xs, false⟩ w10 S10.out rfl (by simp) (by show xs.length ≤ 32768; rw [HXL.out]; omega))
  refine C11.out.mono ?_
  rintro e w11 ⟨A11, c11, rfl, hr11, hS11, hB11⟩
  have B11 := Lib.hid (hB11 w0 B10.out)
  have BZ := Lib.hid (below_then B0.out B0.out.size (B11.out.alloc B11.out.size (.cells #[.int .i64 0, .int .i64 0, .slice A11 xs.length c11] 30)))
  have kx : (convert 28 9 (.slice A11 xs.length c11)).run Try.prog (w11.alloc (.cells #[.int .i64 0, .int .i64 0, .slice A11 xs.length c11] 30)) = .ok (.string (strOfNums xs)) (w11.alloc (.cells #[.int .i64 0, .int .i64 0, .slice A11 xs.length c11] 30)) := str_of (hr11.below (alloc_back _))
  have ky : (convert 28 9 (.slice A n c)).run Try.prog (w11.alloc (.cells #[.int .i64 0, .int .i64 0, .slice A11 xs.length c11] 30)) = .ok (.string (strOfNums xs)) (w11.alloc (.cells #[.int .i64 0, .int .i64 0, .slice A11 xs.length c11] 30)) := str_of (HR.out.below BZ.out)
  clear hr11 hS11 hB11
  go_wp2_with fail
  go_ret
  exact ⟨by first | rfl | simp, BZ.out⟩
end Go.Proofs.Ytenbjmgmgdkapaa
