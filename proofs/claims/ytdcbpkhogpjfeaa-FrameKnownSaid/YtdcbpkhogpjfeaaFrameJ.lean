/- The walk of FrameKnown. -/
import Derived.Test.YtdcbpkhogpjfeaaFrameI
set_option linter.unusedVariables false
set_option linter.unusedSimpArgs false
namespace Go.Proofs.Ytdcbpkhogpjfeaa
open Go.RowKit Go.Proofs.YtdcbpkhogpjfeaaW.PrintWords Go.Proofs.Ytdcbpkhogpjfeaa.K

def frM : Fr := ⟨1, 0, 0, 0, 0, List.replicate 16384 0⟩
theorem frM_good : frM.good := ⟨by decide, by decide, by decide, by show (List.replicate 16384 (0 : Int)).length ≤ 16384; rw [List.length_replicate]; exact Nat.le_refl _⟩
theorem rep_wf (m : Nat) : ∀ z ∈ List.replicate m (0 : Int), (Lit.int .u8 z).wf = true := fun z hz => by rw [(List.mem_replicate.1 hz).2]; decide
theorem frM_wf : frM.wf := ⟨by decide, by decide, rep_wf _⟩
theorem no_noughts (m : Nat) (hm : 0 < m) : ¬ ∃ x : Fr, Is (List.replicate m 0) x := by
  rintro ⟨x, _, _, e⟩
  have h0 : (enc x)[0]? = some 82 := by simp [enc, frB, frH]
  rw [e] at h0
  rw [List.getElem?_replicate, if_pos hm] at h0
  injection h0 with h0
  exact absurd h0 (by decide)
theorem made_reads1 (W : World) (Z o : Obj) (m : Nat) (hm : m ≤ 9223372036854775807) (ho : o = .cells (madeCells #[.int .u8 0] m) 5) : ReadsInt ((W.alloc Z).alloc o) .u8 (some ⟨W.heap.size + 1, 0, none⟩) m (List.replicate m 0) := by
  have h := (own_info (own_made (W.alloc Z) (W.alloc Z).heap.size 5 .u8 m (Nat.le_refl _) hm)).2.2.2.1
  have hs : (W.alloc Z).heap.size = W.heap.size + 1 := by simp
  rw [hs] at h
  subst ho
  exact h
theorem made_reads (W : World) (m : Nat) (hm : m ≤ 9223372036854775807) : ReadsInt (W.alloc (.cells (madeCells #[.int .u8 0] m) 5)) .u8 (some ⟨W.heap.size, 0, none⟩) m (List.replicate m 0) :=
  (own_info (own_made W W.heap.size 5 .u8 m (Nat.le_refl _) hm)).2.2.2.1
set_option maxRecDepth 100000 in
set_option maxHeartbeats 4000000 in
theorem known_walk (W : World) : Calls Try.prog 3 #[] W fun e w' => e = .returned (.bool true) ∧ Below W.heap.size W w' := by
  have mk : ∀ m : Nat, m * 1 ≤ 281474976710656 → ∀ W : World, (Instr.makeSlice 24 (.int .i64 (m : Int)) (.int .i64 (m : Int))).run Try.prog W = .ok (.slice (some ⟨W.heap.size, 0, none⟩) m m) (W.alloc (.cells (madeCells #[.int .u8 0] m) 5)) := fun m hm => print_make 24 5 .u8 1 Try.underlying24 (by kernel_rfl) (by decide) m hm
  obtain ⟨P, hP⟩ : ∃ P : Nat → Obj, ∀ m, P m = .cells (madeCells #[.int .u8 0] m) 5 := ⟨_, fun _ => rfl⟩
  have m1 : ∀ W : World, (Instr.makeSlice 24 (.int .i64 19) (.int .i64 19)).run Try.prog W = .ok (.slice (some ⟨W.heap.size, 0, none⟩) 19 19) (W.alloc (P 19)) := fun W => by rw [hP]; exact mk 19 (by decide) W
  have m2 : ∀ W : World, (Instr.makeSlice 24 (.int .i64 16384) (.int .i64 16384)).run Try.prog W = .ok (.slice (some ⟨W.heap.size, 0, none⟩) 16384 16384) (W.alloc (P 16384)) := fun W => by rw [hP]; exact mk 16384 (by decide) W
  have m3 : ∀ W : World, (Instr.makeSlice 24 (.int .i64 16385) (.int .i64 16385)).run Try.prog W = .ok (.slice (some ⟨W.heap.size, 0, none⟩) 16385 16385) (W.alloc (P 16385)) := fun W => by rw [hP]; exact mk 16385 (by decide) W
  have HP := Lib.hid hP
  clear mk hP
  go_enter Try.func3, Try.ntmps3
  go_wp2_with fail
  refine (awake_walk _).mono ?_
  rintro e w1 ⟨rfl, hb1⟩
  have B1 := Lib.hid hb1; clear hb1
  go_wp2_with fail
  refine (decode_any none 0 0 [] _ (reads_nil _ _) (by simp)).mono ?_
  rintro e w2 ⟨hd, hb2⟩
  obtain ⟨-, rfl⟩ := hd.resolve_left (fun ⟨x, hx, _⟩ => no_frame_len (xs := []) (.inl (by decide)) ⟨x, hx⟩)
  have B2 := Lib.hid (below_then B1.out B1.out.size hb2); clear hb2 B1
  go_wp2_with fail
  refine (decode_any (some ⟨w2.heap.size + 1, 0, none⟩) 19 19 (List.replicate 19 0) _ (made_reads1 w2 _ _ 19 (by decide) (HP.out 19)) (rep_wf 19)).mono ?_
  rintro e w3 ⟨hd, hb3⟩
  obtain ⟨-, rfl⟩ := hd.resolve_left (fun ⟨x, hx, _⟩ => no_noughts 19 (by decide) ⟨x, hx⟩)
  have B3 := Lib.hid (show Below W.heap.size W w3 from below_then B2.out B2.out.size (below_then (alloc_back2 _ _) (alloc_back2 _ _).size hb3)); clear hb3 B2
  go_wp2_with fail
  refine (encode_bad 21 0 0 0 0 none 0 0 (by decide) (by decide) _).mono ?_
  rintro e w4 ⟨rfl, hb4⟩
  have B4 := Lib.hid (show Below W.heap.size W w4 from below_then B3.out B3.out.size (below_then (alloc_back _) (alloc_back _).size hb4)); clear hb4 B3
  go_wp2_with fail
  refine (encode_bad 1 16 0 0 0 none 0 0 (by decide) (by decide) _).mono ?_
  rintro e w5 ⟨rfl, hb5⟩
  have B5 := Lib.hid (show Below W.heap.size W w5 from below_then B4.out B4.out.size hb5); clear hb5 B4
  go_wp2_with fail
  have HRM := Lib.hid (show ReadsInt (w5.alloc (P 16384)) .u8 (some ⟨w5.heap.size, 0, none⟩) 16384 frM.b by rw [HP.out]; exact made_reads w5 16384 (by decide))
  refine (encode_walk frM frM_good frM_wf (some ⟨w5.heap.size, 0, none⟩) 16384 16384 _ HRM.out).mono ?_
  rintro e w6 ⟨A6, c6, rfl, _, hb6⟩
  have B6 := Lib.hid (show Below W.heap.size W w6 from below_then B5.out B5.out.size (below_then (alloc_back _) (alloc_back _).size hb6)); clear hb6 B5 HRM
  go_wp2_with fail
  refine (good_walk 0 0 0 0 0 none 0 0 (by decide) _).mono ?_
  rintro e w7 ⟨rfl, hw7⟩
  have B7 := Lib.hid (show Below W.heap.size W w7 by rw [← hw7]; exact B6.out.alloc B6.out.size _); clear hw7 B6
  rw [show decide (goodB 0 0 0 0) = false by decide]
  go_wp2_with fail
  refine (good_walk 1 0 0 0 0 (some ⟨w7.heap.size, 0, none⟩) 16385 16385 (by decide) _).mono ?_
  rintro e w8 ⟨rfl, hw8⟩
  have B8 := Lib.hid (show Below W.heap.size W w8 by rw [← hw8]; exact (B7.out.alloc B7.out.size _).alloc (B7.out.alloc B7.out.size _).size _); clear hw8 B7
  rw [show decide (goodB 1 0 0 16385) = false by decide]
  go_wp2_with fail
  go_ret
  exact ⟨rfl, B8.out⟩
end Go.Proofs.Ytdcbpkhogpjfeaa
