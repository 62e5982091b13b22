/- Walks of the laws of crc. -/
import Derived.Test.YtmmgmhjoibipcaaA
set_option linter.unusedVariables false
set_option linter.unusedSimpArgs false
namespace Go.Proofs.Ytmmgmhjoibipcaa
open Go.RowKit Go.Proofs.YtmmgmhjoibipcaaW.PrintWords

theorem more_none : moreI 7 [] = 7 := by decide +kernel
theorem of_zero : moreI 0 [0] = 3523407757 := by decide +kernel
theorem of_a : moreI 0 [97] = 3904355907 := by decide +kernel
set_option maxHeartbeats 400000 in
theorem known_walk (w : World) : Calls Try.prog 3 #[] w fun e w' => e = .returned (.bool true) ∧ Below w.heap.size w w' := by
  have kc := fun (w : World) (C : Array Value) (n c : Nat) => Lib.run_convert_bytes_const (P := Try.prog) w 25 5 C n c Try.underlying25 Try.underlying5
  have C1 : ∀ W : World, Calls Try.prog 9 #[.slice (some ⟨W.heap.size, 0, none⟩) 1 1] (W.alloc (.cells #[.int .u8 0] 5)) fun e w' => e = .returned (.int .u32 3523407757) ∧ Below W.heap.size W w' := fun W => by
    have h := of_walk _ _ 1 1 _ (reads_lit W .u8 [0] 5 (0, 0) 1 rfl (by decide))
    rw [of_zero] at h
    refine h.mono ?_
    rintro e w' ⟨rfl, rfl⟩
    exact ⟨rfl, (Below.refl _ _).alloc (Nat.le_refl _) _⟩
  have C2 : ∀ W : World, Calls Try.prog 9 #[.slice (some ⟨W.heap.size, 0, none⟩) 1 1] (W.alloc (.cells #[.int .u8 97] 5 (1, 2))) fun e w' => e = .returned (.int .u32 3904355907) ∧ W.alloc (.cells #[.int .u8 97] 5 (1, 2)) = w' := fun W => by
    have h := of_walk _ _ 1 1 _ (reads_lit W .u8 [97] 5 (1, 2) 1 rfl (by decide))
    rw [of_a] at h
    exact h
  have C3 : ∀ W : World, Calls Try.prog 10 #[.int .u32 7, .slice none 0 0] W fun e w' => e = .returned (.int .u32 7) ∧ W = w' := fun W => by
    have h := more_walk 7 none [] 0 0 W (reads_nil W .u8)
    rw [more_none] at h
    exact h
  go_enter Try.func3, Try.ntmps3
  go_wp2_with (first | (go_at_call 8; refine (awake_walk _).mono ?_; rintro e w1 ⟨rfl, hb⟩) | (go_at_call 10; refine (C3 _).mono ?_; rintro e w' ⟨rfl, rfl⟩) | (go_at_call 9; (with_reducible refine (C1 _).mono ?_); rintro e w2 ⟨rfl, hb2⟩) | (go_at_call 9; refine (C2 _).mono ?_; rintro e w' ⟨rfl, rfl⟩))
  go_ret
  have h2 := below_then hb hb.size hb2
  exact ⟨rfl, h2.alloc h2.size _⟩
set_option maxHeartbeats 400000 in
theorem says_walk (W : World) (A : Option Addr) (n c : Nat) (xs : List Int) (h : ReadsInt W .u8 A n xs) (hw : ∀ x ∈ xs, (Lit.int .u8 x).wf = true) (hc : n ≤ c) (hs : n * 1 ≤ 140737488351232) (d : Int) (wd : (Lit.int .u32 d).wf = true) :
    Calls Try.prog 4 #[.slice A n c, .int .u32 d] W fun e w' => e = .returned (.bool true) ∧ Below W.heap.size W w' := by
  have H : ∀ w1, Below W.heap.size W w1 → ReadsInt w1 .u8 A n xs := fun w1 hb => h.below hb
  clear h
  by_cases h6 : 600 < n
  · go_enter Try.func4, Try.ntmps4
    go_wp2_with (go_at_call 8; refine (awake_walk _).mono ?_; rintro e w1 ⟨rfl, hb⟩)
    go_ret
    exact ⟨rfl, hb⟩
  · go_enter Try.func4, Try.ntmps4
    go_wp2_with (first | (go_at_call 8; refine (awake_walk _).mono ?_; rintro e w1 ⟨rfl, hb⟩) | (go_at_call 9; refine (of_walk _ _ _ _ _ (H _ hb)).mono ?_; rintro e w' ⟨rfl, rfl⟩) | (go_at_call 10; refine (more_walk _ _ _ _ _ _ (H _ hb)).mono ?_; rintro e w' ⟨rfl, rfl⟩) | (go_at_call 11; refine (crc_walk _ _ _ _ _ (H _ hb)).mono ?_; rintro e w' ⟨rfl, rfl⟩) | (go_at_call 12; refine (rmore_walk _ _ _ _ _ _ (H _ hb)).mono ?_; rintro e w' ⟨rfl, rfl⟩))
    go_ret
    exact ⟨by simp, hb⟩
end Go.Proofs.Ytmmgmhjoibipcaa
