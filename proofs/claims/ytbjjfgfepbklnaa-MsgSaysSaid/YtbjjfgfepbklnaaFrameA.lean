/- Walks of package frame: may a frame be? -/
import Derived.Test.YtbjjfgfepbklnaaFrameM
import Derived.Test.YtbjjfgfepbklnaaPackD
set_option linter.unusedVariables false
set_option linter.unusedSimpArgs false
namespace Go.Proofs.Ytbjjfgfepbklnaa
open Go.RowKit Go.Proofs.YtbjjfgfepbklnaaW.PrintWords Go.Proofs.Ytbjjfgfepbklnaa.K

/-- A frame's six cells. -/
abbrev frC (k f t v s : Int) (B : Value) : Array Value := #[.int .i64 k, .int .i64 f, .int .i64 t, .int .u32 v, .int .u32 s, B]
theorem worker_walk (n : Int) (w : World) : Calls Try.prog 49 #[.int .i64 n] w fun e w' => e = .returned (.bool (decide (0 ≤ n ∧ n < 16))) ∧ w = w' := by
  by_cases h0 : 0 ≤ n
  · go_enter Try.func49, Try.ntmps49
    go_wp2
    go_ret
    exact ⟨by simp [h0], rfl⟩
  · go_enter Try.func49, Try.ntmps49
    go_wp2
    go_ret
    exact ⟨by rw [decide_eq_false (show ¬ 0 ≤ n by omega)]; rfl, rfl⟩
theorem in_walk (n a b : Int) (w : World) : Calls Try.prog 38 #[.int .i64 n, .int .i64 a, .int .i64 b] w fun e w' => e = .returned (.bool (decide (a ≤ n ∧ n ≤ b))) ∧ w = w' := by
  by_cases h0 : a ≤ n
  · go_enter Try.func38, Try.ntmps38
    go_wp2
    go_ret
    exact ⟨by simp [h0], rfl⟩
  · go_enter Try.func38, Try.ntmps38
    go_wp2
    go_ret
    exact ⟨by rw [decide_eq_false (show ¬ a ≤ n by omega)]; rfl, rfl⟩
def goodB (k f t : Int) (n : Nat) : Prop := (1 ≤ k ∧ k ≤ 20) ∧ (0 ≤ f ∧ f < 16) ∧ (0 ≤ t ∧ t < 16) ∧ n ≤ 16384
instance (k f t : Int) (n : Nat) : Decidable (goodB k f t n) := by unfold goodB; infer_instance
set_option maxHeartbeats 400000 in
theorem good_walk (k f t v s : Int) (A : Option Addr) (n c : Nat) (hn : n ≤ 140737488351232) (w : World) :
    Calls Try.prog 32 #[.agg (frC k f t v s (.slice A n c))] w fun e w' => e = .returned (.bool (decide (goodB k f t n))) ∧ w.alloc (.cells (frC k f t v s (.slice A n c)) 49) = w' := by
  by_cases h1 : 1 ≤ k
  · by_cases h2 : k ≤ 20
    · by_cases h3 : 0 ≤ f ∧ f < 16
      · by_cases h4 : 0 ≤ t ∧ t < 16
        · go_enter Try.func32, Try.ntmps32
          go_wp2_with (go_at_call 49; refine (worker_walk _ _).mono ?_; rintro e w' ⟨rfl, rfl⟩)
          go_ret
          exact ⟨by simp [goodB, h1, h2, h3, h4]; omega, rfl⟩
        · go_enter Try.func32, Try.ntmps32
          go_wp2_with (go_at_call 49; refine (worker_walk _ _).mono ?_; rintro e w' ⟨rfl, rfl⟩)
          go_ret
          exact ⟨by simp [goodB, h1, h2, h3, h4], rfl⟩
      · go_enter Try.func32, Try.ntmps32
        go_wp2_with (go_at_call 49; refine (worker_walk _ _).mono ?_; rintro e w' ⟨rfl, rfl⟩)
        go_ret
        exact ⟨by simp [goodB, h1, h2, h3], rfl⟩
    · go_enter Try.func32, Try.ntmps32
      go_wp2
      go_ret
      exact ⟨by rw [decide_eq_false (show ¬ goodB k f t n by unfold goodB; omega)]; rfl, rfl⟩
  · go_enter Try.func32, Try.ntmps32
    go_wp2
    go_ret
    exact ⟨by rw [decide_eq_false (show ¬ goodB k f t n by unfold goodB; omega)]; rfl, rfl⟩
set_option maxHeartbeats 400000 in
theorem rgood_walk (k f t v s : Int) (A : Option Addr) (n c : Nat) (hn : n ≤ 140737488351232) (w : World) :
    Calls Try.prog 51 #[.agg (frC k f t v s (.slice A n c))] w fun e w' => e = .returned (.bool (decide (goodB k f t n))) ∧ w.alloc (.cells (frC k f t v s (.slice A n c)) 68) = w' := by
  by_cases h1 : 1 ≤ k ∧ k ≤ 20
  · by_cases h3 : 0 ≤ f ∧ f ≤ 15
    · by_cases h4 : 0 ≤ t ∧ t ≤ 15
      · go_enter Try.func51, Try.ntmps51
        go_wp2_with (go_at_call 38; refine (in_walk _ _ _ _).mono ?_; rintro e w' ⟨rfl, rfl⟩)
        go_ret
        exact ⟨by have e3 : f < 16 := by omega
                  have e4 : t < 16 := by omega
                  simp [goodB, h1, h3, h4, e3, e4]; omega, rfl⟩
      · go_enter Try.func51, Try.ntmps51
        go_wp2_with (go_at_call 38; refine (in_walk _ _ _ _).mono ?_; rintro e w' ⟨rfl, rfl⟩)
        go_ret
        exact ⟨by rw [decide_eq_false (show ¬ goodB k f t n by unfold goodB; omega)]; rfl, rfl⟩
    · go_enter Try.func51, Try.ntmps51
      go_wp2_with (go_at_call 38; refine (in_walk _ _ _ _).mono ?_; rintro e w' ⟨rfl, rfl⟩)
      go_ret
      exact ⟨by rw [decide_eq_false (show ¬ goodB k f t n by unfold goodB; omega)]; rfl, rfl⟩
  · go_enter Try.func51, Try.ntmps51
    go_wp2_with (go_at_call 38; refine (in_walk _ _ _ _).mono ?_; rintro e w' ⟨rfl, rfl⟩)
    go_ret
    exact ⟨by rw [decide_eq_false (show ¬ goodB k f t n by unfold goodB; omega)]; rfl, rfl⟩
set_option maxHeartbeats 400000 in
/-- slices.Equal of bytes. -/
theorem equal_walk (A B : Option Addr) (n m c d : Nat) (xs ys : List Int) (w : World) (hx : ReadsInt w .u8 A n xs) (hy : ReadsInt w .u8 B m ys) :
    Calls Try.prog 26 #[.slice A n c, .slice B m d] w fun e w' => e = .returned (.bool (decide (xs = ys))) ∧ Below w.heap.size w w' := by
  have HX := Lib.hid hx
  have HY := Lib.hid hy
  have hn := hx.2.1
  have hm := hy.2.1
  clear hx hy
  by_cases hl : n = m
  · subst hl
    go_enter Try.func26, Try.ntmps26
    go_wp2
    go_loopw [13] (fun i wr => ∃ k : Nat, k ≤ n ∧ i = .int .i64 k ∧ Aside0 ((∃ q, wr = w.drewN q) ∧ ∀ j, j < k → xs.getD j 0 = ys.getD j 0)) (fun i _ => n - (intOf i).toNat)
    case atStart => exact ⟨0, Nat.zero_le _, rfl, ⟨⟨0, rfl⟩, fun j hj => by omega⟩⟩
    case round =>
      obtain ⟨k, hk, rfl, HK⟩ := hrel
      by_cases hlt : k < n
      · obtain ⟨ad, rfl, hck⟩ := reads_at HX.out k hlt
        obtain ⟨bd, rfl, hcb⟩ := reads_at HY.out k hlt
        obtain ⟨q, hq⟩ := HK.out.1
        subst hq
        have g1 : (0 : Int) ≤ (k : Int) := Int.natCast_nonneg _
        have g2 : (k : Int) < (n : Int) := by omega
        have hrest : ∀ j, (¬ xs.getD j 0 = ys.getD j 0) → xs ≠ ys := fun j h e => h (by rw [e])
        by_cases he : xs.getD k 0 = ys.getD k 0
        · have HE := Lib.hid he
          rw [he] at hck
          clear he hrest
          go_wp2
          go_quiet (fail)
          go_wp2
          go_roundw
          case rel => exact ⟨k + 1, by omega, by go_num, ⟨⟨_, rfl⟩, fun j hj => by
            rcases Nat.lt_succ_iff_lt_or_eq.1 hj with h | rfl
            · exact HK.out.2 j h
            · exact HE.out⟩⟩
          case measure => simp [intOf]; omega
        · have HE := Lib.hid (hrest k he)
          have he' : (xs[k]?.getD 0 != ys[k]?.getD 0) = true := by simpa [List.getD_eq_getElem?_getD] using he
          clear hrest
          go_wp2
          go_quiet (fail)
          go_wp2
          go_ret
          exact ⟨by rw [decide_eq_false HE.out]; rfl, pw_below_drewN (pw_below_drewN (Below.refl _ _) _) _⟩
      · obtain rfl : k = n := by omega
        obtain ⟨q, hq⟩ := HK.out.1
        subst hq
        go_wp2
        go_ret
        refine ⟨?_, pw_below_drewN (Below.refl _ _) _⟩
        have hE : xs = ys := List.ext_getElem (by rw [HX.out.1, HY.out.1]) fun j h1 h2 => by
          have := HK.out.2 j (by have := HX.out.1; omega)
          simpa [List.getD_eq_getElem?_getD, h1, h2] using this
        rw [decide_eq_true hE]; rfl
  · have hne : xs ≠ ys := fun e => hl (by rw [← HX.out.1, ← HY.out.1, e])
    have HN := Lib.hid hne; clear hne
    have hl' : ¬ ((n : Int) = (m : Int)) := by omega
    have hl2 : ((n : Int) == (m : Int)) = false := by simpa using hl'
    go_enter Try.func26, Try.ntmps26
    go_wp2
    go_ret
    exact ⟨by rw [decide_eq_false HN.out]; rfl, Below.refl _ _⟩
end Go.Proofs.Ytbjjfgfepbklnaa
