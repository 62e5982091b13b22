/- Walks: slices.Equal of numbers and of wide numbers; Same; the reference's Same. -/
import Derived.Test.YtbjjfgfepbklnaaMsgA
import Derived.Deep.QuietTactic
import Derived.BigQuiet
set_option linter.unusedVariables false
set_option linter.unusedSimpArgs false
namespace Go.Proofs.Ytbjjfgfepbklnaa
open Go.RowKit Go.Proofs.YtbjjfgfepbklnaaW.PrintWords Go.Proofs.Ytbjjfgfepbklnaa.K

set_option maxHeartbeats 400000 in
/-- slices.Equal of numbers. -/
theorem equal64_walk (A B : Option Addr) (n m c d : Nat) (xs ys : List Int) (w : World) (hx : ReadsInt w .i64 A n xs) (hy : ReadsInt w .i64 B m ys) :
    Calls Try.prog 33 #[.slice A n c, .slice B m d] w fun e w' => e = .returned (.bool (decide (xs = ys))) ∧ Below w.heap.size w w' := by
  have HX := Lib.hid hx
  have HY := Lib.hid hy
  have hn := hx.2.1
  have hm := hy.2.1
  clear hx hy
  by_cases hl : n = m
  · subst hl
    go_enter Try.func33, Try.ntmps33
    go_wp2
    go_loopw [13] (fun i wr => ∃ k : Nat, k ≤ n ∧ i = .int .i64 k ∧ Aside0 ((∃ q, wr = w.drewN q) ∧ ∀ j, j < k → xs.getD j 0 = ys.getD j 0)) (fun i _ => n - (intOf i).toNat)
    case atStart => exact ⟨0, Nat.zero_le _, rfl, ⟨⟨0, rfl⟩, fun j hj => by omega⟩⟩
    case round =>
      obtain ⟨k, hk, rfl, HK⟩ := hrel
      by_cases hlt : k < n
      · obtain ⟨ad, rfl, hck⟩ := reads_at HX.out k hlt
        obtain ⟨bd, rfl, hcb⟩ := reads_at HY.out k hlt
        obtain ⟨q, hq⟩ := HK.out.1
        subst hq
        have g1 : (0 : Int) ≤ (k : Int) := Int.natCast_nonneg _
        have g2 : (k : Int) < (n : Int) := by omega
        have hrest : ∀ j, (¬ xs.getD j 0 = ys.getD j 0) → xs ≠ ys := fun j h e => h (by rw [e])
        by_cases he : xs.getD k 0 = ys.getD k 0
        · have HE := Lib.hid he
          rw [he] at hck
          clear he hrest
          go_wp2
          go_quiet (fail)
          go_wp2
          go_roundw
          case rel => exact ⟨k + 1, by omega, by go_num, ⟨⟨_, rfl⟩, fun j hj => by
            rcases Nat.lt_succ_iff_lt_or_eq.1 hj with h | rfl
            · exact HK.out.2 j h
            · exact HE.out⟩⟩
          case measure => simp [intOf]; omega
        · have HE := Lib.hid (hrest k he)
          have he' : (xs[k]?.getD 0 != ys[k]?.getD 0) = true := by simpa [List.getD_eq_getElem?_getD] using he
          clear hrest
          go_wp2
          go_quiet (fail)
          go_wp2
          go_ret
          exact ⟨by rw [decide_eq_false HE.out]; rfl, pw_below_drewN (pw_below_drewN (Below.refl _ _) _) _⟩
      · obtain rfl : k = n := by omega
        obtain ⟨q, hq⟩ := HK.out.1
        subst hq
        go_wp2
        go_ret
        refine ⟨?_, pw_below_drewN (Below.refl _ _) _⟩
        have hE : xs = ys := List.ext_getElem (by rw [HX.out.1, HY.out.1]) fun j h1 h2 => by
          have := HK.out.2 j (by have := HX.out.1; omega)
          simpa [List.getD_eq_getElem?_getD, h1, h2] using this
        rw [decide_eq_true hE]; rfl
  · have hne : xs ≠ ys := fun e => hl (by rw [← HX.out.1, ← HY.out.1, e])
    have HN := Lib.hid hne; clear hne
    have hl' : ¬ ((n : Int) = (m : Int)) := by omega
    have hl2 : ((n : Int) == (m : Int)) = false := by simpa using hl'
    go_enter Try.func33, Try.ntmps33
    go_wp2
    go_ret
    exact ⟨by rw [decide_eq_false HN.out]; rfl, Below.refl _ _⟩
theorem eqW (a b c d : Int) (W : World) : (binOp .neq 47 (.agg #[.int .i64 a, .int .u64 b]) (.agg #[.int .i64 c, .int .u64 d])).run Try.prog W = .ok (.bool (!(a == c && b == d))) W := by
  go_simp
  by_cases h1 : a = c <;> by_cases h2 : b = d <;> simp [h1, h2]
set_option maxHeartbeats 400000 in
/-- slices.Equal of wide numbers. -/
theorem equalW_walk (A B : Option Addr) (n m c d : Nat) (xs ys : List (Int × Int)) (w : World) (hx : WidesAt w A n xs) (hy : WidesAt w B m ys) :
    Calls Try.prog 34 #[.slice A n c, .slice B m d] w fun e w' => e = .returned (.bool (decide (xs = ys))) ∧ Below w.heap.size w w' := by
  have HX := Lib.hid hx
  have HY := Lib.hid hy
  have hn := hx.2.1
  have hm := hy.2.1
  clear hx hy
  by_cases hl : n = m
  · subst hl
    go_enter Try.func34, Try.ntmps34
    go_wp2
    go_loopw [13] (fun i wr => ∃ k : Nat, k ≤ n ∧ i = .int .i64 k ∧ Aside0 ((∃ q, wr = w.drewN q) ∧ ∀ j, j < k → xs.getD j (0, 0) = ys.getD j (0, 0))) (fun i _ => n - (intOf i).toNat)
    case atStart => exact ⟨0, Nat.zero_le _, rfl, ⟨⟨0, rfl⟩, fun j hj => by omega⟩⟩
    case round =>
      obtain ⟨k, hk, rfl, HK⟩ := hrel
      by_cases hlt : k < n
      · obtain ⟨ad, rfl, hck, hck'⟩ := HX.out.2.2 k hlt
        obtain ⟨bd, rfl, hcb, hcb'⟩ := HY.out.2.2 k hlt
        obtain ⟨q, hq⟩ := HK.out.1
        subst hq
        have g1 : (0 : Int) ≤ (k : Int) := Int.natCast_nonneg _
        have g2 : (k : Int) < (n : Int) := by omega
        have hrest : ∀ j, (¬ xs.getD j (0, 0) = ys.getD j (0, 0)) → xs ≠ ys := fun j h e => h (by rw [e])
        obtain ⟨⟨u1, u2⟩, hu⟩ : ∃ u, u = xs.getD k (0, 0) := ⟨_, rfl⟩
        obtain ⟨⟨v1, v2⟩, hv⟩ : ∃ u, u = ys.getD k (0, 0) := ⟨_, rfl⟩
        have hrk := hrest k
        rw [← hu] at hck hck' hrk
        rw [← hv] at hcb hcb' hrk
        dsimp only at hck hck' hcb hcb'
        have HU := Lib.hid hu; have HV := Lib.hid hv
        clear hu hv hrest
        have he0 := fun W => eqW u1 u2 v1 v2 W
        by_cases he : (u1, u2) = (v1, v2)
        · have HE := Lib.hid he
          have e1 : (u1 == v1 && u2 == v2) = true := by injection he with h1 h2; simp [h1, h2]
          simp only [e1, Bool.not_true] at he0
          clear he e1 hrk
          go_wp2
          go_quiet (fail)
          go_wp2
          go_roundw
          case rel => exact ⟨k + 1, by omega, by go_num, ⟨⟨_, rfl⟩, fun j hj => by
            rcases Nat.lt_succ_iff_lt_or_eq.1 hj with h | rfl
            · exact HK.out.2 j h
            · rw [← HU.out, ← HV.out]; exact HE.out⟩⟩
          case measure => simp [intOf]; omega
        · have HE := Lib.hid (hrk he)
          have e1 : (u1 == v1 && u2 == v2) = false := by
            rw [Bool.eq_false_iff]; intro h; simp at h; exact he (by rw [h.1, h.2])
          simp only [e1, Bool.not_false] at he0
          clear he e1 hrk
          go_wp2
          go_quiet (fail)
          go_wp2
          go_ret
          exact ⟨by rw [decide_eq_false HE.out]; rfl, pw_below_drewN (pw_below_drewN (Below.refl _ _) _) _⟩
      · obtain rfl : k = n := by omega
        obtain ⟨q, hq⟩ := HK.out.1
        subst hq
        go_wp2
        go_ret
        refine ⟨?_, pw_below_drewN (Below.refl _ _) _⟩
        have hE : xs = ys := list_eq (0, 0) (by rw [HX.out.1, HY.out.1]) fun j h1 => HK.out.2 j (by have := HX.out.1; omega)
        rw [decide_eq_true hE]; rfl
  · have hne : xs ≠ ys := fun e => hl (by rw [← HX.out.1, ← HY.out.1, e])
    have HN := Lib.hid hne; clear hne
    have hl' : ¬ ((n : Int) = (m : Int)) := by omega
    have hl2 : ((n : Int) == (m : Int)) = false := by simpa using hl'
    go_enter Try.func34, Try.ntmps34
    go_wp2
    go_ret
    exact ⟨by rw [decide_eq_false HN.out]; rfl, Below.refl _ _⟩
end Go.Proofs.Ytbjjfgfepbklnaa
