/- The reference's net: its cells; id, Cut. -/
import Derived.Test.YtenbjmgmgdkapaaNetU
import Derived.Deep.QuietTactic
import Derived.BigQuiet
set_option linter.unusedVariables false
set_option linter.unusedSimpArgs false
namespace Go.Proofs.Ytenbjmgmgdkapaa
open Go.RowKit Go.Proofs.YtenbjmgmgdkapaaW.PrintWords Go.Proofs.Ytenbjmgmgdkapaa.K

theorem rid_walk (n : Int) (w : World) : Calls Try.prog 27 #[.int .i64 n] w fun e w' => e = .returned (.bool (decide (0 ≤ n ∧ n < 16))) ∧ w = w' := by
  by_cases h0 : 0 ≤ n
  · go_enter Try.func27, Try.ntmps27
    go_wp2
    go_ret
    exact ⟨by simp [h0], rfl⟩
  · go_enter Try.func27, Try.ntmps27
    go_wp2
    go_ret
    exact ⟨by rw [decide_eq_false (show ¬ 0 ≤ n by omega)]; rfl, rfl⟩
theorem rid_yes (a : Nat) (ha : a < 16) (w : World) : Calls Try.prog 27 #[.int .i64 (a : Int)] w fun e w' => e = .returned (.bool true) ∧ w = w' := by
  have C := rid_walk (a : Int) w
  rw [decide_eq_true (by omega)] at C
  exact C
theorem rid_no (n : Int) (h : ¬ okW n) (w : World) : Calls Try.prog 27 #[.int .i64 n] w fun e w' => e = .returned (.bool false) ∧ w = w' := by
  have C := rid_walk n w
  unfold okW at h
  rw [decide_eq_false h] at C
  exact C
def cutsL (f : Nat → Nat → Bool) : List Value := (List.range 256).map fun i => .bool (f (i / 16) (i % 16))
def refC (room : Int) (V : Value) (f : Nat → Nat → Bool) : Array Value := (Value.int .i64 room :: V :: cutsL f).toArray
theorem cutsL_get (f : Nat → Nat → Bool) (a b : Nat) (ha : a < 16) (hb : b < 16) : (cutsL f)[a * 16 + b]? = some (.bool (f a b)) := by
  unfold cutsL
  rw [List.getElem?_map, List.getElem?_range (by omega)]
  simp only [Option.map_some]
  rw [show (a * 16 + b) / 16 = a by omega, show (a * 16 + b) % 16 = b by omega]
theorem cutsL_set (f : Nat → Nat → Bool) (a b : Nat) (v : Bool) (ha : a < 16) (hb : b < 16) : (cutsL f).set (a * 16 + b) (.bool v) = cutsL (upd f a b v) := by
  apply List.ext_getElem?
  intro i
  have hl : (cutsL f).length = 256 := by simp [cutsL]
  by_cases hi : i < 256
  · by_cases he : i = a * 16 + b
    · subst he
      rw [List.getElem?_set_self (by rw [hl]; omega)]
      have h := cutsL_get (upd f a b v) a b ha hb
      rw [h]
      simp [upd]
    · rw [List.getElem?_set_ne (by omega)]
      have h := cutsL_get (upd f a b v) (i / 16) (i % 16) (by omega) (Nat.mod_lt _ (by decide))
      have h2 := cutsL_get f (i / 16) (i % 16) (by omega) (Nat.mod_lt _ (by decide))
      rw [show i / 16 * 16 + i % 16 = i by omega] at h h2
      rw [h, h2]
      have hne : ¬ (i / 16 = a ∧ i % 16 = b) := by omega
      simp only [upd, if_neg hne]
  · rw [List.getElem?_eq_none (by simp [cutsL]; omega), List.getElem?_eq_none (by simp [cutsL]; omega)]
section
variable {w : World} {r : Nat} {room : Int} {V : Value} {f : Nat → Nat → Bool} {ty : TypeId} (h : w.heap[r]? = some (.cells (refC room V f) ty (0, 0)))
include h
theorem ref_cells : w.cell? ⟨r, 0, none⟩ = some (.int .i64 room) ∧ w.cell? ⟨r, 1, none⟩ = some V := by
  simp [World.cell?, h, refC]
theorem ref_cut (a b : Nat) (ha : a < 16) (hb : b < 16) : w.cell? ⟨r, 2 + a * 16 + b, none⟩ = some (.bool (f a b)) := by
  have h1 := cutsL_get f a b ha hb
  simp only [World.cell?, h, refC]
  rw [show 2 + a * 16 + b = a * 16 + b + 1 + 1 by omega]
  simpa using h1
theorem ref_put (V' : Value) : (w.setCell ⟨r, 1, none⟩ V').heap[r]? = some (.cells (refC room V' f) ty (0, 0)) := by
  rw [heap_set _ h]; simp [refC]
theorem ref_cutput (a b : Nat) (v : Bool) (ha : a < 16) (hb : b < 16) : (w.setCell ⟨r, 2 + a * 16 + b, none⟩ (.bool v)).heap[r]? = some (.cells (refC room V (upd f a b v)) ty (0, 0)) := by
  rw [heap_set _ h]
  unfold refC
  rw [← cutsL_set f a b v ha hb, show 2 + a * 16 + b = a * 16 + b + 1 + 1 by omega]
  simp
end
set_option maxHeartbeats 1000000 in
theorem rcut_walk (w : World) (r : Nat) (room : Int) (V : Value) (f : Nat → Nat → Bool) (h : w.heap[r]? = some (.cells (refC room V f) 47 (0, 0))) (a b : Nat) (ha : a < 16) (hb : b < 16) (v : Bool) :
    Calls Try.prog 22 #[.pointer (some ⟨r, 0, none⟩), .int .i64 (a : Int), .int .i64 (b : Int), .bool v] w fun e w' => e = .returned (.tuple #[]) ∧ w'.heap[r]? = some (.cells (refC room V (upd f a b v)) 47 (0, 0)) ∧ w.grownBy w' (some r) := by
  have hc := ref_cut h a b ha hb
  have hf := froz h (2 + a * 16 + b)
  have HP := Lib.hid (ref_cutput h a b v ha hb)
  have HWA := Lib.hid (fun w => rid_yes a ha w)
  have HWB := Lib.hid (fun w => rid_yes b hb w)
  have h1 : (a : Int) < 16 := by omega
  have h2 : (b : Int) < 16 := by omega
  clear h
  go_enter Try.func22, Try.ntmps22
  go_wp2_with (first
    | (go_at_call 27; with_reducible refine (HWA.out _).mono ?_; rintro e w' ⟨rfl, rfl⟩)
    | (go_at_call 27; with_reducible refine (HWB.out _).mono ?_; rintro e w' ⟨rfl, rfl⟩))
  first | go_end0 | ((try simp only [Exit.inBlock, Exit.then]); refine bodyPost_ret (results_none rfl _ _ _) rfl ?_)
  exact ⟨rfl, HP.out, grown_set _⟩
theorem rcut_no (r : Nat) (a b : Int) (v : Bool) (w : World) (h : ¬ (okW a ∧ okW b)) :
    Calls Try.prog 22 #[.pointer (some ⟨r, 0, none⟩), .int .i64 a, .int .i64 b, .bool v] w fun e w' => e = .returned (.tuple #[]) ∧ w = w' := by
  have HWA := Lib.hid (fun w => rid_walk a w)
  have HWB := Lib.hid (fun w => rid_walk b w)
  by_cases ha : okW a
  · have hb : ¬ okW b := fun hb => h ⟨ha, hb⟩
    unfold okW at ha hb
    rw [decide_eq_true ha] at HWA
    rw [decide_eq_false hb] at HWB
    clear ha hb h
    go_enter Try.func22, Try.ntmps22
    go_wp2_with (first
      | (go_at_call 27; with_reducible refine (HWA.out _).mono ?_; rintro e w' ⟨rfl, rfl⟩)
      | (go_at_call 27; with_reducible refine (HWB.out _).mono ?_; rintro e w' ⟨rfl, rfl⟩))
    first | go_end0 | ((try simp only [Exit.inBlock, Exit.then]); refine bodyPost_ret (results_none rfl _ _ _) rfl ?_)
    exact ⟨rfl, rfl⟩
  · unfold okW at ha
    rw [decide_eq_false ha] at HWA
    clear ha h
    go_enter Try.func22, Try.ntmps22
    go_wp2_with (first
      | (go_at_call 27; with_reducible refine (HWA.out _).mono ?_; rintro e w' ⟨rfl, rfl⟩))
    first | go_end0 | ((try simp only [Exit.inBlock, Exit.then]); refine bodyPost_ret (results_none rfl _ _ _) rfl ?_)
    exact ⟨rfl, rfl⟩
end Go.Proofs.Ytenbjmgmgdkapaa
