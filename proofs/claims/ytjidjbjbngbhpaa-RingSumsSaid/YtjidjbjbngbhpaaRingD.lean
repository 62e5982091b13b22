/- Walks of package ring: Sum. -/
import Derived.Test.YtjidjbjbngbhpaaRingC
set_option linter.unusedVariables false
set_option linter.unusedSimpArgs false
namespace Go.Proofs.Ytjidjbjbngbhpaa
open Go.RowKit Go.Proofs.YtjidjbjbngbhpaaW.PrintWords Go.Proofs.Ytjidjbjbngbhpaa.K

theorem rheap_keep {w w' : World} {k : Nat} {o : Obj} (hb : Below w.heap.size w w') (h : w.heap[k]? = some o) : w'.heap[k]? = some o := (hb.block k (lt_of_heap h)).trans h
theorem sum_no (w : World) (r : Nat) (place n : Int) (L C : Value) (round : Int) (told taken : Bool) (h : w.heap[r]? = some (.cells (rgC place n L C round told taken) 54 (0, 0))) (hn : 1 ≤ n ∧ n ≤ 16) (hd : ¬ 2 * n - 3 < round) : Calls Try.prog 11 #[.pointer (some ⟨r, 0, none⟩)] w fun e w' => e = .returned (.tuple #[.slice none 0 0, .bool false]) ∧ Below w.heap.size w w' := by
  have HD := Lib.hid (done_walk w r place n L C round told taken h hn)
  rw [decide_eq_false hd] at HD
  clear h hn hd
  go_enter Try.func11, Try.ntmps11
  go_wp2_with fail
  refine HD.out.mono ?_
  rintro e w1 ⟨rfl, hb1⟩
  go_wp2_with fail
  go_ret2
  exact ⟨rfl, hb1⟩
theorem sum_ok (w : World) (r : Nat) (place n : Int) (A : Option Addr) (k c : Nat) (C : Value) (round : Int) (told taken : Bool) (l : List (Int × Int)) (h : w.heap[r]? = some (.cells (rgC place n (.slice A k c) C round told taken) 54 (0, 0))) (hn : 1 ≤ n ∧ n ≤ 16) (hd : 2 * n - 3 < round) (hw : WidesAt w A k l) (hk : k ≤ 1000000) (hA : A = none → k = 0 ∧ c = 0) :
    Calls Try.prog 11 #[.pointer (some ⟨r, 0, none⟩)] w fun e w' => ∃ A1 c1, e = .returned (.tuple #[.slice A1 k c1, .bool true]) ∧ w'.ownsRow w.heap.size 33 2 (.slice A1 k c1) k (wides l) ∧ Below w.heap.size w w' := by
  have HD := Lib.hid (done_walk w r place n (.slice A k c) C round told taken h hn)
  rw [decide_eq_true hd] at HD
  have HH := Lib.hid h; have HW := Lib.hid hw; have HA := Lib.hid hA
  clear h hn hd hw hA
  go_enter Try.func11, Try.ntmps11
  go_wp2_with fail
  refine HD.out.mono ?_
  rintro e w1 ⟨rfl, hb1⟩
  have B1 := Lib.hid hb1
  obtain ⟨c0, c1, c2, c3, c4, c5, c6⟩ := rgC_cells (rheap_keep hb1 HH.out)
  clear hb1
  go_wp2_with fail
  refine (wclone_walk A k c l w1 (HW.out.below B1.out) hk HA.out).mono ?_
  rintro e w2 ⟨A1, c1', rfl, ho2, hb2⟩
  have HO := Lib.hid (own_base_le ho2 B1.out.size); have B2 := Lib.hid (below_then B1.out B1.out.size hb2)
  clear ho2 hb2
  go_wp2_with fail
  go_ret2
  exact ⟨A1, c1', rfl, HO.out, B2.out⟩
end Go.Proofs.Ytjidjbjbngbhpaa
