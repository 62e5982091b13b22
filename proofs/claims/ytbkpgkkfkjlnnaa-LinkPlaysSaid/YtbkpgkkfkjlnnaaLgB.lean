/- Links of any messages: find (an index by a closure). -/
import Derived.Test.YtbkpgkkfkjlnnaaLgA
import Derived.Deep.QuietTactic
import Derived.BigQuiet
set_option linter.unusedVariables false
set_option linter.unusedSimpArgs false
namespace Go.Proofs.Ytbkpgkkfkjlnnaa.G
open Go.RowKit Go.Proofs.YtbkpgkkfkjlnnaaW.PrintWords Go.Proofs.YtbkpgkkfkjlnnaaW.PrintLast Go.Proofs.Ytbkpgkkfkjlnnaa.K Go.Proofs.Ytbkpgkkfkjlnnaa.Row Go.Proofs.Ytbkpgkkfkjlnnaa

theorem ret_i {a b : Int} (h : a = b) : Ending.returned (.int .i64 a) = .returned (.int .i64 b) := by rw [h]
theorem cell1 {w : World} {r : Nat} {a : Value} {ty : TypeId} (h : w.heap[r]? = some (.cells #[a] ty (0, 0))) : w.cell? ⟨r, 0, none⟩ = some a := by simp [World.cell?, h]
theorem make_f (fn : Fn) (first cap : Array Value) (w : World) : (Instr.makeFunc fn first cap).run Try.prog w = .ok (.func fn first cap) w := rfl
theorem row7 {w : World} {base n c : Nat} {A : Option Addr} {L : List Hd} (h : w.ownsRow base 32 7 (.slice A n c) n (hdC L)) {k : Nat} {x : Hd} (hx : L[k]? = some x) : ∃ g, A = some ⟨g, 0, none⟩ ∧ w.cell? ⟨g, k * 7, none⟩ = some (.int .i64 x.k) ∧ w.cell? ⟨g, k * 7 + 1, none⟩ = some (.int .i64 x.f) ∧ w.cell? ⟨g, k * 7 + 2, none⟩ = some (.int .i64 x.t) ∧ w.cell? ⟨g, k * 7 + 3, none⟩ = some (.int .u32 x.v) ∧ w.cell? ⟨g, k * 7 + 4, none⟩ = some (.int .u32 x.s) ∧ w.cell? ⟨g, k * 7 + 5, none⟩ = some x.nv ∧ w.cell? ⟨g, k * 7 + 6, none⟩ = some x.wv := by
  have hk : k < L.length := (List.getElem?_eq_some_iff.1 hx).1
  have hl : L.length = n := by
    have := h.1
    unfold hdC at this
    rw [flat_len Hd.cells 7 hd_len] at this; omega
  obtain ⟨g, cap, e, _, _⟩ := h.form (by omega)
  injection e with e1 e2 e3
  subst e1 e3
  have y : ∀ j, j < 7 → w.cell? ⟨g, k * 7 + j, none⟩ = x.cells[j]? := fun j hj => by
    have e := flat_get Hd.cells 7 hd_len L k x hx j hj
    obtain ⟨u, hu⟩ : ∃ u, x.cells[j]? = some u := ⟨x.cells[j]'(by rw [hd_len]; exact hj), List.getElem?_eq_getElem _⟩
    have := h.cells (g := g) rfl (k * 7 + j) u (by unfold hdC; rw [e, hu])
    rw [Go.Proofs.YtbkpgkkfkjlnnaaW.PrintWords.add_plain] at this
    rw [this, hu]
  exact ⟨g, rfl, y 0 (by decide), y 1 (by decide), y 2 (by decide), y 3 (by decide), y 4 (by decide), y 5 (by decide), y 6 (by decide)⟩
set_option maxHeartbeats 1000000 in
theorem find1_walk (k f t v s q : Int) (A B : Value) (g : Nat) (w : World) (hc : w.cell? ⟨g, 0, none⟩ = some (.int .u32 q)) :
    Calls Try.prog 44 #[.agg (msC k f t v s A B), .pointer (some ⟨g, 0, none⟩)] w fun e w' => e = .returned (.bool (s == q)) ∧ Below w.heap.size w w' := by
  have hc2 : ∀ o, (w.alloc o).cell? ⟨g, 0, none⟩ = some (.int .u32 q) := fun o => pw_cell_below (alloc_back o) hc
  have HB := Lib.hid (alloc_back (W := w) (.cells (msC k f t v s A B) 32))
  clear hc
  go_enter Try.func44, Try.ntmps44
  go_wp2_with fail
  go_ret
  exact ⟨rfl, HB.out⟩
def fIx (L : List Hd) (q : Int) : Int := if L.findIdx (fun h => h.s == q) < L.length then ((L.findIdx (fun h => h.s == q) : Nat) : Int) else -1
theorem fIx_hit {L : List Hd} {q : Int} {k : Nat} {x : Hd} (hx : L[k]? = some x) (hs : x.s = q) (hno : ∀ j y, j < k → L[j]? = some y → y.s ≠ q) : fIx L q = (k : Int) := by
  have hk := (List.getElem?_eq_some_iff.1 hx).1
  have e : L.findIdx (fun h => h.s == q) = k := by
    rw [List.findIdx_eq hk]
    refine ⟨?_, fun j hj => ?_⟩
    · have : L[k] = x := (List.getElem?_eq_some_iff.1 hx).2
      rw [this]; simpa using hs
    · have := hno j L[j] hj (List.getElem?_eq_getElem _)
      simpa using this
  unfold fIx
  rw [e, if_pos hk]
theorem fIx_miss {L : List Hd} {q : Int} (hno : ∀ j y, j < L.length → L[j]? = some y → y.s ≠ q) : fIx L q = -1 := by
  unfold fIx
  rw [if_neg]
  rw [List.findIdx_lt_length]
  rintro ⟨x, hx, h⟩
  obtain ⟨j, hj⟩ := List.mem_iff_getElem?.1 hx
  exact hno j x (List.getElem?_eq_some_iff.1 hj).1 hj (by simpa using h)
set_option maxHeartbeats 2000000 in
theorem index_walk (A : Option Addr) (n c : Nat) (L : List Hd) (g : Nat) (q : Int) (w : World) (ho : w.ownsRow 0 32 7 (.slice A n c) n (hdC L)) (hl : L.length = n) (hn : n ≤ 100000) (hc : w.cell? ⟨g, 0, none⟩ = some (.int .u32 q)) :
    Calls Try.prog 43 #[.slice A n c, .func (.func 44) #[] #[.pointer (some ⟨g, 0, none⟩)]] w fun e w' => e = .returned (.int .i64 (fIx L q)) ∧ Below w.heap.size w w' := by
  have HO := Lib.hid ho; have HC := Lib.hid hc; have HL := Lib.hid hl
  clear ho hc hl
  go_enter Try.func43, Try.ntmps43
  go_wp2_with fail
  go_loopw [8] (fun i wr => ∃ k : Nat, k ≤ n ∧ i = .int .i64 k ∧ Aside0 (Below w.heap.size w wr ∧ ∀ j y, j < k → L[j]? = some y → y.s ≠ q)) (fun i _ => n - (intOf i).toNat)
  case atStart => exact ⟨0, Nat.zero_le _, rfl, Below.refl _ _, fun j y hj => absurd hj (by omega)⟩
  case round =>
    obtain ⟨k, hk, rfl, HK⟩ := hrel
    by_cases hlt : k < n
    · obtain ⟨x, hx⟩ : ∃ x, L[k]? = some x := ⟨L[k]'(by rw [HL.out]; exact hlt), List.getElem?_eq_getElem _⟩
      obtain ⟨ga, rfl, c0, c1, c2, c3, c4, c5, c6⟩ := row7 (pw_own_below HO.out HK.out.1) hx
      have C1 := Lib.hid (find1_walk x.k x.f x.t x.v x.s q x.nv x.wv g wr (pw_cell_below HK.out.1 HC.out))
      have HX := Lib.hid hx; have HLT := Lib.hid hlt
      clear hx
      go_wp2_with fail
      refine C1.out.mono ?_
      rintro e w2 ⟨rfl, hb2⟩
      have HB2 := Lib.hid (below_then HK.out.1 HK.out.1.size hb2)
      clear hb2 c0 c1 c2 c3 c4 c5 c6
      by_cases hs : x.s = q
      · have hs' : (x.s == q) = true := by simpa using hs
        rw [hs']
        have HS := Lib.hid hs; clear hs hs'
        go_wp2_with fail
        go_ret
        exact ⟨ret_i (fIx_hit HX.out HS.out HK.out.2).symm, HB2.out⟩
      · have hs' : (x.s == q) = false := by simpa using hs
        rw [hs']
        go_wp2_with fail
        go_roundw
        case rel =>
          refine ⟨k + 1, by have := HLT.out; omega, by go_num, HB2.out, fun j y hj hy => ?_⟩
          rcases Nat.lt_or_ge j k with h | h
          · exact HK.out.2 j y h hy
          · obtain rfl : j = k := by omega
            rw [HX.out] at hy; injection hy with hy; subst hy; exact hs
        case measure => have := HLT.out; simp [intOf]; omega
    · obtain rfl : k = n := by omega
      go_wp2_with fail
      go_ret
      exact ⟨ret_i (fIx_miss (fun j y hj hy => HK.out.2 j y (by have := HL.out; omega) hy)).symm, HK.out.1⟩
set_option maxHeartbeats 1000000 in
theorem find_walk (w : World) (S : Nat → Prop) (r : Nat) (x : LSt) (q : Int) (h : LkG w S r x) (hn : x.held.length ≤ 100000) :
    Calls Try.prog 29 #[.pointer (some ⟨r, 0, none⟩), .int .u32 q] w fun e w' => e = .returned (.int .i64 (fIx x.held q)) ∧ Below w.heap.size w w' := by
  obtain ⟨A, c, B, d, h1, h2, h3⟩ := h.cl
  obtain ⟨w1, hw1⟩ : ∃ w1, w1 = w.alloc (.cells #[.int .u32 q] 27) := ⟨_, rfl⟩
  have hb1 : Below w.heap.size w w1 := by rw [hw1]; exact alloc_back _
  have q1 : w1.cell? ⟨w.heap.size, 0, none⟩ = some (.int .u32 q) := by rw [hw1]; exact cell1 (heap_alloc_new _ _)
  obtain ⟨c0, c1, c2, c3, c4, c5, c6, c7, c8⟩ := lkC_cells h1
  have a8 : ∀ o, (w.alloc o).cell? ⟨r, 8, none⟩ = _ := fun o => pw_cell_below (alloc_back o) c8
  have C1 := Lib.hid (index_walk B x.held.length d x.held w.heap.size q w1 (pw_own_below h3.1 hb1) rfl hn q1)
  have HB1 := Lib.hid hb1; have HW1 := Lib.hid hw1
  have hmf := make_f
  clear hb1 hw1 q1 h1 h2 h3 c0 c1 c2 c3 c4 c5 c6 c7 c8 h
  go_enter Try.func29, Try.ntmps29
  go_wp2_with fail
  rw [← HW1.out]
  refine C1.out.mono ?_
  rintro e w2 ⟨rfl, hb2⟩
  have HB2 := Lib.hid (below_then HB1.out HB1.out.size hb2)
  clear hb2
  go_wp2_with fail
  go_ret
  exact ⟨rfl, HB2.out⟩
end Go.Proofs.Ytbkpgkkfkjlnnaa.G
