/- The reference's comparison, numbers of Wides. -/
import Derived.Test.YtjidjbjbngbhpaaRingW
import Derived.Test.YtjidjbjbngbhpaaRingR
import Derived.Laws.BitsAllLaws
set_option linter.unusedVariables false
set_option linter.unusedSimpArgs false
namespace Go.Proofs.Ytjidjbjbngbhpaa
open Go.RowKit Go.Proofs.YtjidjbjbngbhpaaW.PrintWords Go.Proofs.Ytjidjbjbngbhpaa.K

def SomeB (w : World) (e : Ending) (w' : World) : Prop := ∃ b : Bool, e = .returned (.bool b) ∧ Below w.heap.size w w'
theorem two_new (w : World) (a b : Obj) : (((w.alloc a).alloc b).heap[w.heap.size]? = some a) ∧ (((w.alloc a).alloc b).heap[w.heap.size + 1]? = some b) := by
  have s1 : (w.alloc a).heap.size = w.heap.size + 1 := by simp
  have e1 := heap_alloc_new w a
  have e2 := heap_alloc_new (w.alloc a) b
  rw [s1] at e2
  exact ⟨rheap_keep ((Below.refl (w.alloc a).heap.size (w.alloc a)).alloc (Nat.le_refl _) b) e1, e2⟩
structure L2 (w wr : World) (a b : Nat → Int) : Prop where
  ha : wr.heap[w.heap.size]? = some (.cells (w4 a) 56 (0, 0))
  hb : wr.heap[w.heap.size + 1]? = some (.cells (w4 b) 56 (0, 0))
  bw : Below w.heap.size w wr
theorem L2.drewN {w wr : World} {a b : Nat → Int} (h : L2 w wr a b) (n : Nat) : L2 w (wr.drewN n) a b := ⟨h.ha, h.hb, pw_below_drewN h.bw _⟩
theorem L2.start (w : World) (a b : Nat → Int) : L2 w ((w.alloc (.cells (w4 a) 56)).alloc (.cells (w4 b) 56)) a b :=
  ⟨(two_new _ _ _).1, (two_new _ _ _).2, ((Below.refl _ _).alloc (Nat.le_refl _) _).alloc (by simp) _⟩
set_option maxHeartbeats 4000000 in
theorem less_walk (a b : Nat → Int) (w : World) : Calls Try.prog 26 #[.agg (w4 a), .agg (w4 b)] w (SomeB w) := by
  have HS0 := Lib.hid (L2.start w a b)
  go_enter Try.func26, Try.ntmps26
  go_wp2_with fail
  go_loopw [5] (fun i wr => ∃ z : Int, -1 ≤ z ∧ z ≤ 3 ∧ i = .int .i64 z ∧ Aside0 (L2 w wr a b)) (fun i _ => (intOf i + 1).toNat)
  case atStart => exact ⟨3, by decide, by decide, rfl, ⟨HS0.out⟩⟩
  case round =>
    obtain ⟨z, hz0, hz3, rfl, HK⟩ := hrel
    by_cases hz : 0 ≤ z
    · obtain ⟨k, rfl⟩ := Int.eq_ofNat_of_zero_le hz
      have hk4 : k < 4 := by omega
      obtain ⟨x, hx⟩ : ∃ x, x = a k := ⟨_, rfl⟩
      obtain ⟨y, hy⟩ : ∃ y, y = b k := ⟨_, rfl⟩
      have ca := w4_cell HK.out.ha hk4
      have cb := w4_cell HK.out.hb hk4
      rw [← hx] at ca
      rw [← hy] at cb
      have hwj : IntKind.i64.wrap ((k : Int) - 1) = (k : Int) - 1 := by rw [IntKind.wrap_i64]; omega
      have i0 : (0 : Int) ≤ (k : Int) := by omega
      have i1 : (k : Int) < 4 := by omega
      clear hx hy
      by_cases g : x = y
      · subst g
        have e1 : (x != x) = false := by simp
        go_wp2_with fail
        go_quiet (fail)
        go_wp2_with fail
        go_roundw
        case rel => exact ⟨(k : Int) - 1, by omega, by omega, rfl, ⟨HK.out.drewN _⟩⟩
        case measure => simp [intOf]
      · have e1 : (x != y) = true := by rw [bne_iff_ne]; exact g
        clear g
        go_wp2_with fail
        go_quiet (fail)
        go_wp2_with fail
        go_quiet (fail)
        go_wp2_with fail
        go_ret
        exact ⟨_, rfl, ((HK.out.drewN _).drewN _).bw⟩
    · go_wp2_with fail
      go_ret
      exact ⟨false, rfl, HK.out.bw⟩
def nC (neg : Bool) (m : Nat → Int) : Array Value := #[.bool neg, .int .u64 (m 0), .int .u64 (m 1), .int .u64 (m 2), .int .u64 (m 3)]
/-- The number, modulo 2^128. -/
def nV (neg : Bool) (m : Nat → Int) : Int := if neg then -(m 1 * 18446744073709551616 + m 0) else m 1 * 18446744073709551616 + m 0
def NumP (w : World) (v : Int) (e : Ending) (w' : World) : Prop := ∃ neg m, e = .returned (.agg (nC neg m)) ∧ In4 m ∧ (nV neg m - v) % 340282366920938463463374607431768211456 = 0 ∧ Below w.heap.size w w'
theorem xor_ones (x : Nat) (hx : x < 18446744073709551616) : 18446744073709551615 ^^^ x = 18446744073709551615 - x := by
  have h := congrArg BitVec.toNat (BitVec.allOnes_xor (x := BitVec.ofNat 64 x))
  rw [BitVec.toNat_xor, BitVec.toNat_not, BitVec.toNat_allOnes, BitVec.toNat_ofNat, Nat.mod_eq_of_lt hx] at h
  simpa using h
theorem bits_not (l : Int) (h0 : 0 ≤ l) (h1 : l < 18446744073709551616) : bits .xor .u64 IntKind.u64.max l = 18446744073709551615 - l := by
  have e : IntKind.u64.max = 18446744073709551615 := by decide
  rw [e, u64_xor _ _ (by decide) (by decide) h0 h1]
  have := xor_ones l.toNat (by omega)
  rw [show (18446744073709551615 : Int).toNat = 18446744073709551615 by decide, this]
  omega
def mm (x y : Int) : Nat → Int
  | 0 => x
  | 1 => y
  | _ => 0
theorem mm_in {x y : Int} (hx : 0 ≤ x ∧ x < 18446744073709551616) (hy : 0 ≤ y ∧ y < 18446744073709551616) : In4 (mm x y) := fun k => by
  rcases k with _ | _ | k
  · exact hx
  · exact hy
  · exact ⟨Int.le_refl 0, (by decide : (0 : Int) < 18446744073709551616)⟩
theorem two_cell (w : World) (a : Obj) {b : Obj} {cs : Array Value} {t : TypeId} (h : b = .cells cs t (0, 0)) (n : Nat) : (((w.alloc a).alloc b).drewN n).heap[w.heap.size + 1]? = some (.cells cs t (0, 0)) := by
  rw [h]; exact (two_new w a _).2
theorem two_below (w : World) (a b : Obj) (n : Nat) : Below w.heap.size w (((w.alloc a).alloc b).drewN n) := pw_below_drewN (((Below.refl _ _).alloc (Nat.le_refl _) _).alloc (by simp) _) _
theorem set5 {w : World} {r : Nat} {cs : Array Value} {t : TypeId} (h : w.heap[r]? = some (.cells cs t (0, 0))) (hs : cs.size = 5) (a b c d e : Value) : (((((w.setCell ⟨r, 0, none⟩ a).setCell ⟨r, 1, none⟩ b).setCell ⟨r, 2, none⟩ c).setCell ⟨r, 3, none⟩ d).setCell ⟨r, 4, none⟩ e).heap[r]? = some (.cells #[a, b, c, d, e] t (0, 0)) := by
  rw [heap_set _ (heap_set _ (heap_set _ (heap_set _ (heap_set _ h))))]
  obtain ⟨l⟩ := cs
  match l, hs with
  | [x0, x1, x2, x3, x4], _ => rfl
theorem set5_below {w0 w : World} {r : Nat} {a b c d e : Value} (h : Below w0.heap.size w0 w) (hr : w0.heap.size ≤ r) : Below w0.heap.size w0 (((((w.setCell ⟨r, 0, none⟩ a).setCell ⟨r, 1, none⟩ b).setCell ⟨r, 2, none⟩ c).setCell ⟨r, 3, none⟩ d).setCell ⟨r, 4, none⟩ e) := ((((h.setCell hr a).setCell hr b).setCell hr c).setCell hr d).setCell hr e
set_option maxHeartbeats 4000000 in
theorem num_walk (p : Int × Int) (hp : WwfP p) (w : World) : Calls Try.prog 20 #[.agg #[.int .i64 p.1, .int .u64 p.2]] w (NumP w (p.1 * 18446744073709551616 + p.2)) := by
  obtain ⟨h, l⟩ := p
  have hr := (wwf_iff _).1 hp
  simp only [] at hr
  clear hp
  by_cases h0 : 0 ≤ h
  · have e1 : IntKind.u64.wrap h = h := by rw [IntKind.wrap_u64]; omega
    have HF := Lib.hid (show In4 (mm l h) ∧ (nV false (mm l h) - (h * 18446744073709551616 + l)) % 340282366920938463463374607431768211456 = 0 from ⟨mm_in hr.2 ⟨h0, by omega⟩, by unfold nV; simp only [mm]; simp⟩)
    go_enter Try.func20, Try.ntmps20
    go_wp2_with fail
    (try simp only [Exit.inBlock, Exit.then])
    refine bodyPost_ret (results_cell_row rfl _ _ (w.heap.size + 1) 58 (nC false (mm l h)) (0, 0) _ rfl (two_new _ _ _).2 Try.underlying58 rfl (by kernel_rfl)) rfl ?_
    exact ⟨false, mm l h, rfl, HF.out.1, HF.out.2, two_below w _ _ 0⟩
  · obtain ⟨nl, hnl⟩ : ∃ nl, nl = 18446744073709551615 - l := ⟨_, rfl⟩
    obtain ⟨lo, hlo⟩ : ∃ lo, lo = if l = 0 then 0 else 18446744073709551616 - l := ⟨_, rfl⟩
    obtain ⟨hu, hhu⟩ : ∃ hu, hu = h + 18446744073709551616 := ⟨_, rfl⟩
    obtain ⟨nh, hnh⟩ : ∃ nh, nh = -h - 1 := ⟨_, rfl⟩
    have e1 : bits .xor .u64 IntKind.u64.max l = nl := by rw [bits_not l hr.2.1 hr.2.2, hnl]
    have e2 : IntKind.u64.wrap (nl + 1) = lo := by rw [IntKind.wrap_u64, hnl, hlo]; split <;> omega
    have e3 : IntKind.u64.wrap h = hu := by rw [IntKind.wrap_u64, hhu]; omega
    have e4 : bits .xor .u64 IntKind.u64.max hu = nh := by rw [bits_not hu (by omega) (by omega), hnh, hhu]; omega
    have HE := Lib.hid (And.intro hnl (And.intro hlo (And.intro hhu hnh)))
    by_cases hl : l = 0
    · have hlo0 : lo = 0 := by rw [hlo, if_pos hl]
      clear hlo HE
      subst hlo0
      obtain ⟨hi, hhi⟩ : ∃ hi, hi = -h := ⟨_, rfl⟩
      have e5 : IntKind.u64.wrap (nh + 1) = hi := by rw [IntKind.wrap_u64, hnh, hhi]; omega
      have HF := Lib.hid (show In4 (mm 0 hi) ∧ (nV true (mm 0 hi) - (h * 18446744073709551616 + l)) % 340282366920938463463374607431768211456 = 0 from by
        rw [hhi]
        refine ⟨mm_in ⟨Int.le_refl 0, (by decide : (0 : Int) < 18446744073709551616)⟩ ⟨by omega, by omega⟩, ?_⟩
        unfold nV
        simp only [mm, if_true]
        omega)
      clear hnl hhu hnh hhi hl hr
      have hsg : IntKind.u64.signed = false := rfl
      go_enter Try.func20, Try.ntmps20
      go_wp2_with fail
      go_quiet (fail)
      go_wp2_with fail
      (try simp only [Exit.inBlock, Exit.then])
      refine bodyPost_ret (results_cell_row rfl _ _ (w.heap.size + 1) 58 (nC true (mm 0 hi)) (0, 0) _ rfl (set5 (two_cell w _ rfl nq) rfl _ _ _ _ _) Try.underlying58 rfl (by kernel_rfl)) rfl ?_
      exact ⟨true, mm 0 hi, rfl, HF.out.1, HF.out.2, set5_below (two_below w _ _ _) (Nat.le_succ _)⟩
    · have g0 : ¬ lo = 0 := by rw [hlo, if_neg hl]; omega
      have g1 : (lo == 0) = false := by rw [beq_eq_false_iff_ne]; exact g0
      have HF := Lib.hid (show In4 (mm lo nh) ∧ (nV true (mm lo nh) - (h * 18446744073709551616 + l)) % 340282366920938463463374607431768211456 = 0 from by
        rw [hlo, if_neg hl, hnh]
        refine ⟨mm_in ⟨by omega, by omega⟩ ⟨by omega, by omega⟩, ?_⟩
        unfold nV
        simp only [mm, if_true]
        omega)
      clear hnl hlo hhu hnh hl hr
      have hsg : IntKind.u64.signed = false := rfl
      go_enter Try.func20, Try.ntmps20
      go_wp2_with fail
      go_quiet (fail)
      go_wp2_with fail
      (try simp only [Exit.inBlock, Exit.then])
      refine bodyPost_ret (results_cell_row rfl _ _ (w.heap.size + 1) 58 (nC true (mm lo nh)) (0, 0) _ rfl (set5 (two_cell w _ rfl nq) rfl _ _ _ _ _) Try.underlying58 rfl (by kernel_rfl)) rfl ?_
      exact ⟨true, mm lo nh, rfl, HF.out.1, HF.out.2, set5_below (two_below w _ _ _) (Nat.le_succ _)⟩
end Go.Proofs.Ytjidjbjbngbhpaa
