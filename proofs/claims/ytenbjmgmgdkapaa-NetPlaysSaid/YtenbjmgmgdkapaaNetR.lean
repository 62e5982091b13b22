/- Net: the walk of NetOrder. -/
import Derived.Test.YtenbjmgmgdkapaaNetQ
import Derived.Deep.QuietTactic
import Derived.BigQuiet
import Derived.WalkSmall
set_option linter.unusedVariables false
set_option linter.unusedSimpArgs false
namespace Go.Proofs.Ytenbjmgmgdkapaa
open Go.RowKit Go.Proofs.YtenbjmgmgdkapaaW.PrintWords Go.ChangeShapes Go.WideShapes Go.Deep
open Go.RowKit Go.Proofs.YtenbjmgmgdkapaaW.PrintWords Go.Proofs.Ytenbjmgmgdkapaa.K Go.ChangeShapes Go.WideShapes

section
variable {H : Type} {enc : TypeId × Value → H} {P : Program} {w : World} {base : Nat} {spare : Nat → Bool} {held : Bool}
/-- A slice of bytes, as an element of something; a nil one has no room. -/
theorem open_numsz {e b : TypeId} {k : IntKind} {fuel : Nat} {v : Value} {x : DataW H × List MemPlace} (he : P.underlying e = some (.slice b)) (hb : P.underlying b = some (.int k)) (hc : P.cellsOf b = 1)
    (h : DataW.trod enc P w base spare held fuel e [v] = some x) : ∃ A c zs, v = .slice A (List.length zs) c ∧ ReadsInt w k A (List.length zs) zs ∧ (A = none → c = 0) := by
  rcases open_ints he hb hc h with ⟨hcs, _⟩ | ⟨a, l, c, zs, hcs, _, hl, hm, hz, _, hcell, hwz⟩
  · simp only [List.cons.injEq, and_true] at hcs
    subst hcs
    exact ⟨none, 0, [], rfl, reads_nil _ _, fun _ => rfl⟩
  · simp only [List.cons.injEq, and_true] at hcs
    subst hcs
    have hle : l ≤ zs.length := by rw [hz]; split <;> omega
    simp only [maxLen] at hm
    have hlen : (zs.take l).length = l := by rw [List.length_take]; omega
    refine ⟨some a, c, zs.take l, by rw [hlen], ⟨rfl, by rw [hlen]; omega, fun _ => ⟨a, rfl, fun j hj => ?_⟩⟩, fun h => by cases h⟩
    rw [hlen] at hj
    rw [hcell j (by omega)]
    simp [List.getD_eq_getElem?_getD, hj]
def RowsZ (w : World) (k : IntKind) (A : Option Addr) (n : Nat) (R : Nat → List Int) : Prop :=
  n ≤ 9223372036854775807 ∧ ∀ i, i < n → ∃ ad B c, A = some ad ∧ w.cell? (ad.add i) = some (.slice B (R i).length c) ∧ ReadsInt w k B (R i).length (R i) ∧ (B = none → c = 0)
theorem open_rowsz {t e b : TypeId} {k : IntKind} {v : Value} {d : DataW H} {ps : List MemPlace} (ht : P.underlying t = some (.slice e)) (he : P.underlying e = some (.slice b)) (hb : P.underlying b = some (.int k)) (hc1 : P.cellsOf e = 1) (hc2 : P.cellsOf b = 1)
    {r : Reach} {b0 : Nat} (hval : Value.okWide P w r b0 t v) (h : DataW.Trod enc P w base spare held t v d ps) : ∃ A n c R, v = .slice A n c ∧ RowsZ w k A n R ∧ n ≤ c := by
  obtain ⟨a, n, c, rfl⟩ := okWide_slice ht hval
  obtain ⟨fuel, hf⟩ := h
  rcases open_slice1 ht hc1 hf with ⟨hcs, _⟩ | ⟨ad, l, cap, m, f2, V, D, Pl, hcs, _, hl, hm, hmm, _, hx⟩
  · simp [Value.cells] at hcs
    obtain ⟨rfl, rfl, rfl⟩ := hcs
    exact ⟨none, 0, 0, fun _ => [], rfl, ⟨by decide, fun i hi => by omega⟩, Nat.le_refl _⟩
  · simp [Value.cells] at hcs
    obtain ⟨rfl, rfl, rfl⟩ := hcs
    simp only [maxLen] at hm
    have hlm : n ≤ m := by rw [hmm]; split <;> omega
    have key : ∀ i, ∃ zs : List Int, i < n → ∃ B cc, w.cell? (ad.add i) = some (.slice B zs.length cc) ∧ ReadsInt w k B zs.length zs ∧ (B = none → cc = 0) := by
      intro i
      by_cases hi : i < n
      · obtain ⟨h1, h2⟩ := hx i (by omega)
        obtain ⟨B, cc, zs, hv, h3, h4⟩ := open_numsz he hb hc2 h2
        exact ⟨zs, fun _ => ⟨B, cc, by rw [h1, hv], h3, h4⟩⟩
      · exact ⟨[], fun h => absurd h hi⟩
    classical
    refine ⟨some ad, n, c, fun i => Classical.choose (key i), rfl, ⟨by omega, fun i hi => ?_⟩, hl⟩
    obtain ⟨B, cc, h1, h2⟩ := Classical.choose_spec (key i) hi
    exact ⟨ad, B, cc, rfl, h1, h2⟩
theorem open_packets {v : Value} {d : DataW H} {ps : List MemPlace} {r : Reach} {b0 : Nat} (hval : Value.okWide Try.prog w r b0 34 v) (h : DataW.Trod enc Try.prog w base spare held 34 v d ps) : ∃ A n c R, v = .slice A n c ∧ RowsZ w .u8 A n R ∧ n ≤ c :=
  open_rowsz (P := Try.prog) Try.underlying34 Try.underlying28 Try.underlying5 (by kernel_rfl) (by kernel_rfl) hval h
end
theorem and15 : ∀ k : Nat, k < 50 → bits .and .i64 (k : Int) 15 = ((k % 16 : Nat) : Int) := by decide
/-- What is sent so far. -/
def Sent (R : Nat → List Int) (j k : Nat) (L : List Pk) : Prop := L.length = k - j ∧ ∀ i, i < k - j → ∃ A c, L[i]? = some ⟨(((j + i) % 16 : Nat) : Int), (((j + i + 1) % 16 : Nat) : Int), A, c, R (j + i), false⟩
set_option maxRecDepth 100000 in
set_option maxHeartbeats 4000000 in
theorem order_walk (W : World) (v : Value) (o : ∃ A n c R, v = .slice A n c ∧ RowsZ W .u8 A n R ∧ n ≤ c) :
    Calls Try.prog 4 #[v] W fun e w' => e = .returned (.bool true) ∧ Below W.heap.size W w' := by
  obtain ⟨A, n, c, R, rfl, hR, hc⟩ := o
  have HR := Lib.hid hR; clear hR
  by_cases h6 : 40 < n
  · go_enter Try.func4, Try.ntmps4
    go_wp2_with fail
    refine (awake_walk W).mono ?_
    rintro e w0 ⟨rfl, hb0⟩
    go_wp2_with fail
    go_ret
    exact ⟨rfl, hb0⟩
  go_enter Try.func4, Try.ntmps4
  go_wp2_with fail
  refine (awake_walk W).mono ?_
  rintro e w0 ⟨rfl, hb0⟩
  have B0 := Lib.hid hb0; clear hb0
  go_wp2_with fail
  have C1 := Lib.hid (new_ok 50 w0 (by decide) (by decide))
  have S0 := Lib.hid (net_made w0 w0.heap.size 50 (Nat.le_refl _))
  have HB0 : ∀ o o' : Obj, Below w0.heap.size w0 ((w0.alloc o).alloc o') := fun o o' => alloc_back2 o o'
  have HB := Lib.hid HB0; clear HB0
  refine C1.out.mono ?_
  rintro e w1 ⟨rfl, hw1⟩
  have S1 := Lib.hid (show NetS w1 w0.heap.size (w0.heap.size + 1) w0.heap.size 50 0 (fun _ _ => false) [] by rw [hw1]; exact S0.out)
  have B1 := Lib.hid (show Below w0.heap.size w0 w1 by rw [hw1]; exact HB.out _ _)
  clear hw1
  go_wp2_with fail
  go_loopw [5] (fun i wr => ∃ k : Nat, k ≤ n ∧ i = .int .i64 k ∧ Aside0 (∃ L, Sent R 0 k L ∧ NetS wr w0.heap.size (w0.heap.size + 1) w0.heap.size 50 0 (fun _ _ => false) L ∧ Below w0.heap.size w0 wr ∧ (∀ i, i < k → (R i).length ≤ 200))) (fun i _ => n - (intOf i).toNat)
  case atStart => exact ⟨0, Nat.zero_le _, rfl, ⟨[], ⟨rfl, fun i hi => by omega⟩, S1.out, B1.out, fun i hi => by omega⟩⟩
  case round =>
    obtain ⟨k, hk, rfl, HK⟩ := hrel
    by_cases hlt : k < n
    · obtain ⟨ad, B, c1, rfl, hcell, hrd, hz⟩ := HR.out.2 k hlt
      obtain ⟨m, hm⟩ : ∃ m, m = (R k).length := ⟨_, rfl⟩
      rw [← hm] at hcell hrd
      have HM := Lib.hid hrd; clear hrd
      have HZ := Lib.hid hz; clear hz
      have HL := Lib.hid hm; clear hm
      have HC := Lib.hid hcell; clear hcell
      obtain ⟨L, hL, hS, hB, hle⟩ := HK.out
      have hcw := pw_cell_below (below_then B0.out B0.out.size hB) HC.out
      have HS := Lib.hid hS; have HLL := Lib.hid hL; have HBB := Lib.hid hB; have HLE := Lib.hid hle
      clear hS hL hB hle
      by_cases h2 : 200 < m
      · go_wp2_with fail
        go_ret
        exact ⟨rfl, below_then B0.out B0.out.size HBB.out⟩
      · go_wp2_with fail
        have ea := and15 k (by omega)
        have eb : bits .and .i64 ((k : Int) + 1) 15 = (((k + 1) % 16 : Nat) : Int) := and15 (k + 1) (by omega)
        rw [ea, eb]
        have hlen : L.length = k := HLL.out.1
        refine (send_ok w0.heap.size (w0.heap.size + 1) w0.heap.size 50 0 (fun _ _ => false) L (k % 16) ((k + 1) % 16) B m c1 (R k) wr (Nat.mod_lt _ (by decide)) (Nat.mod_lt _ (by decide)) (by omega) HS.out (HM.out.below (below_then B0.out B0.out.size HBB.out)) HZ.out rfl (by rw [hlen]; omega) (by decide)).mono ?_
        rintro e w2 ⟨A1, c2, rfl, hS2, hB2⟩
        have S2 := Lib.hid hS2; have B2 := Lib.hid (hB2 w0 HBB.out); clear hS2 hB2 ea eb
        go_wp2_with fail
        go_roundw
        case rel =>
          refine ⟨k + 1, by omega, by go_num, ⟨_, ⟨by rw [List.length_append, hlen]; rfl, fun i hi => ?_⟩, S2.out, B2.out, fun i hi => ?_⟩⟩
          · rcases Nat.lt_or_ge i k with h | h
            · obtain ⟨A, c, h1⟩ := HLL.out.2 i (by omega)
              exact ⟨A, c, by rw [List.getElem?_append_left (by omega)]; exact h1⟩
            · obtain rfl : i = k := by omega
              refine ⟨A1, c2, ?_⟩
              rw [List.getElem?_append_right (by omega), hlen]
              simp
          · rcases Nat.lt_or_ge i k with h | h
            · exact HLE.out i h
            · obtain rfl : i = k := by omega
              have := HL.out; omega
        case measure => simp [intOf]; omega
    · obtain rfl : k = n := by omega
      obtain ⟨L, hL, hS, hB, hle⟩ := HK.out
      have HS := Lib.hid hS; have HLL := Lib.hid hL; have HBB := Lib.hid hB; have HLE := Lib.hid hle
      clear hS hL hB hle
      go_wp2_with fail
      go_loopw [6] (fun i wr => ∃ j : Nat, j ≤ k ∧ i = .int .i64 j ∧ Aside0 (∃ L, Sent R j k L ∧ NetS wr w0.heap.size (w0.heap.size + 1) w0.heap.size 50 0 (fun _ _ => false) L ∧ Below w0.heap.size w0 wr)) (fun i _ => k - (intOf i).toNat)
      case atStart => exact ⟨0, Nat.zero_le _, rfl, ⟨_, HLL.out, HS.out, HBB.out⟩⟩
      case round =>
        obtain ⟨j, hj, rfl, HJ⟩ := hrel
        by_cases hlt : j < k
        · obtain ⟨ad, B, c1, rfl, hcell, hrd, hz⟩ := HR.out.2 j hlt
          obtain ⟨m, hm⟩ : ∃ m, m = (R j).length := ⟨_, rfl⟩
          have HM := Lib.hid hrd; clear hrd
          have HL := Lib.hid hm; clear hm
          have HC := Lib.hid hcell; clear hcell
          obtain ⟨L2, hL2, hS2, hB2⟩ := HJ.out
          obtain ⟨q, hq⟩ : ∃ q : Nat, q = j % 16 := ⟨_, rfl⟩
          obtain ⟨q2, hq2⟩ : ∃ q : Nat, q = (j + 1) % 16 := ⟨_, rfl⟩
          obtain ⟨A4, c4, hp⟩ := hL2.2 0 (by omega)
          simp only [Nat.add_zero] at hp
          rw [← hq, ← hq2] at hp
          have ea : Hid (bits .and .i64 (j : Int) 15 = (q : Int)) := Lib.hid (by rw [hq]; exact and15 j (by omega))
          have eb : Hid (bits .and .i64 ((j : Int) + 1) 15 = (q2 : Int)) := Lib.hid (by rw [hq2]; exact and15 (j + 1) (by omega))
          have h50 : L2.length ≤ 100000 := by rw [hL2.1]; omega
          have h200 := HLE.out j hlt
          have TK := Lib.hid (take_ok w0.heap.size (w0.heap.size + 1) w0.heap.size 50 0 (fun _ _ => false) L2 0 ⟨q, q2, A4, c4, R j, false⟩ wr hS2 hp h50 (Nat.le_trans h200 (by decide)))
          have HLL2 := Lib.hid hL2; have HB2 := Lib.hid hB2; have HZ := Lib.hid hz
          clear hL2 hS2 hB2 hp hq hq2 h50 h200 hz
          go_wp2_with fail
          refine TK.out.mono ?_
          rintro e w2 ⟨A5, c5, rfl, hr5, hS5, hB5⟩
          have S5 := Lib.hid hS5; have HR5 := Lib.hid hr5; have B5 := Lib.hid (hB5 w0 HB2.out); clear hS5 hr5 hB5
          go_wp2_with fail
          obtain ⟨w3, hw3⟩ : ∃ w3, w3 = w2.alloc (.cells #[.int .i64 (q : Int), .int .i64 (q2 : Int), .slice A5 (R j).length c5] 30) := ⟨_, rfl⟩
          have q3 : w3.heap[w2.heap.size]? = some (.cells #[.int .i64 (q : Int), .int .i64 (q2 : Int), .slice A5 (R j).length c5] 30 (0, 0)) := by rw [hw3]; exact heap_alloc_new _ _
          have g3 : Below w2.heap.size w2 w3 := by rw [hw3]; exact alloc_back _
          have b4 : Below w0.heap.size w0 w3 := by rw [hw3]; exact B5.out.alloc B5.out.size _
          rw [← hw3]
          clear hw3
          obtain ⟨z0, z1, z2⟩ := box3 q3
          have b3 := below_then B0.out B0.out.size b4
          have kx : ∀ m, (convert 28 9 (.slice A5 (R j).length c5)).run Try.prog (w3.drewN m) = .ok (.string (strOfNums (R j))) (w3.drewN m) := fun m => str_of (HR5.out.below (below_drewN g3 m))
          have ky : ∀ m, (convert 28 9 (.slice B (R j).length c1)).run Try.prog (w3.drewN m) = .ok (.string (strOfNums (R j))) (w3.drewN m) := fun m => str_of (HM.out.below (below_drewN b3 m))
          have kc := pw_cell_below b3 HC.out
          have h1 := ea.out; have h2 := eb.out
          have S6 := Lib.hid (S5.out.below g3); have B6 := Lib.hid b4
          clear g3 b4 b3 q3
          go_quiet (fail)
          clear h1 h2 kx ky kc z0 z1 z2
          go_wp2_with fail
          go_roundw
          case rel =>
            refine ⟨j + 1, by omega, by go_num, ⟨_, ⟨?_, fun i hi => ?_⟩, S6.out.below (below_drewN (Below.refl _ _) _), below_drewN B6.out _⟩⟩
            · rw [List.length_eraseIdx_of_lt (by rw [HLL2.out.1]; omega), HLL2.out.1]; omega
            · obtain ⟨A, c, h⟩ := HLL2.out.2 (i + 1) (by omega)
              refine ⟨A, c, ?_⟩
              rw [List.getElem?_eraseIdx]
              simpa [Nat.add_assoc, Nat.add_comm, Nat.add_left_comm] using h
          case measure => simp [intOf]; omega
        · obtain rfl : j = k := by omega
          obtain ⟨L2, hL2, hS2, hB2⟩ := HJ.out
          have hl0 : L2.length = 0 := by rw [hL2.1]; omega
          have LN := Lib.hid hS2.len
          have HB2 := Lib.hid hB2; have HL0 := Lib.hid hl0
          clear hL2 hS2 hB2 hl0
          go_wp2_with fail
          refine LN.out.mono ?_
          rintro e w2 ⟨rfl, rfl⟩
          rw [HL0.out]
          go_wp2_with fail
          go_ret
          exact ⟨rfl, below_then B0.out B0.out.size HB2.out⟩
end Go.Proofs.Ytenbjmgmgdkapaa
