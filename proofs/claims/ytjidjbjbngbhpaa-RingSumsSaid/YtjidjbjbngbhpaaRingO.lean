/- Ring: awake. -/
import Derived.Test.YtjidjbjbngbhpaaRingN
import Derived.Deep.DeepCutAuto
set_option linter.unusedVariables false
set_option linter.unusedSimpArgs false
namespace Go.Proofs.Ytjidjbjbngbhpaa
open Go.RowKit Go.Proofs.YtjidjbjbngbhpaaW.PrintWords Go.Proofs.Ytjidjbjbngbhpaa.K

def la (j : Nat) : List (Int × Int) := if j < 2 then [(0, 1)] else [(0, 3)]
def lb (j : Nat) : List (Int × Int) := if j < 1 then [(0, 2)] else [(0, 3)]
def ma (j : Nat) : List (Int × Int) := if j < 1 then [(0, 1)] else []
def mb (j : Nat) : List (Int × Int) := if j < 1 then [] else [(0, 3)]
def ca (j : Nat) : Nat := if j < 1 then 0 else 1
def cb (j : Nat) : Nat := if j < 1 then 1 else 0
/-- What Out leaves of one of two rings. -/
def OutA (w : World) (id : RgId) (place : Int) (l : List (Int × Int)) (j c : Nat) (M : List (Int × Int)) (e : Ending) (w' : World) : Prop :=
  ∃ A1 c1, e = .returned (.tuple #[.agg #[.int .i64 (j : Int), .int .i64 (c : Int), .slice A1 M.length c1], .bool true]) ∧ w'.ownsRow w.heap.size 33 2 (.slice A1 M.length c1) M.length (wides M) ∧
    RgS w' id place 2 1 l j true false ∧ RgF w w' id
theorem out_a (w : World) (id : RgId) (j : Nat) (hj : j < 2) (h : RgS w id 0 2 1 (la j) j false false) : Calls Try.prog 9 #[.pointer (some ⟨id.r, 0, none⟩)] w (OutA w id 0 (la j) j (ca j) (ma j)) := by
  rcases (by omega : j = 0 ∨ j = 1) with rfl | rfl
  · refine (out_ok w id 0 2 1 (la 0) _ false h (by decide) 0 (by decide)).mono ?_
    rintro e w' ⟨A1, c1, h1, h2, h3, h4⟩
    exact ⟨A1, c1, h1, h2, h3, h4⟩
  · refine (out_ok w id 0 2 1 (la 1) _ false h (by decide) 1 (by decide)).mono ?_
    rintro e w' ⟨A1, c1, h1, h2, h3, h4⟩
    exact ⟨A1, c1, h1, h2, h3, h4⟩
theorem out_b (w : World) (id : RgId) (j : Nat) (hj : j < 2) (h : RgS w id 1 2 1 (lb j) j false false) : Calls Try.prog 9 #[.pointer (some ⟨id.r, 0, none⟩)] w (OutA w id 1 (lb j) j (cb j) (mb j)) := by
  rcases (by omega : j = 0 ∨ j = 1) with rfl | rfl
  · refine (out_ok w id 1 2 1 (lb 0) _ false h (by decide) 1 (by decide)).mono ?_
    rintro e w' ⟨A1, c1, h1, h2, h3, h4⟩
    exact ⟨A1, c1, h1, h2, h3, h4⟩
  · refine (out_ok w id 1 2 1 (lb 1) _ false h (by decide) 0 (by decide)).mono ?_
    rintro e w' ⟨A1, c1, h1, h2, h3, h4⟩
    exact ⟨A1, c1, h1, h2, h3, h4⟩
theorem get_b (w : World) (id : RgId) (j : Nat) (hj : j < 2) (h : RgS w id 1 2 1 (lb j) j true false) (PA : Option Addr) (pcap : Nat) (hM : WidesAt w PA (ma j).length (ma j)) (hap : ∀ ad, PA = some ad → ad.block ≠ id.r ∧ ∀ ad', id.A = some ad' → ad.block ≠ ad'.block) :
    Calls Try.prog 10 #[.pointer (some ⟨id.r, 0, none⟩), .agg #[.int .i64 (j : Int), .int .i64 (ca j : Int), .slice PA (ma j).length pcap]] w fun e w' => e = .returned (.int .i64 0) ∧ RgS w' id 1 2 1 (lb (j + 1)) ((j : Int) + 1) false false ∧ RgF w w' id := by
  rcases (by omega : j = 0 ∨ j = 1) with rfl | rfl
  · refine (get_ok w id 1 2 1 (lb 0) _ true h (0 : Nat) PA _ pcap (by decide) 0 (by decide) (by decide) (ma 0) hM (fun p hp => (show p = (0, 1) by simpa [ma] using hp) ▸ ⟨by decide, by decide⟩) hap ⟨rfl, by decide⟩ true (by decide)).mono ?_
    rintro e w' ⟨h1, h2, h3⟩
    rw [show gotL (lb 0) (cstart 1 2 0) true (ma 0) (ma 0).length = lb (0 + 1) by first | decide | kernel_rfl] at h2
    exact ⟨h1, h2, h3⟩
  · refine (get_ok w id 1 2 1 (lb 1) _ true h (1 : Nat) PA _ pcap (by decide) 1 (by decide) (by decide) (ma 1) hM (by intro p hp; exact absurd hp (by simp [ma])) hap ⟨rfl, by decide⟩ false (by decide)).mono ?_
    rintro e w' ⟨h1, h2, h3⟩
    rw [show gotL (lb 1) (cstart 1 2 1) false (ma 1) (ma 1).length = lb (1 + 1) by first | decide | kernel_rfl] at h2
    exact ⟨h1, h2, h3⟩
theorem get_a (w : World) (id : RgId) (j : Nat) (hj : j < 2) (h : RgS w id 0 2 1 (la j) j true false) (PA : Option Addr) (pcap : Nat) (hM : WidesAt w PA (mb j).length (mb j)) (hap : ∀ ad, PA = some ad → ad.block ≠ id.r ∧ ∀ ad', id.A = some ad' → ad.block ≠ ad'.block) :
    Calls Try.prog 10 #[.pointer (some ⟨id.r, 0, none⟩), .agg #[.int .i64 (j : Int), .int .i64 (cb j : Int), .slice PA (mb j).length pcap]] w fun e w' => e = .returned (.int .i64 0) ∧ RgS w' id 0 2 1 (la (j + 1)) ((j : Int) + 1) false false ∧ RgF w w' id := by
  rcases (by omega : j = 0 ∨ j = 1) with rfl | rfl
  · refine (get_ok w id 0 2 1 (la 0) _ true h (1 : Nat) PA _ pcap (by decide) 1 (by decide) (by decide) (mb 0) hM (by intro p hp; exact absurd hp (by simp [mb])) hap ⟨rfl, by decide⟩ true (by decide)).mono ?_
    rintro e w' ⟨h1, h2, h3⟩
    rw [show gotL (la 0) (cstart 1 2 1) true (mb 0) (mb 0).length = la (0 + 1) by first | decide | kernel_rfl] at h2
    exact ⟨h1, h2, h3⟩
  · refine (get_ok w id 0 2 1 (la 1) _ true h (0 : Nat) PA _ pcap (by decide) 0 (by decide) (by decide) (mb 1) hM (fun p hp => (show p = (0, 3) by simpa [mb] using hp) ▸ ⟨by decide, by decide⟩) hap ⟨rfl, by decide⟩ false (by decide)).mono ?_
    rintro e w' ⟨h1, h2, h3⟩
    rw [show gotL (la 1) (cstart 1 2 0) false (mb 1) (mb 1).length = la (1 + 1) by first | decide | kernel_rfl] at h2
    exact ⟨h1, h2, h3⟩
structure AwS (W wr : World) (a b : RgId) (t : Nat) (j : Nat) : Prop where
  sa : RgS wr a 0 2 1 (la j) j false false
  sb : RgS wr b 1 2 1 (lb j) j false false
  ia : RgIn a W.heap.size t
  ib : RgIn b t wr.heap.size
  bw : Below W.heap.size W wr
set_option maxRecDepth 100000 in
set_option maxHeartbeats 4000000 in
theorem awake_walk (W : World) : Calls Try.prog 6 #[] W fun e w' => e = .returned (.bool true) ∧ Below W.heap.size W w' := by
  go_enter Try.func6, Try.ntmps6
  go_wp2_with fail
  refine (one_ok 1 W (by decide) (by decide)).mono ?_
  rintro e w1 ⟨g1, rfl, ho1, hb1⟩
  have B1 := Lib.hid hb1; have C1 := Lib.hid (new_ok 0 2 (some ⟨g1, 0, none⟩) 1 1 [(0, 1)] w1 (part_read ho1 (by decide)) (fun p hp => (show p = (0, 1) by simpa using hp) ▸ ⟨by decide, by decide⟩) (fun h => by cases h) (by decide) (by decide) (by decide) (by decide) (by decide))
  clear hb1 ho1
  go_wp2_with fail
  refine (C1.out).mono ?_
  rintro e w2 ⟨a, rfl, ha, hab, hb2⟩
  have B2 := Lib.hid hb2; have HA := Lib.hid ha; have HAB := Lib.hid hab; clear hb2 ha hab C1
  go_wp2_with fail
  refine (one_ok 2 w2 (by decide) (by decide)).mono ?_
  rintro e w3 ⟨g3, rfl, ho3, hb3⟩
  have B3 := Lib.hid hb3; have C3 := Lib.hid (new_ok 1 2 (some ⟨g3, 0, none⟩) 1 1 [(0, 2)] w3 (part_read ho3 (by decide)) (fun p hp => (show p = (0, 2) by simpa using hp) ▸ ⟨by decide, by decide⟩) (fun h => by cases h) (by decide) (by decide) (by decide) (by decide) (by decide))
  clear hb3 ho3
  go_wp2_with fail
  refine (C3.out).mono ?_
  rintro e w4 ⟨b, rfl, hb, hbb, hb4⟩
  have B4 := Lib.hid hb4; have HB := Lib.hid hb; have HBB := Lib.hid hbb; clear hb4 hb hbb C3
  have HS := Lib.hid (show AwS W w4 a b w3.heap.size 0 from ⟨(HA.out.below B3.out).below B4.out, HB.out, HA.out.in'.mono (by rw [HAB.out]; exact B1.out.size) B3.out.size, HB.out.in'.mono (by rw [HBB.out]; exact Nat.le_refl _) (Nat.le_refl _), below_then (below_then (below_then B1.out B1.out.size B2.out) (Nat.le_trans B1.out.size B2.out.size) B3.out) (Nat.le_trans (Nat.le_trans B1.out.size B2.out.size) B3.out.size) B4.out⟩)
  obtain ⟨t, ht⟩ : ∃ t, t = w3.heap.size := ⟨_, rfl⟩
  rw [← ht] at HS
  clear ht HA HB HAB HBB B1 B2 B3 B4
  go_wp2_with fail
  go_loopw [5] (fun i wr => ∃ j : Nat, j ≤ 2 ∧ i = .int .i64 j ∧ Aside0 (AwS W wr a b t j)) (fun i _ => 2 - (intOf i).toNat)
  case atStart => exact ⟨0, by decide, rfl, ⟨HS.out⟩⟩
  case round =>
    obtain ⟨j, hj, rfl, HR⟩ := hrel
    by_cases hlt : j < 2
    · go_wp2_with fail
      refine (out_a wr a j hlt HR.out.sa).mono ?_
      rintro e x1 ⟨A1, c1, rfl, ho1, hr1, hf1⟩
      have I1 := Lib.hid (RgIn.apart HR.out.ia HR.out.ib)
      have HO1 := Lib.hid ho1
      have HB1 := Lib.hid (HR.out.sb.other HR.out.sa I1.out.2 hf1); have HA1 := Lib.hid hr1; have HF1 := Lib.hid hf1
      clear ho1 hr1 hf1
      go_wp2_with fail
      have bx : ∀ (w : World) (o : Obj), Below w.heap.size w (w.alloc o) := fun w o => (Below.refl _ _).alloc (Nat.le_refl _) o
      obtain ⟨x2, hx2⟩ : ∃ x2, x2 = x1.alloc (.cells #[.int .i64 (j : Int), .int .i64 (ca j : Int), .slice A1 (ma j).length c1] 37) := ⟨_, rfl⟩
      rw [← hx2]
      have b2 : Below x1.heap.size x1 x2 := by rw [hx2]; exact bx _ _
      have q2 : x2.heap[x1.heap.size]? = some (.cells #[.int .i64 (j : Int), .int .i64 (ca j : Int), .slice A1 (ma j).length c1] 37 (0, 0)) := by rw [hx2]; exact heap_alloc_new _ _
      have C2 := Lib.hid (out_b x2 b j hlt (HB1.out.below b2))
      have Q2 := Lib.hid q2; have BB2 := Lib.hid b2
      clear hx2 q2 b2
      refine C2.out.mono ?_
      rintro e x3 ⟨A3, c3, rfl, ho3, hr3, hf3⟩
      have HO3 := Lib.hid ho3; have HB3 := Lib.hid hr3; have HF3 := Lib.hid hf3
      have HA3 := Lib.hid ((HA1.out.below BB2.out).other (HB1.out.below BB2.out) I1.out.1 hf3)
      have HP3 := Lib.hid (hf3.part (HR.out.ib) (Nat.le_refl _) (pw_own_below HO1.out BB2.out))
      have q3 := (hf3.block _ (lt_of_heap Q2.out) (blk_ne Q2.out (HB1.out.below BB2.out).obj (by decide)) (fun ad e => by obtain ⟨_, _, cs, h⟩ := ownA (HB1.out.below BB2.out).row e; exact blk_ne Q2.out h (by decide))).trans Q2.out
      have Q3 := Lib.hid q3
      clear ho3 hr3 hf3 C2 q3
      obtain ⟨x4, hx4⟩ : ∃ x4, x4 = x3.alloc (.cells #[.int .i64 (j : Int), .int .i64 (cb j : Int), .slice A3 (mb j).length c3] 37) := ⟨_, rfl⟩
      have b4 : Below x3.heap.size x3 x4 := by rw [hx4]; exact bx _ _
      have q4 : x4.heap[x3.heap.size]? = some (.cells #[.int .i64 (j : Int), .int .i64 (cb j : Int), .slice A3 (mb j).length c3] 37 (0, 0)) := by rw [hx4]; exact heap_alloc_new _ _
      obtain ⟨e0, e1, e2⟩ := rbox3 (rheap_keep b4 Q3.out)
      rw [hx4] at e0 e1 e2
      have Q4 := Lib.hid q4; have BB4 := Lib.hid b4
      have HB4 := Lib.hid (HB3.out.below b4); have HA4 := Lib.hid (HA3.out.below b4)
      have HP4 := Lib.hid (pw_own_below HP3.out b4); have HO4 := Lib.hid (pw_own_below HO3.out b4)
      have C4 := Lib.hid (get_b x4 b j hlt HB4.out A1 c1 (part_read HP4.out (by unfold ma; split <;> decide)) (part_ap HR.out.ib (Nat.le_refl _) HP4.out))
      clear q4 b4
      go_wp2_with fail
      rw [← hx4]
      clear hx4 e0 e1 e2
      refine C4.out.mono ?_
      rintro e x5 ⟨rfl, hr5, hf5⟩
      have HA5 := Lib.hid (HA4.out.other HB4.out I1.out.1 hf5)
      have HO5 := Lib.hid (hf5.part (HR.out.ib) (Nat.le_trans (Nat.le_trans HF1.out.size BB2.out.size) (Nat.le_refl _)) HO4.out)
      have q5 := (hf5.block _ (lt_of_heap Q4.out) (blk_ne Q4.out HB4.out.obj (by decide)) (fun ad e => by obtain ⟨_, _, cs, h⟩ := ownA HB4.out.row e; exact blk_ne Q4.out h (by decide))).trans Q4.out
      obtain ⟨e0, e1, e2⟩ := rbox3 q5
      have HB5 := Lib.hid hr5; have HF5 := Lib.hid hf5
      have C5 := Lib.hid (get_a x5 a j hlt HA5.out A3 c3 (part_read HO5.out (by unfold mb; split <;> decide)) (part_ap (RgIn.mono HR.out.ia (Nat.le_refl _) (Nat.le_trans (Nat.le_trans HR.out.ib.1 (Nat.le_of_lt HR.out.ib.2.1)) (Nat.le_trans HF1.out.size BB2.out.size))) (Nat.le_refl _) HO5.out))
      clear hr5 hf5 q5 C4
      go_wp2_with fail
      refine C5.out.mono ?_
      rintro e x6 ⟨rfl, hr6, hf6⟩
      have HS6 := Lib.hid (show AwS W x6 a b t (j + 1) from ⟨by exact hr6, HB5.out.other HA5.out I1.out.2 hf6, HR.out.ia, HR.out.ib.mono (Nat.le_refl _) (Nat.le_trans HF1.out.size (Nat.le_trans BB2.out.size (Nat.le_trans HF3.out.size (Nat.le_trans BB4.out.size (Nat.le_trans HF5.out.size hf6.size))))), by
        have z1 := HF1.out.belowW HR.out.ia HR.out.bw HR.out.bw.size
        have z2 := below_then z1 z1.size BB2.out
        have ib := HR.out.ib.mono (Nat.le_trans HR.out.ia.1 (Nat.le_of_lt HR.out.ia.2.1)) (Nat.le_refl _)
        have z3 := HF3.out.belowW ib z2 z2.size
        have z4 := below_then z3 z3.size BB4.out
        have z5 := HF5.out.belowW ib z4 z4.size
        exact hf6.belowW HR.out.ia z5 z5.size⟩)
      clear hr6 hf6 e0 e1 e2
      go_wp2_with fail
      go_roundw
      case rel => exact ⟨j + 1, by omega, by go_num, ⟨HS6.out⟩⟩
      case measure => simp [intOf]; omega
    · obtain rfl : j = 2 := by omega
      have C1 := Lib.hid (sum_done wr a 0 2 1 [(0, 3)] 2 false false HR.out.sa (by decide))
      go_wp2_with fail
      refine C1.out.mono ?_
      rintro e y1 ⟨A1, c1, rfl, ho1, hb1⟩
      have HO1 := Lib.hid ho1; have B1 := Lib.hid hb1
      have C2 := Lib.hid (sum_done y1 b 1 2 1 [(0, 3)] 2 false false (HR.out.sb.below hb1) (by decide))
      clear ho1 hb1
      go_wp2_with fail
      refine C2.out.mono ?_
      rintro e y2 ⟨A2, c2, rfl, ho2, hb2⟩
      have HO2 := Lib.hid ho2; have B2 := Lib.hid hb2; clear ho2 hb2
      go_wp2_with fail
      refine (one_ok 3 y2 (by decide) (by decide)).mono ?_
      rintro e y3 ⟨g3, rfl, ho3, hb3⟩
      have HO3 := Lib.hid ho3; have B3 := Lib.hid hb3
      have C3 := Lib.hid (wides_same A1 (some ⟨g3, 0, none⟩) 1 c1 1 [(0, 3)] y3 (((part_read HO1.out (by decide)).below B2.out).below hb3) (part_read ho3 (by decide)) (by decide))
      clear ho3 hb3
      go_wp2_with fail
      refine C3.out.mono ?_
      rintro e y4 ⟨rfl, hb4⟩
      have B4 := Lib.hid hb4; clear hb4
      go_wp2_with fail
      refine (one_ok 3 y4 (by decide) (by decide)).mono ?_
      rintro e y5 ⟨g5, rfl, ho5, hb5⟩
      have B5 := Lib.hid hb5
      have C5 := Lib.hid (wides_same A2 (some ⟨g5, 0, none⟩) 1 c2 1 [(0, 3)] y5 (((((part_read HO2.out (by decide)).below B3.out).below B4.out).below hb5)) (part_read ho5 (by decide)) (by decide))
      clear ho5 hb5
      go_wp2_with fail
      refine C5.out.mono ?_
      rintro e y6 ⟨rfl, hb6⟩
      have B6 := Lib.hid hb6; clear hb6
      have C6 := Lib.hid (done_any y6 a 0 2 1 [(0, 3)] 2 false false ((((((HR.out.sa.below B1.out).below B2.out).below B3.out).below B4.out).below B5.out).below B6.out) true (by decide))
      go_wp2_with fail
      refine C6.out.mono ?_
      rintro e y7 ⟨rfl, hb7⟩
      have B7 := Lib.hid hb7; clear hb7
      go_wp2_with fail
      go_ret
      refine ⟨by first | rfl | simp, ?_⟩
      have z0 := HR.out.bw
      have z1 := below_then z0 z0.size B1.out
      have z2 := below_then z1 z1.size B2.out
      have z3 := below_then z2 z2.size B3.out
      have z4 := below_then z3 z3.size B4.out
      have z5 := below_then z4 z4.size B5.out
      have z6 := below_then z5 z5.size B6.out
      exact below_then z6 z6.size B7.out
end Go.Proofs.Ytjidjbjbngbhpaa
