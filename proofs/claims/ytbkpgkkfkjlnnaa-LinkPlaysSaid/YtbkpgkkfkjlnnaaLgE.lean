/- slices.DeleteFunc of what was acknowledged: its walk. -/
import Derived.Test.YtbkpgkkfkjlnnaaLgD
set_option linter.unusedVariables false
set_option linter.unusedSimpArgs false
namespace Go.Proofs.Ytbkpgkkfkjlnnaa.G
open Go.RowKit Go.Proofs.YtbkpgkkfkjlnnaaW.PrintWords Go.Proofs.YtbkpgkkfkjlnnaaW.PrintLast Go.Proofs.Ytbkpgkkfkjlnnaa.K Go.Proofs.Ytbkpgkkfkjlnnaa.Row Go.Proofs.Ytbkpgkkfkjlnnaa

theorem box9 {w : World} {r : Nat} {a b c d e f g h i : Value} {ty : TypeId} (hh : w.heap[r]? = some (.cells #[a, b, c, d, e, f, g, h, i] ty (0, 0))) :
    w.cell? ⟨r, 0, none⟩ = some a ∧ w.cell? ⟨r, 1, none⟩ = some b ∧ w.cell? ⟨r, 2, none⟩ = some c ∧ w.cell? ⟨r, 3, none⟩ = some d ∧ w.cell? ⟨r, 4, none⟩ = some e ∧ w.cell? ⟨r, 5, none⟩ = some f ∧ w.cell? ⟨r, 6, none⟩ = some g ∧ w.cell? ⟨r, 7, none⟩ = some h ∧ w.cell? ⟨r, 8, none⟩ = some i := by
  simp [World.cell?, hh]
def nak (q : Int) (p : Sn) : Bool := !ackd q p
theorem sn_set (L : List Sn) (i : Nat) (p x : Sn) (h : L[i]? = some p) : snC (L.set i x) = (((((((((snC L).set (i * 9) (.int .i64 x.m.k)).set (i * 9 + 1) (.int .i64 x.m.f)).set (i * 9 + 2) (.int .i64 x.m.t)).set (i * 9 + 3) (.int .u32 x.m.v)).set (i * 9 + 4) (.int .u32 x.m.s)).set (i * 9 + 5) x.m.nv).set (i * 9 + 6) x.m.wv).set (i * 9 + 7) (.bool x.sent)).set (i * 9 + 8) (.int .i64 x.at_) := by
  induction L generalizing i with
  | nil => simp at h
  | cons a l ih =>
    have ha : a.cells.length = 9 := rfl
    cases i with
    | zero => rfl
    | succ i =>
      show a.cells ++ snC (l.set i x) = _
      rw [ih i (by simpa using h)]
      show _ = (((((((((a.cells ++ snC l).set _ _).set _ _).set _ _).set _ _).set _ _).set _ _).set _ _).set _ _).set _ _
      have e : ∀ (M : List Value) (j : Nat) (u : Value), (a.cells ++ M).set ((i + 1) * 9 + j) u = a.cells ++ M.set (i * 9 + j) u := fun M j u => by
        rw [List.set_append_right _ _ (by rw [ha]; omega), ha, show (i + 1) * 9 + j - 9 = i * 9 + j by omega]
      have e0 : ∀ (M : List Value) (u : Value), (a.cells ++ M).set ((i + 1) * 9) u = a.cells ++ M.set (i * 9) u := fun M u => e M 0 u
      rw [e0, e, e, e, e, e, e, e, e]
def set9 (w : World) (g o : Nat) (x : Sn) : World := ((((((((w.setCell ⟨g, o, none⟩ (.int .i64 x.m.k)).setCell ⟨g, o + 1, none⟩ (.int .i64 x.m.f)).setCell ⟨g, o + 2, none⟩ (.int .i64 x.m.t)).setCell ⟨g, o + 3, none⟩ (.int .u32 x.m.v)).setCell ⟨g, o + 4, none⟩ (.int .u32 x.m.s)).setCell ⟨g, o + 5, none⟩ x.m.nv).setCell ⟨g, o + 6, none⟩ x.m.wv).setCell ⟨g, o + 7, none⟩ (.bool x.sent)).setCell ⟨g, o + 8, none⟩ (.int .i64 x.at_)
theorem set9_own {w : World} {base g n c i : Nat} {M : List Sn} {p x : Sn} (h : w.ownsRow base 65 9 (.slice (some ⟨g, 0, none⟩) n c) n (snC M)) (hp : M[i]? = some p) : (set9 w g (i * 9) x).ownsRow base 65 9 (.slice (some ⟨g, 0, none⟩) n c) n (snC (M.set i x)) ∧ w.grownBy (set9 w g (i * 9) x) (some g) := by
  rw [sn_set M i p x hp]
  refine ⟨((((((((((h.stored _ _).1.stored _ _).1.stored _ _).1.stored _ _).1.stored _ _).1.stored _ _).1.stored _ _).1.stored _ _).1.stored _ _).1), ?_⟩
  unfold set9
  exact World.grownBy.trans (World.grownBy.trans (World.grownBy.trans (World.grownBy.trans (World.grownBy.trans (World.grownBy.trans (World.grownBy.trans (World.grownBy.trans (grown_set _) (grown_set _)) (grown_set _)) (grown_set _)) (grown_set _)) (grown_set _)) (grown_set _)) (grown_set _)) (grown_set _)
theorem zeroS (w : World) : (zeroValue 65).run Try.prog w = .ok (.agg #[.int .i64 0, .int .i64 0, .int .i64 0, .int .u32 0, .int .u32 0, .slice none 0 0, .slice none 0 0, .bool false, .int .i64 0]) w := by kernel_rfl
/-- What the loop has done: i messages stand in front, those from j on stand as they were. -/
structure Dl (w wr : World) (g n c : Nat) (q : Int) (L M : List Sn) (i j : Nat) : Prop where
  o : wr.ownsRow 0 65 9 (.slice (some ⟨g, 0, none⟩) n c) n (snC M)
  l : M.length = n
  f : M.take i = (L.take j).filter (nak q)
  t : M.drop j = L.drop j
  g : w.grownBy wr (some g)
theorem Dl.below {w wr wx : World} {g n c : Nat} {q : Int} {L M : List Sn} {i j : Nat} (h : Dl w wr g n c q L M i j) (hb : Below wr.heap.size wr wx) : Dl w wx g n c q L M i j :=
  ⟨pw_own_below h.o hb, h.l, h.f, h.t, World.grownBy.trans h.g ⟨hb.os, hb.tape, hb.output, hb.size, fun k hk _ => hb.block k hk⟩⟩
theorem Dl.skip {w wr : World} {g n c : Nat} {q : Int} {L M : List Sn} {i j : Nat} {x : Sn} (h : Dl w wr g n c q L M i j) (hx : L[j]? = some x) (ha : ackd q x = true) : Dl w wr g n c q L M i (j + 1) := by
  have hj := (List.getElem?_eq_some_iff.1 hx).1
  have e : L[j] = x := (List.getElem?_eq_some_iff.1 hx).2
  refine ⟨h.o, h.l, ?_, ?_, h.g⟩
  · rw [h.f, List.take_succ_eq_append_getElem hj, List.filter_append, e]; simp [nak, ha]
  · have := congrArg (List.drop 1) h.t
    simpa [List.drop_drop, Nat.add_comm] using this
theorem Dl.keep {w wr : World} {g n c : Nat} {q : Int} {L M : List Sn} {i j : Nat} {x p : Sn} (h : Dl w wr g n c q L M i j) (hx : L[j]? = some x) (ha : ackd q x = false) (hij : i < j) (hp : M[i]? = some p) : Dl w (set9 wr g (i * 9) x) g n c q L (M.set i x) (i + 1) (j + 1) := by
  have hj := (List.getElem?_eq_some_iff.1 hx).1
  have e : L[j] = x := (List.getElem?_eq_some_iff.1 hx).2
  have hi := (List.getElem?_eq_some_iff.1 hp).1
  obtain ⟨h1, h2⟩ := set9_own (x := x) h.o hp
  refine ⟨h1, by rw [List.length_set]; exact h.l, ?_, ?_, World.grownBy.trans h.g h2⟩
  · rw [List.take_succ_eq_append_getElem (by rw [List.length_set]; exact hi), List.take_set_of_le (Nat.le_refl _), h.f, List.take_succ_eq_append_getElem hj, List.filter_append, e]
    simp [nak, ha]
  · rw [List.drop_set_of_lt (by omega)]
    have := congrArg (List.drop 1) h.t
    simpa [List.drop_drop, Nat.add_comm] using this
theorem Dl.at_ {w wr : World} {g n c : Nat} {q : Int} {L M : List Sn} {i j : Nat} (h : Dl w wr g n c q L M i j) : M[j]? = L[j]? := by
  have h1 : (M.drop j)[0]? = (L.drop j)[0]? := by rw [h.t]
  simpa [List.getElem?_drop] using h1
set_option maxRecDepth 100000 in
set_option maxHeartbeats 4000000 in
theorem delf_hit (g n c : Nat) (L : List Sn) (gm : Nat) (ad : Addr) (cN : Nat) (q : Int) (w : World) (ho : w.ownsRow 0 65 9 (.slice (some ⟨g, 0, none⟩) n c) n (snC L)) (hn : n ≤ 100000) (hc : Cap w gm ad cN q) (h1 : gm ≠ g) (h2 : ad.block ≠ g) (hs : ∀ p ∈ L, 0 ≤ p.m.s ∧ p.m.s < 4294967296) (i0 : Nat) (x0 : Sn) (hi : ixOf L (ackd q) = (i0 : Nat)) (hx0 : L[i0]? = some x0) (ha0 : ackd q x0 = true) (hno : ∀ j y, j < i0 → L[j]? = some y → ackd q y = false) :
    Calls Try.prog 41 #[.slice (some ⟨g, 0, none⟩) n c, .func (.func 42) #[] #[.pointer (some ⟨gm, 0, none⟩)]] w fun e w' => e = .returned (.slice (some ⟨g, 0, none⟩) (L.filter (nak q)).length c) ∧ w'.ownsRow 0 65 9 (.slice (some ⟨g, 0, none⟩) (L.filter (nak q)).length c) (L.filter (nak q)).length (snC (L.filter (nak q))) ∧ w.grownBy w' (some g) := by
  have hl := own_len ho
  have hi0 : i0 < n := by rw [← hl]; exact (List.getElem?_eq_some_iff.1 hx0).1
  have C1 := Lib.hid (sindex_walk (some ⟨g, 0, none⟩) n c L gm ad cN q w ho hn hc hs)
  have HO := Lib.hid ho; have HC := Lib.hid hc; have HS := Lib.hid hs; have HL := Lib.hid hl; have HX0 := Lib.hid hx0; have HI := Lib.hid hi; have HNO := Lib.hid hno; have HA0 := Lib.hid ha0; have HI0 := Lib.hid hi0; have HNE := Lib.hid (And.intro h1 h2)
  clear ho hc hs hl hx0 hi hno ha0 h1 h2
  go_enter Try.func41, Try.ntmps41
  go_wp2_with fail
  refine C1.out.mono ?_
  rintro e w1 ⟨rfl, hb1⟩
  rw [HI.out]
  have B1 := Lib.hid hb1; clear hb1
  have n1 : ((i0 : Int) == -1) = false := by simp
  go_wp2_with fail
  go_loopw [5, 6] (fun si sj wr => ∃ i j : Nat, i < j ∧ j ≤ n ∧ si = .int .i64 i ∧ sj = .int .i64 j ∧ Aside0 (∃ M, Dl w wr g n c q L M i j)) (fun _ sj _ => n - (intOf sj).toNat)
  case atStart =>
    refine ⟨i0, i0 + 1, by omega, by omega, rfl, by go_num, L, ⟨pw_own_below HO.out B1.out, HL.out, ?_, rfl, ⟨B1.out.os, B1.out.tape, B1.out.output, B1.out.size, fun k hk _ => B1.out.block k hk⟩⟩⟩
    have hl0 := (List.getElem?_eq_some_iff.1 HX0.out).1
    have he := (List.getElem?_eq_some_iff.1 HX0.out).2
    rw [List.take_succ_eq_append_getElem hl0, List.filter_append, he]
    have e1 : (L.take i0).filter (nak q) = L.take i0 := by
      rw [List.filter_eq_self]
      intro y hy
      obtain ⟨j, hj⟩ := List.mem_iff_getElem?.1 hy
      rw [List.getElem?_take] at hj
      split at hj
      · rename_i hlt
        simp [nak, HNO.out j y hlt hj]
      · cases hj
    rw [e1]; simp [nak, HA0.out]
  case round =>
    obtain ⟨i, j, hij, hjn, rfl, rfl, HK⟩ := hrel
    obtain ⟨M, hM⟩ := HK.out
    have hMl := hM.l
    by_cases hlt : j < n
    · obtain ⟨x, hx⟩ : ∃ x, L[j]? = some x := ⟨L[j]'(by rw [HL.out]; exact hlt), List.getElem?_eq_getElem _⟩
      obtain ⟨p, hp⟩ : ∃ p, M[i]? = some p := ⟨M[i]'(by omega), List.getElem?_eq_getElem _⟩
      obtain ⟨hy, _⟩ := row9 hM.o (hM.at_.trans hx)
      have c0 := hy 0 (by decide); have c1 := hy 1 (by decide); have c2 := hy 2 (by decide); have c3 := hy 3 (by decide); have c4 := hy 4 (by decide); have c5 := hy 5 (by decide); have c6 := hy 6 (by decide); have c7 := hy 7 (by decide); have c8 := hy 8 (by decide)
      simp only [Sn.cells, Hd.cells, Hd.nv, Hd.wv, List.cons_append, List.nil_append, List.getElem?_cons_zero, List.getElem?_cons_succ, Nat.add_zero] at c0 c1 c2 c3 c4 c5 c6 c7 c8
      have hcap := HC.out.grown hM.g HNE.out.1 HNE.out.2
      have CC := Lib.hid (fun (u : World) (hu : Below wr.heap.size wr u) => conf1_walk x gm ad cN q u (HS.out x (List.mem_of_getElem? hx)) (hcap.below hu).m (hcap.below hu).q)
      obtain ⟨w2, hw2⟩ : ∃ w2, w2 = wr.alloc (.cells #[.int .i64 x.m.k, .int .i64 x.m.f, .int .i64 x.m.t, .int .u32 x.m.v, .int .u32 x.m.s, (.slice x.m.A x.m.xs.length x.m.c), (.slice x.m.B x.m.ys.length x.m.d), .bool x.sent, .int .i64 x.at_] 65) := ⟨_, rfl⟩
      have hb2 : Below wr.heap.size wr w2 := by rw [hw2]; exact alloc_back _
      have q2 : w2.heap[wr.heap.size]? = some (.cells #[.int .i64 x.m.k, .int .i64 x.m.f, .int .i64 x.m.t, .int .u32 x.m.v, .int .u32 x.m.s, (.slice x.m.A x.m.xs.length x.m.c), (.slice x.m.B x.m.ys.length x.m.d), .bool x.sent, .int .i64 x.at_] 65 (0, 0)) := by rw [hw2]; exact heap_alloc_new _ _
      have HM := Lib.hid hM; have HX := Lib.hid hx; have HP := Lib.hid hp; have HLT := Lib.hid hlt; have HW2 := Lib.hid hw2; have B2 := Lib.hid hb2; have Q2 := Lib.hid q2; have HIJ := Lib.hid hij
      clear hM hx hp hy hcap hw2 hb2 q2
      go_wp2_with fail
      rw [← HW2.out]
      refine (CC.out w2 B2.out).mono ?_
      rintro e w3 ⟨rfl, hb3⟩
      have M3 := Lib.hid ((HM.out.below B2.out).below hb3)
      have Q3 := heap_keep hb3 Q2.out
      clear c0 c1 c2 c3 c4 c5 c6 c7 c8
      cases ha : ackd q x with
      | true =>
        have HA := Lib.hid ha; clear ha
        go_wp2_with fail
        go_roundw
        case rel => exact ⟨i, j + 1, by omega, by have := HLT.out; omega, rfl, by go_num, M, M3.out.skip HX.out HA.out⟩
        case measure => have := HLT.out; simp [intOf]; omega
      | false =>
        have HA := Lib.hid ha; clear ha
        obtain ⟨z0, z1, z2, z3, z4, z5, z6, z7, z8⟩ := box9 Q3
        obtain ⟨hy, hf⟩ := row9 M3.out.o HP.out
        have d0 := hy 0 (by decide); have d1 := hy 1 (by decide); have d2 := hy 2 (by decide); have d3 := hy 3 (by decide); have d4 := hy 4 (by decide); have d5 := hy 5 (by decide); have d6 := hy 6 (by decide); have d7 := hy 7 (by decide); have d8 := hy 8 (by decide)
        simp only [Sn.cells, Hd.cells, Hd.nv, Hd.wv, List.cons_append, List.nil_append, List.getElem?_cons_zero, List.getElem?_cons_succ, Nat.add_zero] at d0 d1 d2 d3 d4 d5 d6 d7 d8
        have f0 := hf (i * 9); have f1 := hf (i * 9 + 1); have f2 := hf (i * 9 + 2); have f3 := hf (i * 9 + 3); have f4 := hf (i * 9 + 4); have f5 := hf (i * 9 + 5); have f6 := hf (i * 9 + 6); have f7 := hf (i * 9 + 7); have f8 := hf (i * 9 + 8)
        have hin : (i : Int) < (n : Int) := by have := HLT.out; omega
        have hin2 : i < n := by have := HLT.out; omega
        clear hy hf Q3
        go_wp2_with fail
        go_roundw
        case rel => exact ⟨i + 1, j + 1, by omega, by have := HLT.out; omega, by go_num, by go_num, M.set i x, M3.out.keep HX.out HA.out HIJ.out HP.out⟩
        case measure => have := HLT.out; simp [intOf]; omega
    · obtain rfl : j = n := by omega
      have hfin : i = (L.filter (nak q)).length := by
        have h1 := congrArg List.length hM.f
        rw [List.length_take, List.take_of_length_le (by rw [HL.out]; exact Nat.le_refl _)] at h1
        omega
      rcases hM.o.2 with ⟨hv, _⟩ | ⟨g', cap', cur, hv, hb, hh, hnc, hcm, hcs, htake⟩
      · cases hv
      injection hv with hv1 _ hv2
      injection hv1 with hv1
      injection hv1 with hv1
      subst hv1; subst hv2
      obtain ⟨w4, hr4, ⟨cur4, k1, k2, k3⟩, hg4⟩ := clear_run (P := Try.prog) (W := wr) (t := 59) (m := i) (k := j - i) (z := 9) Try.underlying59 hh hcs (by omega) (by omega) zeroS rfl (by simp [Value.cells, Value.oneCell']) 0 (c - i)
      have hown : w4.ownsRow 0 65 9 (.slice (some ⟨g, 0, none⟩) i c) i (snC (L.filter (nak q))) := by
        have e1 : snC (L.filter (nak q)) = (snC M).take (i * 9) := by
          have h1 := flat_take Sn.cells 9 sn_len M i
          rw [hM.f, List.take_of_length_le (by rw [HL.out]; exact Nat.le_refl _)] at h1
          exact h1
        refine ⟨by unfold snC; rw [flat_len Sn.cells 9 sn_len, ← hfin], .inr ⟨g, c, cur4, rfl, Nat.zero_le _, k1, by omega, hcm, k2, ?_⟩⟩
        rw [k3, e1, ← htake, List.take_take, Nat.min_eq_left (by omega)]
      have HF := Lib.hid (And.intro hown (World.grownBy.trans hM.g hg4))
      have hcm' : (c : Int) ≤ 9223372036854775807 := by simp only [maxLen] at hcm; omega
      have hic : i ≤ c := by omega
      have hin : i < j := hij
      have hin2 : (i : Int) < (j : Int) := by omega
      have hin3 : i ≤ j := by omega
      have hin4 : (i : Int) ≤ (j : Int) := by omega
      have hin5 : (i : Int) ≤ (c : Int) := by omega
      have hci : ¬ c = i := by omega
      have hc0 : ¬ c = 0 := by omega
      have HFN := Lib.hid hfin
      clear hM hh hcs htake hcm hown k1 k2 k3 hg4 hfin hnc hb
      go_wp2_with fail
      go_ret
      rw [← HFN.out]
      exact ⟨rfl, HF.out⟩
set_option maxHeartbeats 1000000 in
theorem delf_miss (A : Option Addr) (n c : Nat) (L : List Sn) (gm : Nat) (ad : Addr) (cN : Nat) (q : Int) (w : World) (ho : w.ownsRow 0 65 9 (.slice A n c) n (snC L)) (hn : n ≤ 100000) (hc : Cap w gm ad cN q) (hs : ∀ p ∈ L, 0 ≤ p.m.s ∧ p.m.s < 4294967296) (hi : ixOf L (ackd q) = -1) :
    Calls Try.prog 41 #[.slice A n c, .func (.func 42) #[] #[.pointer (some ⟨gm, 0, none⟩)]] w fun e w' => e = .returned (.slice A n c) ∧ Below w.heap.size w w' := by
  have C1 := Lib.hid (sindex_walk A n c L gm ad cN q w ho hn hc hs)
  have HI := Lib.hid hi
  clear ho hc hs hi
  go_enter Try.func41, Try.ntmps41
  go_wp2_with fail
  refine C1.out.mono ?_
  rintro e w1 ⟨rfl, hb1⟩
  rw [HI.out]
  have B1 := Lib.hid hb1; clear hb1
  go_wp2_with fail
  go_ret
  exact ⟨rfl, B1.out⟩
theorem delf_walk (S : Nat → Prop) (A : Option Addr) (n c : Nat) (L : List Sn) (gm : Nat) (ad : Addr) (cN : Nat) (q : Int) (w : World) (ho : Own w S 65 9 (.slice A n c) n (snC L)) (hn : n ≤ 100000) (hc : Cap w gm ad cN q) (h1 : ¬ S gm) (h2 : ¬ S ad.block) (hs : ∀ p ∈ L, 0 ≤ p.m.s ∧ p.m.s < 4294967296) :
    Calls Try.prog 41 #[.slice A n c, .func (.func 42) #[] #[.pointer (some ⟨gm, 0, none⟩)]] w fun e w' => e = .returned (.slice A (L.filter (nak q)).length c) ∧ Own w' S 65 9 (.slice A (L.filter (nak q)).length c) (L.filter (nak q)).length (snC (L.filter (nak q))) ∧ Chg (fun b => ∃ g, A = some ⟨g, 0, none⟩ ∧ b = g) w w' := by
  rcases ixOf_cases L (ackd q) with ⟨hi, hall⟩ | ⟨i, x, hi, hx, ha, hno⟩
  · have e : L.filter (nak q) = L := by
      rw [List.filter_eq_self]
      intro y hy
      simp [nak, hall y hy]
    refine (delf_miss A n c L gm ad cN q w ho.1 hn hc hs hi).mono ?_
    rintro e' w' ⟨he, hb⟩
    rw [e, own_len ho.1]
    exact ⟨he, ⟨pw_own_below ho.1 hb, ho.2⟩, Chg.ofBelow hb⟩
  · obtain ⟨g, cap, e, _, _⟩ := ho.1.form (by have := (List.getElem?_eq_some_iff.1 hx).1; have := own_len ho.1; omega)
    injection e with e1 e2 e3
    subst e1 e3
    have hSg : S g := ho.2 g rfl
    refine (delf_hit g n c L gm ad cN q w ho.1 hn hc (fun e => h1 (by rw [e]; exact hSg)) (fun e => h2 (by rw [e]; exact hSg)) hs i x hi hx ha hno).mono ?_
    rintro e' w' ⟨he, ho', hg⟩
    exact ⟨he, ⟨ho', fun b hb => by simp [Value.ownBlock] at hb; rw [← hb]; exact hSg⟩, Chg.ofGrown hg (fun k hk => by injection hk with hk; exact ⟨g, rfl, hk.symm⟩)⟩
end Go.Proofs.Ytbkpgkkfkjlnnaa.G
