/- Walks of package beat: Heard, Last, New; Same. -/
import Derived.Test.YthebddhldembhaaBeatB
set_option linter.unusedVariables false
set_option linter.unusedSimpArgs false
namespace Go.Proofs.Ythebddhldembhaa
open Go.RowKit Go.Proofs.YthebddhldembhaaW.PrintWords Go.Proofs.Ythebddhldembhaa.K

def heardA (b : BeatA) (who t : Int) : BeatA := if otherB b who then { b with now := max b.now t, f := updI b.f who (max b.now t) } else { b with now := max b.now t }
theorem LastM.mono {w : World} {mb n n' : Nat} {f : Int → Int} (h : LastM w mb n f) (hn : n ≤ n') : LastM w mb n' f := by
  obtain ⟨D, h1, h2, h3⟩ := h
  exact ⟨D, h1.mono hn, h2, h3⟩
theorem BeatS.mono {w : World} {base r mb n n' : Nat} {b : BeatA} (h : BeatS w base r mb n b) (hn : n ≤ n') : BeatS w base r mb n' b := ⟨h.cl, h.la.mono hn, h.br, h.bm, h.ne, h.bw, h.ln⟩
/-- The beat behind a store in its map. -/
theorem BeatS.put {w w1 : World} {base r mb n : Nat} {b : BeatA} {f : Int → Int} (h : BeatS w base r mb n b) (hl : LastM w1 mb (n + 1) f) (hg : w.grownBy w1 (some mb)) :
    BeatS w1 base r mb (n + 1) { b with f := f } ∧ ∀ W, Below base W w → Below base W w1 := by
  obtain ⟨A, c, h1, h2⟩ := h.cl
  refine ⟨⟨⟨A, c, ?_, own_other h2 hg (map_ne h.la h2)⟩, hl, h.br, h.bm, h.ne, Nat.le_trans h.bw hg.size, h.ln⟩, fun W hW => pw_below_grown hW (some mb) h.bw hg (fun k e => by cases e; exact h.bm)⟩
  unfold BeatC at h1 ⊢
  rw [hg.block r (lt_of_heap h1) (fun e => h.ne (by injection e))]
  exact h1
set_option maxHeartbeats 1000000 in
theorem heard_walk (w : World) (base r mb n : Nat) (b : BeatA) (who t : Int) (h : BeatS w base r mb n b) (hn : n < 100000) (hwho : (Lit.int .i64 who).wf = true) (hM : (Lit.int .i64 (max b.now t)).wf = true) :
    Calls Try.prog 9 #[.pointer (some ⟨r, 0, none⟩), .int .i64 who, .int .i64 t] w fun e w' => e = .returned (.bool (otherB b who)) ∧ BeatS w' base r mb (n + 1) (heardA b who t) ∧ ∀ W, Below base W w → Below base W w' := by
  have HT := Lib.hid (time_walk w base r mb n b t h)
  have HV := Lib.hid (plainElem_int (H := Unit) (P := Try.prog) Try.underlying2 hM)
  have HN := Lib.hid hn; have HWH := Lib.hid (Maps.keyOf_int_mk (P := Try.prog) Try.underlying3 hwho)
  obtain ⟨M, hM⟩ : ∃ M, M = max b.now t := ⟨_, rfl⟩
  rw [← hM] at HT HV
  have HMM := Lib.hid hM
  clear h hn hwho hM
  go_enter Try.func9, Try.ntmps9
  go_wp2_with fail
  refine HT.out.mono ?_
  rintro e w1 ⟨rfl, hS1, hB1⟩
  have HO := Lib.hid (other_walk w1 base r mb n { b with now := M } who hS1)
  have S1 := Lib.hid hS1; have B1 := Lib.hid hB1
  clear hS1 hB1
  go_wp2_with fail
  refine HO.out.mono ?_
  rintro e w' ⟨rfl, rfl⟩
  rw [show otherB { b with now := M } who = otherB b who from rfl]
  cases ho : otherB b who with
  | false =>
    have HH := Lib.hid (show heardA b who t = { b with now := M } by unfold heardA; rw [ho, HMM.out]; rfl)
    have HOB := Lib.hid ho
    clear ho
    go_wp2_with fail
    go_ret
    rw [HH.out, HOB.out]
    exact ⟨rfl, S1.out.mono (Nat.le_succ _), B1.out⟩
  | true =>
    have HH := Lib.hid (show heardA b who t = { b with now := M, f := updI b.f who M } by unfold heardA; rw [ho, HMM.out]; rfl)
    have HOB := Lib.hid ho
    clear ho
    obtain ⟨A, c, k1, k2⟩ := S1.out.cl
    obtain ⟨c0, c1, c2, c3, c4, c5, c6⟩ := beat_cells k1
    obtain ⟨D, d1, d2, d3⟩ := S1.out.la
    have HD := Lib.hid d1; have HM := Lib.hid d2; have HP := Lib.hid (last_put (a := who) d2 d3 M)
    clear k1 k2 d1 d2 d3
    go_wp2_with (at_mapUpdate; refine wpList_mapUpdate_own _ rfl _ _ _ 40 rfl 3 2 keyedI Try.underlying40 (plainElem Try.prog 2) mb n D rfl HD.out (by have := HN.out; unfold maxLen; omega) _ _ (.int .i64 who) rfl rfl HWH.out (.lit (.int .i64 M)) [] HV.out ?_; intro w2 hown hg; have HO2 := Lib.hid hown; have HG := Lib.hid hg; clear hown hg)
    go_ret
    have hl : LastM w2 mb (n + 1) (updI b.f who M) := ⟨_, HO2.out, by obtain ⟨_, _, _, _, _, e⟩ := HO2.out; exact ⟨_, e⟩, HP.out⟩
    have := S1.out.put hl HG.out
    rw [HH.out, HOB.out]
    exact ⟨rfl, this.1, fun W hW => this.2 W (B1.out W hW)⟩
def lastV (b : BeatA) (who : Int) : Value := if otherB b who then .tuple #[.int .i64 (b.f who), .bool true] else .tuple #[.int .i64 0, .bool false]
theorem last_walk (w : World) (base r mb n : Nat) (b : BeatA) (who : Int) (h : BeatS w base r mb n b) (hwho : (Lit.int .i64 who).wf = true) :
    Calls Try.prog 10 #[.pointer (some ⟨r, 0, none⟩), .int .i64 who] w fun e w' => e = .returned (lastV b who) ∧ w = w' := by
  have HO := Lib.hid (other_walk w base r mb n b who h)
  have lk := h.la.look who hwho
  obtain ⟨A, c, k1, k2⟩ := h.cl
  obtain ⟨c0, c1, c2, c3, c4, c5, c6⟩ := beat_cells k1
  clear h k1 k2 hwho
  go_enter Try.func10, Try.ntmps10
  go_wp2_with fail
  refine HO.out.mono ?_
  rintro e w' ⟨rfl, rfl⟩
  cases ho : otherB b who with
  | false =>
    have HH := Lib.hid (show lastV b who = .tuple #[.int .i64 0, .bool false] by unfold lastV; rw [ho]; rfl)
    clear ho
    go_wp2_with fail
    go_ret2
    rw [HH.out]
    exact ⟨rfl, rfl⟩
  | true =>
    have HH := Lib.hid (show lastV b who = .tuple #[.int .i64 (b.f who), .bool true] by unfold lastV; rw [ho]; rfl)
    clear ho
    go_wp2_with fail
    go_ret2
    rw [HH.out]
    exact ⟨rfl, rfl⟩
/-- carouselref5.Same. -/
theorem same_walk (A B : Option Addr) (n m c d : Nat) (xs ys : List Int) (w : World) (hx : ReadsInt w .i64 A n xs) (hy : ReadsInt w .i64 B m ys) :
    Calls Try.prog 11 #[.slice A n c, .slice B m d] w fun e w' => e = .returned (.bool (decide (xs = ys))) ∧ Below w.heap.size w w' := by
  have HX := Lib.hid hx
  have HY := Lib.hid hy
  have hn := hx.2.1
  have hm := hy.2.1
  clear hx hy
  by_cases hl : n = m
  · subst hl
    go_enter Try.func11, Try.ntmps11
    go_wp2
    go_loopw [5] (fun i wr => ∃ k : Nat, k ≤ n ∧ i = .int .i64 k ∧ Aside0 ((∃ q, wr = w.drewN q) ∧ ∀ j, j < k → xs.getD j 0 = ys.getD j 0)) (fun i _ => n - (intOf i).toNat)
    case atStart => exact ⟨0, Nat.zero_le _, rfl, ⟨⟨0, rfl⟩, fun j hj => by omega⟩⟩
    case round =>
      obtain ⟨k, hk, rfl, HK⟩ := hrel
      by_cases hlt : k < n
      · obtain ⟨ad, rfl, hck⟩ := reads_at HX.out k hlt
        obtain ⟨bd, rfl, hcb⟩ := reads_at HY.out k hlt
        obtain ⟨q, hq⟩ := HK.out.1
        subst hq
        have g1 : (0 : Int) ≤ (k : Int) := Int.natCast_nonneg _
        have g2 : (k : Int) < (n : Int) := by omega
        have hrest : ∀ j, (¬ xs.getD j 0 = ys.getD j 0) → xs ≠ ys := fun j h e => h (by rw [e])
        by_cases he : xs.getD k 0 = ys.getD k 0
        · have HE := Lib.hid he
          rw [he] at hck
          clear he hrest
          go_wp2
          go_quiet (fail)
          go_wp2
          go_roundw
          case rel => exact ⟨k + 1, by omega, by go_num, ⟨⟨_, rfl⟩, fun j hj => by
            rcases Nat.lt_succ_iff_lt_or_eq.1 hj with h | rfl
            · exact HK.out.2 j h
            · exact HE.out⟩⟩
          case measure => simp [intOf]; omega
        · have HE := Lib.hid (hrest k he)
          have he' : (xs[k]?.getD 0 != ys[k]?.getD 0) = true := by simpa [List.getD_eq_getElem?_getD] using he
          clear hrest
          go_wp2
          go_quiet (fail)
          go_wp2
          go_ret
          exact ⟨by rw [decide_eq_false HE.out]; rfl, pw_below_drewN (pw_below_drewN (Below.refl _ _) _) _⟩
      · obtain rfl : k = n := by omega
        obtain ⟨q, hq⟩ := HK.out.1
        subst hq
        go_wp2
        go_ret
        refine ⟨?_, pw_below_drewN (Below.refl _ _) _⟩
        have hE : xs = ys := List.ext_getElem (by rw [HX.out.1, HY.out.1]) fun j h1 h2 => by
          have := HK.out.2 j (by have := HX.out.1; omega)
          simpa [List.getD_eq_getElem?_getD, h1, h2] using this
        rw [decide_eq_true hE]; rfl
  · have hne : xs ≠ ys := fun e => hl (by rw [← HX.out.1, ← HY.out.1, e])
    have HN := Lib.hid hne; clear hne
    have hl' : ¬ ((n : Int) = (m : Int)) := by omega
    have hl2 : ((n : Int) == (m : Int)) = false := by simpa using hl'
    go_enter Try.func11, Try.ntmps11
    go_wp2
    go_ret
    exact ⟨by rw [decide_eq_false HN.out]; rfl, Below.refl _ _⟩
def newB (own : Int) (l : List Int) (every span : Int) : BeatA := ⟨own, l, every, span, 0, fun _ => 0, -1⟩
set_option maxHeartbeats 1000000 in
theorem new_ok (own : Int) (A : Option Addr) (n c : Nat) (l : List Int) (every span : Int) (w : World) (base : Nat) (hbase : base ≤ w.heap.size) (h : ReadsInt w .i64 A n l) (hA : A = none → c = 0) (hn : n ≤ 100) (hg : goodM l = true) (ho : own ∈ l) (e1 : 1 ≤ every) (e2 : every ≤ 1000) (e3 : every ≤ span) (e4 : span ≤ 100000) :
    Calls Try.prog 7 #[.int .i64 own, .slice A n c, .int .i64 every, .int .i64 span] w fun e w' => ∃ r mb, e = .returned (.tuple #[.pointer (some ⟨r, 0, none⟩), .int .i64 0]) ∧ BeatS w' base r mb 0 (newB own l every span) ∧ Below w.heap.size w w' := by
  have HG := Lib.hid (good_walk A n c l w h)
  have HC := Lib.hid (contains_walk A n c l own w h)
  rw [hg] at HG
  rw [decide_eq_true ho] at HC
  have HK := Lib.hid (clone_walk A n c l w h (by omega) hA)
  have HL := Lib.hid h.1
  have HB := Lib.hid hbase; have HN := Lib.hid hn
  clear h hA hg ho hn hbase
  go_enter Try.func7, Try.ntmps7
  go_wp2_with (first
    | (go_at_call 12; with_reducible refine HG.out.mono ?_; rintro e w' ⟨rfl, rfl⟩)
    | (go_at_call 13; with_reducible refine HC.out.mono ?_; rintro e w' ⟨rfl, rfl⟩)
    | (go_at_call 14; with_reducible refine HK.out.mono ?_; rintro e w1 ⟨A1, c1, rfl, hK1, hK2⟩; have HK1 := Lib.hid hK1; have HK2 := Lib.hid hK2; clear hK1 hK2)
    | (rw [run_makeMap]))
  go_ret2
  refine ⟨w1.heap.size + 1, w1.heap.size, by simp, ⟨⟨A1, c1, ?_, ?_⟩, ?_, ?_, ?_, by omega, ?_, ?_⟩, ?_⟩
  · unfold BeatC
    have e : (newB own l every span).mem.length = n := HL.out
    rw [e]
    have := heap_alloc_new (w1.alloc (.map #[] 0)) (.cells #[.int .i64 own, .slice A1 n c1, .int .i64 every, .int .i64 span, .int .i64 0, .map (some w1.heap.size), .int .i64 (-1)] 42)
    rw [show w1.heap.size + 1 = (w1.alloc (.map #[] 0)).heap.size by simp]
    exact this
  · have e : (newB own l every span).mem.length = n := HL.out
    rw [e]
    exact pw_own_below (own_base_le HK1.out HB.out) (alloc_back2 _ _)
  · exact (last_made w1).below (alloc_back _)
  · have := HK2.out.size; have := HB.out; omega
  · have := HK2.out.size; have := HB.out; omega
  · have := HK2.out.size; have := HB.out; simp; omega
  · show l.length ≤ 100; rw [HL.out]; exact HN.out
  · exact below_then HK2.out HK2.out.size (alloc_back2 _ _)
end Go.Proofs.Ythebddhldembhaa
