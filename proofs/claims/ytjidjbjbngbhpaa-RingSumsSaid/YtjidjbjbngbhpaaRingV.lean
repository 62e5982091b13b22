/- The walk of RingRows. -/
import Derived.Test.YtjidjbjbngbhpaaRingU
import Derived.Deep.RegionHeld3
import Derived.Deep.DeepCutAuto
set_option linter.unusedVariables false
set_option linter.unusedSimpArgs false
namespace Go.Proofs.Ytjidjbjbngbhpaa
open Go.RowKit Go.Proofs.YtjidjbjbngbhpaaW.PrintWords Go.Proofs.Ytjidjbjbngbhpaa.K Go.ChangeShapes Go.WideShapes Go.Deep

section
variable {H : Type} {enc : TypeId × Value → H} {w : World} {base : Nat} {spare : Nat → Bool} {held : Bool}
theorem open_row {v : Value} {d : DataW H} {ps : List MemPlace} {r : Reach} {b0 : Nat} (hval : Value.okWide Try.prog w r b0 25 v) (h : DataW.Trod enc Try.prog w base spare held 25 v d ps) : ∃ A k c z, v = .slice A k c ∧ WidesAt w A k z ∧ (∀ y ∈ z, WwfP y) ∧ k ≤ c ∧ (A = none → k = 0 ∧ c = 0) := by
  obtain ⟨a, n, c, rfl⟩ := okWide_slice Try.underlying25 hval
  obtain ⟨fuel, hf⟩ := h
  have hcs : (Value.slice a n c).cells.toList = [Value.slice a n c] := by simp [Value.cells]
  rw [hcs] at hf
  obtain ⟨A, k, c', zs, e, h1, h2, h3⟩ := open_wides (P := Try.prog) Try.underlying25 Try.underlying33 (by kernel_rfl) rfl rfl Try.underlying2 Try.underlying31 (by kernel_rfl) (by kernel_rfl) hf
  injection e with e1 e2 e3
  subst e1 e2 e3
  refine ⟨a, n, c, zs, rfl, h1, h2, h3, fun hA => ?_⟩
  rcases open_slice Try.underlying25 hf with ⟨he, _⟩ | ⟨x, l, cc, m, n', D, Pl, he, _⟩
  · simp only [List.cons.injEq, and_true] at he
    injection he with e1 e2 e3
    exact ⟨e2, e3⟩
  · simp only [List.cons.injEq, and_true] at he
    injection he with e1 e2 e3
    rw [hA] at e1
    cases e1
end
structure RowS (W wr : World) (top : Nat) (A : Option Addr) (c : Nat) (ids : List RgId) (m n k : Nat) (R : Nat → List (Int × Int)) (o g : Nat → Nat) : Prop where
  rs : Rings W.heap.size top wr ids m n k R o g
  pr : PtrRow wr W.heap.size A c ids
  bw : Below W.heap.size W wr
theorem RowS.below {W wr w' : World} {top : Nat} {A : Option Addr} {c : Nat} {ids : List RgId} {m n k : Nat} {R : Nat → List (Int × Int)} {o g : Nat → Nat} (h : RowS W wr top A c ids m n k R o g) (hb : Below wr.heap.size wr w') : RowS W w' top A c ids m n k R o g :=
  ⟨h.rs.below hb, pw_own_below h.pr hb, below_then h.bw h.bw.size hb⟩
theorem RowS.len {W wr : World} {top : Nat} {A : Option Addr} {c : Nat} {ids : List RgId} {m n k : Nat} {R : Nat → List (Int × Int)} {o g : Nat → Nat} (h : RowS W wr top A c ids m n k R o g) : ids.length = m := h.rs.len
/-- A ring of them has turned. -/
theorem RowS.turned {W wr w' : World} {top : Nat} {A : Option Addr} {c : Nat} {ids : List RgId} {n k : Nat} {R : Nat → List (Int × Int)} {o g o' g' : Nat → Nat} (h : RowS W wr top A c ids n n k R o g) {i : Nat} (hi : i < n) (hr : Rings W.heap.size top w' ids n n k R o' g') (hf : RgF wr w' (idn ids i)) : RowS W w' top A c ids n n k R o' g' :=
  ⟨hr, hf.rowT (h.rs.st i hi) h.pr (by decide) (by decide), hf.belowW (h.rs.inn i hi) h.bw h.bw.size⟩
theorem RowS.grownT {W wr w1 : World} {top : Nat} {A : Option Addr} {c : Nat} {ids : List RgId} {m n k : Nat} {R : Nat → List (Int × Int)} {o g : Nat → Nat} (h : RowS W wr top A c ids m n k R o g) {b sz j : Nat} {v : Value} {xs : List Value} (hv : wr.ownsRow b 37 sz v j xs) (hg : wr.grownBy w1 v.ownBlock) (hb : W.heap.size ≤ b) : RowS W w1 top A c ids m n k R o g :=
  ⟨h.rs.grownT hv hg (by decide) (by decide) (by decide), own_grownT hv hg h.pr (by decide), pw_below_grown h.bw _ h.bw.size hg (fun k e => Nat.le_trans hb (own_base hv k e))⟩
/-- The parts of one round, of the first j places. -/
def Sent (w : World) (top : Nat) (R : Nat → List (Int × Int)) (k n t j : Nat) (L : List Pt) : Prop := L.length = j ∧ ∀ i, i < j → (L.getD i dPt).t = t ∧ (L.getD i dPt).p = i ∧ Part w top R k n t i (L.getD i dPt).A (L.getD i dPt).c
theorem Sent.below {w w' : World} {top k n t j : Nat} {R : Nat → List (Int × Int)} {L : List Pt} (h : Sent w top R k n t j L) (hb : Below w.heap.size w w') : Sent w' top R k n t j L :=
  ⟨h.1, fun i hi => ⟨(h.2 i hi).1, (h.2 i hi).2.1, pw_own_below (h.2 i hi).2.2 hb⟩⟩
theorem Sent.turned {w w' : World} {base top k n t j : Nat} {R : Nat → List (Int × Int)} {L : List Pt} {id : RgId} (h : Sent w top R k n t j L) (hi : RgIn id base top) (hf : RgF w w' id) : Sent w' top R k n t j L :=
  ⟨h.1, fun i hl => ⟨(h.2 i hl).1, (h.2 i hl).2.1, hf.part hi (Nat.le_refl _) (h.2 i hl).2.2⟩⟩
theorem Sent.grownT {w w1 : World} {top k n t j : Nat} {R : Nat → List (Int × Int)} {L : List Pt} (h : Sent w top R k n t j L) {b sz m : Nat} {v : Value} {xs : List Value} (hv : w.ownsRow b 37 sz v m xs) (hg : w.grownBy w1 v.ownBlock) : Sent w1 top R k n t j L :=
  ⟨h.1, fun i hi => ⟨(h.2 i hi).1, (h.2 i hi).2.1, own_grownT hv hg (h.2 i hi).2.2 (by decide)⟩⟩
theorem Sent.snoc {w : World} {top k n t j : Nat} {R : Nat → List (Int × Int)} {L : List Pt} (h : Sent w top R k n t j L) {A : Option Addr} {c : Nat} (hp : Part w top R k n t j A c) : Sent w top R k n t (j + 1) (L ++ [(⟨t, j, A, c⟩ : Pt)]) := by
  refine ⟨by simp [h.1], fun i hi => ?_⟩
  rcases Nat.lt_or_ge i j with h1 | h1
  · have e : (L ++ [(⟨t, j, A, c⟩ : Pt)]).getD i dPt = L.getD i dPt := by rw [List.getD_eq_getElem?_getD, List.getElem?_append_left (by rw [h.1]; exact h1), ← List.getD_eq_getElem?_getD]
    rw [e]; exact h.2 i h1
  · obtain rfl : i = j := by omega
    have e : (L ++ [(⟨t, i, A, c⟩ : Pt)]).getD i dPt = ⟨t, i, A, c⟩ := by rw [List.getD_eq_getElem?_getD, List.getElem?_append_right (by rw [h.1]; exact Nat.le_refl _), h.1]; simp
    rw [e]; exact ⟨rfl, rfl, hp⟩
theorem pre_next {n q : Nat} (h : q < n) : pre n ((q + 1) % n) = q := by
  unfold pre
  rcases Nat.lt_or_ge (q + 1) n with h1 | h1
  · rw [Nat.mod_eq_of_lt h1, show q + 1 + n - 1 = q + n by omega, Nat.add_mod_right, Nat.mod_eq_of_lt h]
  · obtain rfl : n = q + 1 := by omega
    rw [Nat.mod_self, show 0 + (q + 1) - 1 = q by omega, Nat.mod_eq_of_lt h]
theorem pre_inj {n i q : Nat} (hi : i < n) (h : pre n i = q) : i = (q + 1) % n := by
  unfold pre at h
  rcases Nat.eq_zero_or_pos i with h1 | h1
  · subst h1
    rw [show 0 + n - 1 = n - 1 by omega, Nat.mod_eq_of_lt (by omega)] at h
    rw [← h, show n - 1 + 1 = n by omega, Nat.mod_self]
  · rw [show i + n - 1 = i - 1 + n by omega, Nat.add_mod_right, Nat.mod_eq_of_lt (by omega)] at h
    rw [← h, show i - 1 + 1 = i by omega, Nat.mod_eq_of_lt hi]
theorem step_pre (t q n i : Nat) (hi : i < n) (hq : q < n) : (if pre n i < q + 1 then t + 1 else t) = upd (fun i => if pre n i < q then t + 1 else t) ((q + 1) % n) (t + 1) i := by
  unfold upd
  by_cases h : i = (q + 1) % n
  · rw [if_pos h, if_pos (by rw [h, pre_next hq]; omega)]
  · rw [if_neg h]
    show _ = if pre n i < q then t + 1 else t
    have hne : pre n i ≠ q := fun e => h (pre_inj hi e)
    by_cases h2 : pre n i < q
    · rw [if_pos h2, if_pos (by omega)]
    · rw [if_neg h2, if_neg (by omega)]
/-- Get, with all that stays. -/
def GotB (W : World) (top : Nat) (gA c : Nat) (ids : List RgId) (n k : Nat) (R : Nat → List (Int × Int)) (t q i1 gP c3 : Nat) (A5 : Option Addr) (c5 : Nat) (L : List Pt) (e : Ending) (w' : World) : Prop :=
  e = .returned (.int .i64 0) ∧ w'.cell? ⟨gA, i1, none⟩ = some (.pointer (some ⟨(idn ids i1).r, 0, none⟩)) ∧ w'.cell? ⟨gP, q * 3, none⟩ = some (.int .i64 (t : Int)) ∧ w'.cell? ⟨gP, q * 3 + 1, none⟩ = some (.int .i64 (csn n q t : Int)) ∧ w'.cell? ⟨gP, q * 3 + 2, none⟩ = some (.slice A5 (Vs R k n t q).length c5) ∧
    RowS W w' top (some ⟨gA, 0, none⟩) c ids n n k R (fun _ => t + 1) (upd (fun i => if pre n i < q then t + 1 else t) i1 (t + 1)) ∧ Sent w' top R k n t n L ∧ PtRow w' top R k n (some ⟨gP, 0, none⟩) c3 L
theorem get_back {W wr wx : World} {top gA c : Nat} {ids : List RgId} {n k : Nat} {R : Nat → List (Int × Int)} {t0 : Nat} {q i1 gP c3 : Nat} {A5 : Option Addr} {c5 : Nat} {L : List Pt}
    (hS : RowS W wx top (some ⟨gA, 0, none⟩) c ids n n k R (fun _ => t0 + 1) (fun i => if pre n i < q then t0 + 1 else t0)) (hR : Rok R k n) (hL : Sent wr top R k n t0 n L) (hP : PtRow wr top R k n (some ⟨gP, 0, none⟩) c3 L) (hb : Below wr.heap.size wr wx) (hl : ids.length = n) (hi : i1 < n) (hq : q < n) (t : Nat) (ht : (fun i => if pre n i < q then t0 + 1 else t0) i1 = t) (hlt : t < 2 * n - 2) (hpre : pre n i1 = q) (hi' : i1 < ids.length)
    (pc : wr.cell? ⟨gA, i1, none⟩ = some (.pointer (some ⟨(idn ids i1).r, 0, none⟩))) (r0 : wr.cell? ⟨gP, q * 3, none⟩ = some (.int .i64 (t0 : Int))) (r1 : wr.cell? ⟨gP, q * 3 + 1, none⟩ = some (.int .i64 (csn n q t0 : Int))) (r2 : wr.cell? ⟨gP, q * 3 + 2, none⟩ = some (.slice A5 (Vs R k n t0 q).length c5)) (hp : Part wr top R k n t0 q A5 c5) :
    Calls Try.prog 10 #[.pointer (some ⟨(idn ids i1).r, 0, none⟩), .agg #[.int .i64 (t0 : Int), .int .i64 (csn n q t0 : Int), .slice A5 (Vs R k n t0 q).length c5]] wx (GotB W top gA c ids n k R t0 q i1 gP c3 A5 c5 L) := by
  have ht0 : t = t0 := by rw [← ht]; simp only []; rw [if_neg (by omega)]
  subst ht0
  refine (get_step hS.rs hR hi t ht (by omega) (Nat.le_refl _) hlt q hpre (A := A5) (c := c5) (b := top) (pw_own_below hp hb) (Nat.le_refl _)).mono ?_
  rintro e w' ⟨he, hr, hf⟩
  have h1 := hS.turned hi hr hf
  have h2 := (hL.below hb).turned (hS.rs.inn i1 hi) hf
  have h3 : PtRow w' top R k n (some ⟨gP, 0, none⟩) c3 L := hf.rowT (hS.rs.st i1 hi) (pw_own_below hP hb) (by decide) (by decide)
  obtain ⟨g', eg, x0, x1, x2⟩ := h3.at (i := q) (by rw [h2.1]; exact hq)
  injection eg with eg
  injection eg with eg
  subst eg
  obtain ⟨g'', eg, y0, y1, y2⟩ := hP.at (i := q) (by rw [hL.1]; exact hq)
  injection eg with eg
  injection eg with eg
  subst eg
  rw [y0] at r0
  rw [y1] at r1
  rw [y2] at r2
  exact ⟨he, h1.pr.cell hi', x0.trans r0, x1.trans r1, x2.trans r2, h1, h2, h3⟩
set_option maxRecDepth 100000 in
set_option maxHeartbeats 8000000 in
theorem rows_walk (W : World) (n0 : Int) (wn : (Lit.int .i64 n0).wf = true) (who0 : Int) (ww : (Lit.int .i64 who0).wf = true) (v : Value) (ov : ∃ A k c z, v = .slice A k c ∧ WidesAt W A k z ∧ (∀ y ∈ z, WwfP y) ∧ k ≤ c ∧ (A = none → k = 0 ∧ c = 0)) :
    Calls Try.prog 4 #[.int .i64 n0, .int .i64 who0, v] W fun e w' => e = .returned (.bool true) ∧ Below W.heap.size W w' := by
  obtain ⟨RA, k, rc, z, rfl, hz, hzw, hkc, hRA⟩ := ov
  have HZ := Lib.hid hz; have HZW := Lib.hid hzw; have HRA := Lib.hid hRA
  have hkm := hz.2.1
  clear hz hzw hRA wn ww
  by_cases h1 : n0 < 1
  · go_enter Try.func4, Try.ntmps4
    go_wp2_with fail
    refine (awake_walk W).mono ?_
    rintro e w0 ⟨rfl, hb0⟩
    go_wp2_with fail
    go_ret
    exact ⟨rfl, hb0⟩
  by_cases h2 : 8 < n0
  · go_enter Try.func4, Try.ntmps4
    go_wp2_with fail
    refine (awake_walk W).mono ?_
    rintro e w0 ⟨rfl, hb0⟩
    go_wp2_with fail
    go_ret
    exact ⟨rfl, hb0⟩
  by_cases h3 : who0 < 0
  · go_enter Try.func4, Try.ntmps4
    go_wp2_with fail
    refine (awake_walk W).mono ?_
    rintro e w0 ⟨rfl, hb0⟩
    go_wp2_with fail
    go_ret
    exact ⟨rfl, hb0⟩
  by_cases h4 : n0 ≤ who0
  · go_enter Try.func4, Try.ntmps4
    go_wp2_with fail
    refine (awake_walk W).mono ?_
    rintro e w0 ⟨rfl, hb0⟩
    go_wp2_with fail
    go_ret
    exact ⟨rfl, hb0⟩
  by_cases h5 : 60 < k
  · go_enter Try.func4, Try.ntmps4
    go_wp2_with fail
    refine (awake_walk W).mono ?_
    rintro e w0 ⟨rfl, hb0⟩
    go_wp2_with fail
    go_ret
    exact ⟨rfl, hb0⟩
  obtain ⟨n, rfl⟩ := Int.eq_ofNat_of_zero_le (show 0 ≤ n0 by omega)
  obtain ⟨who, rfl⟩ := Int.eq_ofNat_of_zero_le (show 0 ≤ who0 by omega)
  obtain ⟨R, hR⟩ : ∃ R, R = oneRow k who z := ⟨_, rfl⟩
  have HRO := Lib.hid (show Rok1 R k n by rw [hR]; exact oneRow_ok (by omega) (by omega) HZ.out.1 HZW.out)
  have HRE := Lib.hid (show ∀ i, i < n → Gs R k n (2 * n - 2) i = z by intro i hi; rw [hR]; exact oneRow_all (by omega) (by omega) HZ.out.1 HZW.out hi (by omega))
  have HR1 := Lib.hid (show R who = z by rw [hR]; unfold oneRow; rw [if_pos rfl])
  have HR0 := Lib.hid (show ∀ i, i ≠ who → R i = List.replicate k (0, 0) by intro i hi; rw [hR]; unfold oneRow; rw [if_neg hi])
  have mk := make_objW k (by omega)
  have hN1 : 1 ≤ n := by omega
  have hN8 : n ≤ 8 := by omega
  have hk60 : k ≤ 60 := by omega
  have hwho : who < n := by omega
  have d1 : decide ((n : Int) < 1) = false := decide_eq_false (by omega)
  have d2 : decide ((8 : Int) < (n : Int)) = false := decide_eq_false (by omega)
  have d3 : decide ((who : Int) < 0) = false := decide_eq_false (by omega)
  have d4 : decide (n ≤ who) = false := decide_eq_false (by omega)
  have d5 : decide ((60 : Int) < (k : Int)) = false := decide_eq_false (by omega)
  clear hR h1 h2 h3 h4 h5 hkc hkm
  go_enter Try.func4, Try.ntmps4
  go_wp2_with fail
  refine (awake_walk W).mono ?_
  rintro e w0 ⟨rfl, hb0⟩
  have S0 := Lib.hid (show RowS W w0 W.heap.size none 0 [] 0 n k R (fun _ => 0) (fun _ => 0) from ⟨Rings.none' _ _ _ _ _ hb0.size, own_nil _ _ _ _, hb0⟩)
  clear hb0
  go_wp2_with fail
  go_loopw [7, 8] (fun s i wr => ∃ (m : Nat) (A : Option Addr) (c : Nat), m ≤ n ∧ i = .int .i64 m ∧ s = .slice A m c ∧ Aside0 (∃ ids top, RowS W wr top A c ids m n k R (fun _ => 0) (fun _ => 0))) (fun _ i _ => n - (intOf i).toNat)
  case atStart => exact ⟨0, none, 0, Nat.zero_le _, rfl, rfl, ⟨_, _, S0.out⟩⟩
  case round =>
    obtain ⟨m, A, c, hm, rfl, rfl, HK⟩ := hrel
    by_cases hlt : m < n
    · obtain ⟨ids, top, hS⟩ := HK.out
      have HS := Lib.hid hS; clear hS HK
      by_cases hw : m = who
      · have hwz : ((m : Int) == (who : Int)) = true := by rw [beq_iff_eq]; omega
        have HM := Lib.hid (show R m = z by rw [hw]; exact HR1.out)
        obtain ⟨x1, hx1⟩ : ∃ x1, x1 = wr.alloc (objW k) := ⟨_, rfl⟩
        have b1 : Below wr.heap.size wr x1 := by rw [hx1]; exact alloc_below _ _
        have C1 := Lib.hid (new_ok (m : Int) n RA k rc z x1 (HZ.out.below (HS.out.below b1).bw) HZW.out HRA.out (by omega) (by omega) (by omega) (by omega) (by omega))
        have S1 := Lib.hid (HS.out.below b1)
        clear hw b1
        go_wp2_with fail
        rw [← hx1]
        clear hx1
        refine C1.out.mono ?_
        rintro e x2 ⟨id, rfl, hs, hid, hb2⟩
        rw [← HM.out] at hs
        have hrs := S1.out.rs.more hb2 hs hid
        have hp2 := (show PtrRow x2 W.heap.size A c ids from pw_own_below S1.out.pr hb2).raw S1.out.len
        have hB2 := below_then S1.out.bw S1.out.bw.size hb2
        have HRS := Lib.hid hrs; have HP2 := Lib.hid hp2; have HB2 := Lib.hid hB2; have HL := Lib.hid S1.out.len
        clear hs hid hb2 hrs hp2 hB2 C1 HM
        go_wp2_with (at_builtin; refine app_ptr W.heap.size rfl (.tmp 66) (.tmp 68) 26 27 rfl Try.underlying26 (by kernel_rfl) _ (ptrs ids) _ m rfl rfl HP2.out HB2.out HB2.out.size (by omega) ?_; intro A1 c1 x3 hown hB3 hg3; have HO3 := Lib.hid hown; have HB3 := Lib.hid hB3; have HG3 := Lib.hid hg3; clear hown hB3 hg3)
        go_roundw
        case rel => exact ⟨m + 1, A1, c1, by omega, by go_num, rfl, ⟨ids ++ [id], x2.heap.size, HRS.out.grownT HP2.out HG3.out (by decide) (by decide) (by decide), PtrRow.mk' HL.out HO3.out, HB3.out⟩⟩
        case measure => simp [intOf]; omega
      · have hwz : ((m : Int) == (who : Int)) = false := by rw [beq_eq_false_iff_ne]; omega
        have HM := Lib.hid (HR0.out m hw)
        obtain ⟨x1, hx1⟩ : ∃ x1, x1 = wr.alloc (objW k) := ⟨_, rfl⟩
        have b1 : Below wr.heap.size wr x1 := by rw [hx1]; exact alloc_below _ _
        have r1 : WidesAt x1 (some ⟨wr.heap.size, 0, none⟩) k (List.replicate k (0, 0)) := by rw [hx1]; exact made_objW wr k (by omega)
        have C1 := Lib.hid (new_ok (m : Int) n (some ⟨wr.heap.size, 0, none⟩) k k (List.replicate k (0, 0)) x1 r1 (rep_wf k) (fun h => by cases h) (by omega) (by omega) (by omega) (by omega) (by omega))
        clear r1
        have S1 := Lib.hid (HS.out.below b1)
        clear hw b1
        go_wp2_with fail
        rw [← hx1]
        clear hx1
        refine C1.out.mono ?_
        rintro e x2 ⟨id, rfl, hs, hid, hb2⟩
        rw [← HM.out] at hs
        have hrs := S1.out.rs.more hb2 hs hid
        have hp2 := (show PtrRow x2 W.heap.size A c ids from pw_own_below S1.out.pr hb2).raw S1.out.len
        have hB2 := below_then S1.out.bw S1.out.bw.size hb2
        have HRS := Lib.hid hrs; have HP2 := Lib.hid hp2; have HB2 := Lib.hid hB2; have HL := Lib.hid S1.out.len
        clear hs hid hb2 hrs hp2 hB2 C1 HM
        go_wp2_with (at_builtin; refine app_ptr W.heap.size rfl (.tmp 66) (.tmp 68) 26 27 rfl Try.underlying26 (by kernel_rfl) _ (ptrs ids) _ m rfl rfl HP2.out HB2.out HB2.out.size (by omega) ?_; intro A1 c1 x3 hown hB3 hg3; have HO3 := Lib.hid hown; have HB3 := Lib.hid hB3; have HG3 := Lib.hid hg3; clear hown hB3 hg3)
        go_roundw
        case rel => exact ⟨m + 1, A1, c1, by omega, by go_num, rfl, ⟨ids ++ [id], x2.heap.size, HRS.out.grownT HP2.out HG3.out (by decide) (by decide) (by decide), PtrRow.mk' HL.out HO3.out, HB3.out⟩⟩
        case measure => simp [intOf]; omega
    · obtain rfl : m = n := by omega
      obtain ⟨ids, top, hS⟩ := HK.out
      have HL := Lib.hid hS.len
      obtain ⟨gA, hgA, -⟩ := hS.pr.at (i := 0) (by rw [HL.out]; omega)
      subst hgA
      have HS := Lib.hid hS; clear hS HK
      have hw2 : IntKind.i64.wrap (2 * (m : Int)) = 2 * (m : Int) := by rw [IntKind.wrap_i64]; omega
      have hw3 : IntKind.i64.wrap (2 * (m : Int) - 2) = 2 * (m : Int) - 2 := by rw [IntKind.wrap_i64]; omega
      go_wp2_with fail
      go_loopw [12] (fun s wr => ∃ t : Nat, t ≤ 2 * m - 2 ∧ s = .int .i64 t ∧ Aside0 (RowS W wr top (some ⟨gA, 0, none⟩) c ids m m k R (fun _ => t) (fun _ => t))) (fun s _ => 2 * m - 2 - (intOf s).toNat)
      case atStart => exact ⟨0, Nat.zero_le _, rfl, ⟨HS.out⟩⟩
      case round =>
        obtain ⟨t, ht, rfl, HT⟩ := hrel
        by_cases hlt2 : t < 2 * m - 2
        · have hg0 : (t : Int) < 2 * (m : Int) - 2 := by omega
          have HROK := Lib.hid (HRO.out.up (by omega))
          go_wp2_with fail
          go_loopw [13, 14] (fun s i wr => ∃ (j : Nat) (A3 : Option Addr) (c3 : Nat), j ≤ m ∧ i = .int .i64 j ∧ s = .slice A3 j c3 ∧ Aside0 (∃ L, RowS W wr top (some ⟨gA, 0, none⟩) c ids m m k R (fun i => if i < j then t + 1 else t) (fun _ => t) ∧ Sent wr top R k m t j L ∧ PtRow wr top R k m A3 c3 L)) (fun _ i _ => m - (intOf i).toNat)
          case atStart => exact ⟨0, none, 0, Nat.zero_le _, rfl, rfl, ⟨[], ⟨HT.out.rs.congr (fun i _ => if_neg (Nat.not_lt_zero _)) (fun _ _ => rfl), HT.out.pr, HT.out.bw⟩, ⟨rfl, fun i hi => absurd hi (Nat.not_lt_zero _)⟩, own_nil _ _ _ _⟩⟩
          case round =>
            obtain ⟨j, A3, c3, hj, rfl, rfl, HJ⟩ := hrel
            by_cases hjm : j < m
            · obtain ⟨L, hS3, hL3, hP3⟩ := HJ.out
              have HS3 := Lib.hid hS3; have HL3 := Lib.hid hL3; have HP3 := Lib.hid hP3
              clear HJ hS3 hL3 hP3
              have q0 : (0 : Int) ≤ (j : Int) := by omega
              have q1 : (j : Int) < (m : Int) := by omega
              have pc := HS3.out.pr.cell (i := j) (by rw [HL.out]; exact hjm)
              have C3 := Lib.hid (out_step HS3.out.rs HROK.out hjm t (if_neg (Nat.lt_irrefl j)) (Nat.le_refl _) (by omega) hlt2)
              go_wp2_with fail
              refine C3.out.mono ?_
              rintro e x1 ⟨A4, c4, rfl, hp4, hr4, hf4⟩
              have HS4 := Lib.hid (HS3.out.turned hjm (hr4.congr (o' := fun i => if i < j + 1 then t + 1 else t) (fun i _ => step_fun t i j) (fun _ _ => rfl)) hf4)
              have HL4 := Lib.hid (HL3.out.turned (HS3.out.rs.inn j hjm) hf4)
              have HP4 := Lib.hid (hf4.rowT (HS3.out.rs.st j hjm) HP3.out (by decide) (by decide))
              have HO4 := Lib.hid (show Part x1 top R k m t j A4 c4 from own_base_le hp4 HS3.out.rs.tw)
              clear hp4 hr4 hf4 pc C3
              have e1 : ((t : Int) != (t : Int)) = false := by simp
              obtain ⟨x2, hx2⟩ : ∃ x2, x2 = x1.alloc (.cells #[.int .i64 (t : Int), .int .i64 (csn m j t : Int), .slice A4 (Vs R k m t j).length c4] 37) := ⟨_, rfl⟩
              have b2 : Below x1.heap.size x1 x2 := by rw [hx2]; exact alloc_below _ _
              have HS5 := Lib.hid (HS4.out.below b2); have HL5 := Lib.hid (HL4.out.below b2); have HO5 := Lib.hid (show Part x2 top R k m t j A4 c4 from pw_own_below HO4.out b2)
              have HP5 := Lib.hid (show x2.ownsRow top 37 3 (.slice A3 j c3) j (ptCells R k m L) from by have := pw_own_below HP4.out b2; rw [HL4.out.1] at this; exact this)
              have HX2 := Lib.hid hx2
              have HSZ := Lib.hid (show x1.heap.size + 1 = x2.heap.size by rw [hx2]; simp)
              clear b2 hx2
              go_wp2_with (at_builtin; (try rw [← HX2.out]); refine app_part (w0 := x2) top rfl (.tmp 98) (.tmp 100) 40 37 rfl Try.underlying40 (by kernel_rfl) _ (ptCells R k m L) _ _ _ _ _ j rfl (by show Value.slice (some ⟨x1.heap.size + 1, 0, none⟩) 1 1 = _; rw [HSZ.out]) HP5.out (Below.refl _ _) HS5.out.rs.tw (by omega) ?_; intro A6 c6 x3 hown hB6 hg6; have HO6 := Lib.hid hown; have HG6 := Lib.hid hg6; clear hown hB6 hg6)
              go_roundw
              case rel => exact ⟨j + 1, A6, c6, by omega, by go_num, rfl, ⟨L ++ [(⟨t, j, A4, c4⟩ : Pt)], HS5.out.grownT HP5.out HG6.out HS5.out.rs.bt, (HL5.out.snoc HO5.out).grownT HP5.out HG6.out, PtRow.snoc HL5.out.1 HO6.out⟩⟩
              case measure => simp [intOf]; omega
            · obtain rfl : j = m := by omega
              obtain ⟨L, hS3, hL3, hP3⟩ := HJ.out
              have HS3 := Lib.hid (show RowS W wr top (some ⟨gA, 0, none⟩) c ids j j k R (fun _ => t + 1) (fun i => if pre j i < 0 then t + 1 else t) from ⟨hS3.rs.congr (fun i hi => (if_pos hi).symm) (fun i hi => if_neg (Nat.not_lt_zero _)), hS3.pr, hS3.bw⟩)
              have HL3 := Lib.hid hL3; have HP3 := Lib.hid hP3
              clear HJ hS3 hL3 hP3
              obtain ⟨gP, hgP, -⟩ := (show PtRow wr top R k j A3 c3 L from HP3.out).at (i := 0) (by rw [HL3.out.1]; omega)
              subst hgP
              have hjn0 : ¬ (j = 0) := by omega
              have hjn1 : ((j : Int) == 0) = false := beq_eq_false_iff_ne.2 (by omega)
              go_wp2_with fail
              go_loopw [17] (fun s wr => ∃ q : Nat, q ≤ j ∧ s = .int .i64 q ∧ Aside0 (RowS W wr top (some ⟨gA, 0, none⟩) c ids j j k R (fun _ => t + 1) (fun i => if pre j i < q then t + 1 else t) ∧ Sent wr top R k j t j L ∧ PtRow wr top R k j (some ⟨gP, 0, none⟩) c3 L)) (fun s _ => j - (intOf s).toNat)
              case atStart => exact ⟨0, Nat.zero_le _, rfl, ⟨HS3.out, HL3.out, HP3.out⟩⟩
              case round =>
                obtain ⟨q, hq, rfl, HQ⟩ := hrel
                by_cases hqj : q < j
                · obtain ⟨hS4, hL4, hP4⟩ := HQ.out
                  obtain ⟨i1, hi1⟩ : ∃ i1, i1 = (q + 1) % j := ⟨_, rfl⟩
                  have hi2 : i1 < j := by rw [hi1]; exact Nat.mod_lt _ (by omega)
                  have hpre := pre_next (n := j) hqj
                  rw [← hi1] at hpre
                  have hw6 : IntKind.i64.wrap ((q : Int) + 1) = (q : Int) + 1 := by rw [IntKind.wrap_i64]; omega
                  have hw7 : ((q : Int) + 1).tmod (j : Int) = (i1 : Int) := by rw [Int.tmod_eq_emod_of_nonneg (by omega), hi1]; simp
                  have hw8 : IntKind.i64.wrap ((i1 : Nat) : Int) = (i1 : Int) := by rw [IntKind.wrap_i64]; omega
                  have q0 : (0 : Int) ≤ (i1 : Int) := by omega
                  have q1 : (i1 : Int) < (j : Int) := by omega
                  have q2 : (0 : Int) ≤ (q : Int) := by omega
                  have q3 : (q : Int) < (j : Int) := by omega
                  have pc := hS4.pr.cell (i := i1) (by rw [HL.out]; exact hi2)
                  obtain ⟨g', eg, r0, r1, r2⟩ := hP4.at (i := q) (by rw [hL4.1]; exact hqj)
                  injection eg with eg
                  injection eg with eg
                  subst eg
                  obtain ⟨l1, l2, l3⟩ := hL4.2 q hqj
                  obtain ⟨A5, hA5⟩ : ∃ A5, A5 = (L.getD q dPt).A := ⟨_, rfl⟩
                  obtain ⟨c5, hc5⟩ : ∃ c5, c5 = (L.getD q dPt).c := ⟨_, rfl⟩
                  rw [← hA5, ← hc5] at l3
                  rw [l1] at r0
                  rw [l1, l2] at r1
                  rw [l1, l2, ← hA5, ← hc5] at r2
                  have C4 := Lib.hid (fun wx (hb : Below wr.heap.size wr wx) => get_back (hS4.below hb) HROK.out hL4 hP4 hb (HL.out) hi2 hqj t (if_neg (by rw [hpre]; exact Nat.lt_irrefl q)) hlt2 hpre (by rw [HL.out]; exact hi2) pc r0 r1 r2 l3)
                  have HPRE := Lib.hid hpre; have HI1 := Lib.hid hi1
                  clear hS4 hL4 hP4 l1 l2 l3 hA5 hc5 HQ hi1 hpre
                  go_wp2_with fail
                  go_region_held3 (fun w' => w'.cell? ⟨gA, i1, none⟩ = some (.pointer (some ⟨(idn ids i1).r, 0, none⟩)) ∧ w'.cell? ⟨gP, q * 3, none⟩ = some (.int .i64 (t : Int)) ∧ w'.cell? ⟨gP, q * 3 + 1, none⟩ = some (.int .i64 (csn j q t : Int)) ∧ w'.cell? ⟨gP, q * 3 + 2, none⟩ = some (.slice A5 (Vs R k j t q).length c5))
                    (first | (with_reducible exact ⟨s0, s1, s2, s3⟩) | exact ⟨pc, r0, r1, r2⟩ | go_keep)
                    ((go_at_call 10; (with_reducible refine (C4.out _ (by repeat (first | with_reducible exact Below.refl _ _ | with_reducible apply pw_below_drewN | with_reducible apply below_drew))).mono ?_); rintro e w5 ⟨rfl, s0, s1, s2, s3, hS5, hL5, hP5⟩; have HS5 := Lib.hid hS5; have HL5 := Lib.hid hL5; have HP5 := Lib.hid hP5; clear hS5 hL5 hP5))
                  go_wp2_with fail
                  have hfin : RowS W w5 top (some ⟨gA, 0, none⟩) c ids j j k R (fun _ => t + 1) (fun i => if pre j i < q + 1 then t + 1 else t) := ⟨HS5.out.rs.congr (fun _ _ => rfl) (fun i hi => by rw [HI1.out]; exact step_pre t q j i hi hqj), HS5.out.pr, HS5.out.bw⟩
                  go_roundw
                  case rel => first | exact ⟨q + 1, by omega, by go_num, ⟨hfin, HL5.out, HP5.out⟩⟩ | exact ⟨q + 1, by omega, by go_num, ⟨hfin.below (below_drew (Below.refl _ _)), HL5.out.below (below_drew (Below.refl _ _)), HP5.out⟩⟩
                  case measure => simp [intOf]; omega
                · obtain rfl : j = q := by omega
                  have hfin := Lib.hid (show RowS W wr top (some ⟨gA, 0, none⟩) c ids j j k R (fun _ => t + 1) (fun _ => t + 1) from ⟨HQ.out.1.rs.congr (fun _ _ => rfl) (fun i hi => (if_pos (pre_lt (by omega))).symm), HQ.out.1.pr, HQ.out.1.bw⟩)
                  go_wp2_with fail
                  go_roundw
                  case rel => exact ⟨t + 1, by omega, by go_num, ⟨hfin.out⟩⟩
                  case measure => simp [intOf]; omega
        · have ht2 : t = 2 * m - 2 := by omega
          have hg0 : ¬ ((t : Int) < 2 * (m : Int) - 2) := by omega
          have hg1 : decide ((t : Int) < 2 * (m : Int) - 2) = false := decide_eq_false hg0
          have HT2 := Lib.hid ht2
          clear ht2
          go_wp2_with fail
          go_loopw [18] (fun s wr => ∃ q : Nat, q ≤ m ∧ s = .int .i64 q ∧ Aside0 (RowS W wr top (some ⟨gA, 0, none⟩) c ids m m k R (fun _ => t) (fun _ => t))) (fun s _ => m - (intOf s).toNat)
          case atStart => exact ⟨0, Nat.zero_le _, rfl, ⟨HT.out⟩⟩
          case round =>
            obtain ⟨q, hq, rfl, HQ⟩ := hrel
            by_cases hqm : q < m
            · have q0 : (0 : Int) ≤ (q : Int) := by omega
              have q1 : (q : Int) < (m : Int) := by omega
              have pc := HQ.out.pr.cell (i := q) (by rw [HL.out]; exact hqm)
              have hd : 2 * (m : Int) - 3 < (t : Int) := by omega
              have hst : RgS wr (idn ids q) (q : Int) m k z (t : Int) false false := by
                have := HQ.out.rs.st q hqm
                simp only [Nat.min_self, Nat.lt_irrefl, decide_false] at this
                have e : Gs R k m t q = z := by rw [HT2.out]; exact HRE.out q hqm
                rw [e] at this
                exact this
              have HST := Lib.hid hst
              have C1 := Lib.hid (sum_done wr (idn ids q) q m k z t false false hst hd)
              clear hst
              go_wp2_with fail
              refine C1.out.mono ?_
              rintro e y1 ⟨A1, c1, rfl, ho1, hb1⟩
              have HO1 := Lib.hid ho1; have B1 := Lib.hid hb1
              have C2 := Lib.hid (out_done y1 (idn ids q) q m k z t false (HST.out.below hb1) hd)
              have pc1 := pw_cell_below hb1 pc
              clear ho1 hb1 pc C1
              go_wp2_with fail
              refine C2.out.mono ?_
              rintro e y2 ⟨rfl, hb2⟩
              obtain ⟨y3, hy3⟩ : ∃ y3, y3 = y2.alloc (.cells #[.int .i64 0, .int .i64 0, .slice none 0 0] 37) := ⟨_, rfl⟩
              have b3 : Below y1.heap.size y1 y3 := by rw [hy3]; exact below_then hb2 hb2.size (alloc_below _ _)
              have B3 := Lib.hid (below_then B1.out B1.out.size b3)
              have pc3 := pw_cell_below b3 pc1
              rw [hy3] at pc3
              have C3 := Lib.hid (done_any y3 (idn ids q) q m k z t false false (HST.out.below B3.out) true (decide_eq_true hd))
              have HO3 := Lib.hid (pw_own_below HO1.out b3)
              clear hb2 b3 pc1 C2
              go_wp2_with fail
              rw [← hy3]
              clear hy3 pc3
              refine C3.out.mono ?_
              rintro e y4 ⟨rfl, hb4⟩
              have B4 := Lib.hid (below_then B3.out B3.out.size hb4)
              have C4 := Lib.hid (wides_same A1 RA k c1 rc z y4 (part_read (pw_own_below HO3.out hb4) (by omega)) (HZ.out.below (HQ.out.below B4.out).bw) (by omega))
              clear hb4 C3
              go_wp2_with fail
              refine C4.out.mono ?_
              rintro e y5 ⟨rfl, hb5⟩
              have B5 := Lib.hid (below_then B4.out B4.out.size hb5)
              clear hb5 C4
              go_wp2_with fail
              go_roundw
              case rel => exact ⟨q + 1, by omega, by go_num, ⟨HQ.out.below B5.out⟩⟩
              case measure => simp [intOf]; omega
            · go_wp2_with fail
              go_ret
              exact ⟨rfl, HQ.out.bw⟩
end Go.Proofs.Ytjidjbjbngbhpaa
