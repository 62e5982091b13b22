/- RingSums: its rows as an argument, the sum that is wanted, what the law holds. -/
import Derived.Test.YtjidjbjbngbhpaaRingQc
import Derived.Test.YtjidjbjbngbhpaaRingV
import Derived.Test.YtjidjbjbngbhpaaRingZ
set_option linter.unusedVariables false
set_option linter.unusedSimpArgs false
namespace Go.Proofs.Ytjidjbjbngbhpaa
open Go.RowKit Go.Proofs.YtjidjbjbngbhpaaW.PrintWords Go.Proofs.Ytjidjbjbngbhpaa.K Go.ChangeShapes Go.WideShapes Go.Deep

def WRows (w : World) (A : Option Addr) (n : Nat) (R : Nat → List (Int × Int)) : Prop :=
  n ≤ 9223372036854775807 ∧ ∀ i, i < n → ∃ ad B m c, A = some ad ∧ w.cell? (ad.add i) = some (.slice B m c) ∧ WidesAt w B m (R i) ∧ (∀ y ∈ R i, WwfP y) ∧ (B = none → m = 0 ∧ c = 0)
section
variable {H : Type} {enc : TypeId × Value → H} {w : World} {base : Nat} {spare : Nat → Bool} {held : Bool}
theorem open_wrow {fuel : Nat} {v : Value} {x : DataW H × List MemPlace} (hf : DataW.trod enc Try.prog w base spare held fuel 25 [v] = some x) : ∃ A k c z, v = .slice A k c ∧ WidesAt w A k z ∧ (∀ y ∈ z, WwfP y) ∧ (A = none → k = 0 ∧ c = 0) := by
  obtain ⟨A, k, c', zs, e, h1, h2, h3⟩ := open_wides (P := Try.prog) Try.underlying25 Try.underlying33 (by kernel_rfl) rfl rfl Try.underlying2 Try.underlying31 (by kernel_rfl) (by kernel_rfl) hf
  subst e
  refine ⟨A, k, c', zs, rfl, h1, h2, fun hA => ?_⟩
  rcases open_slice Try.underlying25 hf with ⟨he, _⟩ | ⟨x, l, cc, m, n', D, Pl, he, _⟩
  · simp only [List.cons.injEq, and_true] at he
    injection he with e1 e2 e3
    exact ⟨e2, e3⟩
  · simp only [List.cons.injEq, and_true] at he
    injection he with e1 e2 e3
    rw [hA] at e1
    cases e1
theorem open_wrows {v : Value} {d : DataW H} {ps : List MemPlace} {r : Reach} {b0 : Nat} (hval : Value.okWide Try.prog w r b0 22 v) (h : DataW.Trod enc Try.prog w base spare held 22 v d ps) : ∃ A n c R, v = .slice A n c ∧ WRows w A n R ∧ n ≤ c := by
  obtain ⟨a, n, c, rfl⟩ := okWide_slice Try.underlying22 hval
  obtain ⟨fuel, hf⟩ := h
  rcases open_slice1 Try.underlying22 (by kernel_rfl) hf with ⟨hcs, _⟩ | ⟨ad, l, cap, m, f2, V, D, Pl, hcs, _, hl, hm, hmm, _, hx⟩
  · simp [Value.cells] at hcs
    obtain ⟨rfl, rfl, rfl⟩ := hcs
    exact ⟨none, 0, 0, fun _ => [], rfl, ⟨by decide, fun i hi => by omega⟩, Nat.le_refl _⟩
  · simp [Value.cells] at hcs
    obtain ⟨rfl, rfl, rfl⟩ := hcs
    simp only [maxLen] at hm
    have hlm : n ≤ m := by rw [hmm]; split <;> omega
    have key : ∀ i, ∃ zs : List (Int × Int), i < n → ∃ B mm cc, w.cell? (ad.add i) = some (.slice B mm cc) ∧ WidesAt w B mm zs ∧ (∀ y ∈ zs, WwfP y) ∧ (B = none → mm = 0 ∧ cc = 0) := by
      intro i
      by_cases hi : i < n
      · obtain ⟨h1, h2⟩ := hx i (by omega)
        obtain ⟨B, mm, cc, zs, hv, h3, h4, h5⟩ := open_wrow h2
        exact ⟨zs, fun _ => ⟨B, mm, cc, by rw [h1, hv], h3, h4, h5⟩⟩
      · exact ⟨[], fun h => absurd h hi⟩
    classical
    refine ⟨some ad, n, c, fun i => Classical.choose (key i), rfl, ⟨by omega, fun i hi => ?_⟩, hl⟩
    obtain ⟨B, mm, cc, h1, h2⟩ := Classical.choose_spec (key i) hi
    exact ⟨ad, B, mm, cc, rfl, h1, h2⟩
end
theorem WRows.below {w w1 : World} {A : Option Addr} {n : Nat} {R : Nat → List (Int × Int)} (h : WRows w A n R) (hb : Below w.heap.size w w1) : WRows w1 A n R :=
  ⟨h.1, fun i hi => by
    obtain ⟨ad, B, m, c, h1, h2, h3, h4⟩ := h.2 i hi
    exact ⟨ad, B, m, c, h1, pw_cell_below hb h2, h3.below hb, h4⟩⟩
/-! The sum that is wanted -/
def wantL (R : Nat → List (Int × Int)) (k : Nat) : Nat → List (Int × Int)
  | 0 => List.replicate k (0, 0)
  | i + 1 => gotL (wantL R k i) 0 true (R i) k
theorem wantL_len (R : Nat → List (Int × Int)) (k : Nat) : ∀ i, (wantL R k i).length = k
  | 0 => by simp [wantL]
  | i + 1 => by rw [wantL, gotL_len, wantL_len R k i]
theorem wantL_wf (R : Nat → List (Int × Int)) (k : Nat) : ∀ i, (∀ j, j < i → ∀ p ∈ R j, WwfP p) → ∀ p ∈ wantL R k i, WwfP p
  | 0, _ => fun p hp => by rw [List.eq_of_mem_replicate hp]; exact ⟨by decide, by decide⟩
  | i + 1, h => gotL_wf _ _ (wantL_wf R k i (fun j hj => h j (by omega))) (h i (by omega)) _
theorem wantL_wm (R : Nat → List (Int × Int)) (k : Nat) {x : Nat} (hx : x < k) : ∀ i, wm ((wantL R k i).getD x (0, 0)) = Sm (fun j => wm ((R j).getD x (0, 0))) i % 340282366920938463463374607431768211456
  | 0 => by
    rw [show (wantL R k 0).getD x (0, 0) = (0, 0) by simp [wantL, List.getD_eq_getElem?_getD, hx]]
    rw [wm_zero]
    rfl
  | i + 1 => by
    rw [wantL, gotL_at _ _ _ _ _ (by rw [wantL_len]; exact hx), if_pos ⟨Nat.zero_le _, by omega⟩]
    unfold gotV
    rw [if_pos rfl, wm_sum, wantL_wm R k hx i, Sm, Nat.sub_zero]
    omega
theorem want_all {R : Nat → List (Int × Int)} {k n i : Nat} (h : Rok1 R k n) (hi : i < n) : Gs R k n (2 * n - 2) i = wantL R k n :=
  all_row h hi (wantL_len R k n) (wantL_wf R k n (fun j hj => (h.2.2 j hj).2)) (fun x hx => wantL_wm R k hx n)
theorem wides_zero (w : World) (base k : Nat) (hb : base ≤ w.heap.size) (hk : k ≤ 100000) : (w.alloc (objW k)).ownsRow base 33 2 (.slice (some ⟨w.heap.size, 0, none⟩) k k) k (wides (List.replicate k (0, 0))) := by
  refine ⟨by rw [wides_len]; simp, .inr ⟨w.heap.size, k, madeCells #[.int .i64 0, .int .u64 0] (k * 2), rfl, hb, heap_alloc_new _ _, Nat.le_refl _, by simp only [maxLen]; omega, by simp [size_madeCells], ?_⟩⟩
  rw [wides_rep, List.take_of_length_le (by rw [wides_len]; simp)]
/-- One number of the sum that is wanted has been put. -/
def WantAt (wr : World) (gw q : Nat) (v : Int × Int) (wc : World) : Prop := ∃ w5, Below wr.heap.size wr w5 ∧ wc = (w5.setCell ⟨gw, q * 2, none⟩ (.int .i64 v.1)).setCell ⟨gw, q * 2 + 1, none⟩ (.int .u64 v.2)
theorem WantAt.drew {wr wc : World} {gw q : Nat} {v : Int × Int} (h : WantAt wr gw q v wc) : WantAt wr gw q v wc.drew := by
  obtain ⟨w5, h1, h2⟩ := h
  exact ⟨w5.drew, below_drew h1, by rw [h2]; rfl⟩
theorem gotL_next {l M : List (Int × Int)} {q : Nat} : (gotL l 0 true M q).set q (wsum ((gotL l 0 true M q).getD q (0, 0)) (M.getD q (0, 0))) = gotL l 0 true M (q + 1) := by
  rw [gotL_later l 0 true M q q (by omega)]
  have e : gotL l 0 true M (q + 1) = (gotL l 0 true M q).set (0 + q) (gotV true (l.getD (0 + q) (0, 0)) (M.getD q (0, 0))) := rfl
  rw [e, Nat.zero_add]
  rfl
/-! What the law holds -/
structure SumS (W wr : World) (B top gw : Nat) (A : Option Addr) (c : Nat) (ids : List RgId) (m n k : Nat) (R : Nat → List (Int × Int)) (o g : Nat → Nat) (WL : List (Int × Int)) : Prop where
  rs : Rings B top wr ids m n k R o g
  pr : PtrRow wr W.heap.size A c ids
  wt : wr.ownsRow W.heap.size 33 2 (.slice (some ⟨gw, 0, none⟩) k k) k (wides WL)
  gb : gw < B
  bw : Below W.heap.size W wr
variable {W wr w' : World} {B top gw : Nat} {A : Option Addr} {c : Nat} {ids : List RgId} {m n k : Nat} {R : Nat → List (Int × Int)} {o g o' g' : Nat → Nat} {WL : List (Int × Int)}
theorem SumS.wb (h : SumS W wr B top gw A c ids m n k R o g WL) : W.heap.size ≤ B := by
  have := own_base h.wt gw rfl
  have := h.gb
  omega
theorem SumS.below (h : SumS W wr B top gw A c ids m n k R o g WL) (hb : Below wr.heap.size wr w') : SumS W w' B top gw A c ids m n k R o g WL :=
  ⟨h.rs.below hb, pw_own_below h.pr hb, pw_own_below h.wt hb, h.gb, below_then h.bw h.bw.size hb⟩
theorem SumS.turned (h : SumS W wr B top gw A c ids n n k R o g WL) {i : Nat} (hi : i < n) (hr : Rings B top w' ids n n k R o' g') (hf : RgF wr w' (idn ids i)) : SumS W w' B top gw A c ids n n k R o' g' WL :=
  ⟨hr, hf.rowT (h.rs.st i hi) h.pr (by decide) (by decide), own_move h.wt (fun b hb => by
    injection hb with hb
    subst hb
    have hin := h.rs.inn i hi
    exact hf.block gw (own_lt h.wt gw rfl) (by have := hin.1; have := h.gb; omega) (fun ad e => by have := (hin.2.2 ad e).1; have := h.gb; omega)), h.gb, hf.belowW ((h.rs.inn i hi).mono h.wb (Nat.le_refl _)) h.bw h.bw.size⟩
/-- A number of the sum that is wanted. -/
theorem SumS.want (h : SumS W wr B top gw A c ids m n k R o g WL) {q : Nat} (hq : q < k) (x : Int × Int) : SumS W ((wr.setCell ⟨gw, q * 2, none⟩ (.int .i64 x.1)).setCell ⟨gw, q * 2 + 1, none⟩ (.int .u64 x.2)) B top gw A c ids m n k R o g (WL.set q x) := by
  obtain ⟨cs, hg⟩ := own_typed h.wt gw rfl
  have hbase := own_base h.wt gw rfl
  have far : ∀ {b : Nat}, b ≠ gw → ((wr.setCell ⟨gw, q * 2, none⟩ (.int .i64 x.1)).setCell ⟨gw, q * 2 + 1, none⟩ (.int .u64 x.2)).heap[b]? = wr.heap[b]? := fun {b} hne => by
    rw [Below.heap_setCell _ _ _ _ (by exact hne), Below.heap_setCell _ _ _ _ (by exact hne)]
  refine ⟨⟨h.rs.len, fun i hi => ?_, h.rs.ap, h.rs.inn, by simp [World.setCell]; exact h.rs.tw, h.rs.bt⟩, own_move h.pr (fun b hb => far ?_), own_put2 h.wt hq, h.gb, (h.bw.setCell hbase _).setCell hbase _⟩
  · have hs := h.rs.st i hi
    have hin := h.rs.inn i hi
    have hgb := h.gb
    refine ⟨(far (by have := hin.1; omega)).trans hs.obj, own_move hs.row (fun b hb => far ?_), own_move hs.chs (fun b hb => far ?_), hs.lo, hs.ok⟩
    · rcases hA : (idn ids i).A with _ | ad
      · rw [hA] at hb; cases hb
      · rw [hA] at hb
        injection hb with hb
        have := (hin.2.2 ad hA).1
        omega
    · obtain ⟨cs', hc⟩ := own_typed hs.chs b hb
      exact blk_ne hc hg (by decide)
  · obtain ⟨cs', hc⟩ := own_typed h.pr b hb
    exact blk_ne hc hg (by decide)
theorem SumS.grownQ (h : SumS W wr B top gw A c ids m n k R o g WL) {b j : Nat} {v : Value} {xs : List Value} (hq : QRow wr b 37 v j xs) (hg : wr.grownBy w' v.ownBlock) (hb : W.heap.size ≤ b) : SumS W w' B top gw A c ids m n k R o g WL :=
  ⟨h.rs.grownQ hq hg, own_grownQ hq hg h.pr (by decide), own_grownQ hq hg h.wt (by decide), h.gb, pw_below_grown h.bw _ h.bw.size hg (fun k e => Nat.le_trans hb (hq.block e).1)⟩
theorem SumS.setFar (h : SumS W wr B top gw A c ids m n k R o g WL) {X : Nat} {cs : Array Value} {t : TypeId} (hX : wr.heap[X]? = some (.cells cs t (0, 0))) (h1 : 54 ≠ t) (h2 : 33 ≠ t) (h3 : 63 ≠ t) (h4 : 27 ≠ t) (hb : W.heap.size ≤ X) (j : Nat) (v : Value) : SumS W (wr.setCell ⟨X, j, none⟩ v) B top gw A c ids m n k R o g WL :=
  ⟨h.rs.setFar hX h1 h2 h3 j v, own_setCell h.pr (own_ne h.pr hX h4) _, own_setCell h.wt (own_ne h.wt hX h2) _, h.gb, h.bw.setCell (by exact hb) _⟩
theorem SumS.wcell (h : SumS W wr B top gw A c ids m n k R o g WL) {q : Nat} (hq : q < k) : wr.cell? ⟨gw, q * 2, none⟩ = some (.int .i64 (WL.getD q (0, 0)).1) ∧ wr.cell? ⟨gw, q * 2 + 1, none⟩ = some (.int .u64 (WL.getD q (0, 0)).2) ∧ wr.frozen? ⟨gw, q * 2, none⟩ = false ∧ wr.frozen? ⟨gw, q * 2 + 1, none⟩ = false := by
  obtain ⟨cs, hg⟩ := own_typed h.wt gw rfl
  have hl : q < WL.length := by have := h.wt.1; rw [wides_len] at this; omega
  have e1 := World.ownsRow.cells h.wt (g := gw) rfl (q * 2) _ (wides_at WL q hl).1
  have e2 := World.ownsRow.cells h.wt (g := gw) rfl (q * 2 + 1) _ (wides_at WL q hl).2
  rw [Go.Proofs.YtjidjbjbngbhpaaW.PrintWords.add_plain] at e1 e2
  exact ⟨e1, e2, frozr hg _, frozr hg _⟩
theorem QRow_cutv {w : World} {base n g off cap : Nat} {e : TypeId} {x y z : Value} {xs : List Value} (h : QRow w base e (.slice (some ⟨g, off, none⟩) (n + 1) cap) (n + 1) (x :: y :: z :: xs)) : QRow w base e (.slice (if cap = 1 then some ⟨g, off, none⟩ else some ⟨g, off + 3, none⟩) n (cap - 1)) n xs ∧ (Value.slice (if cap = 1 then some ⟨g, off, none⟩ else some ⟨g, off + 3, none⟩) n (cap - 1)).ownBlock = some g := by
  obtain ⟨i, hi, hz, hsz, hby⟩ := infoPt
  rcases h.2 with ⟨h1, _⟩ | ⟨g', off', cap', cur, h1, h2, h3, h4, h5, h6, h7⟩
  · cases h1
  · simp only [Value.slice.injEq, Option.some.injEq, Addr.mk.injEq, and_true, true_and] at h1
    obtain ⟨⟨e1, e2⟩, e3⟩ := h1
    subst e1 e2 e3
    have hl := h.1
    simp only [List.length_cons] at hl
    refine ⟨⟨by omega, ?_⟩, ?_⟩
    · by_cases hc : cap = 1
      · subst hc
        have hn : n = 0 := by omega
        subst hn
        have hx : xs = [] := List.eq_nil_of_length_eq_zero (by omega)
        subst hx
        exact .inr ⟨g, off, 0, cur, by simp, h2, h3, Nat.le_refl _, by decide, by omega, by simp⟩
      · refine .inr ⟨g, off + 3, cap - 1, cur, by rw [if_neg hc], h2, h3, by omega, by omega, by omega, ?_⟩
        have e1 : (cur.toList.drop off).take ((n + 1) * 3) = x :: y :: z :: xs := h7
        have e2 := congrArg (List.drop 3) e1
        rw [List.drop_take, List.drop_drop] at e2
        rw [show (n + 1) * 3 - 3 = n * 3 by omega] at e2
        exact e2
    · by_cases hc : cap = 1
      · rw [if_pos hc]; rfl
      · rw [if_neg hc]; rfl
def GotS (W : World) (B top gw : Nat) (A0 : Option Addr) (c0 : Nat) (ids : List RgId) (k n : Nat) (R : Nat → List (Int × Int)) (o g g1 : Nat → Nat) (WL : List (Int × Int)) (gy : Nat) (V : Nat → Value) (LL : Nat → List Pt) (r : Int) (e : Ending) (w' : World) : Prop :=
  e = .returned (.int .i64 r) ∧ SumS W w' B top gw A0 c0 ids n n k R o g1 WL ∧ Ways w' W.heap.size top R k n o g gy V LL
theorem sums_get {W wr : World} {B top gw : Nat} {A0 : Option Addr} {c0 : Nat} {ids : List RgId} {k n : Nat} {R : Nat → List (Int × Int)} {o g : Nat → Nat} {WL : List (Int × Int)} {gy : Nat} {V : Nat → Value} {LL : Nat → List Pt} {p : Nat} {A : Option Addr} {c : Nat}
    (hS : SumS W wr B top gw A0 c0 ids n n k R o g WL) (hY : Ways wr W.heap.size top R k n o g gy V LL) (hR : Rok R k n) (hp : p < n) (h1 : g p ≤ o p) (h2 : o p ≤ g p + 1) (h3 : g p < 2 * n - 2) (hpart : Part wr top R k n (g p) (pre n p) A c) (wx : World) (hb : Below wr.heap.size wr wx) :
    Calls Try.prog 10 #[.pointer (some ⟨(idn ids p).r, 0, none⟩), .agg #[.int .i64 (g p : Int), .int .i64 (csn n (pre n p) (g p) : Int), .slice A (Vs R k n (g p) (pre n p)).length c]] wx (GotS W B top gw A0 c0 ids k n R o g (upd g p (g p + 1)) WL gy V LL 0) := by
  refine (get_step (hS.below hb).rs hR hp (g p) rfl h1 h2 h3 (pre n p) rfl (A := A) (c := c) (b := top) (pw_own_below hpart hb) (Nat.le_refl _)).mono ?_
  rintro e w' ⟨h4, h5, h6⟩
  exact ⟨h4, (hS.below hb).turned hp h5 h6, (hY.below hb).turned ((hS.below hb).rs.st p hp) (hS.rs.inn p hp) h6⟩
theorem sums_wait {W wr : World} {B top gw : Nat} {A0 : Option Addr} {c0 : Nat} {ids : List RgId} {k n : Nat} {R : Nat → List (Int × Int)} {o g : Nat → Nat} {WL : List (Int × Int)} {gy : Nat} {V : Nat → Value} {LL : Nat → List Pt} {p : Nat} {A : Option Addr} {c : Nat}
    (hS : SumS W wr B top gw A0 c0 ids n n k R o g WL) (hY : Ways wr W.heap.size top R k n o g gy V LL) (hn : 2 ≤ n) (hp : p < n) (h1 : ¬ g p ≤ o p) (h3 : g p < 2 * n - 2) (pc : Int) (m : Nat) (wx : World) (hb : Below wr.heap.size wr wx) :
    Calls Try.prog 10 #[.pointer (some ⟨(idn ids p).r, 0, none⟩), .agg #[.int .i64 (g p : Int), .int .i64 pc, .slice A m c]] wx (GotS W B top gw A0 c0 ids k n R o g g WL gy V LL 10) := by
  have hst := (hS.below hb).rs.st p hp
  rw [Nat.min_eq_left (by omega)] at hst
  refine (get_soon wx (idn ids p) p n k _ _ _ _ hst (g p) pc A m c (by omega) (by omega)).mono ?_
  rintro e w' ⟨h4, h5⟩
  exact ⟨h4, (hS.below hb).below h5, (hY.below hb).below h5⟩
theorem ways_cellK {w w1 : World} {base top : Nat} {R : Nat → List (Int × Int)} {k n : Nat} {o g : Nat → Nat} {gy : Nat} {V : Nat → Value} {LL : Nat → List Pt} (h : Ways w base top R k n o g gy V LL) {p1 : Nat} (hp1 : p1 < n) (hg : w.grownBy w1 (V p1).ownBlock) : w1.cell? ⟨gy, p1, none⟩ = some (V p1) ∧ w1.frozen? ⟨gy, p1, none⟩ = false ∧ ∃ cs, w1.heap[gy]? = some (.cells cs 40 (0, 0)) := by
  have hrow := own_grownQ (h.each p1 hp1).q hg h.row (by decide)
  obtain ⟨cs, hc⟩ := own_typed hrow gy rfl
  have := World.ownsRow.cells hrow (g := gy) rfl p1 _ (valRow_at hp1)
  rw [Go.Proofs.YtjidjbjbngbhpaaW.PrintWords.add_plain] at this
  exact ⟨this, frozr hc p1, cs, hc⟩
theorem grown_undrew {w w1 : World} {r : Option Nat} (h : w.drew.grownBy w1 r) : w.grownBy w1 r := ⟨h.os, h.tape, h.output, h.size, h.block⟩
/-- What a place's Out leaves, when it may send and when not. -/
def OutR (W wx : World) (B top gw : Nat) (A0 : Option Addr) (c0 : Nat) (ids : List RgId) (k n : Nat) (R : Nat → List (Int × Int)) (o g : Nat → Nat) (WL : List (Int × Int)) (gy : Nat) (V : Nat → Value) (LL : Nat → List Pt) (p X : Nat) (b : Bool) : Prop :=
  (b = true ∧ (o p ≤ g p ∧ o p < 2 * n - 2) ∧ SumS W wx B top gw A0 c0 ids n n k R (upd o p (o p + 1)) g WL ∧ Ways wx W.heap.size top R k n o g gy V LL ∧ W.heap.size ≤ X ∧ ∃ A c, wx.heap[X]? = some (.cells (ptA R k n (o p) p A c) 37 (0, 0)) ∧ Part wx top R k n (o p) p A c) ∨
  (b = false ∧ ¬ (o p ≤ g p ∧ o p < 2 * n - 2) ∧ SumS W wx B top gw A0 c0 ids n n k R o g WL ∧ Ways wx W.heap.size top R k n o g gy V LL)
theorem and_16 (t : Int) : 0 ≤ bits .and .i64 t 65535 ∧ bits .and .i64 t 65535 ≤ 65535 := by
  have h : bits .and .i64 t 65535 = IntKind.i64.wrap ((BitVec.ofInt 64 t &&& BitVec.ofInt 64 65535).toNat : Int) := rfl
  rw [h, BitVec.toNat_and, show (BitVec.ofInt 64 65535).toNat = 65535 by decide, IntKind.wrap_i64]
  have := Nat.and_le_right (n := (BitVec.ofInt 64 t).toNat) (m := 65535)
  omega
theorem ways_start (w : World) (base top : Nat) (R : Nat → List (Int × Int)) (k n : Nat) (hb : base ≤ w.heap.size) (hn : n ≤ 100) :
    Ways (w.alloc (.cells (madeCells #[.slice none 0 0] n) 40)) base top R k n (fun _ => 0) (fun _ => 0) w.heap.size (fun _ => .slice none 0 0) (fun _ => []) := by
  refine ⟨⟨by simp [valRow], .inr ⟨w.heap.size, n, madeCells #[.slice none 0 0] n, rfl, hb, heap_alloc_new _ _, Nat.le_refl _, by simp only [maxLen]; omega, by simp [size_madeCells], ?_⟩⟩, fun p hp => ⟨QRow.nil _ _ _, rfl, fun j hj => absurd hj (Nat.not_lt_zero _)⟩, fun p q hp hq hne => .inl rfl⟩
  apply List.ext_getElem?
  intro i
  by_cases hi : i < n
  · rw [valRow_at hi, List.getElem?_take, if_pos (by omega)]
    simp [madeCells, hi, Nat.mod_one]
  · rw [List.getElem?_eq_none (by simp [size_madeCells]; omega), List.getElem?_eq_none (by simp [valRow]; omega)]
theorem make_ways (n : Nat) (hn : n ≤ 100) : ∀ W : World, (Instr.makeSlice 35 (.int .i64 (n : Int)) (.int .i64 (n : Int))).run Try.prog W = .ok (.slice (some ⟨W.heap.size, 0, none⟩) n n) (W.alloc (.cells (madeCells #[.slice none 0 0] n) 40)) :=
  print_make_of 35 40 (.slice none 0 0) 24 Try.underlying35 (by kernel_rfl) rfl (by decide) n (by omega)
end Go.Proofs.Ytjidjbjbngbhpaa
