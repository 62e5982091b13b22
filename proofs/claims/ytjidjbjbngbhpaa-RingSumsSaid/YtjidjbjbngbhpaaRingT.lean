/- Many rings in memory: where each stands; Out and Get of one. -/
import Derived.Test.YtjidjbjbngbhpaaRingS
import Derived.Test.YtjidjbjbngbhpaaRingP
import Derived.Test.YtjidjbjbngbhpaaRingJ
set_option linter.unusedVariables false
set_option linter.unusedSimpArgs false
namespace Go.Proofs.Ytjidjbjbngbhpaa
open Go.RowKit Go.Proofs.YtjidjbjbngbhpaaW.PrintWords Go.Proofs.Ytjidjbjbngbhpaa.K

def idn (ids : List RgId) (i : Nat) : RgId := ids.getD i ⟨0, 0, none, 0, none, 0⟩
theorem idn_old {ids : List RgId} {a : RgId} {i : Nat} (h : i < ids.length) : idn (ids ++ [a]) i = idn ids i := by
  unfold idn
  rw [List.getD_eq_getElem?_getD, List.getD_eq_getElem?_getD, List.getElem?_append_left h]
theorem idn_new {ids : List RgId} {a : RgId} : idn (ids ++ [a]) ids.length = a := by
  unfold idn
  rw [List.getD_eq_getElem?_getD, List.getElem?_append_right (Nat.le_refl _)]
  simp
def upd (f : Nat → Nat) (i v : Nat) : Nat → Nat := fun j => if j = i then v else f j
theorem upd_same (f : Nat → Nat) (i v : Nat) : upd f i v i = v := if_pos rfl
theorem upd_other (f : Nat → Nat) {i j : Nat} (v : Nat) (h : j ≠ i) : upd f i v j = f j := if_neg h
/-- The first m of n places' rings, behind o i times Out and g i times Get of the i-th. -/
structure Rings (base top : Nat) (w : World) (ids : List RgId) (m n k : Nat) (R : Nat → List (Int × Int)) (o g : Nat → Nat) : Prop where
  len : ids.length = m
  st : ∀ i, i < m → RgS w (idn ids i) (i : Int) n k (Gs R k n (g i) i) ((min (o i) (g i) : Nat) : Int) (decide (g i < o i)) (decide (o i < g i))
  ap : ∀ i j, i < m → j < m → i ≠ j → RgApart (idn ids i) (idn ids j)
  inn : ∀ i, i < m → RgIn (idn ids i) base top
  tw : top ≤ w.heap.size
  bt : base ≤ top
theorem Rings.below {base top : Nat} {w w' : World} {ids : List RgId} {m n k : Nat} {R : Nat → List (Int × Int)} {o g : Nat → Nat} (h : Rings base top w ids m n k R o g) (hb : Below w.heap.size w w') : Rings base top w' ids m n k R o g :=
  ⟨h.len, fun i hi => (h.st i hi).below hb, h.ap, h.inn, Nat.le_trans h.tw hb.size, h.bt⟩
theorem Rings.none' (base : Nat) (w : World) (n k : Nat) (R : Nat → List (Int × Int)) (hb : base ≤ w.heap.size) : Rings base base w [] 0 n k R (fun _ => 0) (fun _ => 0) :=
  ⟨rfl, fun i hi => absurd hi (Nat.not_lt_zero _), fun i j hi => absurd hi (Nat.not_lt_zero _), fun i hi => absurd hi (Nat.not_lt_zero _), hb, Nat.le_refl _⟩
/-- One ring more. -/
theorem Rings.more {base top : Nat} {w w' : World} {ids : List RgId} {m n k : Nat} {R : Nat → List (Int × Int)} (h : Rings base top w ids m n k R (fun _ => 0) (fun _ => 0)) (hb : Below w.heap.size w w') {id : RgId} (hs : RgS w' id (m : Int) n k (R m) 0 false false) (hid : id.base = w.heap.size) :
    Rings base w'.heap.size w' (ids ++ [id]) (m + 1) n k R (fun _ => 0) (fun _ => 0) := by
  have hin := hs.in'
  rw [hid] at hin
  refine ⟨by simp [h.len], fun i hi => ?_, fun i j hi hj hne => ?_, fun i hi => ?_, Nat.le_refl _, Nat.le_trans h.bt (Nat.le_trans h.tw hb.size)⟩
  · rcases Nat.lt_or_ge i m with h1 | h1
    · rw [idn_old (by rw [h.len]; exact h1)]
      exact (h.st i h1).below hb
    · obtain rfl : i = m := by omega
      have e : idn (ids ++ [id]) i = id := by rw [← h.len]; exact idn_new
      rw [e]
      exact hs
  · have ap : ∀ i, i < m → RgApart (idn ids i) id ∧ RgApart id (idn ids i) := fun i hi => RgIn.apart ((h.inn i hi).mono (Nat.le_refl _) h.tw) hin
    have e : idn (ids ++ [id]) m = id := by rw [← h.len]; exact idn_new
    rcases Nat.lt_or_ge i m with h1 | h1
    · rw [idn_old (by rw [h.len]; exact h1)]
      rcases Nat.lt_or_ge j m with h2 | h2
      · rw [idn_old (by rw [h.len]; exact h2)]
        exact h.ap i j h1 h2 hne
      · obtain rfl : j = m := by omega
        rw [e]
        exact (ap i h1).1
    · obtain rfl : i = m := by omega
      rw [e, idn_old (by rw [h.len]; omega)]
      exact (ap j (by omega)).2
  · rcases Nat.lt_or_ge i m with h1 | h1
    · rw [idn_old (by rw [h.len]; exact h1)]
      exact (h.inn i h1).mono (Nat.le_refl _) (Nat.le_trans h.tw hb.size)
    · obtain rfl : i = m := by omega
      have e : idn (ids ++ [id]) i = id := by rw [← h.len]; exact idn_new
      rw [e]
      exact hin.mono (Nat.le_trans h.bt h.tw) (Nat.le_refl _)
/-- One ring has turned. -/
theorem Rings.turn {base top : Nat} {w w' : World} {ids : List RgId} {m n k : Nat} {R : Nat → List (Int × Int)} {o g o' g' : Nat → Nat} (h : Rings base top w ids m n k R o g) {i : Nat} (hi : i < m) (hf : RgF w w' (idn ids i))
    (hs : RgS w' (idn ids i) (i : Int) n k (Gs R k n (g' i) i) ((min (o' i) (g' i) : Nat) : Int) (decide (g' i < o' i)) (decide (o' i < g' i))) (ho : ∀ j, j ≠ i → o' j = o j) (hg : ∀ j, j ≠ i → g' j = g j) : Rings base top w' ids m n k R o' g' := by
  refine ⟨h.len, fun j hj => ?_, h.ap, h.inn, Nat.le_trans h.tw hf.size, h.bt⟩
  by_cases e : j = i
  · subst e; exact hs
  · rw [ho j e, hg j e]
    exact (h.st j hj).other (h.st i hi) (h.ap j i hj hi e) hf
/-- Rows of other types stay. -/
theorem RgF.rowT {w w' : World} {id : RgId} {place : Int} {n k : Nat} {l : List (Int × Int)} {round : Int} {told taken : Bool} (h : RgF w w' id) (hs : RgS w id place n k l round told taken) {b : Nat} {e : TypeId} {sz m : Nat} {v : Value} {xs : List Value} (ho : w.ownsRow b e sz v m xs) (h1 : e ≠ 54) (h2 : e ≠ 33) : w'.ownsRow b e sz v m xs :=
  own_move ho fun j hj => h.block j (own_lt ho j hj) (by obtain ⟨cs, hc⟩ := own_typed ho j hj; exact blk_ne hc hs.obj h1) (fun ad ea => by
    obtain ⟨cs, hc⟩ := own_typed ho j hj
    obtain ⟨_, _, cs', hc'⟩ := ownA hs.row ea
    exact blk_ne hc hc' h2)
theorem RgF.blockT {w w' : World} {id : RgId} {place : Int} {n k : Nat} {l : List (Int × Int)} {round : Int} {told taken : Bool} (h : RgF w w' id) (hs : RgS w id place n k l round told taken) {b : Nat} {e : TypeId} {cs : Array Value} (ho : w.heap[b]? = some (.cells cs e (0, 0))) (h1 : e ≠ 54) (h2 : e ≠ 33) : w'.heap[b]? = some (.cells cs e (0, 0)) :=
  (h.block b (lt_of_heap ho) (blk_ne ho hs.obj h1) (fun ad ea => by
    obtain ⟨_, _, cs', hc'⟩ := ownA hs.row ea
    exact blk_ne ho hc' h2)).trans ho
/-- A part in memory. -/
def Part (w : World) (b : Nat) (R : Nat → List (Int × Int)) (k n t p : Nat) (A : Option Addr) (c : Nat) : Prop := w.ownsRow b 33 2 (.slice A (Vs R k n t p).length c) (Vs R k n t p).length (wides (Vs R k n t p))
abbrev ptA (R : Nat → List (Int × Int)) (k n t p : Nat) (A : Option Addr) (c : Nat) : Array Value := #[.int .i64 (t : Int), .int .i64 (csn n p t : Int), .slice A (Vs R k n t p).length c]
theorem Vs_len {R : Nat → List (Int × Int)} {k n t p : Nat} (h : Rok R k n) (hp : p < n) : (Vs R k n t p).length = cstart k n (csn n p t + 1) - cstart k n (csn n p t) :=
  cutL_len _ _ _ (by rw [Gs_len h t p hp]; exact cstart_le k n _ (by have := csn_lt (n := n) (p := p) (g := t) h.1; omega))
theorem Vs_le {R : Nat → List (Int × Int)} {k n t p : Nat} (h : Rok R k n) (hp : p < n) : (Vs R k n t p).length ≤ k := by
  rw [Vs_len h hp]
  have := cstart_le k n (csn n p t + 1) (by have := csn_lt (n := n) (p := p) (g := t) h.1; omega)
  omega
def Outs (base top : Nat) (w : World) (ids : List RgId) (n k : Nat) (R : Nat → List (Int × Int)) (o g : Nat → Nat) (i t : Nat) (e : Ending) (w' : World) : Prop :=
  ∃ A c, e = .returned (.tuple #[.agg (ptA R k n t i A c), .bool true]) ∧ Part w' w.heap.size R k n t i A c ∧ Rings base top w' ids n n k R (upd o i (t + 1)) g ∧ RgF w w' (idn ids i)
theorem out_step {base top : Nat} {w : World} {ids : List RgId} {n k : Nat} {R : Nat → List (Int × Int)} {o g : Nat → Nat} (h : Rings base top w ids n n k R o g) (hR : Rok R k n) {i : Nat} (hi : i < n) (t : Nat) (ht : o i = t) (h1 : t ≤ g i) (h2 : g i ≤ t + 1) (h3 : t < 2 * n - 2) :
    Calls Try.prog 9 #[.pointer (some ⟨(idn ids i).r, 0, none⟩)] w (Outs base top w ids n k R o g i t) := by
  subst ht
  have hs := h.st i hi
  have hn := hR.1
  rw [decide_eq_false (by omega : ¬ g i < o i), Nat.min_eq_left h1] at hs
  refine (out_ok w (idn ids i) i n k _ _ _ hs (by omega) (csn n i (o i)) (csn_eq hn)).mono ?_
  rintro e w' ⟨A, c, h4, h5, h6, h7⟩
  have hv : cutL (Gs R k n (g i) i) (cstart k n (csn n i (o i))) (cstart k n (csn n i (o i) + 1)) = Vs R k n (o i) i := by
    rcases (by omega : g i = o i ∨ g i = o i + 1) with e | e
    · rw [e]; rfl
    · rw [e]; exact Vs_next hR hi (by omega)
  rw [hv, ← Vs_len hR hi] at h5
  rw [← Vs_len hR hi] at h4
  refine ⟨A, c, h4, h5, h.turn hi h7 ?_ (fun j hj => upd_other _ _ hj) (fun j hj => rfl), h7⟩
  rw [upd_same]
  rcases (by omega : g i = o i ∨ g i = o i + 1) with e | e
  · rw [decide_eq_false (by omega : ¬ o i < g i)] at h6
    rw [Nat.min_eq_right (by omega), decide_eq_true (by omega : g i < o i + 1), decide_eq_false (by omega : ¬ o i + 1 < g i)]
    simp only [nxR, nxT, nxG, Bool.and_false, Bool.false_eq_true, if_false] at h6
    rw [← e] at h6
    rw [e] at h6 ⊢
    exact h6
  · rw [decide_eq_true (by omega : o i < g i)] at h6
    rw [Nat.min_eq_left (by omega), decide_eq_false (by omega : ¬ g i < o i + 1), decide_eq_false (by omega : ¬ o i + 1 < g i)]
    simp only [nxR, nxT, nxG, Bool.and_self, if_true] at h6
    exact h6
theorem get_step {base top : Nat} {w : World} {ids : List RgId} {n k : Nat} {R : Nat → List (Int × Int)} {o g : Nat → Nat} (h : Rings base top w ids n n k R o g) (hR : Rok R k n) {i : Nat} (hi : i < n) (t : Nat) (ht : g i = t) (h1 : t ≤ o i) (h2 : o i ≤ t + 1) (h3 : t < 2 * n - 2) (p : Nat) (hpp : pre n i = p) {A : Option Addr} {c b : Nat} (hp : Part w b R k n t p A c) (hb : top ≤ b) :
    Calls Try.prog 10 #[.pointer (some ⟨(idn ids i).r, 0, none⟩), .agg (ptA R k n t p A c)] w fun e w' => e = .returned (.int .i64 0) ∧ Rings base top w' ids n n k R o (upd g i (t + 1)) ∧ RgF w w' (idn ids i) := by
  subst ht hpp
  have hs := h.st i hi
  have hn := hR.1
  have hpl := pre_lt (n := n) (i := i) (by omega)
  rw [decide_eq_false (by omega : ¬ o i < g i), Nat.min_eq_right h1] at hs
  have hk : k ≤ 400 := hs.ok.2.2.2.2.1
  have hvl := Vs_le (t := g i) hR hpl
  have hvn := Vs_len (t := g i) hR hpl
  refine (get_ok w (idn ids i) i n k _ _ _ hs (csn n (pre n i) (g i)) A (Vs R k n (g i) (pre n i)).length c (by omega) (csn n (pre n i) (g i)) (csn_pre hn hR.2.1 hi) (by omega) (Vs R k n (g i) (pre n i)) (part_read hp (by omega)) (cutL_wfP (Gs_wf hR _ _ hpl) _ _) (part_ap (h.inn i hi) hb hp) ⟨rfl, hvn⟩ (addB n (g i)) rfl).mono ?_
  rintro e w' ⟨h4, h5, h6⟩
  refine ⟨h4, h.turn hi h6 ?_ (fun j hj => rfl) (fun j hj => upd_other _ _ hj), h6⟩
  rw [upd_same]
  have he : gotL (Gs R k n (g i) i) (cstart k n (csn n (pre n i) (g i))) (addB n (g i)) (Vs R k n (g i) (pre n i)) (Vs R k n (g i) (pre n i)).length = Gs R k n (g i + 1) i := by rw [hvn]; rfl
  rw [he] at h5
  rcases (by omega : o i = g i ∨ o i = g i + 1) with e | e
  · rw [decide_eq_false (by omega : ¬ g i < o i)] at h5
    rw [Nat.min_eq_left (by omega), decide_eq_false (by omega : ¬ g i + 1 < o i), decide_eq_true (by omega : o i < g i + 1)]
    simp only [nxR, nxT, nxG, Bool.false_and, Bool.false_eq_true, if_false] at h5
    rw [e]
    exact h5
  · rw [decide_eq_true (by omega : g i < o i)] at h5
    rw [Nat.min_eq_right (by omega), decide_eq_false (by omega : ¬ g i + 1 < o i), decide_eq_false (by omega : ¬ o i < g i + 1)]
    simp only [nxR, nxT, nxG, Bool.and_self, if_true] at h5
    exact h5
end Go.Proofs.Ytjidjbjbngbhpaa
