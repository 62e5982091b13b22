/- What is on its way from place to place: a row of rows of parts. -/
import Derived.Test.YtjidjbjbngbhpaaRingQa
import Derived.Test.YtjidjbjbngbhpaaRingQb
import Derived.Deep.RegionLaw
import Derived.Shelf.RegionOpenPlain
set_option linter.unusedVariables false
set_option linter.unusedSimpArgs false
namespace Go.Proofs.Ytjidjbjbngbhpaa
open Go.RowKit Go.Proofs.YtjidjbjbngbhpaaW.PrintWords Go.Proofs.Ytjidjbjbngbhpaa.K

theorem infoPt : ∃ i, Try.prog.info? 37 = some i ∧ i.zero = some (.agg #[.int .i64 0, .int .i64 0, .slice none 0 0]) ∧ i.size = 3 ∧ i.bytes = 40 := by
  have h : (Try.prog.info? 37).map (fun i => (i.zero, i.size, i.bytes)) = some (some (.agg #[.int .i64 0, .int .i64 0, .slice none 0 0]), 3, 40) := by kernel_rfl
  obtain ⟨i, hi, h⟩ := Option.map_eq_some_iff.1 h
  simp only [Prod.mk.injEq] at h
  exact ⟨i, hi, h.1, h.2.1, h.2.2⟩
/-- append(v, x) at a step of a region that draws. -/
theorem step_qapp {ops : Array Oper} {o : Oper} {a : Act} {K : Act → World → Prop} {Q : Exit → Act → World → Prop} {E : Prop} {W : World} (base : Nat) (hgd : o.guard = none) (s x : Operand)
    (ho : o.op = .call { callee := .builtin .append, args := #[s, x], argTypes := #[40, 40] }) (v : Value) (xs : List Value) (n : Nat) (p q : Int) (A : Option Addr) (m c : Nat) (hs : a.eval s = v) (hx : a.eval x = .slice (some ⟨W.heap.size, 0, none⟩) 1 1)
    (HO : QRow W base 37 v n xs) (hb : base ≤ W.heap.size) (hn : n ≤ 100000)
    (h : ∀ v1 w1, QRow w1 base 37 v1 (n + 1) (xs ++ [.int .i64 p, .int .i64 q, .slice A m c]) → W.grownBy w1 v.ownBlock → (v1.ownBlock = v.ownBlock ∨ ∃ b, v1.ownBlock = some b ∧ W.heap.size ≤ b) → K (a.put o.dst v1) w1) :
    if Region.wanted o (yielded ops a.tmps) = true then Oper.wp Try.prog o a (W.alloc (.cells #[.int .i64 p, .int .i64 q, .slice A m c] 37)) K Q else E := by
  have hw : Region.wanted o (yielded ops a.tmps) = true := by simp [Region.wanted, hgd]
  rw [if_pos hw]
  obtain ⟨i, hi, hz, hsz, hby⟩ := infoPt
  have hba := alloc_below W (.cells #[.int .i64 p, .int .i64 q, .slice A m c] 37)
  obtain ⟨v1, w1, hr, h1, h2, h3⟩ := run_qapp (P := Try.prog) 40 o.type 37 i _ Try.underlying40 hi hz hsz (by omega) rfl (HO.below hba) (Nat.le_trans hb hba.size) hn ⟨W.heap.size, 0, none⟩ 1 (.int .i64 p) (.int .i64 q) (.slice A m c)
    (World.news_of_block (cs := #[.int .i64 p, .int .i64 q, .slice A m c]) (t := 37) (fr := (0, 0)) (heap_alloc_new W _)) (by intro u hu; simp only [List.mem_cons, List.not_mem_nil, or_false] at hu; rcases hu with rfl | rfl | rfl <;> rfl)
  unfold Oper.wp execOp
  simp only [ho, resolve, invoke, builtin, Sem.run_bind, Sem.run_pure, Result.andThen_ok, List.map_toArray, List.map_cons, List.map_nil, hs, hx, hr]
  refine h v1 w1 h1 (World.grownBy.trans (World.grownBy_alloc W _ _) h2) ?_
  rcases h3 with h3 | h3
  · exact .inl h3
  · exact .inr ⟨_, h3, by simp⟩
theorem pre_fwd {n q : Nat} (h : q < n) : pre n ((q + 1) % n) = q := by
  unfold pre
  rcases Nat.lt_or_ge (q + 1) n with h1 | h1
  · rw [Nat.mod_eq_of_lt h1, show q + 1 + n - 1 = q + n by omega, Nat.add_mod_right, Nat.mod_eq_of_lt h]
  · obtain rfl : n = q + 1 := by omega
    rw [Nat.mod_self, show 0 + (q + 1) - 1 = q by omega, Nat.mod_eq_of_lt h]
theorem pre_back {n i q : Nat} (hi : i < n) (h : pre n i = q) : i = (q + 1) % n := by
  unfold pre at h
  rcases Nat.eq_zero_or_pos i with h1 | h1
  · subst h1
    rw [show 0 + n - 1 = n - 1 by omega, Nat.mod_eq_of_lt (by omega)] at h
    rw [← h, show n - 1 + 1 = n by omega, Nat.mod_self]
  · rw [show i + n - 1 = i - 1 + n by omega, Nat.add_mod_right, Nat.mod_eq_of_lt (by omega)] at h
    rw [← h, show i - 1 + 1 = i by omega, Nat.mod_eq_of_lt hi]
/-! The row of rows -/
def valRow (n : Nat) (V : Nat → Value) : List Value := (List.range n).map V
theorem valRow_at {n : Nat} {V : Nat → Value} {i : Nat} (h : i < n) : (valRow n V)[i]? = some (V i) := by simp [valRow, h]
def updV (V : Nat → Value) (i : Nat) (v : Value) : Nat → Value := fun j => if j = i then v else V j
theorem valRow_set {n : Nat} {V : Nat → Value} {i : Nat} (v : Value) (h : i < n) : (valRow n V).set i v = valRow n (updV V i v) := by
  apply List.ext_getElem?
  intro j
  by_cases hj : j < n
  · by_cases e : j = i
    · subst e
      rw [List.getElem?_set_self (by simp [valRow, h]), valRow_at hj]
      simp [updV]
    · rw [List.getElem?_set_ne (fun h => e h.symm), valRow_at hj, valRow_at hj]
      simp [updV, e]
  · rw [List.getElem?_eq_none (by simp [valRow]; omega), List.getElem?_eq_none (by simp [valRow]; omega)]
theorem own_put1 {w : World} {base g n c i : Nat} {e : TypeId} {V : Nat → Value} (h : w.ownsRow base e 1 (.slice (some ⟨g, 0, none⟩) n c) n (valRow n V)) (v : Value) (hi : i < n) :
    (w.setCell ⟨g, i, none⟩ v).ownsRow base e 1 (.slice (some ⟨g, 0, none⟩) n c) n (valRow n (updV V i v)) := by
  refine ⟨by simp [valRow], ?_⟩
  rcases h.2 with ⟨h1, _⟩ | ⟨g', cap, cur, h1, hb, hh, hr1, hr2, hr3, hr4⟩
  · cases h1
  · injection h1 with h3 h4 h5
    injection h3 with h3
    injection h3 with h3
    subst h3 h5
    refine .inr ⟨g, c, cur.setIfInBounds i v, rfl, hb, heap_set _ hh, hr1, hr2, by simpa using hr3, ?_⟩
    rw [← valRow_set v hi, ← hr4]
    simp only [Array.toList_setIfInBounds, List.take_set]
structure WayP (w : World) (base top : Nat) (R : Nat → List (Int × Int)) (k n : Nat) (o g : Nat → Nat) (p : Nat) (v : Value) (L : List Pt) : Prop where
  q : QRow w base 37 v L.length (ptCells R k n L)
  len : L.length = o (pre n p) - g p
  pt : ∀ j, j < L.length → (L.getD j dPt).t = g p + j ∧ (L.getD j dPt).p = pre n p ∧ Part w top R k n (g p + j) (pre n p) (L.getD j dPt).A (L.getD j dPt).c
structure Ways (w : World) (base top : Nat) (R : Nat → List (Int × Int)) (k n : Nat) (o g : Nat → Nat) (gy : Nat) (V : Nat → Value) (LL : Nat → List Pt) : Prop where
  row : w.ownsRow base 40 1 (.slice (some ⟨gy, 0, none⟩) n n) n (valRow n V)
  each : ∀ p, p < n → WayP w base top R k n o g p (V p) (LL p)
  ap : ∀ p q, p < n → q < n → p ≠ q → (V p).ownBlock = none ∨ (V p).ownBlock ≠ (V q).ownBlock
variable {w w' : World} {base top : Nat} {R : Nat → List (Int × Int)} {k n : Nat} {o g : Nat → Nat} {gy : Nat} {V : Nat → Value} {LL : Nat → List Pt}
theorem WayP.below {p : Nat} {v : Value} {L : List Pt} (h : WayP w base top R k n o g p v L) (hb : Below w.heap.size w w') : WayP w' base top R k n o g p v L :=
  ⟨h.q.below hb, h.len, fun j hj => ⟨(h.pt j hj).1, (h.pt j hj).2.1, pw_own_below (h.pt j hj).2.2 hb⟩⟩
theorem Ways.below (h : Ways w base top R k n o g gy V LL) (hb : Below w.heap.size w w') : Ways w' base top R k n o g gy V LL :=
  ⟨pw_own_below h.row hb, fun p hp => (h.each p hp).below hb, h.ap⟩
theorem Ways.turned (h : Ways w base top R k n o g gy V LL) {id : RgId} {place : Int} {n' k' : Nat} {l : List (Int × Int)} {round : Int} {told taken : Bool} {lo : Nat} (hs : RgS w id place n' k' l round told taken) (hi : RgIn id lo top) (hf : RgF w w' id) : Ways w' base top R k n o g gy V LL :=
  ⟨hf.rowT hs h.row (by decide) (by decide), fun p hp => ⟨(h.each p hp).q.move fun b hb => by
    obtain ⟨_, h2, cur, h3⟩ := (h.each p hp).q.block hb
    rw [hf.blockT hs h3 (by decide) (by decide), h3], (h.each p hp).len, fun j hj => ⟨((h.each p hp).pt j hj).1, ((h.each p hp).pt j hj).2.1, hf.part hi (Nat.le_refl _) ((h.each p hp).pt j hj).2.2⟩⟩, h.ap⟩
theorem Ways.cell (h : Ways w base top R k n o g gy V LL) {p : Nat} (hp : p < n) : w.cell? ⟨gy, p, none⟩ = some (V p) ∧ w.frozen? ⟨gy, p, none⟩ = false := by
  obtain ⟨cs, hc⟩ := own_typed h.row gy rfl
  have := World.ownsRow.cells h.row (g := gy) rfl p _ (valRow_at hp)
  rw [Go.Proofs.YtjidjbjbngbhpaaW.PrintWords.add_plain] at this
  exact ⟨this, frozr hc p⟩
/-- Sent: one part more is on its way to the place behind. -/
theorem Ways.send (h : Ways w base top R k n o g gy V LL) {p p1 : Nat} (hp : p < n) (hp1 : p1 < n) (hpre : pre n p1 = p) (hle : g p1 ≤ o p) {A : Option Addr} {c : Nat} (hpart : Part w top R k n (o p) p A c) {v1 : Value} {w1 : World}
    (hq : QRow w1 base 37 v1 ((LL p1).length + 1) (ptCells R k n (LL p1) ++ [.int .i64 (o p : Int), .int .i64 (csn n p (o p) : Int), .slice A (Vs R k n (o p) p).length c])) (hg : w.grownBy w1 (V p1).ownBlock) (hv : v1.ownBlock = (V p1).ownBlock ∨ ∃ b, v1.ownBlock = some b ∧ w.heap.size ≤ b) :
    Ways (w1.setCell ⟨gy, p1, none⟩ v1) base top R k n (upd o p (o p + 1)) g gy (updV V p1 v1) (fun q => if q = p1 then LL p1 ++ [⟨o p, p, A, c⟩] else LL q) := by
  obtain ⟨csy, hcy⟩ := own_typed h.row gy rfl
  have hgy : some gy ≠ (V p1).ownBlock := fun e => by
    obtain ⟨_, _, cur, h3⟩ := (h.each p1 hp1).q.block e.symm
    rw [hcy] at h3
    injection h3 with h3
    injection h3 with _ h3
    all_goals exact absurd h3 (by decide)
  have hrow := own_other h.row hg (.inr hgy)
  obtain ⟨csy1, hcy1⟩ := own_typed hrow gy rfl
  have partk : ∀ {m c'} {A' : Option Addr} {xs : List Value}, w.ownsRow top 33 2 (.slice A' m c') m xs → (w1.setCell ⟨gy, p1, none⟩ v1).ownsRow top 33 2 (.slice A' m c') m xs := fun {m c' A' xs} ho => by
    refine own_setCell (own_other ho hg ?_) (own_ne (own_other ho hg ?_) hcy1 (by decide)) _
    all_goals skip
    all_goals
      cases hA : (Value.slice A' m c').ownBlock with
      | none => exact .inl rfl
      | some b =>
        refine .inr fun e => ?_
        obtain ⟨cs1, h1⟩ := own_typed ho b hA
        obtain ⟨_, _, cur, h3⟩ := (h.each p1 hp1).q.block e.symm
        exact blk_ne h1 h3 (by decide) rfl
  have qk : ∀ {q : Nat}, q < n → q ≠ p1 → QRow (w1.setCell ⟨gy, p1, none⟩ v1) base 37 (V q) (LL q).length (ptCells R k n (LL q)) := fun {q} hq' hne => by
    refine (h.each q hq').q.move fun b hb => ?_
    obtain ⟨_, h2, cur, h3⟩ := (h.each q hq').q.block hb
    have e1 : w1.heap[b]? = w.heap[b]? := hg.block b h2 (fun e => by
      rcases h.ap q p1 hq' hp1 hne with h4 | h4
      · rw [h4] at hb; cases hb
      · exact h4 (by rw [hb, e]))
    rw [Below.heap_setCell _ _ _ _ (fun e => by
      have e : b = gy := e
      subst e
      rw [hcy] at h3
      injection h3 with h3
      injection h3 with _ h3
      all_goals exact absurd h3 (by decide)), e1]
  have q1 : QRow (w1.setCell ⟨gy, p1, none⟩ v1) base 37 v1 ((LL p1).length + 1) (ptCells R k n (LL p1) ++ [.int .i64 (o p : Int), .int .i64 (csn n p (o p) : Int), .slice A (Vs R k n (o p) p).length c]) :=
    hq.move fun b hb => by
      obtain ⟨_, h2, cur, h3⟩ := hq.block hb
      exact Below.heap_setCell _ _ _ _ (fun e => by
        have e : b = gy := e
        subst e
        rw [hcy1] at h3
        injection h3 with h3
        injection h3 with _ h3
        all_goals exact absurd h3 (by decide))
  have hlen := (h.each p1 hp1).len
  rw [hpre] at hlen
  refine ⟨own_put1 hrow v1 hp1, fun q hq' => ?_, fun a b ha hb hne => ?_⟩
  · by_cases e : q = p1
    · subst e
      simp only [updV, if_true]
      refine ⟨?_, ?_, fun j hj => ?_⟩
      · rw [List.length_append, ptCells_snoc]; exact q1
      · rw [List.length_append, hpre, upd_same, hlen]; simp; omega
      · rw [List.length_append] at hj
        simp only [List.length_cons, List.length_nil] at hj
        rcases Nat.lt_or_ge j (LL q).length with h5 | h5
        · have e : (LL q ++ [(⟨o p, p, A, c⟩ : Pt)]).getD j dPt = (LL q).getD j dPt := by rw [List.getD_eq_getElem?_getD, List.getElem?_append_left h5, ← List.getD_eq_getElem?_getD]
          rw [e]
          obtain ⟨a1, a2, a3⟩ := (h.each q hp1).pt j h5
          exact ⟨a1, a2, partk a3⟩
        · obtain rfl : j = (LL q).length := by omega
          have e : (LL q ++ [(⟨o p, p, A, c⟩ : Pt)]).getD (LL q).length dPt = ⟨o p, p, A, c⟩ := by rw [List.getD_eq_getElem?_getD, List.getElem?_append_right (Nat.le_refl _)]; simp
          rw [e, hpre, show g q + (LL q).length = o p by omega]
          exact ⟨rfl, rfl, partk hpart⟩
    · simp only [updV, if_neg e]
      have hpq : pre n q ≠ p := fun e2 => e (by rw [pre_back hq' e2, pre_back hp1 hpre])
      refine ⟨qk hq' e, ?_, fun j hj => ?_⟩
      · rw [upd_other _ _ hpq]; exact (h.each q hq').len
      · obtain ⟨a1, a2, a3⟩ := (h.each q hq').pt j hj
        exact ⟨a1, a2, partk a3⟩
  · have old : ∀ {q : Nat}, q < n → q ≠ p1 → (V q).ownBlock = none ∨ (V q).ownBlock ≠ v1.ownBlock := fun {q} hq' hne => by
      rcases hv with h4 | ⟨b', h4, h5⟩
      · rw [h4]; exact h.ap q p1 hq' hp1 hne
      · cases hb : (V q).ownBlock with
        | none => exact .inl rfl
        | some b2 =>
          refine .inr fun e => ?_
          rw [h4] at e
          injection e with e
          have := ((h.each q hq').q.block hb).2.1
          omega
    by_cases e1 : a = p1
    · by_cases e2 : b = p1
      · exact absurd (e1.trans e2.symm) hne
      · simp only [updV, if_pos e1, if_neg e2]
        rcases old hb e2 with h6 | h6
        · cases hv1 : v1.ownBlock with
          | none => exact .inl rfl
          | some b3 => exact .inr fun e => by rw [h6] at e; cases e
        · exact .inr fun e => h6 e.symm
    · by_cases e2 : b = p1
      · simp only [updV, if_neg e1, if_pos e2]
        exact old ha e1
      · simp only [updV, if_neg e1, if_neg e2]
        exact h.ap a b ha hb hne
/-- Got: the head of what is on its way is gone. -/
theorem Ways.pop (h : Ways w base top R k n o g gy V LL) {p : Nat} (hp : p < n) {v1 : Value} {x : Pt} {L : List Pt} (hL : LL p = x :: L) (hq : QRow w base 37 v1 L.length (ptCells R k n L)) (hv : v1.ownBlock = (V p).ownBlock) :
    Ways (w.setCell ⟨gy, p, none⟩ v1) base top R k n o (upd g p (g p + 1)) gy (updV V p v1) (fun q => if q = p then L else LL q) := by
  obtain ⟨csy, hcy⟩ := own_typed h.row gy rfl
  have far : ∀ {q : Nat} {v : Value} {m : Nat} {xs : List Value}, QRow w base 37 v m xs → QRow (w.setCell ⟨gy, p, none⟩ v1) base 37 v m xs := fun {q v m xs} hq' => hq'.move fun b hb => by
    obtain ⟨_, h2, cur, h3⟩ := hq'.block hb
    exact Below.heap_setCell _ _ _ _ (fun e => blk_ne h3 hcy (by decide) e)
  have hlen := (h.each p hp).len
  rw [hL] at hlen
  simp only [List.length_cons] at hlen
  refine ⟨own_put1 h.row v1 hp, fun q hq' => ?_, fun a b ha hb hne => ?_⟩
  · by_cases e : q = p
    · subst e
      simp only [updV, if_true]
      refine ⟨far (q := 0) hq, by rw [upd_same]; omega, fun j hj => ?_⟩
      have h5 := (h.each q hp).pt (j + 1) (by rw [hL]; simp; omega)
      rw [hL] at h5
      simp only [List.getD_cons_succ] at h5
      rw [upd_same, show g q + 1 + j = g q + (j + 1) by omega]
      exact ⟨h5.1, h5.2.1, own_setCell h5.2.2 (own_ne h5.2.2 hcy (by decide)) _⟩
    · simp only [updV, if_neg e]
      refine ⟨far (q := 0) (h.each q hq').q, by rw [upd_other _ _ e]; exact (h.each q hq').len, fun j hj => ?_⟩
      obtain ⟨a1, a2, a3⟩ := (h.each q hq').pt j hj
      rw [upd_other _ _ e]
      exact ⟨a1, a2, own_setCell a3 (own_ne a3 hcy (by decide)) _⟩
  · have key : ∀ q, q < n → (updV V p v1 q).ownBlock = (V q).ownBlock := fun q _ => by
      unfold updV
      split
      · rename_i e; rw [e]; exact hv
      · rfl
    rw [key a ha, key b hb]
    exact h.ap a b ha hb hne
theorem Rings.setFar {m : Nat} {ids : List RgId} (h : Rings base top w ids m n k R o g) {X : Nat} {cs : Array Value} {t : TypeId} (hX : w.heap[X]? = some (.cells cs t (0, 0))) (h1 : 54 ≠ t) (h2 : 33 ≠ t) (h3 : 63 ≠ t) (j : Nat) (v : Value) : Rings base top (w.setCell ⟨X, j, none⟩ v) ids m n k R o g :=
  ⟨h.len, fun i hi => (h.st i hi).far hX h1 h2 h3 j v, h.ap, h.inn, by simp [World.setCell]; exact h.tw, h.bt⟩
theorem Rings.grownQ {m : Nat} {ids : List RgId} (h : Rings base top w ids m n k R o g) {b j : Nat} {v : Value} {xs : List Value} (hq : QRow w b 37 v j xs) (hg : w.grownBy w' v.ownBlock) : Rings base top w' ids m n k R o g := by
  have key : ∀ {q : Nat} {cs : Array Value} {t : TypeId}, w.heap[q]? = some (.cells cs t (0, 0)) → t ≠ 37 → w'.heap[q]? = w.heap[q]? := fun {q cs t} hc hne => hg.block q (lt_of_heap hc) (fun e => by
    obtain ⟨_, _, cur, h3⟩ := hq.block e.symm
    exact blk_ne hc h3 hne rfl)
  refine ⟨h.len, fun i hi => ?_, h.ap, h.inn, Nat.le_trans h.tw hg.size, h.bt⟩
  have hs := h.st i hi
  refine ⟨(key hs.obj (by decide)).trans hs.obj, own_move hs.row (fun q hq' => ?_), own_move hs.chs (fun q hq' => ?_), hs.lo, hs.ok⟩
  · obtain ⟨cs, hc⟩ := own_typed hs.row q hq'
    exact key hc (by decide)
  · obtain ⟨cs, hc⟩ := own_typed hs.chs q hq'
    exact key hc (by decide)
theorem own_grownQ {b j : Nat} {v : Value} {xs : List Value} (hq : QRow w b 37 v j xs) (hg : w.grownBy w' v.ownBlock) {b' sz m : Nat} {e : TypeId} {u : Value} {ys : List Value} (ho : w.ownsRow b' e sz u m ys) (he : e ≠ 37) : w'.ownsRow b' e sz u m ys :=
  own_move ho fun q hq' => by
    obtain ⟨cs, hc⟩ := own_typed ho q hq'
    exact hg.block q (lt_of_heap hc) (fun e' => by
      obtain ⟨_, _, cur, h3⟩ := hq.block e'.symm
      exact blk_ne hc h3 he rfl)
end Go.Proofs.Ytjidjbjbngbhpaa
