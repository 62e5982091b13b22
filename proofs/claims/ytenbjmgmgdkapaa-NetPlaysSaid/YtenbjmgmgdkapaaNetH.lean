/- Walks of package net: Spoil. -/
import Derived.Test.YtenbjmgmgdkapaaNetG
set_option linter.unusedVariables false
set_option linter.unusedSimpArgs false
namespace Go.Proofs.Ytenbjmgmgdkapaa
open Go.RowKit Go.Proofs.YtenbjmgmgdkapaaW.PrintWords Go.Proofs.Ytenbjmgmgdkapaa.K

/-- A packet with a byte changed. -/
def Pk.spoil (p : Pk) (i : Nat) (x : Int) : Pk := { p with b := p.b.set i x, sp := true }
theorem spoil_val (p : Pk) (i : Nat) (x : Int) : (p.spoil i x).val = p.val := by simp [Pk.spoil, Pk.val]
theorem spoil_cells (p : Pk) (i : Nat) (x : Int) : (p.spoil i x).cells = p.cells.set 3 (.bool true) := by
  simp only [Pk.cells, spoil_val]; rfl
theorem pk_set (L : List Pk) (k : Nat) (p q : Pk) (h : L[k]? = some p) (hq : q.cells = p.cells.set 3 (.bool true)) : pkCells (L.set k q) = (pkCells L).set (k * 4 + 3) (.bool true) := by
  induction L generalizing k with
  | nil => simp at h
  | cons a l ih =>
    have ha : a.cells.length = 4 := rfl
    cases k with
    | zero =>
      simp at h; subst h
      show q.cells ++ pkCells l = (a.cells ++ pkCells l).set (0 * 4 + 3) _
      rw [List.set_append_left _ _ (by rw [ha]; decide), hq]
    | succ k =>
      show a.cells ++ pkCells (l.set k q) = (a.cells ++ pkCells l).set ((k + 1) * 4 + 3) _
      rw [List.set_append_right _ _ (by rw [ha]; omega), ha, show (k + 1) * 4 + 3 - 4 = k * 4 + 3 by omega, ih k (by simpa using h)]
theorem map_set_same (L : List Pk) (k : Nat) (p q : Pk) (h : L[k]? = some p) (hq : q.val = p.val) : (L.set k q).map Pk.val = L.map Pk.val := by
  induction L generalizing k with
  | nil => simp at h
  | cons a l ih =>
    cases k with
    | zero => simp at h; subst h; simp [hq]
    | succ k => simp only [List.set_cons_succ, List.map_cons]; rw [ih k (by simpa using h)]
/-- What Spoil leaves. -/
theorem spoil_fin {w : World} {base r mb : Nat} {room : Int} {m : Nat} {f : Nat → Nat → Bool} {L : List Pk} {k i gp cp g cl : Nat} {p : Pk} {x : Int} (hS : NetS w base r mb room m f L) (hp : L[k]? = some p) (hv : p.val = .slice (some ⟨gp, 0, none⟩) p.b.length cp)
    (hc : NetC w r room (some ⟨g, 0, none⟩) L.length cl mb) (ho : w.ownsRow base 63 4 (.slice (some ⟨g, 0, none⟩) L.length cl) L.length (pkCells L)) :
    NetS ((w.setCell ⟨gp, i, none⟩ (.int .u8 x)).setCell ⟨g, k * 4 + 3, none⟩ (.bool true)) base r mb room m f (L.set k (p.spoil i x)) ∧ ∀ W, Below base W w → Below base W ((w.setCell ⟨gp, i, none⟩ (.int .u8 x)).setCell ⟨g, k * 4 + 3, none⟩ (.bool true)) := by
  have hpm := List.mem_of_getElem? hp
  have hpo := hS.bd p hpm
  have hh : ∀ {u : World} {bs sz j : Nat} {e : TypeId} {G n c : Nat} {M : List Value}, u.ownsRow bs e sz (.slice (some ⟨G, 0, none⟩) n c) j M → bs ≤ G ∧ ∃ cs, u.heap[G]? = some (.cells cs e (0, 0)) := by
    intro u bs sz j e G n c M h
    rcases h.2 with ⟨h, _⟩ | ⟨g', _, cur, h, hb, hh, _⟩
    · cases h
    · injection h with h1; injection h1 with h1; injection h1 with h1; subst h1; exact ⟨hb, cur, hh⟩
  have hpo' := hpo; rw [hv] at hpo'
  obtain ⟨hbp, cp0, hgp⟩ := hh hpo'
  obtain ⟨hbg, cg0, hg⟩ := hh ho
  have hr := hc; unfold NetC at hr
  have ne1 : g ≠ gp := fun e => by rw [e, hgp] at hg; injection hg with hg; injection hg with _ hg; exact absurd hg (by decide)
  have ne2 : r ≠ gp := fun e => by rw [e, hgp] at hr; injection hr with hr; injection hr with _ hr; exact absurd hr (by decide)
  have ne3 : r ≠ g := fun e => by rw [e, hg] at hr; injection hr with hr; injection hr with _ hr; exact absurd hr (by decide)
  have nm : ∀ q, (∃ cs t fr, w.heap[q]? = some (Obj.cells cs t fr)) → mb ≠ q := by
    rintro q ⟨cs, t, fr, hq⟩ e
    obtain ⟨D, ⟨es, clock, e1, _⟩, _⟩ := hS.cu
    rw [e, hq] at e1; cases e1
  obtain ⟨w1, hw1⟩ : ∃ w1, w1 = w.setCell ⟨gp, i, none⟩ (.int .u8 x) := ⟨_, rfl⟩
  have hgrow1 : w.grownBy w1 (some gp) := by rw [hw1]; exact grown_set _
  have hs1 : w1.heap.size = w.heap.size := by rw [hw1]; simp [World.setCell]
  have hgrow2 : w1.grownBy (w1.setCell ⟨g, k * 4 + 3, none⟩ (.bool true)) (some g) := grown_set _
  have hs2 : (w1.setCell ⟨g, k * 4 + 3, none⟩ (.bool true)).heap.size = w1.heap.size := by simp [World.setCell]
  have ho1 : w1.ownsRow base 63 4 (.slice (some ⟨g, 0, none⟩) L.length cl) L.length (pkCells L) := own_other ho hgrow1 (.inr (by simpa [Value.ownBlock] using ne1))
  have hpo1 : w1.ownsRow base 5 1 (.slice (some ⟨gp, 0, none⟩) p.b.length cp) p.b.length (nums .u8 (p.b.set i x)) := by
    have := (own_store hpo' (i : Int) x).1
    simp only [Int.toNat_natCast] at this
    rw [hw1]; exact this
  have byte2 : ∀ {V : Value} {n : Nat} {M : List Value}, w1.ownsRow base 5 1 V n M → (w1.setCell ⟨g, k * 4 + 3, none⟩ (.bool true)).ownsRow base 5 1 V n M := fun h => own_other h hgrow2 (by
    rcases h.2 with ⟨h', _⟩ | ⟨g', _, cur, h', _, hq, _⟩
    · left; rw [h']; rfl
    · right; rw [h']; intro e
      have e2 : g' = g := by simpa [Value.ownBlock] using e
      obtain ⟨_, cs, hg1⟩ := hh ho1
      rw [e2, hg1] at hq; injection hq with hq; injection hq with _ hq; exact absurd hq (by decide))
  rw [← hw1]
  refine ⟨⟨⟨some ⟨g, 0, none⟩, cl, ?_, ?_⟩, ?_, ?_, ?_, hS.br, hS.bm, hS.ne, ?_⟩, ?_⟩
  · unfold NetC
    rw [List.length_set, hgrow2.block r (by rw [hs1]; exact lt_of_heap hr) (fun e => ne3 (by injection e)), hgrow1.block r (lt_of_heap hr) (fun e => ne2 (by injection e))]
    exact hr
  · rw [List.length_set, pk_set L k p _ hp (spoil_cells p i x)]
    exact ho1.stored (k * 4 + 3) (.bool true) |>.1
  · intro q hq
    obtain ⟨j, hj⟩ := List.mem_iff_getElem?.1 hq
    by_cases hjk : j = k
    · subst hjk
      rw [List.getElem?_set_self (List.getElem?_eq_some_iff.1 hp).1] at hj
      injection hj with hj
      subst hj
      rw [spoil_val, hv]
      have : (p.spoil i x).b.length = p.b.length := by simp [Pk.spoil]
      rw [this]
      exact byte2 hpo1
    · rw [List.getElem?_set_ne (fun e => hjk e.symm)] at hj
      refine byte2 (own_other (hS.bd q (List.mem_of_getElem? hj)) hgrow1 ?_)
      have hR : ∀ (i1 i2 : Nat) (a1 a2 : Pk), L[i1]? = some a1 → L[i2]? = some a2 → i1 < i2 → a1.val.ownBlock = none ∨ a1.val.ownBlock ≠ a2.val.ownBlock := by
        intro i1 i2 a1 a2 h1 h2 hlt
        have := List.pairwise_iff_getElem.1 hS.ap i1 i2 (List.getElem?_eq_some_iff.1 h1).1 (List.getElem?_eq_some_iff.1 h2).1 hlt
        rw [(List.getElem?_eq_some_iff.1 h1).2, (List.getElem?_eq_some_iff.1 h2).2] at this
        exact this
      have hpb : p.val.ownBlock = some gp := by rw [hv]; rfl
      rcases Nat.lt_or_gt_of_ne hjk with h | h
      · have := hR j k q p hj hp h; rw [hpb] at this; exact this
      · have := hR k j p q hp hj h; rw [hpb] at this
        rcases this with h | h
        · cases h
        · exact .inr (fun e => h e.symm)
  · have h1 : (L.map Pk.val).Pairwise (fun u v => u.ownBlock = none ∨ u.ownBlock ≠ v.ownBlock) := List.pairwise_map.2 hS.ap
    rw [← map_set_same L k p (p.spoil i x) hp (spoil_val p i x)] at h1
    exact List.pairwise_map.1 h1
  · exact (hS.cu.kept hgrow1 (fun e => nm gp ⟨_, _, _, hgp⟩ (by injection e))).kept hgrow2 (fun e => nm g ⟨_, _, _, hg⟩ (by injection e))
  · rw [hs2, hs1]; exact hS.bw
  · intro W hW
    have h1 := pw_below_grown hW (some gp) hS.bw hgrow1 (fun q e => by cases e; exact hbp)
    exact pw_below_grown h1 (some g) (by rw [hs1]; exact hS.bw) hgrow2 (fun q e => by cases e; exact hbg)
set_option maxRecDepth 100000 in
set_option maxHeartbeats 4000000 in
theorem spoil_ok (base r mb : Nat) (room : Int) (m : Nat) (f : Nat → Nat → Bool) (L : List Pk) (k i : Nat) (by_ : Int) (p : Pk) (w : World) (hS : NetS w base r mb room m f L) (hp : L[k]? = some p) (hL : L.length ≤ 100000) (hb : p.b.length ≤ 32768) (hi : i < p.b.length) (hby : by_ ≠ 0) (hsp : p.sp = false) :
    Calls Try.prog 16 #[.pointer (some ⟨r, 0, none⟩), .int .i64 (k : Int), .int .i64 (i : Int), .int .u8 by_] w fun e w' => e = .returned (.bool true) ∧ NetS w' base r mb room m f (L.set k (p.spoil i (bits .xor .u8 (p.b.getD i 0) by_))) ∧ ∀ W, Below base W w → Below base W w' := by
  obtain ⟨Al, cl, hc, ho⟩ := hS.cl
  have hk : k < L.length := (List.getElem?_eq_some_iff.1 hp).1
  obtain ⟨g, cap, e, hgb, hgl⟩ := ho.form (by omega)
  injection e with e1 e2 e3
  subst e1 e3
  have hpo := hS.bd p (List.mem_of_getElem? hp)
  obtain ⟨gp, cp, hv, hpb, hpl⟩ := hpo.form (by omega)
  have g2 := ho.cells (g := g) rfl (k * 4 + 2) p.val (by rw [pk_get L k p hp 2 (by decide)]; rfl)
  have g3 := ho.cells (g := g) rfl (k * 4 + 3) (.bool p.sp) (by rw [pk_get L k p hp 3 (by decide)]; rfl)
  rw [add_plain] at g2 g3
  rw [hv] at g2 hpo
  rw [hsp] at g3
  obtain ⟨f1, f2⟩ := own_at hpo (i : Int) (by omega) (by omega)
  simp only [Int.toNat_natCast] at f1 f2
  rw [show rd p.b (i : Int) = p.b.getD i 0 by unfold rd; rw [Int.toNat_natCast]] at f1
  have hF := spoil_fin (i := i) (x := bits .xor .u8 (p.b.getD i 0) by_) hS hp hv hc ho
  have HF := Lib.hid hF; clear hF
  have hr := hc; unfold NetC at hr
  have ne1 : g ≠ gp := fun e => by
    rcases hpo.2 with ⟨h, _⟩ | ⟨g', _, cur, h, _, hq, _⟩
    · cases h
    · injection h with h1; injection h1 with h1; injection h1 with h1; subst h1
      rcases ho.2 with ⟨h, _⟩ | ⟨g2', _, cur2, h, _, hq2, _⟩
      · cases h
      · injection h with h1; injection h1 with h1; injection h1 with h1; subst h1
        rw [e, hq] at hq2; injection hq2 with hq2; injection hq2 with _ hq2; exact absurd hq2 (by decide)
  have ne2 : r ≠ gp := fun e => by
    rcases hpo.2 with ⟨h, _⟩ | ⟨g', _, cur, h, _, hq, _⟩
    · cases h
    · injection h with h1; injection h1 with h1; injection h1 with h1; subst h1
      rw [e, hq] at hr; injection hr with hr; injection hr with _ hr; exact absurd hr (by decide)
  have fz3 : w.frozen? ⟨g, k * 4 + 3, none⟩ = false := by
    rcases ho.2 with ⟨h, _⟩ | ⟨g2', _, cur2, h, _, hq2, _⟩
    · cases h
    · injection h with h1; injection h1 with h1; injection h1 with h1; subst h1
      exact froz hq2 _
  have HH := Lib.hid (fun u => has_walk u r room (some ⟨g, 0, none⟩) L.length cl mb (k : Int))
  have HC1 := Lib.hid hc
  have hk1 : (0 : Int) ≤ (k : Int) := Int.natCast_nonneg _
  have hk2 : (k : Int) < (L.length : Int) := by omega
  have hi1 : (0 : Int) ≤ (i : Int) := Int.natCast_nonneg _
  have hi2 : (i : Int) < (p.b.length : Int) := by omega
  have hby' : (by_ == 0) = false := by simpa using hby
  obtain ⟨u0, u1, u2⟩ := net_cells hc
  have HDK := Lib.hid (show decide ((0 : Int) ≤ (k : Int) ∧ (k : Int) < (L.length : Int)) = true from decide_eq_true ⟨hk1, hk2⟩)
  have ne1' : gp ≠ g := fun e => ne1 e.symm
  have ne2' : gp ≠ r := fun e => ne2 e.symm
  clear hS hp hc ho e2 hr hpo hv hby hsp
  go_enter Try.func16, Try.ntmps16
  go_wp2_with fail
  refine (HH.out _ HC1.out hL).mono ?_
  rintro e w' ⟨rfl, rfl⟩
  rw [HDK.out]
  go_wp2_with fail
  go_ret
  have hx : p.b[i] = p.b.getD i 0 := by simp [List.getD_eq_getElem?_getD, hi]
  rw [hx]
  exact ⟨rfl, HF.out.1, HF.out.2⟩
set_option maxRecDepth 100000 in
set_option maxHeartbeats 4000000 in
theorem spoil_no (base r mb : Nat) (room : Int) (m : Nat) (f : Nat → Nat → Bool) (L : List Pk) (k i : Nat) (by_ : Int) (p : Pk) (w : World) (hS : NetS w base r mb room m f L) (hp : L[k]? = some p) (hL : L.length ≤ 100000) (hb : p.b.length ≤ 32768) (hi : i < p.b.length) (hby : by_ ≠ 0) (hsp : p.sp = true) :
    Calls Try.prog 16 #[.pointer (some ⟨r, 0, none⟩), .int .i64 (k : Int), .int .i64 (i : Int), .int .u8 by_] w fun e w' => e = .returned (.bool false) ∧ w = w' := by
  obtain ⟨Al, cl, hc, ho⟩ := hS.cl
  have hk : k < L.length := (List.getElem?_eq_some_iff.1 hp).1
  obtain ⟨g, cap, e, hgb, hgl⟩ := ho.form (by omega)
  injection e with e1 e2 e3
  subst e1 e3
  have g2 := ho.cells (g := g) rfl (k * 4 + 2) p.val (by rw [pk_get L k p hp 2 (by decide)]; rfl)
  have g3 := ho.cells (g := g) rfl (k * 4 + 3) (.bool p.sp) (by rw [pk_get L k p hp 3 (by decide)]; rfl)
  rw [add_plain] at g2 g3
  rw [hsp] at g3
  unfold Pk.val at g2
  have HH := Lib.hid (fun u => has_walk u r room (some ⟨g, 0, none⟩) L.length cl mb (k : Int))
  have HC1 := Lib.hid hc
  have hk1 : (0 : Int) ≤ (k : Int) := Int.natCast_nonneg _
  have hk2 : (k : Int) < (L.length : Int) := by omega
  have hi1 : (0 : Int) ≤ (i : Int) := Int.natCast_nonneg _
  have hi2 : (i : Int) < (p.b.length : Int) := by omega
  have hby' : (by_ == 0) = false := by simpa using hby
  obtain ⟨u0, u1, u2⟩ := net_cells hc
  have HDK := Lib.hid (show decide ((0 : Int) ≤ (k : Int) ∧ (k : Int) < (L.length : Int)) = true from decide_eq_true ⟨hk1, hk2⟩)
  clear hS hp hc ho e2 hby hsp
  go_enter Try.func16, Try.ntmps16
  go_wp2_with fail
  refine (HH.out _ HC1.out hL).mono ?_
  rintro e w' ⟨rfl, rfl⟩
  rw [HDK.out]
  go_wp2_with fail
  go_ret
  exact ⟨rfl, rfl⟩
end Go.Proofs.Ytenbjmgmgdkapaa
