/- Net: Lose, Take. -/
import Derived.Test.YtenbjmgmgdkapaaNetM
import Derived.Test.YtenbjmgmgdkapaaNetJ
import Derived.Deep.AppendLies
set_option linter.unusedVariables false
set_option linter.unusedSimpArgs false
namespace Go.Proofs.Ytenbjmgmgdkapaa
open Go.RowKit Go.Proofs.YtenbjmgmgdkapaaW.PrintWords Go.Proofs.Ytenbjmgmgdkapaa.K

theorem pk_one (L : List Pk) : ∀ u ∈ pkCells L, u.oneCell' = true := by
  intro u hu
  simp only [pkCells, List.mem_flatMap] at hu
  obtain ⟨p, _, hp⟩ := hu
  simp only [Pk.cells, Pk.val, List.mem_cons, List.not_mem_nil, or_false] at hp
  rcases hp with rfl | rfl | rfl | rfl <;> rfl
theorem pk_del (L : List Pk) (k : Nat) : pkCells (L.eraseIdx k) = (pkCells L).take (k * 4) ++ (pkCells L).drop ((k + 1) * 4) := by
  induction L generalizing k with
  | nil => simp [pkCells]
  | cons q l ih =>
    cases k with
    | zero => simp [pkCells, Pk.cells]
    | succ k =>
      have h4 : q.cells.length = 4 := rfl
      have e1 : (pkCells (q :: l)) = q.cells ++ pkCells l := by simp [pkCells]
      have e2 : pkCells ((q :: l).eraseIdx (k + 1)) = q.cells ++ pkCells (l.eraseIdx k) := by simp [pkCells]
      rw [e2, e1, ih k, show (k + 1) * 4 = q.cells.length + k * 4 by rw [h4]; omega, show (k + 1 + 1) * 4 = q.cells.length + (k + 1) * 4 by rw [h4]; omega, List.take_length_add_append, List.drop_length_add_append, List.append_assoc, show (k + 1) * 4 = q.cells.length + k * 4 by rw [h4]; omega]
/-- What Lose leaves. -/
theorem lose_fin {w w4 : World} {base r mb : Nat} {room : Int} {m : Nat} {f : Nat → Nat → Bool} {L : List Pk} {cl g k j : Nat} (hS : NetS w base r mb room m f L) (hc : NetC w r room (some ⟨g, 0, none⟩) L.length cl mb) (ho : w.ownsRow base 63 4 (.slice (some ⟨g, 0, none⟩) L.length cl) L.length (pkCells L))
    (hk : k < L.length) (hj : L.length = j + 1) (hn4 : w4.ownsRow base 63 4 (.slice (some ⟨g, 0, none⟩) j cl) j (pkCells (L.eraseIdx k))) (hgrow : w.grownBy w4 (some g)) :
    NetS (w4.setCell ⟨r, 1, none⟩ (.slice (some ⟨g, 0, none⟩) j cl)) base r mb room m f (L.eraseIdx k) ∧ (∀ W, Below base W w → Below base W (w4.setCell ⟨r, 1, none⟩ (.slice (some ⟨g, 0, none⟩) j cl))) ∧ (∀ (q : Nat) (cs : Array Value) (ty : TypeId), w.heap[q]? = some (.cells cs ty (0, 0)) → ty ≠ 63 → ty ≠ 59 → (w4.setCell ⟨r, 1, none⟩ (.slice (some ⟨g, 0, none⟩) j cl)).heap[q]? = some (.cells cs ty (0, 0))) := by
  have nr : ∀ {u : World} {bs sz k : Nat} {e : TypeId} {V : Value} {M : List Value} {cs : Array Value}, u.heap[r]? = some (.cells cs 59 (0, 0)) → u.ownsRow bs e sz V k M → e ≠ 59 → V.ownBlock = none ∨ V.ownBlock ≠ some r := by
    intro u bs sz k e V M cs hu hV he
    rcases hV.2 with ⟨h, _⟩ | ⟨g', _, _, h, _, hh, _⟩
    · left; rw [h]; rfl
    · right; rw [h]; intro e2
      have e3 : g' = r := by simpa [Value.ownBlock] using e2
      rw [e3, hu] at hh; injection hh with hh; injection hh with _ hh; exact he hh.symm
  have hgb : (Value.slice (some ⟨g, 0, none⟩) L.length cl).ownBlock = some g := by simp [Value.ownBlock]
  have hgr : r ≠ g := by
    intro e
    rcases nr hc ho (by decide) with h | h
    · rw [hgb] at h; cases h
    · exact h (by rw [hgb, e])
  have hr4 : w4.heap[r]? = some (.cells #[.int .i64 room, .slice (some ⟨g, 0, none⟩) L.length cl, .map (some mb)] 59 (0, 0)) := (hgrow.block r (lt_of_heap hc) (fun e => hgr (by injection e))).trans hc
  have up : ∀ {bs k : Nat} {V : Value} {M : List Value}, w.ownsRow bs 5 1 V k M → (w4.setCell ⟨r, 1, none⟩ (.slice (some ⟨g, 0, none⟩) j cl)).ownsRow bs 5 1 V k M := by
    intro bs k V M h
    have h4 := own_other h hgrow (by rw [← hgb]; exact own_type_ne h ho (by decide))
    exact own_other h4 (grown_set _) (nr hr4 h4 (by decide))
  have hle : (L.eraseIdx k).length = j := by rw [List.length_eraseIdx_of_lt hk, hj]; rfl
  have hgrs := hgrow.size
  have bw := hS.bw
  refine ⟨⟨⟨some ⟨g, 0, none⟩, cl, ?_, ?_⟩, ?_, ?_, ?_, hS.br, hS.bm, hS.ne, ?_⟩, ?_, ?_⟩
  · unfold NetC
    rw [heap_set _ hr4, hle]
    rfl
  · rw [hle]
    exact own_other hn4 (grown_set (w := w4) (r := r) (j := 1) _) (nr hr4 hn4 (by decide))
  · intro p hp
    exact up (hS.bd p (List.mem_of_mem_eraseIdx hp))
  · exact hS.ap.sublist (List.eraseIdx_sublist ..)
  · have hmr : some mb ≠ some g := by
      have := hS.cu.ne (u := w) ho
      rw [hgb] at this
      rcases this with h | h
      · cases h
      · exact fun e => h e.symm
    exact (hS.cu.kept hgrow hmr).kept (grown_set _) (fun e => hS.ne (by injection e with e; exact e.symm))
  · have : (w4.setCell ⟨r, 1, none⟩ (.slice (some ⟨g, 0, none⟩) j cl)).heap.size = w4.heap.size := by simp [World.setCell]
    rw [this]; omega
  · intro W hW
    have h4 := pw_below_grown hW (some g) bw hgrow (fun k e => own_base ho k (by rw [hgb]; exact e))
    exact bset' h4 hS.br (by omega)
  · intro q cs ty hq h1 h2
    have hqg : q ≠ g := by
      intro e
      rcases ho.2 with ⟨h, h0⟩ | ⟨g', cap, cur, h, hb, hh, _⟩
      · cases h
      · injection h with h; injection h with h; injection h with h
        rw [← h, ← e, hq] at hh; injection hh with hh; injection hh with _ hh; exact h1 hh
    have hqr : q ≠ r := by
      intro e
      unfold NetC at hc
      rw [e, hc] at hq; injection hq with hq; injection hq with _ hq; exact h2 hq.symm
    have hlt := lt_of_heap hq
    have e1 := (hgrow.block q hlt (fun e => hqg (by injection e))).trans hq
    exact ((grown_set (w := w4) (r := r) (j := 1) (.slice (some ⟨g, 0, none⟩) j cl)).block q (lt_of_heap e1) (fun e => hqr (by injection e))).trans e1
set_option maxRecDepth 100000 in
theorem lose_ok (base r mb : Nat) (room : Int) (m : Nat) (f : Nat → Nat → Bool) (L : List Pk) (k : Nat) (w : World) (hS : NetS w base r mb room m f L) (hk : k < L.length) (hL : L.length ≤ 100000) :
    Calls Try.prog 17 #[.pointer (some ⟨r, 0, none⟩), .int .i64 (k : Int)] w fun e w' => e = .returned (.bool true) ∧ NetS w' base r mb room m f (L.eraseIdx k) ∧ (∀ W, Below base W w → Below base W w') ∧ (∀ (q : Nat) (cs : Array Value) (ty : TypeId), w.heap[q]? = some (.cells cs ty (0, 0)) → ty ≠ 63 → ty ≠ 59 → w'.heap[q]? = some (.cells cs ty (0, 0))) := by
  obtain ⟨Al, cl, hc, ho⟩ := hS.cl
  obtain ⟨g, rfl⟩ : ∃ g, Al = some ⟨g, 0, none⟩ := by
    rcases ho.2 with ⟨h, h0⟩ | ⟨g, _, _, h, _⟩
    · omega
    · injection h with h; exact ⟨g, h⟩
  obtain ⟨j, hj⟩ : ∃ j, L.length = j + 1 := ⟨L.length - 1, by omega⟩
  obtain ⟨c0, c1, c2⟩ := net_cells hc
  have hfz := froz (r := r) hc 1
  have hD := del_walk w base g j cl k (pkCells L) (by rw [← hj]; exact ho) (pk_one L) (by omega)
  have hfin := fun w4 h1 h2 => lose_fin (w4 := w4) (j := j) hS hc ho hk hj h1 h2
  have hne : r ≠ g := by
    intro e
    unfold NetC at hc
    rcases ho.2 with ⟨h, h0⟩ | ⟨g', cap, cur, h, hb, hh, _⟩
    · omega
    · injection h with h; injection h with h; injection h with h
      rw [← h, ← e, hc] at hh; injection hh with hh; injection hh with _ hh; exact absurd hh (by decide)
  have hlt : r < w.heap.size := NetC.lt hc
  have HAS := Lib.hid (has_walk w r room (some ⟨g, 0, none⟩) L.length cl mb (k : Int) hc hL)
  have HD := Lib.hid hD; have HF := Lib.hid hfin; have HC := Lib.hid hc
  have hdec : decide ((0 : Int) ≤ (k : Int) ∧ (k : Int) < (L.length : Int)) = true := by simp; omega
  rw [hj] at c1
  clear hD hfin hc ho hS
  go_enter Try.func17, Try.ntmps17
  go_wp2_with fail
  refine HAS.out.mono ?_
  rintro e w' ⟨rfl, rfl⟩
  rw [hdec]
  go_wp2_with fail
  refine HD.out.mono ?_
  rintro e w4 ⟨rfl, ho4, hg4⟩
  have d1 : w4.cell? ⟨r, 1, none⟩ = some (.slice (some ⟨g, 0, none⟩) (j + 1) cl) := (hg4.cell_far ⟨r, 1, none⟩ hlt (fun e => hne (by injection e))).trans c1
  have d2 : w4.frozen? ⟨r, 1, none⟩ = false := (hg4.frozen_far ⟨r, 1, none⟩ hlt (fun e => hne (by injection e))).trans hfz
  have HO4 := Lib.hid (And.intro ho4 hg4); clear ho4 hg4
  go_wp2_with fail
  go_ret
  exact ⟨rfl, HF.out _ (by rw [pk_del]; exact HO4.out.1) HO4.out.2⟩
end Go.Proofs.Ytenbjmgmgdkapaa
