/- The reference's link: Tick (printed by a program of mine, mkrfe.py). -/
import Derived.Test.YtbkpgkkfkjlnnaaRfD
set_option linter.unusedVariables false
set_option linter.unusedSimpArgs false
namespace Go.Proofs.Ytbkpgkkfkjlnnaa.G
open Go.RowKit Go.Proofs.YtbkpgkkfkjlnnaaW.PrintWords Go.Proofs.YtbkpgkkfkjlnnaaW.PrintLast Go.Proofs.Ytbkpgkkfkjlnnaa.K Go.Proofs.Ytbkpgkkfkjlnnaa.Row Go.Proofs.Ytbkpgkkfkjlnnaa

theorem tickD_len (now : Int) (i : Nat) (L : List Pd) : (tickD now i L).length = L.length := by
  have := congrArg List.length (tickD_m now i L)
  simpa using this
theorem tickD_get {now : Int} {i : Nat} {L : List Pd} {p : Pd} (h : L[i]? = some p) : (tickD now i L)[i]? = some p := by
  have hi := (List.getElem?_eq_some_iff.1 h).1
  have hl : ((L.take i).map (tick1D now)).length = i := by simp; omega
  unfold tickD
  rw [List.getElem?_append_right (by rw [hl]; exact Nat.le_refl _), hl, Nat.sub_self, List.getElem?_drop]
  exact h
theorem tickD_succ {now : Int} {i : Nat} {L : List Pd} {p : Pd} (h : L[i]? = some p) : tickD now (i + 1) L = (tickD now i L).set i (tick1D now p) := by
  have hi := (List.getElem?_eq_some_iff.1 h).1
  have hp : L[i] = p := (List.getElem?_eq_some_iff.1 h).2
  have hl : ((L.take i).map (tick1D now)).length = i := by simp; omega
  unfold tickD
  rw [List.take_succ_eq_append_getElem hi, List.map_append, List.set_append_right _ _ (by rw [hl]; exact Nat.le_refl _), hl, Nat.sub_self, hp]
  rw [List.drop_eq_getElem_cons hi, List.set_cons_zero, List.append_assoc]
  rfl
theorem dueDL_succ {now : Int} {i : Nat} {L : List Pd} {p : Pd} (h : L[i]? = some p) : dueDL now (i + 1) L = dueDL now i L ++ (if dueD now p = true then [p] else []) := by
  have hi := (List.getElem?_eq_some_iff.1 h).1
  have hp : L[i] = p := (List.getElem?_eq_some_iff.1 h).2
  unfold dueDL
  rw [List.take_succ_eq_append_getElem hi, List.filter_append, hp]
  by_cases hd : dueD now p = true
  · rw [if_pos hd]; simp [hd]
  · rw [if_neg hd]; simp [hd]
theorem toldD_succ {now t : Int} {i : Nat} {L : List Pd} {p : Pd} (h : L[i]? = some p) : toldD now t (i + 1) L = told1D now (toldD now t i L) p := by
  have hi := (List.getElem?_eq_some_iff.1 h).1
  have hp : L[i] = p := (List.getElem?_eq_some_iff.1 h).2
  unfold toldD
  rw [List.take_succ_eq_append_getElem hi, List.foldl_append, hp]; rfl
theorem near_cell (w : World) {b i j : Nat} (v : Value) (hne : i ≠ j) : (w.setCell ⟨b, j, none⟩ v).cell? ⟨b, i, none⟩ = w.cell? ⟨b, i, none⟩ := by
  apply World.cell?_setCell_other
  intro e; injection e with _ e; exact hne e.symm
theorem rs_set (L : List RSn) (i : Nat) (q : RSn) (a : Int) (h : L[i]? = some q) : rsC (L.set i ⟨q.m, a⟩) = (rsC L).set (i * 8 + 7) (.int .i64 a) := by
  induction L generalizing i with
  | nil => simp at h
  | cons y l ih =>
    have ha : y.cells.length = 8 := rfl
    cases i with
    | zero =>
      simp at h; subst h
      show (⟨y.m, a⟩ : RSn).cells ++ rsC l = (y.cells ++ rsC l).set (0 * 8 + 7) _
      rw [List.set_append_left _ _ (by rw [ha]; decide)]
      rfl
    | succ i =>
      show y.cells ++ rsC (l.set i ⟨q.m, a⟩) = (y.cells ++ rsC l).set ((i + 1) * 8 + 7) _
      rw [List.set_append_right _ _ (by rw [ha]; omega), ha, show (i + 1) * 8 + 7 - 8 = i * 8 + 7 by omega, ih i (by simpa using h)]
/-- The cells of one of what waits. -/
theorem RefC.cells {w : World} {S U : Nat → Prop} {r : Nat} {d : DS} {V : Value} {B : Option Addr} {c : Nat} {O : List RSn} {H : List Hd} (h : RefC w S U r d V B c O H) {i : Nat} {q : RSn} (hq : O[i]? = some q) :
    ∃ g off cap, V = .slice (some ⟨g, off, none⟩) O.length cap ∧ ∀ j, j < 8 → w.cell? ⟨g, off + (i * 8 + j), none⟩ = q.cells[j]? := by
  have hl : (rsC O).length = O.length * 8 := flat_len RSn.cells 8 rs_len O
  have hi := (List.getElem?_eq_some_iff.1 hq).1
  have key : ∀ j, j < 8 → ∃ u, (rsC O)[i * 8 + j]? = some u ∧ q.cells[j]? = some u := fun j hj => by
    have h1 := flat_get RSn.cells 8 rs_len O i q hq j hj
    have hlt : i * 8 + j < (rsC O).length := by rw [hl]; omega
    exact ⟨_, List.getElem?_eq_getElem hlt, by rw [← h1]; exact List.getElem?_eq_getElem hlt⟩
  obtain ⟨u0, hu0, _⟩ := key 0 (by decide)
  obtain ⟨g, off, cap, hV, _⟩ := h.q.at hu0
  refine ⟨g, off, cap, hV, fun j hj => ?_⟩
  obtain ⟨u, hu, hu2⟩ := key j hj
  obtain ⟨g', off', cap', hV', hc⟩ := h.q.at hu
  rw [hV] at hV'
  injection hV' with e1 e2 e3
  injection e1 with e1
  injection e1 with e1 e4
  subst e1 e4
  rw [hu2]; exact hc
/-- One of what waits was sent now. -/
theorem RefG.touch {w : World} {S U : Nat → Prop} {r : Nat} {x : DS} {V : Value} {B : Option Addr} {c : Nat} {O : List RSn} {H : List Hd} {g off cap i : Nat} {q : RSn} {p : Pd} {nw : Int} (hG : RefG w S U r x) (hc : RefC w S U r x V B c O H) (hV : V = .slice (some ⟨g, off, none⟩) O.length cap) (hq : O[i]? = some q) (hp : x.out[i]? = some p) :
    RefG (w.setCell ⟨g, off + (i * 8 + 7), none⟩ (.int .i64 nw)) S U r { x with out := x.out.set i ⟨p.m, true, nw⟩ } ∧ Chg S w (w.setCell ⟨g, off + (i * 8 + 7), none⟩ (.int .i64 nw)) := by
  have hcg : Chg (fun b => b = g) w (w.setCell ⟨g, off + (i * 8 + 7), none⟩ (.int .i64 nw)) := Chg.ofGrown (grown_set _) (fun k e => by injection e with e; exact e.symm)
  have hgS : S g := hc.qs g (by rw [hV]; rfl)
  obtain ⟨t1, t2, t3⟩ := hc.vr
  have hVg : V.ownBlock = some g := by rw [hV]; rfl
  have hs : (w.setCell ⟨g, off + (i * 8 + 7), none⟩ (.int .i64 nw)).heap.size = w.heap.size := by simp [World.setCell]
  have hU : ∀ b, U b → b ≠ g := fun b hb e => hG.sep g hgS (e ▸ hb)
  have hl : (O.set i ⟨q.m, nw⟩).length = O.length := List.length_set ..
  have hpq : q.m.dt = p.m := by
    have h1 : (O.map RSn.key)[i]? = (x.out.map Pd.key)[i]? := by rw [hc.eo]
    rw [List.getElem?_map, List.getElem?_map, hq, hp] at h1
    injection h1 with h1
    exact congrArg Prod.fst h1
  refine ⟨⟨fun b hb => by rw [hs]; exact hG.inn b hb, fun b hb => by rw [hs]; exact hG.inU b hb, hG.sep, hG.hr, ⟨V, B, c, O.set i ⟨q.m, nw⟩, H, ⟨hcg.keep hc.blk (fun e => t1 g hVg e.symm), ?_, hc.qs, ⟨hcg.own hc.h.1 (fun b hb e => t3 g hVg (e ▸ hb)), hc.h.2⟩, ?_, hc.eh, fun y hy => ?_, fun y hy => (hc.bh y hy).chg hcg hU⟩⟩⟩, hcg.mono (fun b _ e => by rw [e]; exact hgS)⟩
  · rw [hl, rs_set O i q nw hq]
    exact hc.q.stored hV (i * 8 + 7) _
  · rw [List.map_set, List.map_set, hc.eo]
    congr 1
    simp [RSn.key, Pd.key, hpq]
  · obtain ⟨j, hj⟩ := List.mem_iff_getElem?.1 hy
    by_cases hji : i = j
    · subst hji
      rw [List.getElem?_set_self (List.getElem?_eq_some_iff.1 hq).1] at hj
      injection hj with hj
      subst hj
      exact (hc.bo q (List.mem_of_getElem? hq)).chg hcg hU
    · rw [List.getElem?_set_ne hji] at hj
      exact (hc.bo y (List.mem_of_getElem? hj)).chg hcg hU
/-- Tick on its way. -/
structure RTk (w wr : World) (S U : Nat → Prop) (r : Nat) (x : DS) (nw : Int) (i : Nat) (A : Option Addr) (k c : Nat) (L : List Hd) : Prop where
  G : RefG wr S U r { x with now := nw, told := toldD nw x.told i x.out, out := tickD nw i x.out }
  o : wr.ownsRow w.heap.size 51 7 (.slice A k c) k (hdC L)
  e : L.map Hd.dt = (dueDL nw i x.out).map Pd.m
  b : ∀ h ∈ L, HdRd wr U h
  C : Chg S w wr
  lt : ∀ b, S b → b < w.heap.size
  ltU : ∀ b, U b → b < w.heap.size
section
variable {w wr wx : World} {S U : Nat → Prop} {r : Nat} {x : DS} {nw : Int} {i : Nat} {A : Option Addr} {k c : Nat} {L : List Hd}
theorem RTk.below (h : RTk w wr S U r x nw i A k c L) (hb : Below wr.heap.size wr wx) : RTk w wx S U r x nw i A k c L :=
  ⟨h.G.below hb, pw_own_below h.o hb, h.e, fun y hy => (h.b y hy).below hb, h.C.trans (Chg.ofBelow (S := fun _ => False) hb) (fun _ _ h => h.elim), h.lt, h.ltU⟩
theorem RTk.skip {p : Pd} (h : RTk w wr S U r x nw i A k c L) (hp : x.out[i]? = some p) (hd : dueD nw p = false) : RTk w wr S U r x nw (i + 1) A k c L := by
  have e1 : tick1D nw p = p := by unfold tick1D; rw [if_neg (by rw [hd]; decide)]
  have e2 : tickD nw (i + 1) x.out = tickD nw i x.out := by
    rw [tickD_succ hp, e1]
    have := tickD_get (now := nw) hp
    apply List.ext_getElem?
    intro j
    by_cases hj : i = j
    · subst hj; rw [List.getElem?_set_self (List.getElem?_eq_some_iff.1 this).1, this]
    · rw [List.getElem?_set_ne hj]
  have e3 : toldD nw x.told (i + 1) x.out = toldD nw x.told i x.out := by rw [toldD_succ hp]; unfold told1D; rw [if_neg (by rw [hd]; decide)]
  have e4 : dueDL nw (i + 1) x.out = dueDL nw i x.out := by rw [dueDL_succ hp, if_neg (by rw [hd]; decide), List.append_nil]
  exact ⟨by rw [e2, e3]; exact h.G, h.o, by rw [e4]; exact h.e, h.b, h.C, h.lt, h.ltU⟩
end
/-- One was due. -/
theorem RTk.fin {w wr w4 w6 : World} {S U : Nat → Prop} {r : Nat} {x : DS} {nw : Int} {i : Nat} {A A5 : Option Addr} {k c c5 : Nat} {L : List Hd} {p : Pd} {y : Hd} {tq : Int} (h : RTk w wr S U r x nw i A k c L) (hp : x.out[i]? = some p) (hd : dueD nw p = true)
    (h4 : RefG w4 S U r { x with now := nw, told := tq, out := (tickD nw i x.out).set i ⟨p.m, true, nw⟩ }) (hc4 : Chg S wr w4) (htq : tq = max (toldD nw x.told i x.out) p.m.s) (hy : y.dt = p.m) (hyb : HdRd wr U y)
    (ho : w6.ownsRow w.heap.size 51 7 (.slice A5 (k + 1) c5) (k + 1) (hdC L ++ y.cells)) (hg : w4.grownBy w6 (Value.slice A k c).ownBlock) : RTk w w6 S U r x nw (i + 1) A5 (k + 1) c5 (L ++ [y]) := by
  have hA : ∀ b, (Value.slice A k c).ownBlock = some b → w.heap.size ≤ b := fun b hb => own_base h.o b hb
  have c1 : Chg (fun b => (Value.slice A k c).ownBlock = some b) w4 w6 := Chg.ofGrown hg (fun k e => e)
  have hU : ∀ b, U b → ¬ (Value.slice A k c).ownBlock = some b := fun b hb e => by
    have h1 := h.ltU b hb
    have h2 := hA b e
    omega
  have e1 : tick1D nw p = ⟨p.m, true, nw⟩ := by unfold tick1D; rw [if_pos hd]
  have e3 : toldD nw x.told (i + 1) x.out = tq := by rw [toldD_succ hp, htq]; unfold told1D; rw [if_pos hd]
  have e4 : dueDL nw (i + 1) x.out = dueDL nw i x.out ++ [p] := by rw [dueDL_succ hp, if_pos hd]
  have hw6 : ∀ {z : Hd}, HdRd wr U z → HdRd w6 U z := fun hz => (hz.chg hc4 (fun b hb hs => h.G.sep b hs hb)).chg c1 hU
  refine ⟨?_, by rw [show hdC (L ++ [y]) = hdC L ++ y.cells by simp [hdC]]; exact ho, by rw [List.map_append, h.e, e4, List.map_append]; simp [hy], fun z hz => ?_, (h.C.trans hc4 (fun k _ h => h)).trans c1 (fun k hk e => by have := hA k e; omega), h.lt, h.ltU⟩
  · rw [tickD_succ hp, e1, e3]
    exact h4.chg c1 (fun b hb e => by have := hA b e; have := h.lt b hb; omega) hU
  · rcases List.mem_append.1 hz with hz | hz
    · exact hw6 (h.b z hz)
    · obtain rfl := List.mem_singleton.1 hz; exact hw6 hyb
def RTickR (w w' : World) (S U : Nat → Prop) (r : Nat) (x : DS) (t : Int) (e : Ending) : Prop := ∃ V S' U', e = .returned V ∧ RowC w' V (dTick x t).1 ∧ RefG w' S' U' r (dTick x t).2 ∧ StpU w w' S U S' U'
set_option maxRecDepth 100000 in
set_option maxHeartbeats 8000000 in
theorem rtick (w : World) (S U : Nat → Prop) (r : Nat) (x : DS) (t : Int) (h : RefG w S U r x) {N : Nat} (hi : Inv x N) (hN : N ≤ 1000) (ht : -9223372036854775808 ≤ t ∧ t ≤ 9223372036854775807) :
    Calls Try.prog 20 #[.pointer (some ⟨r, 0, none⟩), .int .i64 t] w fun e w' => RTickR w w' S U r x t e := by
  obtain ⟨nw, hnw⟩ : ∃ nw, nw = nowD x t := ⟨_, rfl⟩
  obtain ⟨on, hon⟩ : ∃ on, on = x.out.length := ⟨_, rfl⟩
  have hon1 : on ≤ 1000 := by have := hi.len; omega
  have hn0 : x.now ≤ nw ∧ nw ≤ 9223372036854775807 ∧ 0 ≤ nw := by rw [hnw]; unfold nowD; have := hi.now; split <;> omega
  have HI := Lib.hid hi; have HNW := Lib.hid hnw; have HON := Lib.hid hon
  have HG := Lib.hid h
  clear hi hon h
  go_enter Try.func20, Try.ntmps20
  go_upto_region 1 with (fail)
  obtain ⟨V0, B0, d0, O0, H0, hc0⟩ := HG.out.cl
  obtain ⟨l0, l1, l2, l3, l4, l6, l7, l8, l9⟩ := rlC_cells hc0.blk
  have f9 := froz hc0.blk 9
  clear l0 l1 l2 l3 l4 l6 l7 l8 hc0
  go_upto_if 13 with (fail)
  go_cut [17] (fun s17 wx => Aside0 (RefG wx S U r { x with now := nw } ∧ Chg S w wx))
  case first =>
    obtain ⟨V0, B0, d0, O0, H0, hc0⟩ := HG.out.cl
    obtain ⟨l0, l1, l2, l3, l4, l6, l7, l8, l9⟩ := rlC_cells hc0.blk
    have f9 := froz hc0.blk 9
    clear l0 l1 l2 l3 l4 l6 l7 l8 hc0
    by_cases hlt : x.now < t
    · have e1 : nw = t := by rw [hnw]; unfold nowD; rw [if_pos hlt]
      have HF := Lib.hid (show RefG (w.setCell ⟨r, 9, none⟩ (.int .i64 t)) S U r { x with now := nw } by rw [e1]; exact HG.out.num (d' := { x with now := t }) (grown_set _) (by simp [World.setCell]) rfl rfl (fun O H hh => by rw [heap_set _ hh]; rfl))
      have HC := Lib.hid (show Chg S w (w.setCell ⟨r, 9, none⟩ (.int .i64 t)) from (Chg.ofGrown (S := fun b => b = r) (grown_set _) (fun k e => by injection e with e; exact e.symm)).mono (fun k _ e => by rw [e]; exact HG.out.hr))
      clear e1 hnw
      go_wp2_with fail
      go_meet
      exact ⟨HF.out, HC.out⟩
    · have e1 : nw = x.now := by rw [hnw]; unfold nowD; rw [if_neg hlt]
      have HF := Lib.hid (show RefG w S U r { x with now := nw } by rw [e1]; exact HG.out)
      clear e1 hnw
      go_wp2_with fail
      go_meet
      exact ⟨HF.out, Chg.refl _ _⟩
  case rest =>
  have HK := Lib.hid hcut.out
  clear hcut f9 hnw
  have T0 := Lib.hid (show RTk w wc S U r x nw 0 none 0 0 [] from ⟨by unfold tickD toldD; simpa using HK.out.1, ⟨by simp [hdC], .inl ⟨rfl, rfl⟩⟩, by simp [dueDL], (fun h hh => by cases hh), HK.out.2, HG.out.inn, HG.out.inU⟩)
  clear HK
  obtain ⟨m, hm⟩ : ∃ m, m = min on 32 := ⟨_, rfl⟩
  have HM := Lib.hid hm
  have hm1 : m ≤ 32 := by omega
  have hm2 : m ≤ on := by omega
  clear hm
  go_wp2_with fail
  go_loopw [5, 6] (fun s5 s6 wr => ∃ (i : Nat) (A : Option Addr) (k c : Nat), i ≤ m ∧ s6 = .int .i64 i ∧ s5 = .slice A k c ∧ k ≤ i ∧ Aside0 (∃ L, RTk w wr S U r x nw i A k c L)) (fun _ s6 _ => m - (intOf s6).toNat)
  case atStart => exact ⟨0, none, 0, 0, Nat.zero_le _, rfl, rfl, Nat.le_refl _, ⟨[], T0.out⟩⟩
  case round =>
    obtain ⟨i, A, k, c, hi, rfl, rfl, hki, HKK⟩ := hrel
    obtain ⟨L, hL⟩ := HKK.out
    have HL := Lib.hid hL; clear HKK hL
    by_cases hlt : i < m
    · obtain ⟨V1, B1, d1, O1, H1, hc1⟩ := HL.out.G.cl
      have hol : O1.length = on := by rw [hc1.olen.1, HON.out]; exact tickD_len _ _ _
      obtain ⟨p, hp⟩ : ∃ p, x.out[i]? = some p := ⟨_, List.getElem?_eq_getElem (by rw [← HON.out]; omega)⟩
      obtain ⟨q, hq⟩ : ∃ q, O1[i]? = some q := ⟨_, List.getElem?_eq_getElem (by omega)⟩
      have hpt := tickD_get (now := nw) hp
      have hkey : q.m.dt = p.m ∧ q.at_ = (if p.sent = true then p.at_ else -1) := by
        have h1 : (O1.map RSn.key)[i]? = ((tickD nw i x.out).map Pd.key)[i]? := by rw [hc1.eo]
        rw [List.getElem?_map, List.getElem?_map, hq, hpt] at h1
        injection h1 with h1
        exact ⟨congrArg Prod.fst h1, congrArg Prod.snd h1⟩
      obtain ⟨g, off, cap, rfl, hcell⟩ := hc1.cells hq
      rw [hol] at hc1
      have hpI := (HI.out.out p (List.mem_of_getElem? hp))
      have HC1 := Lib.hid hc1; have HQ := Lib.hid hq; have HP := Lib.hid hp; have HPT := Lib.hid hpt; have HKEY := Lib.hid hkey; have HOL := Lib.hid hol
      have HPI := Lib.hid hpI
      have HQB := Lib.hid (hc1.bo q (List.mem_of_getElem? hq))
      obtain ⟨l0, l1, l2, l3, l4, l6, l7, l8, l9⟩ := rlC_cells hc1.blk
      have e7 : wr.cell? ⟨g, off + i * 8 + 7, none⟩ = some (.int .i64 q.at_) := by rw [Nat.add_assoc]; exact hcell 7 (by decide)
      dsimp only at l3 l9
      clear l0 l1 l2 l4 l6 l7 l8 hcell hc1 hq hp hpt hkey hol hpI
      have i1 : (0 : Int) ≤ (i : Int) := Int.natCast_nonneg _
      have i2 : (i : Int) < (on : Int) := by omega
      have i3 : (i : Int) < 32 := by omega
      obtain ⟨qa, hqa⟩ : ∃ qa, qa = q.at_ := ⟨_, rfl⟩
      rw [← hqa] at e7
      by_cases hd : dueD nw p = true
      · have HD := Lib.hid hd
        go_upto_region 8 with (fail)
        go_cut [53] (fun s53 wx => s53 = .bool false ∧ Aside0 (Below wr.heap.size wr wx))
        case first =>
          by_cases hs : p.sent = true
          · have h1 : qa = p.at_ := by rw [hqa, HKEY.out.2, if_pos hs]
            have h2 : ¬ (nw - qa < 8) := by
              intro h2
              unfold dueD at hd
              rw [hs, ← h1, decide_eq_true h2] at hd
              exact absurd hd (by decide)
            have h3 : (0 : Int) ≤ qa := by rw [h1]; exact HPI.out.2.1.1
            have h4 : IntKind.i64.wrap (nw - qa) = nw - qa := by rw [IntKind.wrap_i64]; omega
            clear hd hs h1 hqa
            go_quiet (fail)
            go_wp2_with fail
            go_meet
            exact ⟨by simp [h2], ⟨pw_below_drewN (Below.refl _ _) _⟩⟩
          · have h1 : qa = -1 := by rw [hqa, HKEY.out.2, if_neg hs]
            subst h1
            clear hd hs hqa
            go_quiet (fail)
            go_wp2_with fail
            go_meet
            exact ⟨rfl, ⟨pw_below_drewN (Below.refl _ _) _⟩⟩
        case rest =>
        obtain ⟨rfl, HB⟩ := hcut
        have T1 := Lib.hid (HL.out.below HB.out)
        have HC2 := Lib.hid (HC1.out.chg HL.out.G.hr (T := fun _ => False) (Chg.ofBelow HB.out) (fun _ _ h => h) (fun _ _ h => h))
        have hc2 := HC2.out.cells HQ.out
        rw [HOL.out] at hc2
        obtain ⟨g', off', cap', hV', hcell⟩ := hc2
        injection hV' with v1 v2 v3
        injection v1 with v1
        injection v1 with v1 v4
        subst v1 v4
        obtain ⟨l0, l1, l2, l3, l4, l6, l7, l8, l9⟩ := rlC_cells HC2.out.blk
        have e7 : wc.cell? ⟨g, off + i * 8 + 7, none⟩ = some (.int .i64 q.at_) := by rw [Nat.add_assoc]; exact hcell 7 (by decide)
        have HCELL := Lib.hid hcell
        obtain ⟨cur, hcur⟩ := (HC2.out.q.block (k := g) rfl).2.2
        have f7 := froz hcur (off + i * 8 + 7)
        dsimp only at l9 l6
        clear v2 v3 hcell hcur l0 l1 l2 l3 l4 l7 l8 hqa hd
        obtain ⟨w4, hw4⟩ : ∃ w4, w4 = wc.setCell ⟨g, off + i * 8 + 7, none⟩ (.int .i64 nw) := ⟨_, rfl⟩
        have hG4 := T1.out.G.touch (nw := nw) HC2.out (by rw [HOL.out]) HQ.out HPT.out
        rw [← Nat.add_assoc, ← hw4] at hG4
        have G4 := Lib.hid hG4
        have hne : r ≠ g := fun e => HC2.out.vr.1 g rfl e.symm
        have hS7 : q.m.s = p.m.s := congrArg Dt.s HKEY.out.1
        have e4 : wc.cell? ⟨g, off + i * 8 + 4, none⟩ = some (.int .u32 q.m.s) := by rw [Nat.add_assoc]; exact HCELL.out 4 (by decide)
        have HW4 := Lib.hid hw4.symm
        have n9 : w4.cell? ⟨r, 6, none⟩ = some (.int .u32 (toldD nw x.told i x.out)) := by rw [hw4]; exact far_set hne l6
        have n4 : w4.cell? ⟨g, off + i * 8 + 4, none⟩ = some (.int .u32 q.m.s) := by rw [hw4, near_cell _ _ (by omega)]; exact e4
        have hcl4 : ∀ j, j < 7 → w4.cell? ⟨g, off + i * 8 + j, none⟩ = q.m.cells[j]? := fun j hj => by
          rw [hw4, near_cell _ _ (by omega), Nat.add_assoc, HCELL.out j (by omega)]
          unfold RSn.cells
          rw [List.getElem?_append_left (by rw [hd_len]; exact hj)]
        have HCL4 := Lib.hid hcl4
        have HNE := Lib.hid hne
        obtain ⟨tv, htv⟩ : ∃ tv, tv = toldD nw x.told i x.out := ⟨_, rfl⟩
        rw [← htv] at n9
        have HTV := Lib.hid htv
        obtain ⟨sq, hsq⟩ : ∃ sq, sq = q.m.s := ⟨_, rfl⟩
        rw [← hsq] at n4
        have HSQ := Lib.hid (hsq.trans hS7)
        clear hw4 hG4 hne hS7 e4 hcl4 htv hsq
        go_upto_region 10 with (fail)
        rw [HW4.out]
        clear l6 l9 e7 f7
        go_cut [70] (fun s70 wx => s70 = .bool (decide (tv < sq)) ∧ Aside0 (Below w4.heap.size w4 wx))
        case first =>
          go_quiet (fail)
          go_wp2_with fail
          go_meet
          exact ⟨rfl, ⟨pw_below_drewN (Below.refl _ _) _⟩⟩
        case rest =>
        obtain ⟨w5, rfl⟩ : ∃ w5 : World, w5 = wc := ⟨_, rfl⟩
        obtain ⟨rfl, hb5⟩ := hcut
        have HB5 := Lib.hid hb5.out
        clear hb5 n4 n9
        go_upto_if 70 with (fail)
        have f6 : w5.frozen? ⟨r, 6, none⟩ = false := by
          obtain ⟨V6, B6, d6, O6, H6, hc6⟩ := G4.out.1.cl
          exact froz (heap_keep HB5.out hc6.blk) 6
        have l6 : w5.cell? ⟨r, 6, none⟩ = some (.int .u32 tv) := by
          obtain ⟨V6, B6, d6, O6, H6, hc6⟩ := G4.out.1.cl
          obtain ⟨-, -, -, -, -, l6, -⟩ := rlC_cells (heap_keep HB5.out hc6.blk)
          rw [HTV.out]; exact l6
        have n4 : w5.cell? ⟨g, off + i * 8 + 4, none⟩ = some (.int .u32 sq) := pw_cell_below HB5.out (by
          have h := HCL4.out 4 (by decide)
          rw [h, HSQ.out, ← show q.m.s = p.m.s from congrArg Dt.s HKEY.out.1]; rfl)
        have HF6 := Lib.hid (And.intro f6 (And.intro l6 n4))
        clear f6 l6 n4
        go_cut [78] (fun s78 wx => Aside0 (RefG wx S U r { x with now := nw, told := max tv sq, out := (tickD nw i x.out).set i ⟨p.m, true, nw⟩ } ∧ Chg S w4 wx ∧ ∀ j, j < 7 → wx.cell? ⟨g, off + i * 8 + j, none⟩ = q.m.cells[j]?))
        case first =>
          obtain ⟨f6, l6, n4⟩ := HF6.out
          by_cases hgt : tv < sq
          · have hmx : max tv sq = sq := by omega
            have HX := Lib.hid (show RefG (w5.setCell ⟨r, 6, none⟩ (.int .u32 sq)) S U r { x with now := nw, told := max tv sq, out := (tickD nw i x.out).set i ⟨p.m, true, nw⟩ } by
              rw [hmx]
              exact (G4.out.1.below HB5.out).num (d' := { x with now := nw, told := sq, out := (tickD nw i x.out).set i ⟨p.m, true, nw⟩ }) (grown_set _) (by simp [World.setCell]) rfl rfl (fun O H hh => by rw [heap_set _ hh]; rfl))
            have HY := Lib.hid (show Chg S w4 (w5.setCell ⟨r, 6, none⟩ (.int .u32 sq)) from (Chg.ofBelow HB5.out).trans (Chg.ofGrown (S := fun b => b = r) (grown_set _) (fun k e => by injection e with e; exact e.symm)) (fun k _ e => by rw [e]; exact HL.out.G.hr))
            have HZ := Lib.hid (show ∀ j, j < 7 → (w5.setCell ⟨r, 6, none⟩ (.int .u32 sq)).cell? ⟨g, off + i * 8 + j, none⟩ = q.m.cells[j]? from fun j hj => by
              have h := HCL4.out j hj
              have hlt : j < q.m.cells.length := by rw [hd_len]; exact hj
              rw [List.getElem?_eq_getElem hlt] at h ⊢
              exact far_set (fun e => HNE.out e.symm) (pw_cell_below HB5.out h))
            clear hmx
            go_wp2_with fail
            go_meet
            exact ⟨HX.out, HY.out, HZ.out⟩
          · have hmx : max tv sq = tv := by omega
            have HX := Lib.hid (show RefG w5 S U r { x with now := nw, told := max tv sq, out := (tickD nw i x.out).set i ⟨p.m, true, nw⟩ } by
              rw [hmx, HTV.out]
              exact G4.out.1.below HB5.out)
            have HZ := Lib.hid (show ∀ j, j < 7 → w5.cell? ⟨g, off + i * 8 + j, none⟩ = q.m.cells[j]? from fun j hj => by
              have h := HCL4.out j hj
              have hlt : j < q.m.cells.length := by rw [hd_len]; exact hj
              rw [List.getElem?_eq_getElem hlt] at h ⊢
              exact pw_cell_below HB5.out h)
            clear hmx
            go_wp2_with fail
            go_meet
            exact ⟨HX.out, Chg.ofBelow HB5.out, HZ.out⟩
        case rest =>
        obtain ⟨w6, rfl⟩ : ∃ w6 : World, w6 = wc := ⟨_, rfl⟩
        obtain ⟨hx6, hy6, hz6⟩ := hcut.out
        have HX6 := Lib.hid hx6
        have HY6 := Lib.hid (G4.out.2.trans hy6 (fun k _ h => h))
        have p0 := hz6 0 (by decide)
        have p1 := hz6 1 (by decide)
        have p2 := hz6 2 (by decide)
        have p3 := hz6 3 (by decide)
        have p4 := hz6 4 (by decide)
        have p5 := hz6 5 (by decide)
        have p6 := hz6 6 (by decide)
        have HTQ := Lib.hid (show max tv sq = max (toldD nw x.told i x.out) p.m.s by rw [HTV.out, HSQ.out])
        have HO6 := Lib.hid (show w6.ownsRow w.heap.size 51 7 (.slice A k c) k (hdC L) from HY6.out.own T1.out.o (fun b hb hs => by have := own_base T1.out.o b hb; have := T1.out.lt b hs; omega))
        obtain ⟨y, hyq⟩ : ∃ y, y = q.m := ⟨_, rfl⟩
        rw [← hyq] at p0 p1 p2 p3 p4 p5 p6
        have HYQ := Lib.hid hyq
        obtain ⟨yk, yf, yt, yv, ys, yA, yc, yxs, yB, yd, yys⟩ := y
        simp only [Hd.cells, Hd.nv, Hd.wv, List.getElem?_cons_zero, List.getElem?_cons_succ, Nat.add_zero] at p0 p1 p2 p3 p4 p5 p6
        have hwd : w.heap.size ≤ w6.heap.size := Nat.le_trans T1.out.C.size HY6.out.size
        have HWD := Lib.hid hwd
        have HBW := Lib.hid (Below.refl w.heap.size w6)
        have HKI := Lib.hid hki
        clear hx6 hy6 hz6 hcut hyq HF6 HCL4 hwd
        go_wp2_with (at_builtin; refine app_cells7 (w0 := w6) w.heap.size rfl (.tmp 79) (.tmp 84) 45 51 rfl Try.underlying45 (by kernel_rfl) (.slice A k c) (hdC L) [.int .i64 yk, .int .i64 yf, .int .i64 yt, .int .u32 yv, .int .u32 ys, .slice yA yxs.length yc, .slice yB yys.length yd] k rfl (by simp [Value.oneCell']) rfl rfl HO6.out HBW.out HWD.out (by have := HKI.out; omega) ?_; intro A8 c8 w8 ho8 hb8 hg8; have HO8 := Lib.hid ho8; have HG8 := Lib.hid hg8; clear ho8 hb8 hg8)
        go_roundw
        case rel => exact ⟨i + 1, A8, k + 1, c8, by omega, by go_num, rfl, by have := HKI.out; omega, ⟨L ++ [⟨yk, yf, yt, yv, ys, yA, yc, yxs, yB, yd, yys⟩], T1.out.fin (y := ⟨yk, yf, yt, yv, ys, yA, yc, yxs, yB, yd, yys⟩) HP.out HD.out HX6.out HY6.out HTQ.out (by rw [HYQ.out]; exact HKEY.out.1) (by rw [HYQ.out]; exact HQB.out.below HB.out) HO8.out HG8.out⟩⟩
        case measure => simp [intOf]; omega
      · have hd' : dueD nw p = false := by simpa using hd
        have hs : p.sent = true ∧ nw - p.at_ < 8 := by
          unfold dueD at hd'
          simpa using hd'
        have h1 : qa = p.at_ := by rw [hqa, HKEY.out.2, if_pos hs.1]
        have h2 : nw - qa < 8 := by rw [h1]; exact hs.2
        have h3 : (0 : Int) ≤ qa := by rw [h1]; exact HPI.out.2.1.1
        have h5 : qa ≤ x.now := by rw [h1]; exact HPI.out.2.1.2
        have h4 : IntKind.i64.wrap (nw - qa) = nw - qa := by rw [IntKind.wrap_i64]; omega
        have T1 := Lib.hid (HL.out.skip HP.out hd')
        clear h5 hd hd' hs h1 hqa
        go_upto_region 8 with (fail)
        go_quiet (fail)
        go_wp2_with fail
        go_roundw
        case rel => exact ⟨i + 1, A, k, c, by omega, by go_num, rfl, by omega, ⟨L, T1.out.below (pw_below_drewN (Below.refl _ _) _)⟩⟩
        case measure => simp [intOf]; omega
    · obtain rfl : i = m := by omega
      obtain ⟨V1, B1, d1, O1, H1, hc1⟩ := HL.out.G.cl
      have hol : O1.length = on := by rw [hc1.olen.1, HON.out]; exact tickD_len _ _ _
      obtain ⟨A1, c1, rfl⟩ := hc1.q.shape
      rw [hol] at hc1
      obtain ⟨l0, l1, l2, l3, l4, l6, l7, l8, l9⟩ := rlC_cells hc1.blk
      clear l0 l1 l2 l4 l6 l7 l8 l9 hc1 hol
      have hE : dTick x t = (L.map Hd.dt, { x with now := nw, told := toldD nw x.told i x.out, out := tickD nw i x.out }) := by
        unfold dTick
        rw [← HNW.out, ← HON.out, ← HM.out, HL.out.e]
      have HE := Lib.hid hE; clear hE
      have hk : k = L.length := by have h1 := HL.out.o.1; have h2 : (hdC L).length = L.length * 7 := flat_len Hd.cells 7 hd_len L; omega
      have HRW := Lib.hid (show RowC wr (.slice A k c) (L.map Hd.dt) from by have h := HL.out.o; rw [hk] at h ⊢; exact rowC_own h HL.out.b)
      have HST := Lib.hid (show StpU w wr S U S U from ⟨HL.out.C, fun b h => .inl h, fun b h => .inl h⟩)
      have HGG := Lib.hid HL.out.G
      clear hk
      by_cases h32 : on ≤ 32
      · have h33 : ¬ (i : Int) < (on : Int) := by have := HM.out; omega
        go_wp2_with fail
        go_ret
        unfold RTickR
        rw [HE.out]
        exact ⟨_, S, U, rfl, HRW.out, HGG.out, HST.out⟩
      · have h33 : (i : Int) < (on : Int) := by have := HM.out; omega
        have h34 : ¬ (i : Int) < 32 := by have := HM.out; omega
        go_wp2_with fail
        go_ret
        unfold RTickR
        rw [HE.out]
        exact ⟨_, S, U, rfl, HRW.out, HGG.out, HST.out⟩
end Go.Proofs.Ytbkpgkkfkjlnnaa.G
