/- Tick (printed by a program of mine, mklinke.py). -/
import Derived.Test.YtbkpgkkfkjlnnaaLinkD
import Derived.Deep.QuietTactic
import Derived.BigQuiet
set_option linter.unusedVariables false
set_option linter.unusedSimpArgs false
namespace Go.Proofs.Ytbkpgkkfkjlnnaa
open Go.RowKit Go.Proofs.YtbkpgkkfkjlnnaaW.PrintWords Go.Proofs.YtbkpgkkfkjlnnaaW.PrintLast Go.Proofs.YtbkpgkkfkjlnnaaW.PrintMore Go.Proofs.Ytbkpgkkfkjlnnaa.K
attribute [local go_sem] min2_int min_two max2_int max_two

def Sd.key (p : Sd) : Int × Int × List Int := (p.k, p.s, p.xs)
/-- What is no link and no row of one stays as it was. -/
def KeptL (w wr : World) : Prop := w.heap.size ≤ wr.heap.size ∧ ∀ (b : Nat) (cs : Array Value) (ty : TypeId), w.heap[b]? = some (Obj.cells cs ty (0, 0)) → ty ≠ 61 → ty ≠ 65 → wr.heap[b]? = some (Obj.cells cs ty (0, 0))
theorem KeptL.refl (w : World) : KeptL w w := ⟨Nat.le_refl _, fun b cs ty h _ _ => h⟩
theorem KeptL.below {w wr wx : World} (h : KeptL w wr) (hb : Below wr.heap.size wr wx) : KeptL w wx :=
  ⟨Nat.le_trans h.1 hb.size, fun b cs ty h0 h1 h2 => heap_keep' hb (h.2 b cs ty h0 h1 h2)⟩
theorem KeptL.block {w wr wx : World} {n : Nat} {c0 : Array Value} {t0 : TypeId} (h : KeptL w wr) (hN : wr.heap[n]? = some (.cells c0 t0 (0, 0))) (ht : t0 = 61 ∨ t0 = 65) (hg : wr.grownBy wx (some n)) : KeptL w wx :=
  ⟨Nat.le_trans h.1 hg.size, fun b cs ty h0 h1 h2 => by
    have h3 := h.2 b cs ty h0 h1 h2
    refine (hg.block b (lt_of_heap h3) (fun e => ?_)).trans h3
    injection e with e
    rw [e, hN] at h3; injection h3 with h3; injection h3 with _ h3
    rcases ht with rfl | rfl
    · exact h1 h3.symm
    · exact h2 h3.symm⟩
theorem KeptL.own {w wr wx : World} {V : Value} {e : TypeId} {sz k : Nat} {M : List Value} (h : KeptL w wr) (hV : wr.ownsRow w.heap.size e sz V k M) (hg : wr.grownBy wx V.ownBlock) : KeptL w wx :=
  ⟨Nat.le_trans h.1 hg.size, fun b cs ty h0 h1 h2 => by
    have h3 := h.2 b cs ty h0 h1 h2
    refine (hg.block b (lt_of_heap h3) (fun e => ?_)).trans h3
    have := own_base hV b e.symm
    have := lt_of_heap h0
    omega⟩
/-- Tick on its way. -/
structure TickS (w wr : World) (base r : Nat) (own peer view nw pushed told next : Int) (L : List Sd) (i : Nat) (A : Option Addr) (k c : Nat) (M : List Sd) : Prop where
  S : LkS wr base r own peer view nw pushed (toldL nw told i L) next (tickL nw i L)
  o : OutS wr w.heap.size own peer view (.slice A k c) k M
  K : KeptL w wr
  e : M.map Sd.key = (dueL nw i L).map Sd.key
  B : ∀ W, Below base W w → Below base W wr
section
variable {w wr wx : World} {base r : Nat} {own peer view nw pushed told next : Int} {L : List Sd} {i : Nat} {A : Option Addr} {k c : Nat} {M : List Sd}
theorem TickS.below (h : TickS w wr base r own peer view nw pushed told next L i A k c M) (hb : Below wr.heap.size wr wx) : TickS w wx base r own peer view nw pushed told next L i A k c M :=
  ⟨h.S.below hb, h.o.below hb, h.K.below hb, h.e, fun W hW => below_then (h.B W hW) h.S.bw hb⟩
theorem TickS.skip {p : Sd} (h : TickS w wr base r own peer view nw pushed told next L i A k c M) (hp : L[i]? = some p) (hd : due nw p = false) : TickS w wr base r own peer view nw pushed told next L (i + 1) A k c M := by
  have e1 : tick1 nw p = p := by unfold tick1; rw [if_neg (by rw [hd]; decide)]
  have e2 : tickL nw (i + 1) L = tickL nw i L := by
    rw [tickL_succ hp, e1]
    have := tickL_get (now := nw) hp
    apply List.ext_getElem?
    intro j
    by_cases hj : i = j
    · subst hj; rw [List.getElem?_set_self (List.getElem?_eq_some_iff.1 this).1, this]
    · rw [List.getElem?_set_ne hj]
  have e3 : toldL nw told (i + 1) L = toldL nw told i L := by rw [toldL_succ hp]; unfold told1; rw [if_neg (by rw [hd]; decide)]
  have e4 : dueL nw (i + 1) L = dueL nw i L := by rw [dueL_succ hp, if_neg (by rw [hd]; decide), List.append_nil]
  exact ⟨by rw [e2, e3]; exact h.S, h.o, h.K, by rw [e4]; exact h.e, h.B⟩
end
theorem row_block {w : World} {base g n c m : Nat} {e : TypeId} {sz : Nat} {xs : List Value} (h : w.ownsRow base e sz (.slice (some ⟨g, 0, none⟩) m c) n xs) : ∃ cs, w.heap[g]? = some (.cells cs e (0, 0)) := by
  rcases h.2 with ⟨h1, _⟩ | ⟨g', cap, cur, h1, _, hh, _⟩
  · cases h1
  · injection h1 with h1; injection h1 with h1; injection h1 with h1
    rw [h1]; exact ⟨cur, hh⟩
section
variable {w w' : World} {base r : Nat} {own peer view now pushed told next : Int} {L : List Sd}
theorem below_mono' {a b : Nat} {u u' : World} (h : Below b u u') (hab : a ≤ b) : Below a u u' := ⟨h.os, h.tape, h.output, h.size, fun k hk => h.block k (Nat.lt_of_lt_of_le hk hab)⟩
theorem touch_row {g c : Nat} {k : Nat} {p : Sd} {n' : Int} (hp : L[k]? = some p)
    (hc : w.heap[r]? = some (.cells (lkC own peer view now (.slice (some ⟨g, 0, none⟩) L.length c) pushed told next (.slice none 0 0)) 61 (0, 0))) (ho : w.ownsRow base 65 9 (.slice (some ⟨g, 0, none⟩) L.length c) L.length (sdCells own peer view L)) :
    ((w.setCell ⟨g, k * 9 + 7, none⟩ (.bool true)).setCell ⟨g, k * 9 + 8, none⟩ (.int .i64 n')).heap[r]? = some (.cells (lkC own peer view now (.slice (some ⟨g, 0, none⟩) L.length c) pushed told next (.slice none 0 0)) 61 (0, 0)) ∧ ((w.setCell ⟨g, k * 9 + 7, none⟩ (.bool true)).setCell ⟨g, k * 9 + 8, none⟩ (.int .i64 n')).ownsRow base 65 9 (.slice (some ⟨g, 0, none⟩) L.length c) L.length (sdCells own peer view (L.set k (p.touch n'))) := by
  have hg : w.grownBy ((w.setCell ⟨g, k * 9 + 7, none⟩ (.bool true)).setCell ⟨g, k * 9 + 8, none⟩ (.int .i64 n')) (some g) := World.grownBy.trans (grown_set _) (grown_set _)
  have o1 := (ho.stored (k * 9 + 7) (.bool true)).1
  have o2 := (o1.stored (k * 9 + 8) (.int .i64 n')).1
  have hrg : r ≠ g := fun e => by
    rcases own_ne hc ho (by decide) with h1 | h1
    · simp [Value.ownBlock] at h1
    · rw [e] at h1; exact h1 rfl
  exact ⟨(hg.block r (lt_of_heap hc) (fun e => hrg (by injection e))).trans hc, by rw [sd_set own peer view n' L k p hp]; exact o2⟩
theorem LkS.grown {V : Value} {b2 : Nat} {e : TypeId} {sz k : Nat} {M : List Value} (h : LkS w base r own peer view now pushed told next L) (hV : w.ownsRow b2 e sz V k M) (h1 : e ≠ 61) (h2 : e ≠ 65) (h3 : e ≠ 2) (hg : w.grownBy w' V.ownBlock) : LkS w' base r own peer view now pushed told next L := by
  obtain ⟨A, c, g1, g2⟩ := h.cl
  exact ⟨⟨A, c, (hg.block r (lt_of_heap g1) (own_ne' g1 hV h1)).trans g1, own_other g2 hg (own_type_ne g2 hV (fun e => h2 e.symm))⟩, fun p hp => own_other (h.bd p hp) hg (own_type_ne (h.bd p hp) hV (fun e => h3 e.symm)), h.br, Nat.le_trans h.bw hg.size⟩
theorem sd_read {p : Sd} (h : LkS w base r own peer view now pushed told next L) (hp : p ∈ L) : ReadsInt w .i64 p.A p.xs.length p.xs ∧ (p.A = none → p.c = 0) := by
  refine ⟨(own_info (h.bd p hp)).2.2.2.1, fun hA => ?_⟩
  rcases (h.bd p hp).2 with ⟨h1, _⟩ | ⟨_, _, _, h1, _⟩
  · unfold Sd.val at h1; injection h1
  · unfold Sd.val at h1; rw [hA] at h1; injection h1 with h1; cases h1
end
theorem tick_fin {w w3 w4 w5 : World} {base r : Nat} {own peer view nw pushed told next : Int} {L : List Sd} {i : Nat} {A A4 A5 : Option Addr} {k c c4 c5 : Nat} {M : List Sd} {p : Sd} (hp : L[i]? = some p) (hd : due nw p = true)
    (hS : LkS w3 base r own peer view nw pushed (toldL nw told (i + 1) L) next (tickL nw (i + 1) L)) (ho : OutS w3 w.heap.size own peer view (.slice A k c) k M) (hK : KeptL w w3) (he : M.map Sd.key = (dueL nw i L).map Sd.key) (hbw : base ≤ w.heap.size) (hB : ∀ W, Below base W w → Below base W w3) (hb4 : Below w3.heap.size w3 w4)
    (ho4 : w4.ownsRow w3.heap.size 2 1 (.slice A4 p.xs.length c4) p.xs.length (nums .i64 p.xs)) (ho5 : w5.ownsRow w.heap.size 32 7 (.slice A5 (k + 1) c5) (k + 1) (omCells own peer view M ++ [.int .i64 p.k, .int .i64 own, .int .i64 peer, .int .u32 view, .int .u32 p.s, .slice A4 p.xs.length c4, .slice none 0 0])) (hg5 : w4.grownBy w5 (Value.slice A k c).ownBlock) :
    TickS w w5 base r own peer view nw pushed told next L (i + 1) A5 (k + 1) c5 (M ++ [⟨p.k, p.s, A4, c4, p.xs, true, nw⟩]) := by
  have S4 := hS.below hb4
  have O4 := ho.below hb4
  have H4 := own_base_le ho4 hK.1
  refine ⟨S4.grown O4.o (by decide) (by decide) (by decide) hg5, ⟨?_, by simp [ho.l], ?_⟩, (hK.below hb4).own O4.o hg5, ?_, fun W hW => pw_below_grown (below_then (hB W hW) hS.bw hb4) _ S4.bw hg5 (fun b e => Nat.le_trans hbw (own_base O4.o b e))⟩
  · have e : omCells own peer view (M ++ [⟨p.k, p.s, A4, c4, p.xs, true, nw⟩]) = omCells own peer view M ++ [.int .i64 p.k, .int .i64 own, .int .i64 peer, .int .u32 view, .int .u32 p.s, .slice A4 p.xs.length c4, .slice none 0 0] := by simp [omCells, Sd.val]
    rw [e]; exact ho5
  · intro q hq
    rcases List.mem_append.1 hq with hq | hq
    · exact own_other (O4.b q hq) hg5 (own_type_ne (O4.b q hq) O4.o (by decide))
    · obtain rfl := List.mem_singleton.1 hq
      exact own_other H4 hg5 (own_type_ne H4 O4.o (by decide))
  · rw [dueL_succ hp, if_pos hd, List.map_append, List.map_append, he]; rfl
set_option maxRecDepth 100000 in
set_option maxHeartbeats 8000000 in
theorem tick_ok (base r : Nat) (own peer view now pushed told next : Int) (L : List Sd) (t : Int) (w : World) (hS : LkS w base r own peer view now pushed told next L) (hL : L.length ≤ 100000) (hn : 0 ≤ now ∧ now ≤ 1000000) (ht : 0 ≤ t ∧ t ≤ 1000000) (hat : ∀ p ∈ L, 0 ≤ p.at_ ∧ p.at_ ≤ 1000000) (hxs : ∀ p ∈ L, p.xs.length ≤ 500)
    (nw : Int) (hnw : nw = if now < t then t else now) (m : Nat) (hm : m = min L.length 32) :
    Calls Try.prog 11 #[.pointer (some ⟨r, 0, none⟩), .int .i64 t] w fun e w' => ∃ A k c M, e = .returned (.slice A k c) ∧ TickS w w' base r own peer view nw pushed told next L m A k c M := by
  have hnb : 0 ≤ nw ∧ nw ≤ 1000000 := by rw [hnw]; split <;> omega
  have hmx : (if now < t then t else now) = nw := hnw.symm
  have hml : m ≤ L.length := by omega
  have hmn : (if (32 : Int) < (L.length : Int) then 32 else (L.length : Int)) = (m : Int) := by split <;> omega
  obtain ⟨Al, cl, hc, ho⟩ := hS.cl
  have g3 := froz hc 3
  obtain ⟨l0, l1, l2, l3, l4, l5, l6, l7, l8⟩ := lkC_cells hc
  have T0 := Lib.hid (show TickS w (w.setCell ⟨r, 3, none⟩ (.int .i64 nw)) base r own peer view nw pushed told next L 0 none 0 0 [] from
    ⟨hS.upd (grown_set _) (fun A c g => by rw [heap_set _ g]; rfl), ⟨⟨rfl, .inl ⟨rfl, rfl⟩⟩, rfl, (fun p hp => by cases hp)⟩, (KeptL.refl w).block hc (.inl rfl) (grown_set _), rfl, fun W hW => bset' hW hS.br hS.bw⟩)
  have HAT := Lib.hid hat; have HXS := Lib.hid hxs; have HBW := Lib.hid hS.bw
  clear hS hc ho hat hxs hnw hm
  go_enter Try.func11, Try.ntmps11
  go_wp2_with fail
  clear hmx hmn g3 l0 l1 l2 l3 l4 l5 l6 l7 l8
  go_loopw [5, 23] (fun s5 s23 wr => ∃ (i : Nat) (A : Option Addr) (k c : Nat) (M : List Sd), i ≤ m ∧ s23 = .int .i64 i ∧ s5 = .slice A k c ∧ Aside0 (TickS w wr base r own peer view nw pushed told next L i A k c M)) (fun _ s23 _ => m - (intOf s23).toNat)
  case atStart => exact ⟨0, none, 0, 0, [], Nat.zero_le _, rfl, rfl, ⟨T0.out⟩⟩
  case round =>
    obtain ⟨i, A, k, c, M, hi, rfl, rfl, HK⟩ := hrel
    by_cases hlt : i < m
    · have T1 := Lib.hid HK.out
      obtain ⟨p, hp⟩ : ∃ p, L[i]? = some p := ⟨L[i], List.getElem?_eq_getElem (by omega)⟩
      have hpm := List.mem_of_getElem? hp
      have hp1 := HAT.out p hpm
      have hp2 := HXS.out p hpm
      obtain ⟨Ar, cr, hc, ho⟩ := T1.out.S.cl
      have hpt := tickL_get (now := nw) hp
      have hl2 := tickL_len nw i L
      obtain ⟨g, cap, e, hgb, hgl⟩ := ho.form (by rw [hl2]; omega)
      injection e with e1 e2 e3
      subst e1 e3
      have x0 := ho.cells (g := g) rfl (i * 9 + 0) (.int .i64 p.k) (by rw [sd_get own peer view _ i p hpt 0 (by decide)]; rfl)
      have x1 := ho.cells (g := g) rfl (i * 9 + 1) (.int .i64 own) (by rw [sd_get own peer view _ i p hpt 1 (by decide)]; rfl)
      have x2 := ho.cells (g := g) rfl (i * 9 + 2) (.int .i64 peer) (by rw [sd_get own peer view _ i p hpt 2 (by decide)]; rfl)
      have x3 := ho.cells (g := g) rfl (i * 9 + 3) (.int .u32 view) (by rw [sd_get own peer view _ i p hpt 3 (by decide)]; rfl)
      have x4 := ho.cells (g := g) rfl (i * 9 + 4) (.int .u32 p.s) (by rw [sd_get own peer view _ i p hpt 4 (by decide)]; rfl)
      have x5 := ho.cells (g := g) rfl (i * 9 + 5) p.val (by rw [sd_get own peer view _ i p hpt 5 (by decide)]; rfl)
      have x6 := ho.cells (g := g) rfl (i * 9 + 6) (.slice none 0 0) (by rw [sd_get own peer view _ i p hpt 6 (by decide)]; rfl)
      have x7 := ho.cells (g := g) rfl (i * 9 + 7) (.bool p.sent) (by rw [sd_get own peer view _ i p hpt 7 (by decide)]; rfl)
      have x8 := ho.cells (g := g) rfl (i * 9 + 8) (.int .i64 p.at_) (by rw [sd_get own peer view _ i p hpt 8 (by decide)]; rfl)
      rw [add_plain] at x0 x1 x2 x3 x4 x5 x6 x7 x8
      rw [Nat.add_zero] at x0
      rw [hl2] at hc ho
      have HP := Lib.hid (And.intro hp hpt); have HC := Lib.hid hc; have HO := Lib.hid ho
      obtain ⟨l0, l1, l2, l3, l4, l5, l6, l7, l8⟩ := lkC_cells hc
      have hi1 : (0 : Int) ≤ (i : Int) := Int.natCast_nonneg _
      have hi2 : (i : Int) < (L.length : Int) := by omega
      have hi3 : i < L.length := by omega
      have hw8 : IntKind.i64.wrap (nw - p.at_) = nw - p.at_ := by rw [IntKind.wrap_i64]; omega
      clear hp hpt hpm hc ho e2 hl2 l0 l1 l2 l5 l7 l8
      cases hs : p.sent with
      | true =>
        rw [hs] at x7
        by_cases h8 : nw - p.at_ < 8
        · have HD := Lib.hid (show due nw p = false by unfold due; rw [hs, decide_eq_true h8]; rfl)
          go_wp2_with fail
          go_quiet (fail)
          go_wp2_with fail
          go_roundw
          case rel => exact ⟨i + 1, A, k, c, M, by omega, by go_num, rfl, ⟨(T1.out.below (pw_below_drewN (Below.refl _ _) _)).skip HP.out.1 HD.out⟩⟩
          case measure => simp [intOf]; omega
        · have HD := Lib.hid (show due nw p = true by unfold due; rw [hs, decide_eq_false h8]; rfl)
          obtain ⟨csg, hcg⟩ := row_block HO.out
          have f7 := froz hcg (i * 9 + 7)
          have f8 := froz hcg (i * 9 + 8)
          go_wp2_with fail
          go_quiet (fail)
          go_wp2_with fail
          obtain ⟨wd, hwd⟩ : ∃ wd, wd = wr.drewN nq := ⟨_, rfl⟩
          have hbd : Below wr.heap.size wr wd := by rw [hwd]; exact pw_below_drewN (Below.refl _ _) _
          have Td := T1.out.below hbd
          have hcd := heap_keep' hbd HC.out
          have hod := pw_own_below HO.out hbd
          have hcgd := heap_keep' hbd hcg
          obtain ⟨w2, hw2⟩ : ∃ w2, w2 = (wd.setCell ⟨g, i * 9 + 7, none⟩ (.bool true)).setCell ⟨g, i * 9 + 8, none⟩ (.int .i64 nw) := ⟨_, rfl⟩
          have hg2 : wd.grownBy w2 (some g) := by rw [hw2]; exact World.grownBy.trans (grown_set _) (grown_set _)
          have hlt2 := tickL_len nw i L
          have S2 := Td.S.touch (n' := nw) HP.out.2 (by rw [hlt2]; exact hcd) (by rw [hlt2]; exact hod)
          have R2 := touch_row (n' := nw) HP.out.2 (by rw [hlt2]; exact hcd) (by rw [hlt2]; exact hod)
          rw [← hw2] at S2 R2
          have O2 := Lib.hid (Td.o.other hcgd (by decide) (by decide) hg2)
          have htick : (tickL nw i L).set i (p.touch nw) = tickL nw (i + 1) L := by rw [tickL_succ HP.out.1]; unfold tick1; rw [if_pos HD.out]
          have hpt : (tickL nw (i + 1) L)[i]? = some (p.touch nw) := by rw [← htick, List.getElem?_set_self (by rw [hlt2]; omega)]
          have S2' := Lib.hid (show LkS w2 base r own peer view nw pushed (toldL nw told i L) next (tickL nw (i + 1) L) by rw [← htick]; exact S2.1)
          have B2 := Lib.hid (fun W (hW : Below base W w) => S2.2 W (Td.B W hW))
          have HC2 := Lib.hid R2.1
          have HO2 := Lib.hid (show w2.ownsRow base 65 9 (.slice (some ⟨g, 0, none⟩) (tickL nw i L).length cr) (tickL nw i L).length (sdCells own peer view (tickL nw (i + 1) L)) by rw [← htick]; exact R2.2)
          have HPT := Lib.hid hpt
          have HW2 := Lib.hid hw2.symm; have HWD := Lib.hid hwd.symm
          have HE1 := Lib.hid T1.out.e
          have K2 := Lib.hid (Td.K.block hcgd (.inr rfl) hg2)
          clear hbd Td hcd hod hcgd hg2 S2 R2 htick hwd hw2 hcg f7 f8 x0 x1 x2 x3 x4 x5 x6 x7 x8 l3 l4 l6 HK
          rw [HWD.out, HW2.out]
          obtain ⟨T, hT⟩ : ∃ T, T = toldL nw told i L := ⟨_, rfl⟩
          rw [← hT] at S2' HC2
          obtain ⟨l0, l1, l2, l3, l4, l5, l6, l7, l8⟩ := lkC_cells HC2.out
          have f6 := froz HC2.out 6
          have x4 := HO2.out.cells (g := g) rfl (i * 9 + 4) (.int .u32 p.s) (by rw [sd_get own peer view _ i (p.touch nw) hpt 4 (by decide)]; rfl)
          rw [add_plain] at x4
          obtain ⟨T2, hT2⟩ : ∃ T2, T2 = toldL nw told (i + 1) L := ⟨_, rfl⟩
          have hmt : (if T < p.s then p.s else T) = T2 := by
            rw [hT2, toldL_succ HP.out.1, ← hT]; unfold told1; rw [if_pos HD.out, Int.max_def]; split <;> split <;> omega
          have HT2 := Lib.hid hT2
          clear l0 l1 l2 l3 l4 l5 l7 l8 hT hT2
          refine start_ (n := 14) (S := fun w' => w'.cell? ⟨r, 6, none⟩ = some (.int .u32 T) ∧ w'.cell? ⟨g, i * 9 + 4, none⟩ = some (.int .u32 p.s)) (ds := [13]) #[false, false, false, false, false, false, false, false, false, false, false, false, false, false] (by kernel_rfl) rfl rfl (⟨l6, x4⟩) (fun hHeld => ?_)
          refine pure_ (i := 0) (N := some 58) (v := ?_) (a' := ?_) #[true, false, false, false, false, false, false, false, false, false, false, false, false, false] rfl rfl (by kernel_rfl) (fun _ _ _ h => h) (Or.inl ⟨by rfl, ?_⟩) ?_ ?_
          rotate_left
          · intro w'
            go_simp
            (try with_reducible rfl)
          rotate_left
          · simp only [Act.put, List.setIfInBounds_toArray, List.set_cons_zero, List.set_cons_succ]
            rfl
          refine pure_ (i := 1) (N := some 59) (v := ?_) (a' := ?_) #[true, true, false, false, false, false, false, false, false, false, false, false, false, false] rfl rfl (by kernel_rfl) (fun _ _ _ h => h) (Or.inl ⟨by rfl, ?_⟩) ?_ ?_
          rotate_left
          · intro w'
            go_simp
            (try with_reducible rfl)
          rotate_left
          · simp only [Act.put, List.setIfInBounds_toArray, List.set_cons_zero, List.set_cons_succ]
            rfl
          refine pure_ (i := 2) (N := some 60) (v := ?_) (a' := ?_) #[true, true, true, false, false, false, false, false, false, false, false, false, false, false] rfl rfl (by kernel_rfl) (fun _ _ _ h => h) (Or.inl ⟨by rfl, ?_⟩) ?_ ?_
          rotate_left
          · intro w'
            go_simp
            (try with_reducible rfl)
          rotate_left
          · simp only [Act.put, List.setIfInBounds_toArray, List.set_cons_zero, List.set_cons_succ]
            rfl
          refine pure_ (i := 3) (N := some 61) (v := ?_) (a' := ?_) #[true, true, true, true, false, false, false, false, false, false, false, false, false, false] rfl rfl (by kernel_rfl) (fun _ _ _ h => h) (Or.inl ⟨by rfl, ?_⟩) ?_ ?_
          rotate_left
          · intro w'
            go_simp
            (try with_reducible rfl)
          rotate_left
          · simp only [Act.put, List.setIfInBounds_toArray, List.set_cons_zero, List.set_cons_succ]
            rfl
          refine take_ (i := 4) (N := some 62) (v := ?_) (a' := ?_) #[true, true, true, true, true, false, false, false, false, false, false, false, false, false] rfl rfl (by kernel_rfl) (fun _ _ _ h => h) (Or.inl ⟨by rfl, ?_⟩) hHeld ?_ ?_
          rotate_left
          · rintro w' ⟨s0, s1⟩
            go_simp
            (try with_reducible rfl)
          rotate_left
          · simp only [Act.put, List.setIfInBounds_toArray, List.set_cons_zero, List.set_cons_succ]
            rfl
          refine pure_ (i := 5) (N := some 63) (v := ?_) (a' := ?_) #[true, true, true, true, true, true, false, false, false, false, false, false, false, false] rfl rfl (by kernel_rfl) (fun _ _ _ h => h) (Or.inl ⟨by rfl, ?_⟩) ?_ ?_
          rotate_left
          · intro w'
            go_simp
            (try with_reducible rfl)
          rotate_left
          · simp only [Act.put, List.setIfInBounds_toArray, List.set_cons_zero, List.set_cons_succ]
            rfl
          refine pure_ (i := 6) (N := some 64) (v := ?_) (a' := ?_) #[true, true, true, true, true, true, true, false, false, false, false, false, false, false] rfl rfl (by kernel_rfl) (fun _ _ _ h => h) (Or.inl ⟨by rfl, ?_⟩) ?_ ?_
          rotate_left
          · intro w'
            go_simp
            (try with_reducible rfl)
          rotate_left
          · simp only [Act.put, List.setIfInBounds_toArray, List.set_cons_zero, List.set_cons_succ]
            rfl
          refine pure_ (i := 7) (N := some 65) (v := ?_) (a' := ?_) #[true, true, true, true, true, true, true, true, false, false, false, false, false, false] rfl rfl (by kernel_rfl) (fun _ _ _ h => h) (Or.inl ⟨by rfl, ?_⟩) ?_ ?_
          rotate_left
          · intro w'
            go_simp
            (try with_reducible rfl)
          rotate_left
          · simp only [Act.put, List.setIfInBounds_toArray, List.set_cons_zero, List.set_cons_succ]
            rfl
          refine pure_ (i := 8) (N := some 66) (v := ?_) (a' := ?_) #[true, true, true, true, true, true, true, true, true, false, false, false, false, false] rfl rfl (by kernel_rfl) (fun _ _ _ h => h) (Or.inl ⟨by rfl, ?_⟩) ?_ ?_
          rotate_left
          · intro w'
            go_simp
            (try with_reducible rfl)
          rotate_left
          · simp only [Act.put, List.setIfInBounds_toArray, List.set_cons_zero, List.set_cons_succ]
            rfl
          refine take_ (i := 9) (N := some 67) (v := ?_) (a' := ?_) #[true, true, true, true, true, true, true, true, true, true, false, false, false, false] rfl rfl (by kernel_rfl) (fun _ _ _ h => h) (Or.inl ⟨by rfl, ?_⟩) hHeld ?_ ?_
          rotate_left
          · rintro w' ⟨s0, s1⟩
            go_simp
            (try with_reducible rfl)
          rotate_left
          · simp only [Act.put, List.setIfInBounds_toArray, List.set_cons_zero, List.set_cons_succ]
            rfl
          refine pure_ (i := 10) (N := some 68) (v := ?_) (a' := ?_) #[true, true, true, true, true, true, true, true, true, true, true, false, false, false] rfl rfl (by kernel_rfl) (fun _ _ _ h => h) (Or.inl ⟨by rfl, ?_⟩) ?_ ?_
          rotate_left
          · intro w'
            go_simp
            (try with_reducible rfl)
          rotate_left
          · simp only [Act.put, List.setIfInBounds_toArray, List.set_cons_zero, List.set_cons_succ]
            rfl
          refine pure_ (i := 11) (N := some 69) (v := ?_) (a' := ?_) #[true, true, true, true, true, true, true, true, true, true, true, true, false, false] rfl rfl (by kernel_rfl) (fun _ _ _ h => h) (Or.inl ⟨by rfl, ?_⟩) ?_ ?_
          rotate_left
          · intro w'
            go_simp
            (try with_reducible rfl)
          rotate_left
          · simp only [Act.put, List.setIfInBounds_toArray, List.set_cons_zero, List.set_cons_succ]
            rfl
          refine pure_ (i := 12) (N := some 70) (v := ?_) (a' := ?_) #[true, true, true, true, true, true, true, true, true, true, true, true, true, false] rfl rfl (by kernel_rfl) (fun _ _ _ h => h) (Or.inl ⟨by rfl, ?_⟩) ?_ ?_
          rotate_left
          · intro w'
            go_simp
            (try with_reducible rfl)
          rotate_left
          · simp only [Act.put, List.setIfInBounds_toArray, List.set_cons_zero, List.set_cons_succ]
            rfl
          refine last_ (i := 13) (N := none) #[true, true, true, true, true, true, true, true, true, true, true, true, true, true] rfl rfl (by kernel_rfl) (by decide) (fun K hK => ?_)
          go_simp
          refine hK.out _ _ ?_
          (try clear hHeld)
          clear hK K
          try simp only [Act.put, List.setIfInBounds_toArray, List.set_cons_zero, List.set_cons_succ]
          refine wpAnyLast_done (by kernel_rfl) ?_ _
          obtain ⟨w3, hw3⟩ : ∃ w3, w3 = (w2.setCell ⟨r, 6, none⟩ (.int .u32 T2)).drew := ⟨_, rfl⟩
          have hg3' : w2.grownBy (w2.setCell ⟨r, 6, none⟩ (.int .u32 T2)) (some r) := grown_set _
          have hb3 : Below (w2.setCell ⟨r, 6, none⟩ (.int .u32 T2)).heap.size (w2.setCell ⟨r, 6, none⟩ (.int .u32 T2)) w3 := by rw [hw3]; exact below_drew (Below.refl _ _)
          have S3 := Lib.hid (show LkS w3 base r own peer view nw pushed (toldL nw told (i + 1) L) next (tickL nw (i + 1) L) by
            rw [← HT2.out]
            exact (S2'.out.upd (told' := T2) hg3' (fun A c g => by rw [heap_set _ g]; rfl)).below hb3)
          have O3 := Lib.hid ((O2.out.other HC2.out (by decide) (by decide) hg3').below hb3)
          have HO3 := Lib.hid (pw_own_below (own_other HO2.out hg3' (own_ne HC2.out HO2.out (by decide))) hb3)
          have K3 := Lib.hid ((K2.out.block HC2.out (.inl rfl) hg3').below hb3)
          have B3 := Lib.hid (fun W (hW : Below base W w) => below_then (bset' (B2.out W hW) S2'.out.br S2'.out.bw) (Nat.le_trans S2'.out.bw hg3'.size) hb3)
          have hw3d : w2.drew.setCell ⟨r, 6, none⟩ (.int .u32 T2) = w3 := by rw [hw3]; rfl
          have HW3 := Lib.hid hw3.symm; have HW3D := Lib.hid hw3d
          clear hg3' hb3 hw3 hw3d l6 f6 x4 hmt K2 O2 S2' B2 HC2 HO2
          have ho := HO3.out
          have x0 := ho.cells (g := g) rfl (i * 9 + 0) (.int .i64 p.k) (by rw [sd_get own peer view _ i (p.touch nw) hpt 0 (by decide)]; rfl)
          have x1 := ho.cells (g := g) rfl (i * 9 + 1) (.int .i64 own) (by rw [sd_get own peer view _ i (p.touch nw) hpt 1 (by decide)]; rfl)
          have x2 := ho.cells (g := g) rfl (i * 9 + 2) (.int .i64 peer) (by rw [sd_get own peer view _ i (p.touch nw) hpt 2 (by decide)]; rfl)
          have x3 := ho.cells (g := g) rfl (i * 9 + 3) (.int .u32 view) (by rw [sd_get own peer view _ i (p.touch nw) hpt 3 (by decide)]; rfl)
          have x4 := ho.cells (g := g) rfl (i * 9 + 4) (.int .u32 p.s) (by rw [sd_get own peer view _ i (p.touch nw) hpt 4 (by decide)]; rfl)
          have x5 := ho.cells (g := g) rfl (i * 9 + 5) (.slice p.A p.xs.length p.c) (by rw [sd_get own peer view _ i (p.touch nw) hpt 5 (by decide)]; rfl)
          have x6 := ho.cells (g := g) rfl (i * 9 + 6) (.slice none 0 0) (by rw [sd_get own peer view _ i (p.touch nw) hpt 6 (by decide)]; rfl)
          rw [add_plain] at x0 x1 x2 x3 x4 x5 x6
          rw [Nat.add_zero] at x0
          have hrdp := sd_read S3.out (p := p.touch nw) (List.mem_of_getElem? hpt)
          have CC := Lib.hid (copied_walk p.k own peer view p.s p.A p.xs.length p.c p.xs w3 hrdp.1 (by omega) hrdp.2)
          have HPT := Lib.hid hpt
          clear ho hrdp hpt
          (first | rw [HW3.out] | rw [HW3D.out] | (go_simp; rw [HW3.out]))
          go_wp2_with fail
          refine CC.out.mono ?_
          rintro e w4 ⟨A4, c4, rfl, ho4, hb4⟩
          have H4 := Lib.hid ho4; have B4 := Lib.hid hb4
          have O4 := Lib.hid (O3.out.below hb4)
          have hbw4 : w.heap.size ≤ w4.heap.size := Nat.le_trans K3.out.1 hb4.size
          have hkk : k ≤ 1000000 := by have h1 := O3.out.l; have h2 := congrArg List.length HE1.out; simp [dueL] at h2; have h3 := List.length_filter_le (due nw) (L.take i); simp at h3; omega
          have HBW4 := Lib.hid hbw4; have HKK := Lib.hid hkk
          clear ho4 hb4 x0 x1 x2 x3 x4 x5 x6 hbw4 hkk
          go_wp2_with (first | (at_builtin; refine app_cells7 (w0 := w4) w.heap.size rfl (.tmp 71) (.tmp 77) 33 32 rfl Try.underlying33 (by kernel_rfl) (.slice A k c) (omCells own peer view M) [.int .i64 p.k, .int .i64 own, .int .i64 peer, .int .u32 view, .int .u32 p.s, .slice A4 p.xs.length c4, .slice none 0 0] k rfl (by intro u hu; simp only [List.mem_cons, List.not_mem_nil, or_false] at hu; rcases hu with rfl | rfl | rfl | rfl | rfl | rfl | rfl <;> rfl) rfl rfl O4.out.o (below_mono' (Below.refl _ _) HBW4.out) HBW4.out HKK.out ?_; intro A5 c5 w5 ho5 hb5 hg5; have H5 := Lib.hid (And.intro ho5 hg5); clear ho5 hb5 hg5))
          go_roundw
          case rel =>
            exact ⟨i + 1, A5, k + 1, c5, M ++ [⟨p.k, p.s, A4, c4, p.xs, true, nw⟩], by omega, by go_num, rfl, ⟨tick_fin HP.out.1 HD.out S3.out O3.out K3.out HE1.out HBW.out B3.out B4.out H4.out H5.out.1 H5.out.2⟩⟩
          case measure => simp [intOf]; omega
      | false =>
        rw [hs] at x7
        have HD := Lib.hid (show due nw p = true by unfold due; rw [hs]; rfl)
        obtain ⟨csg, hcg⟩ := row_block HO.out
        have f7 := froz hcg (i * 9 + 7)
        have f8 := froz hcg (i * 9 + 8)
        go_wp2_with fail
        go_quiet (fail)
        go_wp2_with fail
        obtain ⟨wd, hwd⟩ : ∃ wd, wd = wr.drewN nq := ⟨_, rfl⟩
        have hbd : Below wr.heap.size wr wd := by rw [hwd]; exact pw_below_drewN (Below.refl _ _) _
        have Td := T1.out.below hbd
        have hcd := heap_keep' hbd HC.out
        have hod := pw_own_below HO.out hbd
        have hcgd := heap_keep' hbd hcg
        obtain ⟨w2, hw2⟩ : ∃ w2, w2 = (wd.setCell ⟨g, i * 9 + 7, none⟩ (.bool true)).setCell ⟨g, i * 9 + 8, none⟩ (.int .i64 nw) := ⟨_, rfl⟩
        have hg2 : wd.grownBy w2 (some g) := by rw [hw2]; exact World.grownBy.trans (grown_set _) (grown_set _)
        have hlt2 := tickL_len nw i L
        have S2 := Td.S.touch (n' := nw) HP.out.2 (by rw [hlt2]; exact hcd) (by rw [hlt2]; exact hod)
        have R2 := touch_row (n' := nw) HP.out.2 (by rw [hlt2]; exact hcd) (by rw [hlt2]; exact hod)
        rw [← hw2] at S2 R2
        have O2 := Lib.hid (Td.o.other hcgd (by decide) (by decide) hg2)
        have htick : (tickL nw i L).set i (p.touch nw) = tickL nw (i + 1) L := by rw [tickL_succ HP.out.1]; unfold tick1; rw [if_pos HD.out]
        have hpt : (tickL nw (i + 1) L)[i]? = some (p.touch nw) := by rw [← htick, List.getElem?_set_self (by rw [hlt2]; omega)]
        have S2' := Lib.hid (show LkS w2 base r own peer view nw pushed (toldL nw told i L) next (tickL nw (i + 1) L) by rw [← htick]; exact S2.1)
        have B2 := Lib.hid (fun W (hW : Below base W w) => S2.2 W (Td.B W hW))
        have HC2 := Lib.hid R2.1
        have HO2 := Lib.hid (show w2.ownsRow base 65 9 (.slice (some ⟨g, 0, none⟩) (tickL nw i L).length cr) (tickL nw i L).length (sdCells own peer view (tickL nw (i + 1) L)) by rw [← htick]; exact R2.2)
        have HPT := Lib.hid hpt
        have HW2 := Lib.hid hw2.symm; have HWD := Lib.hid hwd.symm
        have HE1 := Lib.hid T1.out.e
        have K2 := Lib.hid (Td.K.block hcgd (.inr rfl) hg2)
        clear hbd Td hcd hod hcgd hg2 S2 R2 htick hwd hw2 hcg f7 f8 x0 x1 x2 x3 x4 x5 x6 x7 x8 l3 l4 l6 HK
        rw [HWD.out, HW2.out]
        obtain ⟨T, hT⟩ : ∃ T, T = toldL nw told i L := ⟨_, rfl⟩
        rw [← hT] at S2' HC2
        obtain ⟨l0, l1, l2, l3, l4, l5, l6, l7, l8⟩ := lkC_cells HC2.out
        have f6 := froz HC2.out 6
        have x4 := HO2.out.cells (g := g) rfl (i * 9 + 4) (.int .u32 p.s) (by rw [sd_get own peer view _ i (p.touch nw) hpt 4 (by decide)]; rfl)
        rw [add_plain] at x4
        obtain ⟨T2, hT2⟩ : ∃ T2, T2 = toldL nw told (i + 1) L := ⟨_, rfl⟩
        have hmt : (if T < p.s then p.s else T) = T2 := by
          rw [hT2, toldL_succ HP.out.1, ← hT]; unfold told1; rw [if_pos HD.out, Int.max_def]; split <;> split <;> omega
        have HT2 := Lib.hid hT2
        clear l0 l1 l2 l3 l4 l5 l7 l8 hT hT2
        refine start_ (n := 14) (S := fun w' => w'.cell? ⟨r, 6, none⟩ = some (.int .u32 T) ∧ w'.cell? ⟨g, i * 9 + 4, none⟩ = some (.int .u32 p.s)) (ds := [13]) #[false, false, false, false, false, false, false, false, false, false, false, false, false, false] (by kernel_rfl) rfl rfl (⟨l6, x4⟩) (fun hHeld => ?_)
        refine pure_ (i := 0) (N := some 58) (v := ?_) (a' := ?_) #[true, false, false, false, false, false, false, false, false, false, false, false, false, false] rfl rfl (by kernel_rfl) (fun _ _ _ h => h) (Or.inl ⟨by rfl, ?_⟩) ?_ ?_
        rotate_left
        · intro w'
          go_simp
          (try with_reducible rfl)
        rotate_left
        · simp only [Act.put, List.setIfInBounds_toArray, List.set_cons_zero, List.set_cons_succ]
          rfl
        refine pure_ (i := 1) (N := some 59) (v := ?_) (a' := ?_) #[true, true, false, false, false, false, false, false, false, false, false, false, false, false] rfl rfl (by kernel_rfl) (fun _ _ _ h => h) (Or.inl ⟨by rfl, ?_⟩) ?_ ?_
        rotate_left
        · intro w'
          go_simp
          (try with_reducible rfl)
        rotate_left
        · simp only [Act.put, List.setIfInBounds_toArray, List.set_cons_zero, List.set_cons_succ]
          rfl
        refine pure_ (i := 2) (N := some 60) (v := ?_) (a' := ?_) #[true, true, true, false, false, false, false, false, false, false, false, false, false, false] rfl rfl (by kernel_rfl) (fun _ _ _ h => h) (Or.inl ⟨by rfl, ?_⟩) ?_ ?_
        rotate_left
        · intro w'
          go_simp
          (try with_reducible rfl)
        rotate_left
        · simp only [Act.put, List.setIfInBounds_toArray, List.set_cons_zero, List.set_cons_succ]
          rfl
        refine pure_ (i := 3) (N := some 61) (v := ?_) (a' := ?_) #[true, true, true, true, false, false, false, false, false, false, false, false, false, false] rfl rfl (by kernel_rfl) (fun _ _ _ h => h) (Or.inl ⟨by rfl, ?_⟩) ?_ ?_
        rotate_left
        · intro w'
          go_simp
          (try with_reducible rfl)
        rotate_left
        · simp only [Act.put, List.setIfInBounds_toArray, List.set_cons_zero, List.set_cons_succ]
          rfl
        refine take_ (i := 4) (N := some 62) (v := ?_) (a' := ?_) #[true, true, true, true, true, false, false, false, false, false, false, false, false, false] rfl rfl (by kernel_rfl) (fun _ _ _ h => h) (Or.inl ⟨by rfl, ?_⟩) hHeld ?_ ?_
        rotate_left
        · rintro w' ⟨s0, s1⟩
          go_simp
          (try with_reducible rfl)
        rotate_left
        · simp only [Act.put, List.setIfInBounds_toArray, List.set_cons_zero, List.set_cons_succ]
          rfl
        refine pure_ (i := 5) (N := some 63) (v := ?_) (a' := ?_) #[true, true, true, true, true, true, false, false, false, false, false, false, false, false] rfl rfl (by kernel_rfl) (fun _ _ _ h => h) (Or.inl ⟨by rfl, ?_⟩) ?_ ?_
        rotate_left
        · intro w'
          go_simp
          (try with_reducible rfl)
        rotate_left
        · simp only [Act.put, List.setIfInBounds_toArray, List.set_cons_zero, List.set_cons_succ]
          rfl
        refine pure_ (i := 6) (N := some 64) (v := ?_) (a' := ?_) #[true, true, true, true, true, true, true, false, false, false, false, false, false, false] rfl rfl (by kernel_rfl) (fun _ _ _ h => h) (Or.inl ⟨by rfl, ?_⟩) ?_ ?_
        rotate_left
        · intro w'
          go_simp
          (try with_reducible rfl)
        rotate_left
        · simp only [Act.put, List.setIfInBounds_toArray, List.set_cons_zero, List.set_cons_succ]
          rfl
        refine pure_ (i := 7) (N := some 65) (v := ?_) (a' := ?_) #[true, true, true, true, true, true, true, true, false, false, false, false, false, false] rfl rfl (by kernel_rfl) (fun _ _ _ h => h) (Or.inl ⟨by rfl, ?_⟩) ?_ ?_
        rotate_left
        · intro w'
          go_simp
          (try with_reducible rfl)
        rotate_left
        · simp only [Act.put, List.setIfInBounds_toArray, List.set_cons_zero, List.set_cons_succ]
          rfl
        refine pure_ (i := 8) (N := some 66) (v := ?_) (a' := ?_) #[true, true, true, true, true, true, true, true, true, false, false, false, false, false] rfl rfl (by kernel_rfl) (fun _ _ _ h => h) (Or.inl ⟨by rfl, ?_⟩) ?_ ?_
        rotate_left
        · intro w'
          go_simp
          (try with_reducible rfl)
        rotate_left
        · simp only [Act.put, List.setIfInBounds_toArray, List.set_cons_zero, List.set_cons_succ]
          rfl
        refine take_ (i := 9) (N := some 67) (v := ?_) (a' := ?_) #[true, true, true, true, true, true, true, true, true, true, false, false, false, false] rfl rfl (by kernel_rfl) (fun _ _ _ h => h) (Or.inl ⟨by rfl, ?_⟩) hHeld ?_ ?_
        rotate_left
        · rintro w' ⟨s0, s1⟩
          go_simp
          (try with_reducible rfl)
        rotate_left
        · simp only [Act.put, List.setIfInBounds_toArray, List.set_cons_zero, List.set_cons_succ]
          rfl
        refine pure_ (i := 10) (N := some 68) (v := ?_) (a' := ?_) #[true, true, true, true, true, true, true, true, true, true, true, false, false, false] rfl rfl (by kernel_rfl) (fun _ _ _ h => h) (Or.inl ⟨by rfl, ?_⟩) ?_ ?_
        rotate_left
        · intro w'
          go_simp
          (try with_reducible rfl)
        rotate_left
        · simp only [Act.put, List.setIfInBounds_toArray, List.set_cons_zero, List.set_cons_succ]
          rfl
        refine pure_ (i := 11) (N := some 69) (v := ?_) (a' := ?_) #[true, true, true, true, true, true, true, true, true, true, true, true, false, false] rfl rfl (by kernel_rfl) (fun _ _ _ h => h) (Or.inl ⟨by rfl, ?_⟩) ?_ ?_
        rotate_left
        · intro w'
          go_simp
          (try with_reducible rfl)
        rotate_left
        · simp only [Act.put, List.setIfInBounds_toArray, List.set_cons_zero, List.set_cons_succ]
          rfl
        refine pure_ (i := 12) (N := some 70) (v := ?_) (a' := ?_) #[true, true, true, true, true, true, true, true, true, true, true, true, true, false] rfl rfl (by kernel_rfl) (fun _ _ _ h => h) (Or.inl ⟨by rfl, ?_⟩) ?_ ?_
        rotate_left
        · intro w'
          go_simp
          (try with_reducible rfl)
        rotate_left
        · simp only [Act.put, List.setIfInBounds_toArray, List.set_cons_zero, List.set_cons_succ]
          rfl
        refine last_ (i := 13) (N := none) #[true, true, true, true, true, true, true, true, true, true, true, true, true, true] rfl rfl (by kernel_rfl) (by decide) (fun K hK => ?_)
        go_simp
        refine hK.out _ _ ?_
        (try clear hHeld)
        clear hK K
        try simp only [Act.put, List.setIfInBounds_toArray, List.set_cons_zero, List.set_cons_succ]
        refine wpAnyLast_done (by kernel_rfl) ?_ _
        obtain ⟨w3, hw3⟩ : ∃ w3, w3 = (w2.setCell ⟨r, 6, none⟩ (.int .u32 T2)).drew := ⟨_, rfl⟩
        have hg3' : w2.grownBy (w2.setCell ⟨r, 6, none⟩ (.int .u32 T2)) (some r) := grown_set _
        have hb3 : Below (w2.setCell ⟨r, 6, none⟩ (.int .u32 T2)).heap.size (w2.setCell ⟨r, 6, none⟩ (.int .u32 T2)) w3 := by rw [hw3]; exact below_drew (Below.refl _ _)
        have S3 := Lib.hid (show LkS w3 base r own peer view nw pushed (toldL nw told (i + 1) L) next (tickL nw (i + 1) L) by
          rw [← HT2.out]
          exact (S2'.out.upd (told' := T2) hg3' (fun A c g => by rw [heap_set _ g]; rfl)).below hb3)
        have O3 := Lib.hid ((O2.out.other HC2.out (by decide) (by decide) hg3').below hb3)
        have HO3 := Lib.hid (pw_own_below (own_other HO2.out hg3' (own_ne HC2.out HO2.out (by decide))) hb3)
        have K3 := Lib.hid ((K2.out.block HC2.out (.inl rfl) hg3').below hb3)
        have B3 := Lib.hid (fun W (hW : Below base W w) => below_then (bset' (B2.out W hW) S2'.out.br S2'.out.bw) (Nat.le_trans S2'.out.bw hg3'.size) hb3)
        have hw3d : w2.drew.setCell ⟨r, 6, none⟩ (.int .u32 T2) = w3 := by rw [hw3]; rfl
        have HW3 := Lib.hid hw3.symm; have HW3D := Lib.hid hw3d
        clear hg3' hb3 hw3 hw3d l6 f6 x4 hmt K2 O2 S2' B2 HC2 HO2
        have ho := HO3.out
        have x0 := ho.cells (g := g) rfl (i * 9 + 0) (.int .i64 p.k) (by rw [sd_get own peer view _ i (p.touch nw) hpt 0 (by decide)]; rfl)
        have x1 := ho.cells (g := g) rfl (i * 9 + 1) (.int .i64 own) (by rw [sd_get own peer view _ i (p.touch nw) hpt 1 (by decide)]; rfl)
        have x2 := ho.cells (g := g) rfl (i * 9 + 2) (.int .i64 peer) (by rw [sd_get own peer view _ i (p.touch nw) hpt 2 (by decide)]; rfl)
        have x3 := ho.cells (g := g) rfl (i * 9 + 3) (.int .u32 view) (by rw [sd_get own peer view _ i (p.touch nw) hpt 3 (by decide)]; rfl)
        have x4 := ho.cells (g := g) rfl (i * 9 + 4) (.int .u32 p.s) (by rw [sd_get own peer view _ i (p.touch nw) hpt 4 (by decide)]; rfl)
        have x5 := ho.cells (g := g) rfl (i * 9 + 5) (.slice p.A p.xs.length p.c) (by rw [sd_get own peer view _ i (p.touch nw) hpt 5 (by decide)]; rfl)
        have x6 := ho.cells (g := g) rfl (i * 9 + 6) (.slice none 0 0) (by rw [sd_get own peer view _ i (p.touch nw) hpt 6 (by decide)]; rfl)
        rw [add_plain] at x0 x1 x2 x3 x4 x5 x6
        rw [Nat.add_zero] at x0
        have hrdp := sd_read S3.out (p := p.touch nw) (List.mem_of_getElem? hpt)
        have CC := Lib.hid (copied_walk p.k own peer view p.s p.A p.xs.length p.c p.xs w3 hrdp.1 (by omega) hrdp.2)
        have HPT := Lib.hid hpt
        clear ho hrdp hpt
        (first | rw [HW3.out] | rw [HW3D.out] | (go_simp; rw [HW3.out]))
        go_wp2_with fail
        refine CC.out.mono ?_
        rintro e w4 ⟨A4, c4, rfl, ho4, hb4⟩
        have H4 := Lib.hid ho4; have B4 := Lib.hid hb4
        have O4 := Lib.hid (O3.out.below hb4)
        have hbw4 : w.heap.size ≤ w4.heap.size := Nat.le_trans K3.out.1 hb4.size
        have hkk : k ≤ 1000000 := by have h1 := O3.out.l; have h2 := congrArg List.length HE1.out; simp [dueL] at h2; have h3 := List.length_filter_le (due nw) (L.take i); simp at h3; omega
        have HBW4 := Lib.hid hbw4; have HKK := Lib.hid hkk
        clear ho4 hb4 x0 x1 x2 x3 x4 x5 x6 hbw4 hkk
        go_wp2_with (first | (at_builtin; refine app_cells7 (w0 := w4) w.heap.size rfl (.tmp 71) (.tmp 77) 33 32 rfl Try.underlying33 (by kernel_rfl) (.slice A k c) (omCells own peer view M) [.int .i64 p.k, .int .i64 own, .int .i64 peer, .int .u32 view, .int .u32 p.s, .slice A4 p.xs.length c4, .slice none 0 0] k rfl (by intro u hu; simp only [List.mem_cons, List.not_mem_nil, or_false] at hu; rcases hu with rfl | rfl | rfl | rfl | rfl | rfl | rfl <;> rfl) rfl rfl O4.out.o (below_mono' (Below.refl _ _) HBW4.out) HBW4.out HKK.out ?_; intro A5 c5 w5 ho5 hb5 hg5; have H5 := Lib.hid (And.intro ho5 hg5); clear ho5 hb5 hg5))
        go_roundw
        case rel =>
          exact ⟨i + 1, A5, k + 1, c5, M ++ [⟨p.k, p.s, A4, c4, p.xs, true, nw⟩], by omega, by go_num, rfl, ⟨tick_fin HP.out.1 HD.out S3.out O3.out K3.out HE1.out HBW.out B3.out B4.out H4.out H5.out.1 H5.out.2⟩⟩
        case measure => simp [intOf]; omega
    · obtain rfl : i = m := by omega
      go_wp2_with fail
      go_ret
      exact ⟨A, k, c, M, rfl, HK.out⟩
end Go.Proofs.Ytbkpgkkfkjlnnaa
