/- Links of any messages: the walk of Tick (printed by a program of mine, mklgs.py). -/
import Derived.Test.YtbkpgkkfkjlnnaaLgR
import Derived.Test.YtbkpgkkfkjlnnaaWMore
set_option linter.unusedVariables false
set_option linter.unusedSimpArgs false
namespace Go.Proofs.Ytbkpgkkfkjlnnaa.G
open Go.RowKit Go.Proofs.YtbkpgkkfkjlnnaaW.PrintWords Go.Proofs.YtbkpgkkfkjlnnaaW.PrintLast Go.Proofs.YtbkpgkkfkjlnnaaW.PrintMore Go.Proofs.Ytbkpgkkfkjlnnaa.K Go.Proofs.Ytbkpgkkfkjlnnaa.Row Go.Proofs.Ytbkpgkkfkjlnnaa
attribute [local go_sem] min2_int min_two max2_int max_two

/-- What Tick tells and leaves. -/
def Ticked (w w' : World) (S : Nat → Prop) (r : Nat) (x : LSt) (nw : Int) (m : Nat) (e : Ending) : Prop := ∃ A k c M, e = .returned (.slice A k c) ∧ TickG w w' S r x nw m A k c M
theorem own_nilc {w : World} {bs : Nat} {e : TypeId} {n : Nat} {ys : List Value} {A : Option Addr} {k c : Nat} {sz : Nat} (h : w.ownsRow bs e sz (.slice A k c) n ys) : A = none → c = 0 := fun e0 => by
  rcases h.2 with ⟨h1, _⟩ | ⟨_, _, _, h1, _⟩
  · injection h1
  · rw [e0] at h1; injection h1 with h1; cases h1
theorem own_wides {w : World} {bs n c : Nat} {A : Option Addr} {ys : List (Int × Int)} (h : w.ownsRow bs 79 2 (.slice A n c) ys.length (wides ys)) : WidesAt w A ys.length ys ∧ (A = none → ys.length = 0 ∧ c = 0) := by
  refine ⟨⟨rfl, ?_, fun i hi => ?_⟩, fun e => ⟨?_, own_nilc h e⟩⟩
  · rcases h.2 with ⟨_, h2⟩ | ⟨g, cap, cur, _, _, _, h2, h3, _⟩
    · omega
    · unfold maxLen at h3; omega
  · obtain ⟨g, cap, e, _, _⟩ := h.form (by omega)
    injection e with e1 e2 e3
    subst e1
    have hw := wides_at ys i hi
    have a0 := h.cells (g := g) rfl (i * 2) _ hw.1
    have a1 := h.cells (g := g) rfl (i * 2 + 1) _ hw.2
    rw [Go.Proofs.YtbkpgkkfkjlnnaaW.PrintWords.add_plain] at a0 a1
    refine ⟨⟨g, 0, none⟩, rfl, ?_, ?_⟩
    · rw [Go.Proofs.YtbkpgkkfkjlnnaaW.PrintWords.add_plain]; exact a0
    · rw [Go.Proofs.YtbkpgkkfkjlnnaaW.PrintWords.add_plain]; exact a1
  · rcases h.2 with ⟨_, h2⟩ | ⟨g, cap, cur, h1, _⟩
    · exact h2
    · rw [e] at h1; injection h1 with h1; cases h1
theorem TickG.step {w wd w3 w4 w5 : World} {S : Nat → Prop} {r : Nat} {x : LSt} {nw : Int} {i : Nat} {A A5 : Option Addr} {k c c5 : Nat} {M : List Hd} {p : Sn} (h : TickG w wd S r x nw i A k c M) (hp : x.out[i]? = some p) (hd : due nw p = true)
    (hG3 : LkG w3 S r ⟨x.own, x.peer, x.view, nw, x.pushed, toldL nw x.told (i + 1) x.out, x.next, tickL nw (i + 1) x.out, x.held⟩) (hC3 : Chg S wd w3) (hb4 : Below w3.heap.size w3 w4) (y : Hd) (hy : y.dt = p.m.dt)
    (hyn : w4.ownsRow w3.heap.size 2 1 y.nv y.xs.length (nums .i64 y.xs)) (hyw : w4.ownsRow w3.heap.size 79 2 y.wv y.ys.length (wides y.ys))
    (ho5 : w5.ownsRow w.heap.size 32 7 (.slice A5 (k + 1) c5) (k + 1) (hdC M ++ y.cells)) (hg5 : w4.grownBy w5 (Value.slice A k c).ownBlock) : TickG w w5 S r x nw (i + 1) A5 (k + 1) c5 (M ++ [y]) := by
  have hw3 : w.heap.size ≤ w3.heap.size := Nat.le_trans h.C.size hC3.size
  have nS : ∀ b, w.heap.size ≤ b → ¬ S b := fun b hb hs => by have := h.lt b hs; omega
  have o4 := pw_own_below (hC3.own h.o (fun b hb => nS b (own_base h.o b hb))) hb4
  have c45 : Chg (fun b => (Value.slice A k c).ownBlock = some b) w4 w5 := Chg.ofGrown hg5 (fun k e => e)
  have hT : ∀ b, (Value.slice A k c).ownBlock = some b → w.heap.size ≤ b ∧ ∃ cs, w4.heap[b]? = some (.cells cs 32 (0, 0)) := fun b hb => ⟨own_base o4 b hb, own_typed o4 b hb⟩
  have up : ∀ {q : Hd}, HdIn w4 (fun b => w.heap.size ≤ b) q → HdIn w5 (fun b => w.heap.size ≤ b) q := fun hq => hq.chgTy c45 (fun b cs ty h1 h2 e => by
    obtain ⟨cs', h'⟩ := (hT b e).2
    rw [h'] at h1; injection h1 with h1; injection h1 with _ h1; subst h1
    rcases h2 with h2 | h2 <;> exact absurd h2 (by decide))
  refine ⟨(hG3.below hb4).chg c45 (fun b hs e => nS b (hT b e).1 hs), ?_, by simp [h.om], fun q hq => ?_, ?_, ((h.C.trans hC3 (fun k _ h => h)).trans (Chg.ofBelow (S := fun _ => False) hb4) (fun _ _ h => h.elim)).trans c45 (fun b hb e => absurd (hT b e).1 (by omega)), h.lt⟩
  · have e : hdC (M ++ [y]) = hdC M ++ y.cells := by simp [hdC]
    rw [e]; exact ho5
  · rcases List.mem_append.1 hq with hq | hq
    · exact up (((h.ob q hq).chg hC3 (fun b hb => nS b hb)).chg (T := fun _ => False) (Chg.ofBelow hb4) (fun _ _ h => h))
    · obtain rfl := List.mem_singleton.1 hq
      exact up ⟨⟨own_base_le hyn (Nat.zero_le _), fun b hb => Nat.le_trans hw3 (own_base hyn b hb)⟩, ⟨own_base_le hyw (Nat.zero_le _), fun b hb => Nat.le_trans hw3 (own_base hyw b hb)⟩⟩
  · rw [dueL_succ hp, if_pos hd, List.map_append, List.map_append, h.e]; simp [hy]
set_option maxRecDepth 100000 in
set_option maxHeartbeats 8000000 in
theorem tick_any (w : World) (S : Nat → Prop) (r : Nat) (x : LSt) (t : Int) (h : LkG w S r x) (hL : x.out.length ≤ 100000) (hn : 0 ≤ x.now ∧ x.now ≤ 9223372036854775807) (ht : -9223372036854775808 ≤ t ∧ t ≤ 9223372036854775807) (hat : ∀ p ∈ x.out, 0 ≤ p.at_ ∧ p.at_ ≤ x.now) (hxs : ∀ p ∈ x.out, p.m.xs.length ≤ 500 ∧ p.m.ys.length ≤ 500)
    (nw : Int) (hnw : nw = if x.now < t then t else x.now) (m : Nat) (hm : m = min x.out.length 32) :
    Calls Try.prog 11 #[.pointer (some ⟨r, 0, none⟩), .int .i64 t] w fun e w' => Ticked w w' S r x nw m e := by
  have hnb : 0 ≤ nw ∧ nw ≤ 9223372036854775807 ∧ x.now ≤ nw := by rw [hnw]; split <;> omega
  obtain ⟨hnb0, hnb1, hnb2⟩ := hnb
  have hmx : (if x.now < t then t else x.now) = nw := hnw.symm
  have hml : m ≤ x.out.length := by omega
  obtain ⟨ol, hol⟩ : ∃ ol, ol = x.out.length := ⟨_, rfl⟩
  have hmn : (if (32 : Int) < (ol : Int) then 32 else (ol : Int)) = (m : Int) := by split <;> omega
  obtain ⟨Al, cl, Bl, dl, hc, ho, hh0⟩ := h.cl
  rw [← hol] at hc
  have g3 := froz hc 3
  obtain ⟨l0, l1, l2, l3, l4, l5, l6, l7, l8⟩ := lkC_cells hc
  have T0 := Lib.hid (show TickG w (w.setCell ⟨r, 3, none⟩ (.int .i64 nw)) S r x nw 0 none 0 0 [] from
    ⟨h.num (grown_set _) (by simp [World.setCell]) (by simp [tickL]) rfl (fun O H hh => by rw [heap_set _ hh]; rfl), ⟨rfl, .inl ⟨rfl, rfl⟩⟩, rfl, (fun p hp => by cases hp), rfl, Chg.ofGrown (grown_set _) (fun k e => by injection e with e; rw [← e]; exact h.hr), h.inn⟩)
  have HAT := Lib.hid hat; have HXS := Lib.hid hxs; have HOL := Lib.hid hol
  have HNB := Lib.hid (And.intro hnb0 (And.intro hnb1 hnb2)); have HN := Lib.hid (And.intro hn ht)
  clear h hc ho hh0 hat hxs hnw hm hnb0 hnb1 hnb2 hn ht hol
  go_enter Try.func11, Try.ntmps11
  go_wp2_with fail
  clear hmx hmn g3 l0 l1 l2 l3 l4 l5 l6 l7 l8
  go_loopw [5, 23] (fun s5 s23 wr => ∃ (i : Nat) (A : Option Addr) (k c : Nat) (M : List Hd), i ≤ m ∧ s23 = .int .i64 i ∧ s5 = .slice A k c ∧ Aside0 (TickG w wr S r x nw i A k c M)) (fun _ s23 _ => m - (intOf s23).toNat)
  case atStart => exact ⟨0, none, 0, 0, [], Nat.zero_le _, rfl, rfl, ⟨T0.out⟩⟩
  case round =>
    obtain ⟨i, A, k, c, M, hi, rfl, rfl, HK⟩ := hrel
    by_cases hlt : i < m
    · have T1 := Lib.hid HK.out
      obtain ⟨p, hp⟩ : ∃ p, x.out[i]? = some p := ⟨x.out[i], List.getElem?_eq_getElem (by omega)⟩
      have hpm := List.mem_of_getElem? hp
      have hp1 := HAT.out p hpm
      obtain ⟨hnb0, hnb1, hnb2⟩ := HNB.out
      have hn := HN.out.1
      have hp2 := HXS.out p hpm
      obtain ⟨Ar, cr, Br, dr, hc, ho, _⟩ := T1.out.G.cl
      have hpt := tickL_get (now := nw) hp
      have hl2 : (tickL nw i x.out).length = ol := by rw [tickL_len, HOL.out]
      dsimp only at hc ho
      rw [hl2] at hc ho
      obtain ⟨g, cap, e, hgb, hgl⟩ := ho.1.form (by have := HOL.out; omega)
      injection e with e1 e2 e3
      subst e1 e3
      have hrow := (row9 ho.1 hpt).1
      have x0 := hrow 0 (by decide); have x1 := hrow 1 (by decide); have x2 := hrow 2 (by decide); have x3 := hrow 3 (by decide); have x4 := hrow 4 (by decide); have x5 := hrow 5 (by decide); have x6 := hrow 6 (by decide); have x7 := hrow 7 (by decide); have x8 := hrow 8 (by decide)
      simp only [Sn.cells, Hd.cells, Hd.nv, Hd.wv, List.cons_append, List.nil_append, List.getElem?_cons_zero, List.getElem?_cons_succ, Nat.add_zero] at x0 x1 x2 x3 x4 x5 x6 x7 x8
      have HP := Lib.hid (And.intro hp hpt); have HC := Lib.hid hc; have HO := Lib.hid ho
      obtain ⟨l0, l1, l2, l3, l4, l5, l6, l7, l8⟩ := lkC_cells hc
      have hi1 : (0 : Int) ≤ (i : Int) := Int.natCast_nonneg _
      have hi2 : (i : Int) < (ol : Int) := by have := HOL.out; omega
      have hi3 : i < ol := by have := HOL.out; omega
      have hw8 : IntKind.i64.wrap (nw - p.at_) = nw - p.at_ := by rw [IntKind.wrap_i64]; omega
      clear hp hpt hpm hc ho e2 hl2 hrow l0 l1 l2 l5 l7 l8
      cases hs : p.sent with
      | true =>
        rw [hs] at x7
        by_cases h8 : nw - p.at_ < 8
        · have HD := Lib.hid (show due nw p = false by unfold due; rw [hs, decide_eq_true h8]; rfl)
          go_wp2_with fail
          go_quiet (fail)
          go_wp2_with fail
          go_roundw
          case rel => exact ⟨i + 1, A, k, c, M, by omega, by go_num, rfl, ⟨(T1.out.below (pw_below_drewN (Below.refl _ _) _)).skip HP.out.1 HD.out⟩⟩
          case measure => simp [intOf]; omega
        · have HD := Lib.hid (show due nw p = true by unfold due; rw [hs, decide_eq_false h8]; rfl)
          obtain ⟨csg, hcg⟩ := own_typed HO.out.1 g rfl
          have f7 := froz hcg (i * 9 + 7)
          have f8 := froz hcg (i * 9 + 8)
          go_wp2_with fail
          go_quiet (fail)
          go_wp2_with fail
          obtain ⟨wd, hwd⟩ : ∃ wd, wd = wr.drewN nq := ⟨_, rfl⟩
          have hbd : Below wr.heap.size wr wd := by rw [hwd]; exact pw_below_drewN (Below.refl _ _) _
          have Td := T1.out.below hbd
          have hcd := heap_keep hbd HC.out
          have hod : Own wd S 65 9 (.slice (some ⟨g, 0, none⟩) ol cr) ol (snC (tickL nw i x.out)) := ⟨pw_own_below HO.out.1 hbd, HO.out.2⟩
          obtain ⟨w2, hw2⟩ : ∃ w2, w2 = (wd.setCell ⟨g, i * 9 + 7, none⟩ (.bool true)).setCell ⟨g, i * 9 + 8, none⟩ (.int .i64 nw) := ⟨_, rfl⟩
          have hlt2 : (tickL nw i x.out).length = ol := by rw [tickL_len, HOL.out]
          have R2 := Td.G.touch (n' := nw) HP.out.2 (by dsimp only; rw [hlt2]; exact hcd) (by dsimp only; rw [hlt2]; exact hod)
          dsimp only at R2
          rw [← hw2, hlt2] at R2
          have htick : (tickL nw i x.out).set i (p.touch nw) = tickL nw (i + 1) x.out := by rw [tickL_succ HP.out.1]; unfold tick1; rw [if_pos HD.out]
          rw [htick] at R2
          have hpt : (tickL nw (i + 1) x.out)[i]? = some (p.touch nw) := by rw [← htick, List.getElem?_set_self (by rw [hlt2]; omega)]
          have HR2 := Lib.hid R2
          have HTd := Lib.hid Td
          have HPT := Lib.hid hpt
          have HW2 := Lib.hid hw2.symm; have HWD := Lib.hid hwd.symm
          clear hbd Td hcd hod R2 htick hwd hw2 hcg f7 f8 x0 x1 x2 x3 x4 x5 x6 x7 x8 l3 l4 l6 HK
          rw [HWD.out, HW2.out]
          obtain ⟨T, hT⟩ : ∃ T, T = toldL nw x.told i x.out := ⟨_, rfl⟩
          have hc2 := HR2.out.2.2.1
          rw [← hT] at hc2
          have HC2 := Lib.hid hc2
          obtain ⟨l0, l1, l2, l3, l4, l5, l6, l7, l8⟩ := lkC_cells hc2
          have f6 := froz hc2 6
          have x4 := (row9 HR2.out.2.2.2.1 hpt).1 4 (by decide)
          simp only [Sn.touch, Sn.cells, Hd.cells, List.cons_append, List.nil_append, List.getElem?_cons_zero, List.getElem?_cons_succ] at x4
          obtain ⟨T2, hT2⟩ : ∃ T2, T2 = toldL nw x.told (i + 1) x.out := ⟨_, rfl⟩
          have hmt : (if T < p.m.s then p.m.s else T) = T2 := by
            rw [hT2, toldL_succ HP.out.1, ← hT]; unfold told1; rw [if_pos HD.out, Int.max_def]; split <;> split <;> omega
          have HT2 := Lib.hid hT2; have HT := Lib.hid hT
          clear l0 l1 l2 l3 l4 l5 l7 l8 hT hT2 hc2 hpt
          refine start_ (n := 14) (S := fun w' => w'.cell? ⟨r, 6, none⟩ = some (.int .u32 T) ∧ w'.cell? ⟨g, i * 9 + 4, none⟩ = some (.int .u32 p.m.s)) (ds := [13]) #[false, false, false, false, false, false, false, false, false, false, false, false, false, false] (by kernel_rfl) rfl rfl (⟨l6, x4⟩) (fun hHeld => ?_)
          refine pure_ (i := 0) (N := some 58) (v := ?_) (a' := ?_) #[true, false, false, false, false, false, false, false, false, false, false, false, false, false] rfl rfl (by kernel_rfl) (fun _ _ _ h => h) (Or.inl ⟨by rfl, ?_⟩) ?_ ?_
          rotate_left
          · intro w'
            go_simp
            (try with_reducible rfl)
          rotate_left
          · simp only [Act.put, List.setIfInBounds_toArray, List.set_cons_zero, List.set_cons_succ]
            rfl
          refine pure_ (i := 1) (N := some 59) (v := ?_) (a' := ?_) #[true, true, false, false, false, false, false, false, false, false, false, false, false, false] rfl rfl (by kernel_rfl) (fun _ _ _ h => h) (Or.inl ⟨by rfl, ?_⟩) ?_ ?_
          rotate_left
          · intro w'
            go_simp
            (try with_reducible rfl)
          rotate_left
          · simp only [Act.put, List.setIfInBounds_toArray, List.set_cons_zero, List.set_cons_succ]
            rfl
          refine pure_ (i := 2) (N := some 60) (v := ?_) (a' := ?_) #[true, true, true, false, false, false, false, false, false, false, false, false, false, false] rfl rfl (by kernel_rfl) (fun _ _ _ h => h) (Or.inl ⟨by rfl, ?_⟩) ?_ ?_
          rotate_left
          · intro w'
            go_simp
            (try with_reducible rfl)
          rotate_left
          · simp only [Act.put, List.setIfInBounds_toArray, List.set_cons_zero, List.set_cons_succ]
            rfl
          refine pure_ (i := 3) (N := some 61) (v := ?_) (a' := ?_) #[true, true, true, true, false, false, false, false, false, false, false, false, false, false] rfl rfl (by kernel_rfl) (fun _ _ _ h => h) (Or.inl ⟨by rfl, ?_⟩) ?_ ?_
          rotate_left
          · intro w'
            go_simp
            (try with_reducible rfl)
          rotate_left
          · simp only [Act.put, List.setIfInBounds_toArray, List.set_cons_zero, List.set_cons_succ]
            rfl
          refine take_ (i := 4) (N := some 62) (v := ?_) (a' := ?_) #[true, true, true, true, true, false, false, false, false, false, false, false, false, false] rfl rfl (by kernel_rfl) (fun _ _ _ h => h) (Or.inl ⟨by rfl, ?_⟩) hHeld ?_ ?_
          rotate_left
          · rintro w' ⟨s0, s1⟩
            go_simp
            (try with_reducible rfl)
          rotate_left
          · simp only [Act.put, List.setIfInBounds_toArray, List.set_cons_zero, List.set_cons_succ]
            rfl
          refine pure_ (i := 5) (N := some 63) (v := ?_) (a' := ?_) #[true, true, true, true, true, true, false, false, false, false, false, false, false, false] rfl rfl (by kernel_rfl) (fun _ _ _ h => h) (Or.inl ⟨by rfl, ?_⟩) ?_ ?_
          rotate_left
          · intro w'
            go_simp
            (try with_reducible rfl)
          rotate_left
          · simp only [Act.put, List.setIfInBounds_toArray, List.set_cons_zero, List.set_cons_succ]
            rfl
          refine pure_ (i := 6) (N := some 64) (v := ?_) (a' := ?_) #[true, true, true, true, true, true, true, false, false, false, false, false, false, false] rfl rfl (by kernel_rfl) (fun _ _ _ h => h) (Or.inl ⟨by rfl, ?_⟩) ?_ ?_
          rotate_left
          · intro w'
            go_simp
            (try with_reducible rfl)
          rotate_left
          · simp only [Act.put, List.setIfInBounds_toArray, List.set_cons_zero, List.set_cons_succ]
            rfl
          refine pure_ (i := 7) (N := some 65) (v := ?_) (a' := ?_) #[true, true, true, true, true, true, true, true, false, false, false, false, false, false] rfl rfl (by kernel_rfl) (fun _ _ _ h => h) (Or.inl ⟨by rfl, ?_⟩) ?_ ?_
          rotate_left
          · intro w'
            go_simp
            (try with_reducible rfl)
          rotate_left
          · simp only [Act.put, List.setIfInBounds_toArray, List.set_cons_zero, List.set_cons_succ]
            rfl
          refine pure_ (i := 8) (N := some 66) (v := ?_) (a' := ?_) #[true, true, true, true, true, true, true, true, true, false, false, false, false, false] rfl rfl (by kernel_rfl) (fun _ _ _ h => h) (Or.inl ⟨by rfl, ?_⟩) ?_ ?_
          rotate_left
          · intro w'
            go_simp
            (try with_reducible rfl)
          rotate_left
          · simp only [Act.put, List.setIfInBounds_toArray, List.set_cons_zero, List.set_cons_succ]
            rfl
          refine take_ (i := 9) (N := some 67) (v := ?_) (a' := ?_) #[true, true, true, true, true, true, true, true, true, true, false, false, false, false] rfl rfl (by kernel_rfl) (fun _ _ _ h => h) (Or.inl ⟨by rfl, ?_⟩) hHeld ?_ ?_
          rotate_left
          · rintro w' ⟨s0, s1⟩
            go_simp
            (try with_reducible rfl)
          rotate_left
          · simp only [Act.put, List.setIfInBounds_toArray, List.set_cons_zero, List.set_cons_succ]
            rfl
          refine pure_ (i := 10) (N := some 68) (v := ?_) (a' := ?_) #[true, true, true, true, true, true, true, true, true, true, true, false, false, false] rfl rfl (by kernel_rfl) (fun _ _ _ h => h) (Or.inl ⟨by rfl, ?_⟩) ?_ ?_
          rotate_left
          · intro w'
            go_simp
            (try with_reducible rfl)
          rotate_left
          · simp only [Act.put, List.setIfInBounds_toArray, List.set_cons_zero, List.set_cons_succ]
            rfl
          refine pure_ (i := 11) (N := some 69) (v := ?_) (a' := ?_) #[true, true, true, true, true, true, true, true, true, true, true, true, false, false] rfl rfl (by kernel_rfl) (fun _ _ _ h => h) (Or.inl ⟨by rfl, ?_⟩) ?_ ?_
          rotate_left
          · intro w'
            go_simp
            (try with_reducible rfl)
          rotate_left
          · simp only [Act.put, List.setIfInBounds_toArray, List.set_cons_zero, List.set_cons_succ]
            rfl
          refine pure_ (i := 12) (N := some 70) (v := ?_) (a' := ?_) #[true, true, true, true, true, true, true, true, true, true, true, true, true, false] rfl rfl (by kernel_rfl) (fun _ _ _ h => h) (Or.inl ⟨by rfl, ?_⟩) ?_ ?_
          rotate_left
          · intro w'
            go_simp
            (try with_reducible rfl)
          rotate_left
          · simp only [Act.put, List.setIfInBounds_toArray, List.set_cons_zero, List.set_cons_succ]
            rfl
          refine last_ (i := 13) (N := none) #[true, true, true, true, true, true, true, true, true, true, true, true, true, true] rfl rfl (by kernel_rfl) (by decide) (fun K hK => ?_)
          go_simp
          refine hK.out _ _ ?_
          (try clear hHeld)
          clear hK K
          try simp only [Act.put, List.setIfInBounds_toArray, List.set_cons_zero, List.set_cons_succ]
          refine wpAnyLast_done (by kernel_rfl) ?_ _
          obtain ⟨w3, hw3⟩ : ∃ w3, w3 = (w2.setCell ⟨r, 6, none⟩ (.int .u32 T2)).drew := ⟨_, rfl⟩
          have hg3' : w2.grownBy (w2.setCell ⟨r, 6, none⟩ (.int .u32 T2)) (some r) := grown_set _
          have hb3 : Below (w2.setCell ⟨r, 6, none⟩ (.int .u32 T2)).heap.size (w2.setCell ⟨r, 6, none⟩ (.int .u32 T2)) w3 := by rw [hw3]; exact below_drew (Below.refl _ _)
          have G3 := Lib.hid (show LkG w3 S r ⟨x.own, x.peer, x.view, nw, x.pushed, toldL nw x.told (i + 1) x.out, x.next, tickL nw (i + 1) x.out, x.held⟩ by
            rw [← HT2.out]
            exact (HR2.out.1.num (x' := ⟨x.own, x.peer, x.view, nw, x.pushed, T2, x.next, tickL nw (i + 1) x.out, x.held⟩) hg3' (by simp [World.setCell]) rfl rfl (fun O H hh => by rw [heap_set _ hh]; rfl)).below hb3)
          have C3 := Lib.hid ((HR2.out.2.1.trans (Chg.ofGrown (S := fun b => b = r) hg3' (fun k e => by injection e with e; exact e.symm)) (fun k _ e => by rw [e]; exact HR2.out.1.hr)).trans (Chg.ofBelow (S := fun _ => False) hb3) (fun _ _ h => h.elim))
          have ho3 := pw_own_below (own_other HR2.out.2.2.2.1 hg3' (own_ne HC2.out HR2.out.2.2.2.1 (by decide))) hb3
          have hw3d : w2.drew.setCell ⟨r, 6, none⟩ (.int .u32 T2) = w3 := by rw [hw3]; rfl
          have HW3 := Lib.hid hw3.symm; have HW3D := Lib.hid hw3d
          have hrow := (row9 ho3 HPT.out).1
          have x0 := hrow 0 (by decide); have x1 := hrow 1 (by decide); have x2 := hrow 2 (by decide); have x3 := hrow 3 (by decide); have x4' := hrow 4 (by decide); have x5 := hrow 5 (by decide); have x6 := hrow 6 (by decide)
          simp only [Sn.touch, Sn.cells, Hd.cells, Hd.nv, Hd.wv, List.cons_append, List.nil_append, List.getElem?_cons_zero, List.getElem?_cons_succ, Nat.add_zero] at x0 x1 x2 x3 x4' x5 x6
          have hin := G3.out.bo (p.touch nw) (List.mem_of_getElem? HPT.out)
          have hrn : ReadsInt w3 .i64 p.m.A p.m.xs.length p.m.xs := (own_info hin.n.1).2.2.2.1
          have hrw := own_wides hin.w.1
          have CC := Lib.hid (copied_any p.m.k p.m.f p.m.t p.m.v p.m.s p.m.A p.m.B p.m.xs.length p.m.c p.m.ys.length p.m.d p.m.xs p.m.ys w3 hrn hrw.1 (by omega) (by omega) (own_nilc hin.n.1) hrw.2)
          have hkk : k ≤ 1000000 := by have h1 := HTd.out.om; have h2 := congrArg List.length HTd.out.e; simp [dueL] at h2; have h3 := List.length_filter_le (due nw) (x.out.take i); simp at h3; omega
          have hsz3 : w.heap.size ≤ w3.heap.size := Nat.le_trans HTd.out.C.size C3.out.size
          have O3 := Lib.hid (C3.out.own HTd.out.o (fun b hb hs => by have := HTd.out.lt b hs; have := own_base HTd.out.o b hb; omega))
          have HKK := Lib.hid hkk; have HSZ3 := Lib.hid hsz3
          clear hg3' hb3 hw3 hw3d l6 f6 x4 hmt ho3 hrow hin hrn hrw hkk hsz3
          have x4 := x4'
          clear x4'
          (first | rw [HW3.out] | rw [HW3D.out] | (go_simp; rw [HW3.out]))
          go_wp2_with fail
          refine CC.out.mono ?_
          rintro e w4 ⟨A4, c4, B4, d4, rfl, ho4, hwo4, hb4⟩
          have H4 := Lib.hid (And.intro ho4 hwo4); have B4' := Lib.hid hb4
          have O4 := Lib.hid (pw_own_below O3.out hb4)
          have HBW4 := Lib.hid (Nat.le_trans HSZ3.out hb4.size)
          clear ho4 hwo4 hb4 x0 x1 x2 x3 x4 x5 x6
          go_wp2_with (first | (at_builtin; refine app_cells7 (w0 := w4) w.heap.size rfl (.tmp 71) (.tmp 77) 33 32 rfl Try.underlying33 (by kernel_rfl) (.slice A k c) (hdC M) [.int .i64 p.m.k, .int .i64 p.m.f, .int .i64 p.m.t, .int .u32 p.m.v, .int .u32 p.m.s, .slice A4 p.m.xs.length c4, .slice B4 p.m.ys.length d4] k rfl (by intro u hu; simp only [List.mem_cons, List.not_mem_nil, or_false] at hu; rcases hu with rfl | rfl | rfl | rfl | rfl | rfl | rfl <;> rfl) rfl rfl O4.out (Below.refl _ _) HBW4.out HKK.out ?_; intro A5 c5 w5 ho5 hb5 hg5; have H5 := Lib.hid (And.intro ho5 hg5); clear ho5 hb5 hg5))
          go_roundw
          case rel =>
            exact ⟨i + 1, A5, k + 1, c5, M ++ [⟨p.m.k, p.m.f, p.m.t, p.m.v, p.m.s, A4, c4, p.m.xs, B4, d4, p.m.ys⟩], by omega, by go_num, rfl, ⟨HTd.out.step HP.out.1 HD.out G3.out C3.out B4'.out ⟨p.m.k, p.m.f, p.m.t, p.m.v, p.m.s, A4, c4, p.m.xs, B4, d4, p.m.ys⟩ rfl H4.out.1 H4.out.2 H5.out.1 H5.out.2⟩⟩
          case measure => simp [intOf]; omega
      | false =>
        rw [hs] at x7
        have HD := Lib.hid (show due nw p = true by unfold due; rw [hs]; rfl)
        obtain ⟨csg, hcg⟩ := own_typed HO.out.1 g rfl
        have f7 := froz hcg (i * 9 + 7)
        have f8 := froz hcg (i * 9 + 8)
        go_wp2_with fail
        go_quiet (fail)
        go_wp2_with fail
        obtain ⟨wd, hwd⟩ : ∃ wd, wd = wr.drewN nq := ⟨_, rfl⟩
        have hbd : Below wr.heap.size wr wd := by rw [hwd]; exact pw_below_drewN (Below.refl _ _) _
        have Td := T1.out.below hbd
        have hcd := heap_keep hbd HC.out
        have hod : Own wd S 65 9 (.slice (some ⟨g, 0, none⟩) ol cr) ol (snC (tickL nw i x.out)) := ⟨pw_own_below HO.out.1 hbd, HO.out.2⟩
        obtain ⟨w2, hw2⟩ : ∃ w2, w2 = (wd.setCell ⟨g, i * 9 + 7, none⟩ (.bool true)).setCell ⟨g, i * 9 + 8, none⟩ (.int .i64 nw) := ⟨_, rfl⟩
        have hlt2 : (tickL nw i x.out).length = ol := by rw [tickL_len, HOL.out]
        have R2 := Td.G.touch (n' := nw) HP.out.2 (by dsimp only; rw [hlt2]; exact hcd) (by dsimp only; rw [hlt2]; exact hod)
        dsimp only at R2
        rw [← hw2, hlt2] at R2
        have htick : (tickL nw i x.out).set i (p.touch nw) = tickL nw (i + 1) x.out := by rw [tickL_succ HP.out.1]; unfold tick1; rw [if_pos HD.out]
        rw [htick] at R2
        have hpt : (tickL nw (i + 1) x.out)[i]? = some (p.touch nw) := by rw [← htick, List.getElem?_set_self (by rw [hlt2]; omega)]
        have HR2 := Lib.hid R2
        have HTd := Lib.hid Td
        have HPT := Lib.hid hpt
        have HW2 := Lib.hid hw2.symm; have HWD := Lib.hid hwd.symm
        clear hbd Td hcd hod R2 htick hwd hw2 hcg f7 f8 x0 x1 x2 x3 x4 x5 x6 x7 x8 l3 l4 l6 HK
        rw [HWD.out, HW2.out]
        obtain ⟨T, hT⟩ : ∃ T, T = toldL nw x.told i x.out := ⟨_, rfl⟩
        have hc2 := HR2.out.2.2.1
        rw [← hT] at hc2
        have HC2 := Lib.hid hc2
        obtain ⟨l0, l1, l2, l3, l4, l5, l6, l7, l8⟩ := lkC_cells hc2
        have f6 := froz hc2 6
        have x4 := (row9 HR2.out.2.2.2.1 hpt).1 4 (by decide)
        simp only [Sn.touch, Sn.cells, Hd.cells, List.cons_append, List.nil_append, List.getElem?_cons_zero, List.getElem?_cons_succ] at x4
        obtain ⟨T2, hT2⟩ : ∃ T2, T2 = toldL nw x.told (i + 1) x.out := ⟨_, rfl⟩
        have hmt : (if T < p.m.s then p.m.s else T) = T2 := by
          rw [hT2, toldL_succ HP.out.1, ← hT]; unfold told1; rw [if_pos HD.out, Int.max_def]; split <;> split <;> omega
        have HT2 := Lib.hid hT2; have HT := Lib.hid hT
        clear l0 l1 l2 l3 l4 l5 l7 l8 hT hT2 hc2 hpt
        refine start_ (n := 14) (S := fun w' => w'.cell? ⟨r, 6, none⟩ = some (.int .u32 T) ∧ w'.cell? ⟨g, i * 9 + 4, none⟩ = some (.int .u32 p.m.s)) (ds := [13]) #[false, false, false, false, false, false, false, false, false, false, false, false, false, false] (by kernel_rfl) rfl rfl (⟨l6, x4⟩) (fun hHeld => ?_)
        refine pure_ (i := 0) (N := some 58) (v := ?_) (a' := ?_) #[true, false, false, false, false, false, false, false, false, false, false, false, false, false] rfl rfl (by kernel_rfl) (fun _ _ _ h => h) (Or.inl ⟨by rfl, ?_⟩) ?_ ?_
        rotate_left
        · intro w'
          go_simp
          (try with_reducible rfl)
        rotate_left
        · simp only [Act.put, List.setIfInBounds_toArray, List.set_cons_zero, List.set_cons_succ]
          rfl
        refine pure_ (i := 1) (N := some 59) (v := ?_) (a' := ?_) #[true, true, false, false, false, false, false, false, false, false, false, false, false, false] rfl rfl (by kernel_rfl) (fun _ _ _ h => h) (Or.inl ⟨by rfl, ?_⟩) ?_ ?_
        rotate_left
        · intro w'
          go_simp
          (try with_reducible rfl)
        rotate_left
        · simp only [Act.put, List.setIfInBounds_toArray, List.set_cons_zero, List.set_cons_succ]
          rfl
        refine pure_ (i := 2) (N := some 60) (v := ?_) (a' := ?_) #[true, true, true, false, false, false, false, false, false, false, false, false, false, false] rfl rfl (by kernel_rfl) (fun _ _ _ h => h) (Or.inl ⟨by rfl, ?_⟩) ?_ ?_
        rotate_left
        · intro w'
          go_simp
          (try with_reducible rfl)
        rotate_left
        · simp only [Act.put, List.setIfInBounds_toArray, List.set_cons_zero, List.set_cons_succ]
          rfl
        refine pure_ (i := 3) (N := some 61) (v := ?_) (a' := ?_) #[true, true, true, true, false, false, false, false, false, false, false, false, false, false] rfl rfl (by kernel_rfl) (fun _ _ _ h => h) (Or.inl ⟨by rfl, ?_⟩) ?_ ?_
        rotate_left
        · intro w'
          go_simp
          (try with_reducible rfl)
        rotate_left
        · simp only [Act.put, List.setIfInBounds_toArray, List.set_cons_zero, List.set_cons_succ]
          rfl
        refine take_ (i := 4) (N := some 62) (v := ?_) (a' := ?_) #[true, true, true, true, true, false, false, false, false, false, false, false, false, false] rfl rfl (by kernel_rfl) (fun _ _ _ h => h) (Or.inl ⟨by rfl, ?_⟩) hHeld ?_ ?_
        rotate_left
        · rintro w' ⟨s0, s1⟩
          go_simp
          (try with_reducible rfl)
        rotate_left
        · simp only [Act.put, List.setIfInBounds_toArray, List.set_cons_zero, List.set_cons_succ]
          rfl
        refine pure_ (i := 5) (N := some 63) (v := ?_) (a' := ?_) #[true, true, true, true, true, true, false, false, false, false, false, false, false, false] rfl rfl (by kernel_rfl) (fun _ _ _ h => h) (Or.inl ⟨by rfl, ?_⟩) ?_ ?_
        rotate_left
        · intro w'
          go_simp
          (try with_reducible rfl)
        rotate_left
        · simp only [Act.put, List.setIfInBounds_toArray, List.set_cons_zero, List.set_cons_succ]
          rfl
        refine pure_ (i := 6) (N := some 64) (v := ?_) (a' := ?_) #[true, true, true, true, true, true, true, false, false, false, false, false, false, false] rfl rfl (by kernel_rfl) (fun _ _ _ h => h) (Or.inl ⟨by rfl, ?_⟩) ?_ ?_
        rotate_left
        · intro w'
          go_simp
          (try with_reducible rfl)
        rotate_left
        · simp only [Act.put, List.setIfInBounds_toArray, List.set_cons_zero, List.set_cons_succ]
          rfl
        refine pure_ (i := 7) (N := some 65) (v := ?_) (a' := ?_) #[true, true, true, true, true, true, true, true, false, false, false, false, false, false] rfl rfl (by kernel_rfl) (fun _ _ _ h => h) (Or.inl ⟨by rfl, ?_⟩) ?_ ?_
        rotate_left
        · intro w'
          go_simp
          (try with_reducible rfl)
        rotate_left
        · simp only [Act.put, List.setIfInBounds_toArray, List.set_cons_zero, List.set_cons_succ]
          rfl
        refine pure_ (i := 8) (N := some 66) (v := ?_) (a' := ?_) #[true, true, true, true, true, true, true, true, true, false, false, false, false, false] rfl rfl (by kernel_rfl) (fun _ _ _ h => h) (Or.inl ⟨by rfl, ?_⟩) ?_ ?_
        rotate_left
        · intro w'
          go_simp
          (try with_reducible rfl)
        rotate_left
        · simp only [Act.put, List.setIfInBounds_toArray, List.set_cons_zero, List.set_cons_succ]
          rfl
        refine take_ (i := 9) (N := some 67) (v := ?_) (a' := ?_) #[true, true, true, true, true, true, true, true, true, true, false, false, false, false] rfl rfl (by kernel_rfl) (fun _ _ _ h => h) (Or.inl ⟨by rfl, ?_⟩) hHeld ?_ ?_
        rotate_left
        · rintro w' ⟨s0, s1⟩
          go_simp
          (try with_reducible rfl)
        rotate_left
        · simp only [Act.put, List.setIfInBounds_toArray, List.set_cons_zero, List.set_cons_succ]
          rfl
        refine pure_ (i := 10) (N := some 68) (v := ?_) (a' := ?_) #[true, true, true, true, true, true, true, true, true, true, true, false, false, false] rfl rfl (by kernel_rfl) (fun _ _ _ h => h) (Or.inl ⟨by rfl, ?_⟩) ?_ ?_
        rotate_left
        · intro w'
          go_simp
          (try with_reducible rfl)
        rotate_left
        · simp only [Act.put, List.setIfInBounds_toArray, List.set_cons_zero, List.set_cons_succ]
          rfl
        refine pure_ (i := 11) (N := some 69) (v := ?_) (a' := ?_) #[true, true, true, true, true, true, true, true, true, true, true, true, false, false] rfl rfl (by kernel_rfl) (fun _ _ _ h => h) (Or.inl ⟨by rfl, ?_⟩) ?_ ?_
        rotate_left
        · intro w'
          go_simp
          (try with_reducible rfl)
        rotate_left
        · simp only [Act.put, List.setIfInBounds_toArray, List.set_cons_zero, List.set_cons_succ]
          rfl
        refine pure_ (i := 12) (N := some 70) (v := ?_) (a' := ?_) #[true, true, true, true, true, true, true, true, true, true, true, true, true, false] rfl rfl (by kernel_rfl) (fun _ _ _ h => h) (Or.inl ⟨by rfl, ?_⟩) ?_ ?_
        rotate_left
        · intro w'
          go_simp
          (try with_reducible rfl)
        rotate_left
        · simp only [Act.put, List.setIfInBounds_toArray, List.set_cons_zero, List.set_cons_succ]
          rfl
        refine last_ (i := 13) (N := none) #[true, true, true, true, true, true, true, true, true, true, true, true, true, true] rfl rfl (by kernel_rfl) (by decide) (fun K hK => ?_)
        go_simp
        refine hK.out _ _ ?_
        (try clear hHeld)
        clear hK K
        try simp only [Act.put, List.setIfInBounds_toArray, List.set_cons_zero, List.set_cons_succ]
        refine wpAnyLast_done (by kernel_rfl) ?_ _
        obtain ⟨w3, hw3⟩ : ∃ w3, w3 = (w2.setCell ⟨r, 6, none⟩ (.int .u32 T2)).drew := ⟨_, rfl⟩
        have hg3' : w2.grownBy (w2.setCell ⟨r, 6, none⟩ (.int .u32 T2)) (some r) := grown_set _
        have hb3 : Below (w2.setCell ⟨r, 6, none⟩ (.int .u32 T2)).heap.size (w2.setCell ⟨r, 6, none⟩ (.int .u32 T2)) w3 := by rw [hw3]; exact below_drew (Below.refl _ _)
        have G3 := Lib.hid (show LkG w3 S r ⟨x.own, x.peer, x.view, nw, x.pushed, toldL nw x.told (i + 1) x.out, x.next, tickL nw (i + 1) x.out, x.held⟩ by
          rw [← HT2.out]
          exact (HR2.out.1.num (x' := ⟨x.own, x.peer, x.view, nw, x.pushed, T2, x.next, tickL nw (i + 1) x.out, x.held⟩) hg3' (by simp [World.setCell]) rfl rfl (fun O H hh => by rw [heap_set _ hh]; rfl)).below hb3)
        have C3 := Lib.hid ((HR2.out.2.1.trans (Chg.ofGrown (S := fun b => b = r) hg3' (fun k e => by injection e with e; exact e.symm)) (fun k _ e => by rw [e]; exact HR2.out.1.hr)).trans (Chg.ofBelow (S := fun _ => False) hb3) (fun _ _ h => h.elim))
        have ho3 := pw_own_below (own_other HR2.out.2.2.2.1 hg3' (own_ne HC2.out HR2.out.2.2.2.1 (by decide))) hb3
        have hw3d : w2.drew.setCell ⟨r, 6, none⟩ (.int .u32 T2) = w3 := by rw [hw3]; rfl
        have HW3 := Lib.hid hw3.symm; have HW3D := Lib.hid hw3d
        have hrow := (row9 ho3 HPT.out).1
        have x0 := hrow 0 (by decide); have x1 := hrow 1 (by decide); have x2 := hrow 2 (by decide); have x3 := hrow 3 (by decide); have x4' := hrow 4 (by decide); have x5 := hrow 5 (by decide); have x6 := hrow 6 (by decide)
        simp only [Sn.touch, Sn.cells, Hd.cells, Hd.nv, Hd.wv, List.cons_append, List.nil_append, List.getElem?_cons_zero, List.getElem?_cons_succ, Nat.add_zero] at x0 x1 x2 x3 x4' x5 x6
        have hin := G3.out.bo (p.touch nw) (List.mem_of_getElem? HPT.out)
        have hrn : ReadsInt w3 .i64 p.m.A p.m.xs.length p.m.xs := (own_info hin.n.1).2.2.2.1
        have hrw := own_wides hin.w.1
        have CC := Lib.hid (copied_any p.m.k p.m.f p.m.t p.m.v p.m.s p.m.A p.m.B p.m.xs.length p.m.c p.m.ys.length p.m.d p.m.xs p.m.ys w3 hrn hrw.1 (by omega) (by omega) (own_nilc hin.n.1) hrw.2)
        have hkk : k ≤ 1000000 := by have h1 := HTd.out.om; have h2 := congrArg List.length HTd.out.e; simp [dueL] at h2; have h3 := List.length_filter_le (due nw) (x.out.take i); simp at h3; omega
        have hsz3 : w.heap.size ≤ w3.heap.size := Nat.le_trans HTd.out.C.size C3.out.size
        have O3 := Lib.hid (C3.out.own HTd.out.o (fun b hb hs => by have := HTd.out.lt b hs; have := own_base HTd.out.o b hb; omega))
        have HKK := Lib.hid hkk; have HSZ3 := Lib.hid hsz3
        clear hg3' hb3 hw3 hw3d l6 f6 x4 hmt ho3 hrow hin hrn hrw hkk hsz3
        have x4 := x4'
        clear x4'
        (first | rw [HW3.out] | rw [HW3D.out] | (go_simp; rw [HW3.out]))
        go_wp2_with fail
        refine CC.out.mono ?_
        rintro e w4 ⟨A4, c4, B4, d4, rfl, ho4, hwo4, hb4⟩
        have H4 := Lib.hid (And.intro ho4 hwo4); have B4' := Lib.hid hb4
        have O4 := Lib.hid (pw_own_below O3.out hb4)
        have HBW4 := Lib.hid (Nat.le_trans HSZ3.out hb4.size)
        clear ho4 hwo4 hb4 x0 x1 x2 x3 x4 x5 x6
        go_wp2_with (first | (at_builtin; refine app_cells7 (w0 := w4) w.heap.size rfl (.tmp 71) (.tmp 77) 33 32 rfl Try.underlying33 (by kernel_rfl) (.slice A k c) (hdC M) [.int .i64 p.m.k, .int .i64 p.m.f, .int .i64 p.m.t, .int .u32 p.m.v, .int .u32 p.m.s, .slice A4 p.m.xs.length c4, .slice B4 p.m.ys.length d4] k rfl (by intro u hu; simp only [List.mem_cons, List.not_mem_nil, or_false] at hu; rcases hu with rfl | rfl | rfl | rfl | rfl | rfl | rfl <;> rfl) rfl rfl O4.out (Below.refl _ _) HBW4.out HKK.out ?_; intro A5 c5 w5 ho5 hb5 hg5; have H5 := Lib.hid (And.intro ho5 hg5); clear ho5 hb5 hg5))
        go_roundw
        case rel =>
          exact ⟨i + 1, A5, k + 1, c5, M ++ [⟨p.m.k, p.m.f, p.m.t, p.m.v, p.m.s, A4, c4, p.m.xs, B4, d4, p.m.ys⟩], by omega, by go_num, rfl, ⟨HTd.out.step HP.out.1 HD.out G3.out C3.out B4'.out ⟨p.m.k, p.m.f, p.m.t, p.m.v, p.m.s, A4, c4, p.m.xs, B4, d4, p.m.ys⟩ rfl H4.out.1 H4.out.2 H5.out.1 H5.out.2⟩⟩
        case measure => simp [intOf]; omega
    · obtain rfl : i = m := by omega
      go_wp2_with fail
      go_ret
      exact ⟨A, k, c, M, rfl, HK.out⟩
end Go.Proofs.Ytbkpgkkfkjlnnaa.G
