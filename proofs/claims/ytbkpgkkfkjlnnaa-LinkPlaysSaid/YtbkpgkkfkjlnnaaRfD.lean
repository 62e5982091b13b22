/- The reference's link: Push (printed by a program of mine, mkrfd.py). -/
import Derived.Test.YtbkpgkkfkjlnnaaRfC
import Derived.Deep.DeepCutAuto
set_option linter.unusedVariables false
set_option linter.unusedSimpArgs false
namespace Go.Proofs.Ytbkpgkkfkjlnnaa.G
open Go.RowKit Go.Proofs.YtbkpgkkfkjlnnaaW.PrintWords Go.Proofs.YtbkpgkkfkjlnnaaW.PrintLast Go.Proofs.Ytbkpgkkfkjlnnaa.K Go.Proofs.Ytbkpgkkfkjlnnaa.Row Go.Proofs.Ytbkpgkkfkjlnnaa

/-- On the way: the call's own box, the link. -/
structure RMid (w wx : World) (S U : Nat → Prop) (r : Nat) (d : DS) (C : Array Value) : Prop where
  q : wx.heap[w.heap.size]? = some (.cells C 51 (0, 0))
  G : RefG wx S U r d
  C : Chg S w wx
  lt : ∀ b, S b → b < w.heap.size
  ltU : ∀ b, U b → b < w.heap.size
section
variable {w wx w3 w4 : World} {S U : Nat → Prop} {r : Nat} {d : DS} {C : Array Value}
theorem RMid.below (h : RMid w w3 S U r d C) (hb : Below w3.heap.size w3 w4) : RMid w w4 S U r d C :=
  ⟨heap_keep hb h.q, h.G.below hb, h.C.trans (Chg.ofBelow (S := fun _ => False) hb) (fun _ _ h => h.elim), h.lt, h.ltU⟩
theorem RMid.ne (h : RMid w w3 S U r d C) : r ≠ w.heap.size := fun e => by have := h.lt r h.G.hr; omega
theorem RMid.box {C' : Array Value} (h : RMid w w3 S U r d C) (hg : w3.grownBy w4 (some w.heap.size)) (hq : w4.heap[w.heap.size]? = some (.cells C' 51 (0, 0))) : RMid w w4 S U r d C' := by
  have hc : Chg (fun b => b = w.heap.size) w3 w4 := Chg.ofGrown hg (fun k e => by injection e with e; exact e.symm)
  exact ⟨hq, h.G.chg hc (fun b hb e => by have := h.lt b hb; omega) (fun b hb e => by have := h.ltU b hb; omega), h.C.trans hc (fun k hk e => by omega), h.lt, h.ltU⟩
/-- A store to a number of the link. -/
theorem RefG.num {d' : DS} (h : RefG w S U r d) (hg : w.grownBy w4 (some r)) (hs : w4.heap.size = w.heap.size) (ho : d'.out = d.out) (hh : d'.held = d.held)
    (hb : ∀ O H, w.heap[r]? = some (.cells (rlC d.own d.peer d.view O d.pushed d.told H (d.next - 1) d.now) 47 (0, 0)) → w4.heap[r]? = some (.cells (rlC d'.own d'.peer d'.view O d'.pushed d'.told H (d'.next - 1) d'.now) 47 (0, 0))) : RefG w4 S U r d' := by
  obtain ⟨V, B, c, O, H, h1⟩ := h.cl
  have hc : Chg (fun b => b = r) w w4 := Chg.ofGrown hg (fun k e => by injection e with e; exact e.symm)
  have ty : ∀ b, V.ownBlock = some b → b ≠ r := fun b hv e => by
    rw [e] at hv
    obtain ⟨_, _, cur, h2⟩ := h1.q.block hv
    rw [h1.blk] at h2; injection h2 with h2; injection h2 with _ h2; exact absurd h2 (by decide)
  have ty2 : ∀ b, (Value.slice B H.length c).ownBlock = some b → b ≠ r := fun b hv e => by
    rw [e] at hv
    obtain ⟨cur, h2⟩ := own_typed h1.h.1 r hv
    rw [h1.blk] at h2; injection h2 with h2; injection h2 with _ h2; exact absurd h2 (by decide)
  have hU : ∀ b, U b → b ≠ r := fun b hb e => h.sep r h.hr (e ▸ hb)
  exact ⟨fun b hb => by rw [hs]; exact h.inn b hb, fun b hb => by rw [hs]; exact h.inU b hb, h.sep, h.hr, ⟨V, B, c, O, H, ⟨hb _ _ h1.blk, h1.q.chg hc ty, h1.qs, ⟨hc.own h1.h.1 ty2, h1.h.2⟩, by rw [ho]; exact h1.eo, by rw [hh]; exact h1.eh, fun p hp => (h1.bo p hp).chg hc hU, fun p hp => (h1.bh p hp).chg hc hU⟩⟩⟩
theorem RMid.num {d' : DS} {j : Nat} {v : Value} (h : RMid w w3 S U r d C) (ho : d'.out = d.out) (hh : d'.held = d.held)
    (hb : ∀ O H, w3.heap[r]? = some (.cells (rlC d.own d.peer d.view O d.pushed d.told H (d.next - 1) d.now) 47 (0, 0)) → (w3.setCell ⟨r, j, none⟩ v).heap[r]? = some (.cells (rlC d'.own d'.peer d'.view O d'.pushed d'.told H (d'.next - 1) d'.now) 47 (0, 0))) : RMid w (w3.setCell ⟨r, j, none⟩ v) S U r d' C := by
  have hg := grown_set (w := w3) (r := r) (j := j) v
  have hc : Chg (fun b => b = r) w3 (w3.setCell ⟨r, j, none⟩ v) := Chg.ofGrown hg (fun k e => by injection e with e; exact e.symm)
  exact ⟨hc.keep h.q (fun e => h.ne e.symm), h.G.num hg (by simp [World.setCell]) ho hh hb, h.C.trans hc (fun k _ e => by rw [e]; exact h.G.hr), h.lt, h.ltU⟩
end
theorem mset3' {w : World} {r : Nat} {k f t v s f' t' v' : Int} {A B : Value} {ty : TypeId} (h : w.heap[r]? = some (.cells (msC k f t v s A B) ty (0, 0))) :
    (((w.setCell ⟨r, 1, none⟩ (.int .i64 f')).setCell ⟨r, 2, none⟩ (.int .i64 t')).setCell ⟨r, 3, none⟩ (.int .u32 v')).heap[r]? = some (.cells (msC k f' t' v' s A B) ty (0, 0)) := by
  rw [heap_set _ (heap_set _ (heap_set _ h))]; rfl
/-- append(v, x) at a step of a region that draws. -/
theorem step_qapp {P : Program} {ops : Array Oper} {o : Oper} {a : Act} {K : Act → World → Prop} {Qx : Exit → Act → World → Prop} {E : Prop} {W : World} (base : Nat) (hgd : o.guard = none) (s x : Operand) (t e : TypeId) (i : TypeInfo) (y : Value) (z : Nat)
    (ho : o.op = .call { callee := .builtin .append, args := #[s, x], argTypes := #[t, t] }) (ht : P.underlying t = some (.slice e)) (hi : P.info? e = some i) (hz : i.zero = some y) (hsz : i.size = z) (hby : i.bytes ≤ 1000) (hzs : y.cells.size = z)
    (v : Value) (xs : List Value) (n : Nat) (cs : List Value) (hcs : cs.length = z) (h1 : ∀ u ∈ cs, u.oneCell' = true) (hs : a.eval s = v) (hx : a.eval x = .slice (some ⟨W.heap.size, 0, none⟩) 1 1)
    (HO : Q.QRow W base e z v n xs) (hb : base ≤ W.heap.size) (hn : n ≤ 100000)
    (h : ∀ v1 w1, Q.QRow w1 base e z v1 (n + 1) (xs ++ cs) → W.grownBy w1 v.ownBlock → (v1.ownBlock = v.ownBlock ∨ ∃ b, v1.ownBlock = some b ∧ W.heap.size ≤ b) → K (a.put o.dst v1) w1) :
    if Region.wanted o (yielded ops a.tmps) = true then Oper.wp P o a (W.alloc (.cells cs.toArray e)) K Qx else E := by
  have hw : Region.wanted o (yielded ops a.tmps) = true := by simp [Region.wanted, hgd]
  rw [if_pos hw]
  have hba := alloc_below (Below.refl W.heap.size W) (Nat.le_refl _) (.cells cs.toArray e)
  obtain ⟨v1, w1, hr, h1', h2, h3⟩ := Q.run_qapp (P := P) t o.type e i y ht hi hz hsz hby hzs (HO.below hba) (Nat.le_trans hb hba.size) hn ⟨W.heap.size, 0, none⟩ 1 cs hcs
    (by simpa using World.news_of_block (cs := cs.toArray) (t := e) (fr := (0, 0)) (heap_alloc_new W _)) h1
  unfold Oper.wp execOp
  simp only [ho, resolve, invoke, builtin, Sem.run_bind, Sem.run_pure, Result.andThen_ok, List.map_toArray, List.map_cons, List.map_nil, hs, hx, hr]
  refine h v1 w1 h1' (World.grownBy.trans (World.grownBy_alloc W _ _) h2) ?_
  rcases h3 with h3 | h3
  · exact .inl h3
  · exact .inr ⟨_, h3, by simp⟩
theorem RefC.vr {w : World} {S U : Nat → Prop} {r : Nat} {d : DS} {V : Value} {B : Option Addr} {c : Nat} {O : List RSn} {H : List Hd} (h1 : RefC w S U r d V B c O H) : (∀ b, V.ownBlock = some b → b ≠ r) ∧ (∀ b, (Value.slice B H.length c).ownBlock = some b → b ≠ r) ∧ (∀ b, V.ownBlock = some b → (Value.slice B H.length c).ownBlock ≠ some b) := by
  refine ⟨fun b hv e => ?_, fun b hv e => ?_, fun b hv e => ?_⟩
  · rw [e] at hv
    obtain ⟨_, _, cur, h2⟩ := h1.q.block hv
    rw [h1.blk] at h2; injection h2 with h2; injection h2 with _ h2; exact absurd h2 (by decide)
  · rw [e] at hv
    obtain ⟨cur, h2⟩ := own_typed h1.h.1 r hv
    rw [h1.blk] at h2; injection h2 with h2; injection h2 with _ h2; exact absurd h2 (by decide)
  · obtain ⟨_, _, cur, h2⟩ := h1.q.block hv
    obtain ⟨cur', h3⟩ := own_typed h1.h.1 b e
    rw [h2] at h3; injection h3 with h3; injection h3 with _ h3; exact absurd h3 (by decide)
/-- One more waits. -/
theorem rpush_fin {w0 : Nat} {w11 w12 w13 : World} {S U : Nat → Prop} {r : Nat} {x : DS} {V v1 : Value} {B : Option Addr} {c : Nat} {O : List RSn} {H : List Hd} {y : Hd} (hG : RefG w11 S U r x) (hc : RefC w11 S U r x V B c O H) (lt : ∀ b, S b → b < w0) (ltU : ∀ b, U b → b < w0) (hw0 : w0 ≤ w11.heap.size) {b1 b2 : Nat} (hb1 : w0 ≤ b1) (hb2 : w0 ≤ b2)
    (hyn : w11.ownsRow b1 2 1 y.nv y.xs.length (nums .i64 y.xs)) (hyw : w11.ownsRow b2 79 2 y.wv y.ys.length (wides y.ys)) (hq : Q.QRow w12 0 71 8 v1 (O.length + 1) (rsC O ++ (⟨y, -1⟩ : RSn).cells)) (hg : w11.drew.grownBy w12 V.ownBlock) (hv : v1.ownBlock = V.ownBlock ∨ ∃ b, v1.ownBlock = some b ∧ w11.heap.size ≤ b) (hw13 : w13 = w12.setCell ⟨r, 3, none⟩ v1) :
    ∃ S' U', RefG w13 S' U' r { x with out := x.out ++ [⟨y.dt, false, 0⟩] } ∧ Chg S w11 w13 ∧ (∀ b, S' b → S b ∨ w0 ≤ b) ∧ (∀ b, U' b → U b ∨ w0 ≤ b) := by
  obtain ⟨t1, t2, t3⟩ := hc.vr
  have c1 : Chg (fun b => V.ownBlock = some b) w11 w12 := (Chg.ofBelow (S := fun b => V.ownBlock = some b) (below_drew (Below.refl _ _))).trans (Chg.ofGrown (S := fun b => V.ownBlock = some b) hg (fun k e => e)) (fun k _ e => e)
  have c2 : Chg (fun b => b = r) w12 w13 := by rw [hw13]; exact Chg.ofGrown (grown_set _) (fun k e => by injection e with e; exact e.symm)
  have hr1 : w12.heap[r]? = _ := c1.keep hc.blk (fun e => t1 r e rfl)
  have hv1 : ∀ b, v1.ownBlock = some b → (S b ∨ w11.heap.size ≤ b) ∧ b ≠ r := fun b hb => by
    rcases hv with h | ⟨b', h, h'⟩
    · rw [h] at hb; exact ⟨.inl (hc.qs b hb), t1 b hb⟩
    · rw [h] at hb; injection hb with hb; subst hb
      exact ⟨.inr h', fun e => by have := hG.inn r hG.hr; omega⟩
  have ups : ∀ {e : TypeId} {sz n bs : Nat} {W' : Value} {M : List Value}, w0 ≤ bs → w11.ownsRow bs e sz W' n M → w13.ownsRow bs e sz W' n M := fun hbs ho => c2.own (c1.own ho (fun g hg' e => by
      have h3 := own_base ho g hg'; have h4 := lt g (hc.qs g e); omega)) (fun g hg' e => by
      have h3 := own_base ho g hg'; have h4 := lt r hG.hr; omega)
  have hyn' := ups hb1 hyn
  have hyw' := ups hb2 hyw
  have dU : ∀ {h : Hd}, HdRd w11 U h → HdRd w13 (fun b => U b ∨ y.nv.ownBlock = some b ∨ y.wv.ownBlock = some b) h := fun hh => ((hh.chg c1 (fun b hb e => hG.sep b (hc.qs b e) hb)).chg c2 (fun b hb e => hG.sep r hG.hr (e ▸ hb))).mono (fun b hb => .inl hb)
  refine ⟨fun b => S b ∨ v1.ownBlock = some b, fun b => U b ∨ y.nv.ownBlock = some b ∨ y.wv.ownBlock = some b, ⟨fun b hb => ?_, fun b hb => ?_, fun b hb hu => ?_, .inl hG.hr, ⟨v1, B, c, O ++ [⟨y, -1⟩], H, ?_⟩⟩, ?_, fun b hb => ?_, fun b hb => ?_⟩
  · rcases hb with hb | hb
    · exact Nat.lt_of_lt_of_le (hG.inn b hb) (Nat.le_trans c1.size c2.size)
    · exact Nat.lt_of_lt_of_le (hq.block hb).2.1 c2.size
  · rcases hb with hb | hb | hb
    · exact Nat.lt_of_lt_of_le (hG.inU b hb) (Nat.le_trans c1.size c2.size)
    · exact own_lt hyn' b hb
    · exact own_lt hyw' b hb
  · have hS : S b ∨ w11.heap.size ≤ b := by
      rcases hb with hb | hb
      · exact .inl hb
      · exact (hv1 b hb).1
    rcases hS with hS | hS
    · rcases hu with hu | hu | hu
      · exact hG.sep b hS hu
      · have h3 := own_base hyn b hu; have := lt b hS; omega
      · have h3 := own_base hyw b hu; have := lt b hS; omega
    · rcases hu with hu | hu | hu
      · have := hG.inU b hu; omega
      · have h3 := own_lt hyn b hu; omega
      · have h3 := own_lt hyw b hu; omega
  · have hl : (O ++ [(⟨y, -1⟩ : RSn)]).length = O.length + 1 := by simp
    have hcat : rsC (O ++ [(⟨y, -1⟩ : RSn)]) = rsC O ++ (⟨y, -1⟩ : RSn).cells := by simp [rsC]
    refine ⟨by rw [hw13, heap_set _ hr1]; rfl, by rw [hl, hcat]; exact hq.chg c2 (fun b hb e => (hv1 b hb).2 e), fun b hb => .inr hb, ⟨c2.own (c1.own hc.h.1 (fun g hg' e => t3 g e hg')) (fun g hg' e => t2 g hg' e), fun b hb => .inl (hc.h.2 b hb)⟩, ?_, hc.eh, fun p hp => ?_, fun p hp => dU (hc.bh p hp)⟩
    · simp only [List.map_append, hc.eo]; rfl
    · rcases List.mem_append.1 hp with hp | hp
      · exact dU (hc.bo p hp)
      · obtain rfl := List.mem_singleton.1 hp
        have hw := own_wides hyw'
        refine ⟨own_ints hyn', hw.1, fun h0 ad e => ?_, fun h0 ad e => ?_⟩
        · exact .inr (.inl (by obtain ⟨g, cap, e2, _, _⟩ := hyn'.form (by omega); rw [e2]; have : y.A = some ⟨g, 0, none⟩ := by { have e3 := e2; unfold Hd.nv at e3; injection e3 }; rw [this] at e; injection e with e; rw [← e]; rfl))
        · exact .inr (.inr (by obtain ⟨g, cap, e2, _, _⟩ := hyw'.form (by omega); rw [e2]; have : y.B = some ⟨g, 0, none⟩ := by { have e3 := e2; unfold Hd.wv at e3; injection e3 }; rw [this] at e; injection e with e; rw [← e]; rfl))
  · exact (c1.mono (fun k _ e => hc.qs k e)).trans c2 (fun k _ e => by rw [e]; exact hG.hr)
  · rcases hb with hb | hb
    · exact .inl hb
    · rcases (hv1 b hb).1 with h | h
      · exact .inl h
      · exact .inr (Nat.le_trans hw0 h)
  · rcases hb with hb | hb | hb
    · exact .inl hb
    · exact .inr (Nat.le_trans hb1 (own_base hyn b hb))
    · exact .inr (Nat.le_trans hb2 (own_base hyw b hb))
section
variable (w : World) (S U : Nat → Prop) (r : Nat) (x : DS) (k f t v s : Int) (A B : Option Addr) (n c m d : Nat) (xs : List Int) (ys : List (Int × Int))
def RPushR (w w' : World) (S U : Nat → Prop) (r : Nat) (x : DS) (m : Dt) (e : Ending) : Prop := ∃ S' U', e = .returned (.int .i64 (dPush x m).1) ∧ RefG w' S' U' r (dPush x m).2 ∧ StpU w w' S U S' U'
set_option maxRecDepth 100000 in
set_option maxHeartbeats 8000000 in
theorem rpush (h : RefG w S U r x) {N : Nat} (hi : Inv x N) (hN : N ≤ 1000) (hr : ∀ wx, Chg S w wx → MsR wx A n c xs B m d ys) (hn : n ≤ 500) (hm : m ≤ 500) :
    Calls Try.prog 17 #[.pointer (some ⟨r, 0, none⟩), .agg (msC k f t v s (.slice A n c) (.slice B m d))] w fun e w' => RPushR w w' S U r x ⟨k, f, t, v, s, xs, ys⟩ e := by
  obtain ⟨w1, hw1⟩ : ∃ w1, w1 = w.alloc (.cells (msC k f t v s (.slice A n c) (.slice B m d)) 51) := ⟨_, rfl⟩
  have hb1 : Below w.heap.size w w1 := by rw [hw1]; exact alloc_back _
  have q1 : w1.heap[w.heap.size]? = some (.cells (msC k f t v s (.slice A n c) (.slice B m d)) 51 (0, 0)) := by rw [hw1]; exact heap_alloc_new _ _
  have M1 := Lib.hid (show RMid w w1 S U r x (msC k f t v s (.slice A n c) (.slice B m d)) from ⟨q1, h.below hb1, Chg.ofBelow hb1, h.inn, h.inU⟩)
  have HRD := Lib.hid hr
  have ho1 := hi.own
  have hp1 := hi.peer
  have hpu := hi.pushed
  have hol := hi.len
  clear hi
  have HW1 := Lib.hid hw1
  have HNE := Lib.hid M1.out.ne
  have HMID := Lib.hid ((M1.out.box (w4 := ((w1.setCell ⟨w.heap.size, 1, none⟩ (.int .i64 x.own)).setCell ⟨w.heap.size, 2, none⟩ (.int .i64 x.peer)).setCell ⟨w.heap.size, 3, none⟩ (.int .u32 x.view)) (World.grownBy.trans (World.grownBy.trans (grown_set _) (grown_set _)) (grown_set _)) (mset3' q1)).below (below_drew (Below.refl _ _)))
  clear hw1 hb1 q1 h hr
  go_enter Try.func17, Try.ntmps17
  go_upto_region 1 with (fail)
  rw [← HW1.out]
  go_cut [8] (fun s8 wx => s8 = .int .i64 x.own ∧ Aside0 (RMid w wx S U r x (msC k x.own x.peer x.view s (.slice A n c) (.slice B m d))))
  case first =>
    obtain ⟨V0, B0, c0, O0, H0, hc0⟩ := M1.out.G.cl
    obtain ⟨l0, l1, l2, -⟩ := rlC_cells hc0.blk
    have g1 := froz M1.out.q 1
    have g2 := froz M1.out.q 2
    have g3 := froz M1.out.q 3
    obtain ⟨z0, z1, z2, z3, z4, z5, z6⟩ := msC_cells M1.out.q
    clear hc0
    refine start_ (n := 18) (S := fun w' => w'.cell? ⟨r, 0, none⟩ = some (.int .i64 x.own) ∧ w'.cell? ⟨r, 1, none⟩ = some (.int .i64 x.peer) ∧ w'.cell? ⟨r, 2, none⟩ = some (.int .u32 x.view)) (ds := [17]) #[false, false, false, false, false, false, false, false, false, false, false, false, false, false, false, false, false, false] (by kernel_rfl) rfl rfl (⟨l0, l1, l2⟩) (fun hHeld => ?_)
    refine pure_ (i := 0) (N := some 5) (v := ?_) (a' := ?_) #[true, false, false, false, false, false, false, false, false, false, false, false, false, false, false, false, false, false] rfl rfl (by kernel_rfl) (fun _ _ _ h => h) (Or.inl ⟨by rfl, ?_⟩) ?_ ?_
    rotate_left
    · intro w'
      go_simp
      (try with_reducible rfl)
    rotate_left
    · simp only [Act.put, List.setIfInBounds_toArray, List.set_cons_zero, List.set_cons_succ]
      rfl
    refine pure_ (i := 1) (N := some 6) (v := ?_) (a' := ?_) #[true, true, false, false, false, false, false, false, false, false, false, false, false, false, false, false, false, false] rfl rfl (by kernel_rfl) (fun _ _ _ h => h) (Or.inl ⟨by rfl, ?_⟩) ?_ ?_
    rotate_left
    · intro w'
      go_simp
      (try with_reducible rfl)
    rotate_left
    · simp only [Act.put, List.setIfInBounds_toArray, List.set_cons_zero, List.set_cons_succ]
      rfl
    refine pure_ (i := 2) (N := some 7) (v := ?_) (a' := ?_) #[true, true, true, false, false, false, false, false, false, false, false, false, false, false, false, false, false, false] rfl rfl (by kernel_rfl) (fun _ _ _ h => h) (Or.inl ⟨by rfl, ?_⟩) ?_ ?_
    rotate_left
    · intro w'
      go_simp
      (try with_reducible rfl)
    rotate_left
    · simp only [Act.put, List.setIfInBounds_toArray, List.set_cons_zero, List.set_cons_succ]
      rfl
    refine take_ (i := 3) (N := some 8) (v := ?_) (a' := ?_) #[true, true, true, true, false, false, false, false, false, false, false, false, false, false, false, false, false, false] rfl rfl (by kernel_rfl) (fun _ _ _ h => h) (Or.inl ⟨by rfl, ?_⟩) hHeld ?_ ?_
    rotate_left
    · rintro w' ⟨s0, s1, s2⟩
      go_simp
      (try with_reducible rfl)
    rotate_left
    · simp only [Act.put, List.setIfInBounds_toArray, List.set_cons_zero, List.set_cons_succ]
      rfl
    refine pure_ (i := 4) (N := some 9) (v := ?_) (a' := ?_) #[true, true, true, true, true, false, false, false, false, false, false, false, false, false, false, false, false, false] rfl rfl (by kernel_rfl) (fun _ _ _ h => h) (Or.inl ⟨by rfl, ?_⟩) ?_ ?_
    rotate_left
    · intro w'
      go_simp
      (try with_reducible rfl)
    rotate_left
    · simp only [Act.put, List.setIfInBounds_toArray, List.set_cons_zero, List.set_cons_succ]
      rfl
    refine pure_ (i := 5) (N := some 10) (v := ?_) (a' := ?_) #[true, true, true, true, true, true, false, false, false, false, false, false, false, false, false, false, false, false] rfl rfl (by kernel_rfl) (fun _ _ _ h => h) (Or.inl ⟨by rfl, ?_⟩) ?_ ?_
    rotate_left
    · intro w'
      go_simp
      (try with_reducible rfl)
    rotate_left
    · simp only [Act.put, List.setIfInBounds_toArray, List.set_cons_zero, List.set_cons_succ]
      rfl
    refine pure_ (i := 6) (N := some 11) (v := ?_) (a' := ?_) #[true, true, true, true, true, true, true, false, false, false, false, false, false, false, false, false, false, false] rfl rfl (by kernel_rfl) (fun _ _ _ h => h) (Or.inl ⟨by rfl, ?_⟩) ?_ ?_
    rotate_left
    · intro w'
      go_simp
      (try with_reducible rfl)
    rotate_left
    · simp only [Act.put, List.setIfInBounds_toArray, List.set_cons_zero, List.set_cons_succ]
      rfl
    refine pure_ (i := 8) (N := some 13) (v := ?_) (a' := ?_) #[true, true, true, true, true, true, true, false, true, false, false, false, false, false, false, false, false, false] rfl rfl (by kernel_rfl) (fun _ _ _ h => h) (Or.inl ⟨by rfl, ?_⟩) ?_ ?_
    rotate_left
    · intro w'
      go_simp
      (try with_reducible rfl)
    rotate_left
    · simp only [Act.put, List.setIfInBounds_toArray, List.set_cons_zero, List.set_cons_succ]
      rfl
    refine pure_ (i := 9) (N := some 14) (v := ?_) (a' := ?_) #[true, true, true, true, true, true, true, false, true, true, false, false, false, false, false, false, false, false] rfl rfl (by kernel_rfl) (fun _ _ _ h => h) (Or.inl ⟨by rfl, ?_⟩) ?_ ?_
    rotate_left
    · intro w'
      go_simp
      (try with_reducible rfl)
    rotate_left
    · simp only [Act.put, List.setIfInBounds_toArray, List.set_cons_zero, List.set_cons_succ]
      rfl
    refine pure_ (i := 10) (N := some 15) (v := ?_) (a' := ?_) #[true, true, true, true, true, true, true, false, true, true, true, false, false, false, false, false, false, false] rfl rfl (by kernel_rfl) (fun _ _ _ h => h) (Or.inl ⟨by rfl, ?_⟩) ?_ ?_
    rotate_left
    · intro w'
      go_simp
      (try with_reducible rfl)
    rotate_left
    · simp only [Act.put, List.setIfInBounds_toArray, List.set_cons_zero, List.set_cons_succ]
      rfl
    refine pure_ (i := 12) (N := some 17) (v := ?_) (a' := ?_) #[true, true, true, true, true, true, true, false, true, true, true, false, true, false, false, false, false, false] rfl rfl (by kernel_rfl) (fun _ _ _ h => h) (Or.inl ⟨by rfl, ?_⟩) ?_ ?_
    rotate_left
    · intro w'
      go_simp
      (try with_reducible rfl)
    rotate_left
    · simp only [Act.put, List.setIfInBounds_toArray, List.set_cons_zero, List.set_cons_succ]
      rfl
    refine three_ (i := 7) (j := 11) (k := 13) (Ni := some 12) (Nj := some 16) (Nk := none) #[true, true, true, true, true, true, true, true, true, true, true, false, true, false, false, false, false, false] #[true, true, true, true, true, true, true, false, true, true, true, true, true, false, false, false, false, false] #[true, true, true, true, true, true, true, false, true, true, true, false, true, true, false, false, false, false] rfl rfl rfl rfl rfl rfl (by kernel_rfl) (by decide) (by decide) (by decide) (fun K hK => ?_) (fun K hK => ?_) (fun K hK => ?_)
    · skip
      go_simp
      refine hK.out _ _ ?_ (fun hHeld2 => ?_)
      · (try dsimp only)
        first | exact hHeld | exact ⟨far_set HNE.out hHeld.1, far_set HNE.out hHeld.2.1, far_set HNE.out hHeld.2.2⟩
      clear hHeld hK K
      have hHeld := hHeld2
      clear hHeld2
      try simp only [Act.put, List.setIfInBounds_toArray, List.set_cons_zero, List.set_cons_succ]
      refine two_ (i := 11) (j := 13) (Ni := some 16) (Nj := none) #[true, true, true, true, true, true, true, true, true, true, true, true, true, false, false, false, false, false] #[true, true, true, true, true, true, true, true, true, true, true, false, true, true, false, false, false, false] rfl rfl rfl rfl (by kernel_rfl) (by decide) (by decide) (fun K hK => ?_) (fun K hK => ?_)
      · skip
        go_simp
        refine hK.out _ _ ?_ (fun hHeld2 => ?_)
        · (try dsimp only)
          first | exact hHeld | exact ⟨far_set HNE.out hHeld.1, far_set HNE.out hHeld.2.1, far_set HNE.out hHeld.2.2⟩
        clear hHeld hK K
        have hHeld := hHeld2
        clear hHeld2
        try simp only [Act.put, List.setIfInBounds_toArray, List.set_cons_zero, List.set_cons_succ]
        refine one_ (i := 13) (N := none) #[true, true, true, true, true, true, true, true, true, true, true, true, true, true, false, false, false, false] rfl rfl (by kernel_rfl) (by decide) (fun K hK => ?_)
        go_simp
        refine hK.out _ _ ?_ (fun hHeld2 => ?_)
        · (try dsimp only)
          first | exact hHeld | exact ⟨far_set HNE.out hHeld.1, far_set HNE.out hHeld.2.1, far_set HNE.out hHeld.2.2⟩
        clear hHeld hK K
        have hHeld := hHeld2
        clear hHeld2
        try simp only [Act.put, List.setIfInBounds_toArray, List.set_cons_zero, List.set_cons_succ]
        refine pure_ (i := 14) (N := some 18) (v := ?_) (a' := ?_) #[true, true, true, true, true, true, true, true, true, true, true, true, true, true, true, false, false, false] rfl rfl (by kernel_rfl) (fun _ _ _ h => h) (Or.inl ⟨by rfl, ?_⟩) ?_ ?_
        rotate_left
        · intro w'
          go_simp
          (try with_reducible rfl)
        rotate_left
        · simp only [Act.put, List.setIfInBounds_toArray, List.set_cons_zero, List.set_cons_succ]
          rfl
        refine one_ (i := 15) (N := none) #[true, true, true, true, true, true, true, true, true, true, true, true, true, true, true, true, false, false] rfl rfl (by kernel_rfl) (by decide) (fun K hK => ?_)
        go_simp
        refine hK.out _ _ ?_ (fun hHeld2 => ?_)
        · (try dsimp only)
          first | exact hHeld | exact ⟨far_set HNE.out hHeld.1, far_set HNE.out hHeld.2.1, far_set HNE.out hHeld.2.2⟩
        clear hHeld hK K
        have hHeld := hHeld2
        clear hHeld2
        try simp only [Act.put, List.setIfInBounds_toArray, List.set_cons_zero, List.set_cons_succ]
        refine pure_ (i := 16) (N := some 19) (v := ?_) (a' := ?_) #[true, true, true, true, true, true, true, true, true, true, true, true, true, true, true, true, true, false] rfl rfl (by kernel_rfl) (fun _ _ _ h => h) (Or.inl ⟨by rfl, ?_⟩) ?_ ?_
        rotate_left
        · intro w'
          go_simp
          (try with_reducible rfl)
        rotate_left
        · simp only [Act.put, List.setIfInBounds_toArray, List.set_cons_zero, List.set_cons_succ]
          rfl
        refine last_ (i := 17) (N := none) #[true, true, true, true, true, true, true, true, true, true, true, true, true, true, true, true, true, true] rfl rfl (by kernel_rfl) (by decide) (fun K hK => ?_)
        go_simp
        refine hK.out _ _ ?_
        (try clear hHeld)
        clear hK K
        try simp only [Act.put, List.setIfInBounds_toArray, List.set_cons_zero, List.set_cons_succ]
        refine wpAnyLast_done (by kernel_rfl) ?_ _
        go_wp2_with fail
        go_meet
        exact ⟨rfl, ⟨HMID.out⟩⟩
      go_simp
      refine hK.out _ _ ?_ (fun hHeld2 => ?_)
      · (try dsimp only)
        first | exact hHeld | exact ⟨far_set HNE.out hHeld.1, far_set HNE.out hHeld.2.1, far_set HNE.out hHeld.2.2⟩
      clear hHeld hK K
      have hHeld := hHeld2
      clear hHeld2
      try simp only [Act.put, List.setIfInBounds_toArray, List.set_cons_zero, List.set_cons_succ]
      refine pure_ (i := 14) (N := some 18) (v := ?_) (a' := ?_) #[true, true, true, true, true, true, true, true, true, true, true, false, true, true, true, false, false, false] rfl rfl (by kernel_rfl) (fun _ _ _ h => h) (Or.inl ⟨by rfl, ?_⟩) ?_ ?_
      rotate_left
      · intro w'
        go_simp
        (try with_reducible rfl)
      rotate_left
      · simp only [Act.put, List.setIfInBounds_toArray, List.set_cons_zero, List.set_cons_succ]
        rfl
      refine two_ (i := 11) (j := 15) (Ni := some 16) (Nj := none) #[true, true, true, true, true, true, true, true, true, true, true, true, true, true, true, false, false, false] #[true, true, true, true, true, true, true, true, true, true, true, false, true, true, true, true, false, false] rfl rfl rfl rfl (by kernel_rfl) (by decide) (by decide) (fun K hK => ?_) (fun K hK => ?_)
      · skip
        go_simp
        refine hK.out _ _ ?_ (fun hHeld2 => ?_)
        · (try dsimp only)
          first | exact hHeld | exact ⟨far_set HNE.out hHeld.1, far_set HNE.out hHeld.2.1, far_set HNE.out hHeld.2.2⟩
        clear hHeld hK K
        have hHeld := hHeld2
        clear hHeld2
        try simp only [Act.put, List.setIfInBounds_toArray, List.set_cons_zero, List.set_cons_succ]
        refine one_ (i := 15) (N := none) #[true, true, true, true, true, true, true, true, true, true, true, true, true, true, true, true, false, false] rfl rfl (by kernel_rfl) (by decide) (fun K hK => ?_)
        go_simp
        refine hK.out _ _ ?_ (fun hHeld2 => ?_)
        · (try dsimp only)
          first | exact hHeld | exact ⟨far_set HNE.out hHeld.1, far_set HNE.out hHeld.2.1, far_set HNE.out hHeld.2.2⟩
        clear hHeld hK K
        have hHeld := hHeld2
        clear hHeld2
        try simp only [Act.put, List.setIfInBounds_toArray, List.set_cons_zero, List.set_cons_succ]
        refine pure_ (i := 16) (N := some 19) (v := ?_) (a' := ?_) #[true, true, true, true, true, true, true, true, true, true, true, true, true, true, true, true, true, false] rfl rfl (by kernel_rfl) (fun _ _ _ h => h) (Or.inl ⟨by rfl, ?_⟩) ?_ ?_
        rotate_left
        · intro w'
          go_simp
          (try with_reducible rfl)
        rotate_left
        · simp only [Act.put, List.setIfInBounds_toArray, List.set_cons_zero, List.set_cons_succ]
          rfl
        refine last_ (i := 17) (N := none) #[true, true, true, true, true, true, true, true, true, true, true, true, true, true, true, true, true, true] rfl rfl (by kernel_rfl) (by decide) (fun K hK => ?_)
        go_simp
        refine hK.out _ _ ?_
        (try clear hHeld)
        clear hK K
        try simp only [Act.put, List.setIfInBounds_toArray, List.set_cons_zero, List.set_cons_succ]
        refine wpAnyLast_done (by kernel_rfl) ?_ _
        go_wp2_with fail
        go_meet
        exact ⟨rfl, ⟨HMID.out⟩⟩
      go_simp
      refine hK.out _ _ ?_ (fun hHeld2 => ?_)
      · (try dsimp only)
        first | exact hHeld | exact ⟨far_set HNE.out hHeld.1, far_set HNE.out hHeld.2.1, far_set HNE.out hHeld.2.2⟩
      clear hHeld hK K
      have hHeld := hHeld2
      clear hHeld2
      try simp only [Act.put, List.setIfInBounds_toArray, List.set_cons_zero, List.set_cons_succ]
      refine one_ (i := 11) (N := some 16) #[true, true, true, true, true, true, true, true, true, true, true, true, true, true, true, true, false, false] rfl rfl (by kernel_rfl) (by decide) (fun K hK => ?_)
      go_simp
      refine hK.out _ _ ?_ (fun hHeld2 => ?_)
      · (try dsimp only)
        first | exact hHeld | exact ⟨far_set HNE.out hHeld.1, far_set HNE.out hHeld.2.1, far_set HNE.out hHeld.2.2⟩
      clear hHeld hK K
      have hHeld := hHeld2
      clear hHeld2
      try simp only [Act.put, List.setIfInBounds_toArray, List.set_cons_zero, List.set_cons_succ]
      refine pure_ (i := 16) (N := some 19) (v := ?_) (a' := ?_) #[true, true, true, true, true, true, true, true, true, true, true, true, true, true, true, true, true, false] rfl rfl (by kernel_rfl) (fun _ _ _ h => h) (Or.inl ⟨by rfl, ?_⟩) ?_ ?_
      rotate_left
      · intro w'
        go_simp
        (try with_reducible rfl)
      rotate_left
      · simp only [Act.put, List.setIfInBounds_toArray, List.set_cons_zero, List.set_cons_succ]
        rfl
      refine last_ (i := 17) (N := none) #[true, true, true, true, true, true, true, true, true, true, true, true, true, true, true, true, true, true] rfl rfl (by kernel_rfl) (by decide) (fun K hK => ?_)
      go_simp
      refine hK.out _ _ ?_
      (try clear hHeld)
      clear hK K
      try simp only [Act.put, List.setIfInBounds_toArray, List.set_cons_zero, List.set_cons_succ]
      refine wpAnyLast_done (by kernel_rfl) ?_ _
      go_wp2_with fail
      go_meet
      exact ⟨rfl, ⟨HMID.out⟩⟩
    · skip
      go_simp
      refine hK.out _ _ ?_ (fun hHeld2 => ?_)
      · (try dsimp only)
        first | exact hHeld | exact ⟨far_set HNE.out hHeld.1, far_set HNE.out hHeld.2.1, far_set HNE.out hHeld.2.2⟩
      clear hHeld hK K
      have hHeld := hHeld2
      clear hHeld2
      try simp only [Act.put, List.setIfInBounds_toArray, List.set_cons_zero, List.set_cons_succ]
      refine two_ (i := 7) (j := 13) (Ni := some 12) (Nj := none) #[true, true, true, true, true, true, true, true, true, true, true, true, true, false, false, false, false, false] #[true, true, true, true, true, true, true, false, true, true, true, true, true, true, false, false, false, false] rfl rfl rfl rfl (by kernel_rfl) (by decide) (by decide) (fun K hK => ?_) (fun K hK => ?_)
      · skip
        go_simp
        refine hK.out _ _ ?_ (fun hHeld2 => ?_)
        · (try dsimp only)
          first | exact hHeld | exact ⟨far_set HNE.out hHeld.1, far_set HNE.out hHeld.2.1, far_set HNE.out hHeld.2.2⟩
        clear hHeld hK K
        have hHeld := hHeld2
        clear hHeld2
        try simp only [Act.put, List.setIfInBounds_toArray, List.set_cons_zero, List.set_cons_succ]
        refine one_ (i := 13) (N := none) #[true, true, true, true, true, true, true, true, true, true, true, true, true, true, false, false, false, false] rfl rfl (by kernel_rfl) (by decide) (fun K hK => ?_)
        go_simp
        refine hK.out _ _ ?_ (fun hHeld2 => ?_)
        · (try dsimp only)
          first | exact hHeld | exact ⟨far_set HNE.out hHeld.1, far_set HNE.out hHeld.2.1, far_set HNE.out hHeld.2.2⟩
        clear hHeld hK K
        have hHeld := hHeld2
        clear hHeld2
        try simp only [Act.put, List.setIfInBounds_toArray, List.set_cons_zero, List.set_cons_succ]
        refine pure_ (i := 14) (N := some 18) (v := ?_) (a' := ?_) #[true, true, true, true, true, true, true, true, true, true, true, true, true, true, true, false, false, false] rfl rfl (by kernel_rfl) (fun _ _ _ h => h) (Or.inl ⟨by rfl, ?_⟩) ?_ ?_
        rotate_left
        · intro w'
          go_simp
          (try with_reducible rfl)
        rotate_left
        · simp only [Act.put, List.setIfInBounds_toArray, List.set_cons_zero, List.set_cons_succ]
          rfl
        refine one_ (i := 15) (N := none) #[true, true, true, true, true, true, true, true, true, true, true, true, true, true, true, true, false, false] rfl rfl (by kernel_rfl) (by decide) (fun K hK => ?_)
        go_simp
        refine hK.out _ _ ?_ (fun hHeld2 => ?_)
        · (try dsimp only)
          first | exact hHeld | exact ⟨far_set HNE.out hHeld.1, far_set HNE.out hHeld.2.1, far_set HNE.out hHeld.2.2⟩
        clear hHeld hK K
        have hHeld := hHeld2
        clear hHeld2
        try simp only [Act.put, List.setIfInBounds_toArray, List.set_cons_zero, List.set_cons_succ]
        refine pure_ (i := 16) (N := some 19) (v := ?_) (a' := ?_) #[true, true, true, true, true, true, true, true, true, true, true, true, true, true, true, true, true, false] rfl rfl (by kernel_rfl) (fun _ _ _ h => h) (Or.inl ⟨by rfl, ?_⟩) ?_ ?_
        rotate_left
        · intro w'
          go_simp
          (try with_reducible rfl)
        rotate_left
        · simp only [Act.put, List.setIfInBounds_toArray, List.set_cons_zero, List.set_cons_succ]
          rfl
        refine last_ (i := 17) (N := none) #[true, true, true, true, true, true, true, true, true, true, true, true, true, true, true, true, true, true] rfl rfl (by kernel_rfl) (by decide) (fun K hK => ?_)
        go_simp
        refine hK.out _ _ ?_
        (try clear hHeld)
        clear hK K
        try simp only [Act.put, List.setIfInBounds_toArray, List.set_cons_zero, List.set_cons_succ]
        refine wpAnyLast_done (by kernel_rfl) ?_ _
        go_wp2_with fail
        go_meet
        exact ⟨rfl, ⟨HMID.out⟩⟩
      go_simp
      refine hK.out _ _ ?_ (fun hHeld2 => ?_)
      · (try dsimp only)
        first | exact hHeld | exact ⟨far_set HNE.out hHeld.1, far_set HNE.out hHeld.2.1, far_set HNE.out hHeld.2.2⟩
      clear hHeld hK K
      have hHeld := hHeld2
      clear hHeld2
      try simp only [Act.put, List.setIfInBounds_toArray, List.set_cons_zero, List.set_cons_succ]
      refine one_ (i := 7) (N := some 12) #[true, true, true, true, true, true, true, true, true, true, true, true, true, true, false, false, false, false] rfl rfl (by kernel_rfl) (by decide) (fun K hK => ?_)
      go_simp
      refine hK.out _ _ ?_ (fun hHeld2 => ?_)
      · (try dsimp only)
        first | exact hHeld | exact ⟨far_set HNE.out hHeld.1, far_set HNE.out hHeld.2.1, far_set HNE.out hHeld.2.2⟩
      clear hHeld hK K
      have hHeld := hHeld2
      clear hHeld2
      try simp only [Act.put, List.setIfInBounds_toArray, List.set_cons_zero, List.set_cons_succ]
      refine pure_ (i := 14) (N := some 18) (v := ?_) (a' := ?_) #[true, true, true, true, true, true, true, true, true, true, true, true, true, true, true, false, false, false] rfl rfl (by kernel_rfl) (fun _ _ _ h => h) (Or.inl ⟨by rfl, ?_⟩) ?_ ?_
      rotate_left
      · intro w'
        go_simp
        (try with_reducible rfl)
      rotate_left
      · simp only [Act.put, List.setIfInBounds_toArray, List.set_cons_zero, List.set_cons_succ]
        rfl
      refine one_ (i := 15) (N := none) #[true, true, true, true, true, true, true, true, true, true, true, true, true, true, true, true, false, false] rfl rfl (by kernel_rfl) (by decide) (fun K hK => ?_)
      go_simp
      refine hK.out _ _ ?_ (fun hHeld2 => ?_)
      · (try dsimp only)
        first | exact hHeld | exact ⟨far_set HNE.out hHeld.1, far_set HNE.out hHeld.2.1, far_set HNE.out hHeld.2.2⟩
      clear hHeld hK K
      have hHeld := hHeld2
      clear hHeld2
      try simp only [Act.put, List.setIfInBounds_toArray, List.set_cons_zero, List.set_cons_succ]
      refine pure_ (i := 16) (N := some 19) (v := ?_) (a' := ?_) #[true, true, true, true, true, true, true, true, true, true, true, true, true, true, true, true, true, false] rfl rfl (by kernel_rfl) (fun _ _ _ h => h) (Or.inl ⟨by rfl, ?_⟩) ?_ ?_
      rotate_left
      · intro w'
        go_simp
        (try with_reducible rfl)
      rotate_left
      · simp only [Act.put, List.setIfInBounds_toArray, List.set_cons_zero, List.set_cons_succ]
        rfl
      refine last_ (i := 17) (N := none) #[true, true, true, true, true, true, true, true, true, true, true, true, true, true, true, true, true, true] rfl rfl (by kernel_rfl) (by decide) (fun K hK => ?_)
      go_simp
      refine hK.out _ _ ?_
      (try clear hHeld)
      clear hK K
      try simp only [Act.put, List.setIfInBounds_toArray, List.set_cons_zero, List.set_cons_succ]
      refine wpAnyLast_done (by kernel_rfl) ?_ _
      go_wp2_with fail
      go_meet
      exact ⟨rfl, ⟨HMID.out⟩⟩
    go_simp
    refine hK.out _ _ ?_ (fun hHeld2 => ?_)
    · (try dsimp only)
      first | exact hHeld | exact ⟨far_set HNE.out hHeld.1, far_set HNE.out hHeld.2.1, far_set HNE.out hHeld.2.2⟩
    clear hHeld hK K
    have hHeld := hHeld2
    clear hHeld2
    try simp only [Act.put, List.setIfInBounds_toArray, List.set_cons_zero, List.set_cons_succ]
    refine two_ (i := 7) (j := 11) (Ni := some 12) (Nj := some 16) #[true, true, true, true, true, true, true, true, true, true, true, false, true, true, false, false, false, false] #[true, true, true, true, true, true, true, false, true, true, true, true, true, true, false, false, false, false] rfl rfl rfl rfl (by kernel_rfl) (by decide) (by decide) (fun K hK => ?_) (fun K hK => ?_)
    · skip
      go_simp
      refine hK.out _ _ ?_ (fun hHeld2 => ?_)
      · (try dsimp only)
        first | exact hHeld | exact ⟨far_set HNE.out hHeld.1, far_set HNE.out hHeld.2.1, far_set HNE.out hHeld.2.2⟩
      clear hHeld hK K
      have hHeld := hHeld2
      clear hHeld2
      try simp only [Act.put, List.setIfInBounds_toArray, List.set_cons_zero, List.set_cons_succ]
      refine pure_ (i := 14) (N := some 18) (v := ?_) (a' := ?_) #[true, true, true, true, true, true, true, true, true, true, true, false, true, true, true, false, false, false] rfl rfl (by kernel_rfl) (fun _ _ _ h => h) (Or.inl ⟨by rfl, ?_⟩) ?_ ?_
      rotate_left
      · intro w'
        go_simp
        (try with_reducible rfl)
      rotate_left
      · simp only [Act.put, List.setIfInBounds_toArray, List.set_cons_zero, List.set_cons_succ]
        rfl
      refine two_ (i := 11) (j := 15) (Ni := some 16) (Nj := none) #[true, true, true, true, true, true, true, true, true, true, true, true, true, true, true, false, false, false] #[true, true, true, true, true, true, true, true, true, true, true, false, true, true, true, true, false, false] rfl rfl rfl rfl (by kernel_rfl) (by decide) (by decide) (fun K hK => ?_) (fun K hK => ?_)
      · skip
        go_simp
        refine hK.out _ _ ?_ (fun hHeld2 => ?_)
        · (try dsimp only)
          first | exact hHeld | exact ⟨far_set HNE.out hHeld.1, far_set HNE.out hHeld.2.1, far_set HNE.out hHeld.2.2⟩
        clear hHeld hK K
        have hHeld := hHeld2
        clear hHeld2
        try simp only [Act.put, List.setIfInBounds_toArray, List.set_cons_zero, List.set_cons_succ]
        refine one_ (i := 15) (N := none) #[true, true, true, true, true, true, true, true, true, true, true, true, true, true, true, true, false, false] rfl rfl (by kernel_rfl) (by decide) (fun K hK => ?_)
        go_simp
        refine hK.out _ _ ?_ (fun hHeld2 => ?_)
        · (try dsimp only)
          first | exact hHeld | exact ⟨far_set HNE.out hHeld.1, far_set HNE.out hHeld.2.1, far_set HNE.out hHeld.2.2⟩
        clear hHeld hK K
        have hHeld := hHeld2
        clear hHeld2
        try simp only [Act.put, List.setIfInBounds_toArray, List.set_cons_zero, List.set_cons_succ]
        refine pure_ (i := 16) (N := some 19) (v := ?_) (a' := ?_) #[true, true, true, true, true, true, true, true, true, true, true, true, true, true, true, true, true, false] rfl rfl (by kernel_rfl) (fun _ _ _ h => h) (Or.inl ⟨by rfl, ?_⟩) ?_ ?_
        rotate_left
        · intro w'
          go_simp
          (try with_reducible rfl)
        rotate_left
        · simp only [Act.put, List.setIfInBounds_toArray, List.set_cons_zero, List.set_cons_succ]
          rfl
        refine last_ (i := 17) (N := none) #[true, true, true, true, true, true, true, true, true, true, true, true, true, true, true, true, true, true] rfl rfl (by kernel_rfl) (by decide) (fun K hK => ?_)
        go_simp
        refine hK.out _ _ ?_
        (try clear hHeld)
        clear hK K
        try simp only [Act.put, List.setIfInBounds_toArray, List.set_cons_zero, List.set_cons_succ]
        refine wpAnyLast_done (by kernel_rfl) ?_ _
        go_wp2_with fail
        go_meet
        exact ⟨rfl, ⟨HMID.out⟩⟩
      go_simp
      refine hK.out _ _ ?_ (fun hHeld2 => ?_)
      · (try dsimp only)
        first | exact hHeld | exact ⟨far_set HNE.out hHeld.1, far_set HNE.out hHeld.2.1, far_set HNE.out hHeld.2.2⟩
      clear hHeld hK K
      have hHeld := hHeld2
      clear hHeld2
      try simp only [Act.put, List.setIfInBounds_toArray, List.set_cons_zero, List.set_cons_succ]
      refine one_ (i := 11) (N := some 16) #[true, true, true, true, true, true, true, true, true, true, true, true, true, true, true, true, false, false] rfl rfl (by kernel_rfl) (by decide) (fun K hK => ?_)
      go_simp
      refine hK.out _ _ ?_ (fun hHeld2 => ?_)
      · (try dsimp only)
        first | exact hHeld | exact ⟨far_set HNE.out hHeld.1, far_set HNE.out hHeld.2.1, far_set HNE.out hHeld.2.2⟩
      clear hHeld hK K
      have hHeld := hHeld2
      clear hHeld2
      try simp only [Act.put, List.setIfInBounds_toArray, List.set_cons_zero, List.set_cons_succ]
      refine pure_ (i := 16) (N := some 19) (v := ?_) (a' := ?_) #[true, true, true, true, true, true, true, true, true, true, true, true, true, true, true, true, true, false] rfl rfl (by kernel_rfl) (fun _ _ _ h => h) (Or.inl ⟨by rfl, ?_⟩) ?_ ?_
      rotate_left
      · intro w'
        go_simp
        (try with_reducible rfl)
      rotate_left
      · simp only [Act.put, List.setIfInBounds_toArray, List.set_cons_zero, List.set_cons_succ]
        rfl
      refine last_ (i := 17) (N := none) #[true, true, true, true, true, true, true, true, true, true, true, true, true, true, true, true, true, true] rfl rfl (by kernel_rfl) (by decide) (fun K hK => ?_)
      go_simp
      refine hK.out _ _ ?_
      (try clear hHeld)
      clear hK K
      try simp only [Act.put, List.setIfInBounds_toArray, List.set_cons_zero, List.set_cons_succ]
      refine wpAnyLast_done (by kernel_rfl) ?_ _
      go_wp2_with fail
      go_meet
      exact ⟨rfl, ⟨HMID.out⟩⟩
    go_simp
    refine hK.out _ _ ?_ (fun hHeld2 => ?_)
    · (try dsimp only)
      first | exact hHeld | exact ⟨far_set HNE.out hHeld.1, far_set HNE.out hHeld.2.1, far_set HNE.out hHeld.2.2⟩
    clear hHeld hK K
    have hHeld := hHeld2
    clear hHeld2
    try simp only [Act.put, List.setIfInBounds_toArray, List.set_cons_zero, List.set_cons_succ]
    refine one_ (i := 7) (N := some 12) #[true, true, true, true, true, true, true, true, true, true, true, true, true, true, false, false, false, false] rfl rfl (by kernel_rfl) (by decide) (fun K hK => ?_)
    go_simp
    refine hK.out _ _ ?_ (fun hHeld2 => ?_)
    · (try dsimp only)
      first | exact hHeld | exact ⟨far_set HNE.out hHeld.1, far_set HNE.out hHeld.2.1, far_set HNE.out hHeld.2.2⟩
    clear hHeld hK K
    have hHeld := hHeld2
    clear hHeld2
    try simp only [Act.put, List.setIfInBounds_toArray, List.set_cons_zero, List.set_cons_succ]
    refine pure_ (i := 14) (N := some 18) (v := ?_) (a' := ?_) #[true, true, true, true, true, true, true, true, true, true, true, true, true, true, true, false, false, false] rfl rfl (by kernel_rfl) (fun _ _ _ h => h) (Or.inl ⟨by rfl, ?_⟩) ?_ ?_
    rotate_left
    · intro w'
      go_simp
      (try with_reducible rfl)
    rotate_left
    · simp only [Act.put, List.setIfInBounds_toArray, List.set_cons_zero, List.set_cons_succ]
      rfl
    refine one_ (i := 15) (N := none) #[true, true, true, true, true, true, true, true, true, true, true, true, true, true, true, true, false, false] rfl rfl (by kernel_rfl) (by decide) (fun K hK => ?_)
    go_simp
    refine hK.out _ _ ?_ (fun hHeld2 => ?_)
    · (try dsimp only)
      first | exact hHeld | exact ⟨far_set HNE.out hHeld.1, far_set HNE.out hHeld.2.1, far_set HNE.out hHeld.2.2⟩
    clear hHeld hK K
    have hHeld := hHeld2
    clear hHeld2
    try simp only [Act.put, List.setIfInBounds_toArray, List.set_cons_zero, List.set_cons_succ]
    refine pure_ (i := 16) (N := some 19) (v := ?_) (a' := ?_) #[true, true, true, true, true, true, true, true, true, true, true, true, true, true, true, true, true, false] rfl rfl (by kernel_rfl) (fun _ _ _ h => h) (Or.inl ⟨by rfl, ?_⟩) ?_ ?_
    rotate_left
    · intro w'
      go_simp
      (try with_reducible rfl)
    rotate_left
    · simp only [Act.put, List.setIfInBounds_toArray, List.set_cons_zero, List.set_cons_succ]
      rfl
    refine last_ (i := 17) (N := none) #[true, true, true, true, true, true, true, true, true, true, true, true, true, true, true, true, true, true] rfl rfl (by kernel_rfl) (by decide) (fun K hK => ?_)
    go_simp
    refine hK.out _ _ ?_
    (try clear hHeld)
    clear hK K
    try simp only [Act.put, List.setIfInBounds_toArray, List.set_cons_zero, List.set_cons_succ]
    refine wpAnyLast_done (by kernel_rfl) ?_ _
    go_wp2_with fail
    go_meet
    exact ⟨rfl, ⟨HMID.out⟩⟩
  case rest =>
    obtain ⟨rfl, HK⟩ := hcut
    have M4 := Lib.hid HK.out
    clear HK M1 HMID HW1
    by_cases k1 : k = 1
    · have hd : dPush x ⟨k, f, t, v, s, xs, ys⟩ = (1, x) := by unfold dPush; rw [if_pos (.inl k1)]
      have HD := Lib.hid hd; clear hd
      obtain ⟨z0, z1, z2, z3, z4, z5, z6⟩ := msC_cells M4.out.q
      have k1' : (k == 1) = true := by simp [k1]
      clear k1
      go_wp2_with fail
      go_ret
      unfold RPushR
      rw [HD.out]
      exact ⟨S, U, rfl, M4.out.G, ⟨M4.out.C, fun b h => .inl h, fun b h => .inl h⟩⟩
    have k1' : (k == 1) = false := by simpa using k1
    have CM := Lib.hid (may_walk k x.own x.peer x.view s A B n c m d (by omega) (by omega) hn hm wc)
    by_cases kk : ¬ (1 ≤ k ∧ k ≤ 20)
    · have hd : dPush x ⟨k, f, t, v, s, xs, ys⟩ = (1, x) := by unfold dPush; rw [if_pos (.inr kk)]
      have HD := Lib.hid hd; clear hd
      obtain ⟨z0, z1, z2, z3, z4, z5, z6⟩ := msC_cells M4.out.q
      rw [decide_eq_false kk] at CM
      clear k1
      go_wp2_with fail
      refine CM.out.mono ?_
      rintro e w5 ⟨rfl, hb5⟩
      have M5 := Lib.hid (M4.out.below hb5)
      clear hb5 z0 z1 z2 z3 z4 z5 z6
      go_wp2_with fail
      go_ret
      unfold RPushR
      rw [HD.out]
      exact ⟨S, U, rfl, M5.out.G, ⟨M5.out.C, fun b h => .inl h, fun b h => .inl h⟩⟩
    have kk := Classical.not_not.1 kk
    rw [decide_eq_true kk] at CM
    have hd : dPush x ⟨k, f, t, v, s, xs, ys⟩ = (0, { x with pushed := x.pushed + 1, out := x.out ++ [⟨⟨k, x.own, x.peer, x.view, x.pushed + 1, xs, ys⟩, false, 0⟩] }) := by unfold dPush; rw [if_neg (fun h => h.elim k1 (fun h => h kk))]
    have HD := Lib.hid hd; clear hd k1
    obtain ⟨z0, z1, z2, z3, z4, z5, z6⟩ := msC_cells M4.out.q
    go_wp2_with fail
    refine CM.out.mono ?_
    rintro e w5 ⟨rfl, hb5⟩
    have M5 := Lib.hid (M4.out.below hb5)
    clear hb5 z0 z1 z2 z3 z4 z5 z6 M4 CM
    obtain ⟨V5, B5, d5, O5, H5, hc5⟩ := M5.out.G.cl
    obtain ⟨A5, c5, rfl⟩ := hc5.q.shape
    have hb5 := hc5.blk
    obtain ⟨on, hon⟩ : ∃ on, on = O5.length := ⟨_, rfl⟩
    have hon2 : on = x.out.length := by rw [hon]; exact hc5.olen.1
    rw [← hon] at hb5
    obtain ⟨l0, l1, l2, l3, l4, l6, l7, l8, l9⟩ := rlC_cells hb5
    obtain ⟨z0, z1, z2, z3, z4, z5, z6⟩ := msC_cells M5.out.q
    have g4 := froz hb5 4
    have y4 := froz M5.out.q 4
    have n1 : ¬ (1024 : Int) ≤ (on : Int) := by omega
    have n4 : IntKind.u32.wrap (x.pushed + 1) = x.pushed + 1 := by rw [IntKind.wrap_u32]; omega
    have HON := Lib.hid hon2
    clear hc5 hb5 hon hon2 l0 l1 l2 l6 l7 l8 l9
    obtain ⟨w6, hw6⟩ : ∃ w6, w6 = w5.setCell ⟨r, 4, none⟩ (.int .u32 (x.pushed + 1)) := ⟨_, rfl⟩
    have M6 := Lib.hid (show RMid w w6 S U r { x with pushed := x.pushed + 1 } (msC k x.own x.peer x.view s (.slice A n c) (.slice B m d)) by rw [hw6]; exact M5.out.num (d' := { x with pushed := x.pushed + 1 }) (j := 4) (v := .int .u32 (x.pushed + 1)) rfl rfl (fun O H hh => by rw [heap_set _ hh]; rfl))
    have HW6 := Lib.hid hw6.symm
    clear hw6
    go_upto_region 7 with (fail)
    rw [HW6.out]
    clear l3 l4 z0 z1 z2 z3 z4 z5 z6 g4 y4 n1 n4 M5 HW6
    obtain ⟨V6, B6, d6, O6, H6, hc6⟩ := M6.out.G.cl
    obtain ⟨l0, l1, l2, l3, l4, l6, l7, l8, l9⟩ := rlC_cells hc6.blk
    obtain ⟨z0, z1, z2, z3, z4, z5, z6⟩ := msC_cells M6.out.q
    have y4 := froz M6.out.q 4
    dsimp only at l4
    clear l0 l1 l2 l3 l6 l7 l8 l9 hc6
    obtain ⟨w7, hw7⟩ : ∃ w7, w7 = w6.setCell ⟨w.heap.size, 4, none⟩ (.int .u32 (x.pushed + 1)) := ⟨_, rfl⟩
    have M7 := Lib.hid (show RMid w w7 S U r { x with pushed := x.pushed + 1 } (msC k x.own x.peer x.view (x.pushed + 1) (.slice A n c) (.slice B m d)) by rw [hw7]; exact M6.out.box (grown_set _) (by rw [heap_set _ M6.out.q]; rfl))
    have HW7 := Lib.hid hw7.symm
    clear hw7
    go_upto_region 8 with (fail)
    rw [HW7.out]
    clear l4 z0 z1 z2 z3 z4 z5 z6 y4 M6 HW7
    have HR7 := Lib.hid (HRD.out _ M7.out.C)
    obtain ⟨z0, z1, z2, z3, z4, z5, z6⟩ := msC_cells M7.out.q
    have y5 := froz M7.out.q 5
    have HF7 := Lib.hid (lit0_own w7 w7.heap.size 2 1 (Nat.le_refl _))
    have HB7 := Lib.hid (alloc_back (W := w7) (.cells #[] 2))
    have hz5 := pw_cell_below HB7.out z5
    go_upto_region 9 with (at_builtin; refine app_row w7.heap.size rfl (.tmp 46) (.tmp 48) 29 2 .i64 8 rfl Try.underlying29 (by kernel_rfl) (by decide) (.slice (some ⟨w7.heap.size, 0, none⟩) 0 0) [] xs A n c rfl rfl HF7.out (HR7.out.rd.below HB7.out) HB7.out HB7.out.size (by simp; omega) n (by rw [List.nil_append]; exact HR7.out.rd.1) ?_; intro A8 c8 w8 ho8 hb8 hg8; have q8 := heap_keep hb8 M7.out.q; obtain ⟨v0, v1, v2, v3, v4, v5, v6⟩ := msC_cells q8; have y8 := froz q8 5; have HO8 := Lib.hid ho8; have HB8 := Lib.hid hb8; clear ho8 hb8 hg8 q8)
    clear z0 z1 z2 z3 z4 z5 z6 v0 v1 v2 v3 v4 v5 v6 y8 y5 hz5 HF7 HB7
    have M8 := Lib.hid (M7.out.below HB8.out)
    have HL8 := Lib.hid (lt_of_heap M7.out.q)
    obtain ⟨w9, hw9⟩ : ∃ w9, w9 = w8.setCell ⟨w.heap.size, 5, none⟩ (.slice A8 n c8) := ⟨_, rfl⟩
    have M9 := Lib.hid (show RMid w w9 S U r { x with pushed := x.pushed + 1 } (msC k x.own x.peer x.view (x.pushed + 1) (.slice A8 n c8) (.slice B m d)) by rw [hw9]; exact M8.out.box (grown_set _) (by rw [heap_set _ M8.out.q]; rfl))
    have HO9 := Lib.hid (show w9.ownsRow w7.heap.size 2 1 (.slice A8 n c8) n (nums .i64 xs) by rw [hw9]; exact (Chg.ofGrown (S := fun b => b = w.heap.size) (grown_set _) (fun k e => by injection e with e; exact e.symm)).own HO8.out (fun g hg e => by have := own_base HO8.out g hg; have := HL8.out; omega))
    rw [← hw9]
    clear hw9 M7 M8 HO8 HB8
    have HR9 := Lib.hid (HRD.out _ M9.out.C)
    obtain ⟨z0, z1, z2, z3, z4, z5, z6⟩ := msC_cells M9.out.q
    have y6 := froz M9.out.q 6
    have HF9 := Lib.hid (lit0_own w9 w9.heap.size 79 2 (Nat.le_refl _))
    have HB9 := Lib.hid (alloc_back (W := w9) (.cells #[] 79))
    have hz6 := pw_cell_below HB9.out z6
    obtain ⟨i1, zz1, hi1, hz1, hz2, hz3, hz4⟩ := wInfo
    have HJ := Lib.hid (And.intro hi1 (And.intro hz1 (And.intro hz2 (And.intro hz3 hz4))))
    clear hi1 hz1 hz2 hz3 hz4
    go_upto_region 10 with (at_builtin; refine list_app_cells w9.heap.size rfl (.tmp 51) (.tmp 53) 30 79 i1 zz1 2 16 rfl Try.underlying30 HJ.out.1 HJ.out.2.1 HJ.out.2.2.1 HJ.out.2.2.2.1 HJ.out.2.2.2.2 (by decide) (by decide) (.slice (some ⟨w9.heap.size, 0, none⟩) 0 0) 0 [] (wides ys) B m d rfl rfl HF9.out (ReadsC.ofWides (HR9.out.wd.below HB9.out) (fun e => (HR9.out.bz e).1)) HB9.out HB9.out.size (by omega) m (Nat.zero_add _) ?_; intro B8 d8 w10 ho8 hb8 hg8 ha8; have q8 := heap_keep hb8 M9.out.q; obtain ⟨v0, v1, v2, v3, v4, v5, v6⟩ := msC_cells q8; have y8 := froz q8 6; have HO10 := Lib.hid ho8; have HB10 := Lib.hid hb8; clear ho8 hb8 hg8 ha8 q8)
    clear z0 z1 z2 z3 z4 z5 z6 v0 v1 v2 v3 v4 v5 v6 y8 y6 hz6 HF9 HB9
    have M10 := Lib.hid (M9.out.below HB10.out)
    have HL10 := Lib.hid (lt_of_heap M9.out.q)
    obtain ⟨w11, hw11⟩ : ∃ w11, w11 = w10.setCell ⟨w.heap.size, 6, none⟩ (.slice B8 m d8) := ⟨_, rfl⟩
    have M11 := Lib.hid (show RMid w w11 S U r { x with pushed := x.pushed + 1 } (msC k x.own x.peer x.view (x.pushed + 1) (.slice A8 n c8) (.slice B8 m d8)) by rw [hw11]; exact M10.out.box (grown_set _) (by rw [heap_set _ M10.out.q]; rfl))
    have hC11 : Chg (fun b => b = w.heap.size) w10 w11 := by rw [hw11]; exact Chg.ofGrown (grown_set _) (fun k e => by injection e with e; exact e.symm)
    have HN11 := Lib.hid (show w11.ownsRow w7.heap.size 2 1 (.slice A8 n c8) n (nums .i64 xs) from hC11.own (pw_own_below HO9.out HB10.out) (fun g hg e => by have := own_base HO9.out g hg; have := HL8.out; omega))
    have HW11 := Lib.hid (show w11.ownsRow w9.heap.size 79 2 (.slice B8 m d8) m (wides ys) from hC11.own HO10.out (fun g hg e => by have := own_base HO10.out g hg; have := HL10.out; omega))
    rw [← hw11]
    clear hw11 hC11 M9 M10 HO9 HO10 HB10 HR7
    have HS7 := Lib.hid (Nat.le_of_lt HL8.out)
    have HS9 := Lib.hid (Nat.le_of_lt HL10.out)
    have HXL := Lib.hid (And.intro HR9.out.rd.1 HR9.out.wd.1)
    obtain ⟨V11, B11, d11, O10, H10, hc11⟩ := M11.out.G.cl
    obtain ⟨Ao, co, rfl⟩ := hc11.q.shape
    have hon10 : on = O10.length := by rw [HON.out]; exact hc11.olen.1.symm
    rw [← hon10] at hc11
    obtain ⟨l0, l1, l2, l3, -⟩ := rlC_cells hc11.blk
    obtain ⟨z0, z1, z2, z3, z4, z5, z6⟩ := msC_cells M11.out.q
    have HON10 := Lib.hid hon10
    have HRC := Lib.hid hc11
    have HC10 := Lib.hid hc11.blk
    have HT10 := Lib.hid hc11.vr
    have HQ10 := Lib.hid (show Q.QRow w11 0 71 8 (.slice Ao on co) on (rsC O10) by have h := hc11.q; rw [← hon10] at h; exact h)
    have HB10 := Lib.hid (show (Value.slice Ao on co).ownBlock ≠ some w.heap.size from fun e => by have := M11.out.lt _ (hc11.qs _ e); omega)
    have onb : on ≤ 1000 := by rw [HON.out]; omega
    obtain ⟨i0, z0', hi0, hz0, hz1, hz2, hz3⟩ := tInfo
    have HI := Lib.hid (And.intro hi0 (And.intro hz0 (And.intro hz1 (And.intro hz2 hz3))))
    clear hi0 hz0 hz1 hz2 hz3 hc11 hon10 l0 l1 l2 HR9 HRD
    refine start_ (n := 12) (S := fun w' => w'.cell? ⟨r, 3, none⟩ = some (.slice Ao on co) ∧ w'.cell? ⟨w.heap.size, 0, none⟩ = some (.int .i64 k) ∧ w'.cell? ⟨w.heap.size, 1, none⟩ = some (.int .i64 x.own) ∧ w'.cell? ⟨w.heap.size, 2, none⟩ = some (.int .i64 x.peer) ∧ w'.cell? ⟨w.heap.size, 3, none⟩ = some (.int .u32 x.view) ∧ w'.cell? ⟨w.heap.size, 4, none⟩ = some (.int .u32 (x.pushed + 1)) ∧ w'.cell? ⟨w.heap.size, 5, none⟩ = some (.slice A8 n c8) ∧ w'.cell? ⟨w.heap.size, 6, none⟩ = some (.slice B8 m d8)) (ds := [11]) #[false, false, false, false, false, false, false, false, false, false, false, false] (by kernel_rfl) rfl rfl (⟨l3, z0, z1, z2, z3, z4, z5, z6⟩) (fun hHeld => ?_)
    refine pure_ (i := 0) (N := some 56) (v := ?_) (a' := ?_) #[true, false, false, false, false, false, false, false, false, false, false, false] rfl rfl (by kernel_rfl) (fun _ _ _ h => h) (Or.inl ⟨by rfl, ?_⟩) ?_ ?_
    rotate_left
    · intro w'
      go_simp
      (try with_reducible rfl)
    rotate_left
    · simp only [Act.put, List.setIfInBounds_toArray, List.set_cons_zero, List.set_cons_succ]
      rfl
    refine pure_ (i := 1) (N := some 57) (v := ?_) (a' := ?_) #[true, true, false, false, false, false, false, false, false, false, false, false] rfl rfl (by kernel_rfl) (fun _ _ _ h => h) (Or.inl ⟨by rfl, ?_⟩) ?_ ?_
    rotate_left
    · intro w'
      go_simp
      (try with_reducible rfl)
    rotate_left
    · simp only [Act.put, List.setIfInBounds_toArray, List.set_cons_zero, List.set_cons_succ]
      rfl
    refine pure_ (i := 2) (N := some 58) (v := ?_) (a' := ?_) #[true, true, true, false, false, false, false, false, false, false, false, false] rfl rfl (by kernel_rfl) (fun _ _ _ h => h) (Or.inl ⟨by rfl, ?_⟩) ?_ ?_
    rotate_left
    · intro w'
      go_simp
      (try with_reducible rfl)
    rotate_left
    · simp only [Act.put, List.setIfInBounds_toArray, List.set_cons_zero, List.set_cons_succ]
      rfl
    refine pure_ (i := 3) (N := some 59) (v := ?_) (a' := ?_) #[true, true, true, true, false, false, false, false, false, false, false, false] rfl rfl (by kernel_rfl) (fun _ _ _ h => h) (Or.inl ⟨by rfl, ?_⟩) ?_ ?_
    rotate_left
    · intro w'
      go_simp
      (try with_reducible rfl)
    rotate_left
    · simp only [Act.put, List.setIfInBounds_toArray, List.set_cons_zero, List.set_cons_succ]
      rfl
    refine take_ (i := 4) (N := some 60) (v := ?_) (a' := ?_) #[true, true, true, true, true, false, false, false, false, false, false, false] rfl rfl (by kernel_rfl) (fun _ _ _ h => h) (Or.inl ⟨by rfl, ?_⟩) hHeld ?_ ?_
    rotate_left
    · rintro w' ⟨s0, s1, s2, s3, s4, s5, s6, s7⟩
      go_simp
      (try with_reducible rfl)
    rotate_left
    · simp only [Act.put, List.setIfInBounds_toArray, List.set_cons_zero, List.set_cons_succ]
      rfl
    refine take_ (i := 5) (N := some 61) (v := ?_) (a' := ?_) #[true, true, true, true, true, true, false, false, false, false, false, false] rfl rfl (by kernel_rfl) (fun _ _ _ h => h) (Or.inl ⟨by rfl, ?_⟩) hHeld ?_ ?_
    rotate_left
    · rintro w' ⟨s0, s1, s2, s3, s4, s5, s6, s7⟩
      go_simp
      (try with_reducible rfl)
    rotate_left
    · simp only [Act.put, List.setIfInBounds_toArray, List.set_cons_zero, List.set_cons_succ]
      rfl
    refine pure_ (i := 6) (N := some 62) (v := ?_) (a' := ?_) #[true, true, true, true, true, true, true, false, false, false, false, false] rfl rfl (by kernel_rfl) (fun _ _ _ h => h) (Or.inl ⟨by rfl, ?_⟩) ?_ ?_
    rotate_left
    · intro w'
      go_simp
      (try with_reducible rfl)
    rotate_left
    · simp only [Act.put, List.setIfInBounds_toArray, List.set_cons_zero, List.set_cons_succ]
      rfl
    refine one_ (i := 7) (N := some 63) #[true, true, true, true, true, true, true, true, false, false, false, false] rfl rfl (by kernel_rfl) (by decide) (fun K hK => ?_)
    go_simp
    refine hK.out _ _ ?_ (fun hHeld2 => ?_)
    · (try dsimp only)
      exact ⟨pw_cell_below (by first | exact alloc_back _ | exact (below_drew (Below.refl _ _)).alloc (Nat.le_refl _) _) l3, pw_cell_below (by first | exact alloc_back _ | exact (below_drew (Below.refl _ _)).alloc (Nat.le_refl _) _) z0, pw_cell_below (by first | exact alloc_back _ | exact (below_drew (Below.refl _ _)).alloc (Nat.le_refl _) _) z1, pw_cell_below (by first | exact alloc_back _ | exact (below_drew (Below.refl _ _)).alloc (Nat.le_refl _) _) z2, pw_cell_below (by first | exact alloc_back _ | exact (below_drew (Below.refl _ _)).alloc (Nat.le_refl _) _) z3, pw_cell_below (by first | exact alloc_back _ | exact (below_drew (Below.refl _ _)).alloc (Nat.le_refl _) _) z4, pw_cell_below (by first | exact alloc_back _ | exact (below_drew (Below.refl _ _)).alloc (Nat.le_refl _) _) z5, pw_cell_below (by first | exact alloc_back _ | exact (below_drew (Below.refl _ _)).alloc (Nat.le_refl _) _) z6⟩
    clear hHeld hK K
    have hHeld := hHeld2
    clear hHeld2
    try simp only [Act.put, List.setIfInBounds_toArray, List.set_cons_zero, List.set_cons_succ]
    refine one_ (i := 8) (N := some 64) #[true, true, true, true, true, true, true, true, true, false, false, false] rfl rfl (by kernel_rfl) (by decide) (fun K hK => ?_)
    refine step_qapp (W := w11.drew) 0 (by rfl) _ _ 44 71 i0 z0' 8 (by rfl) Try.underlying44 HI.out.1 HI.out.2.1 HI.out.2.2.1 (by rw [HI.out.2.2.2.1]; decide) HI.out.2.2.2.2 (.slice Ao on co) (rsC O10) on [.int .i64 k, .int .i64 x.own, .int .i64 x.peer, .int .u32 x.view, .int .u32 (x.pushed + 1), .slice A8 n c8, .slice B8 m d8, .int .i64 (-1)] rfl (by simp [Value.oneCell']) (by rfl) (by rfl) (HQ10.out.below (below_drew (Below.refl _ _))) (Nat.zero_le _) (by omega) ?_
    intro v1 w12 hq12 hg12 hv12
    obtain ⟨A12, c12, rfl⟩ := hq12.shape
    have HF12 := Lib.hid (And.intro hq12 (And.intro hg12 hv12))
    have hr12 := (hg12.block r (lt_of_heap HC10.out) (fun e => HT10.out.1 r e.symm rfl)).trans HC10.out
    obtain ⟨v0, v01, v02, v3, v04, v06, v07, v08, v09⟩ := rlC_cells hr12
    have f3 := froz hr12 3
    obtain ⟨y0, y1, y2, y3, y4, y5, y6⟩ := msC_cells ((hg12.block _ (lt_of_heap M11.out.q) (fun e => HB10.out e.symm)).trans M11.out.q)
    clear hq12 hg12 hv12 hr12 v0 v01 v02 v04 v06 v07 v08 v09
    refine hK.out _ _ ?_ (fun hHeld2 => ?_)
    · (try dsimp only)
      exact ⟨v3, y0, y1, y2, y3, y4, y5, y6⟩
    clear hHeld hK K
    have hHeld := hHeld2
    clear hHeld2
    try simp only [Act.put, List.setIfInBounds_toArray, List.set_cons_zero, List.set_cons_succ]
    refine pure_ (i := 9) (N := some 65) (v := ?_) (a' := ?_) #[true, true, true, true, true, true, true, true, true, true, false, false] rfl rfl (by kernel_rfl) (fun _ _ _ h => h) (Or.inl ⟨by rfl, ?_⟩) ?_ ?_
    rotate_left
    · intro w'
      go_simp
      (try with_reducible rfl)
    rotate_left
    · simp only [Act.put, List.setIfInBounds_toArray, List.set_cons_zero, List.set_cons_succ]
      rfl
    refine pure_ (i := 10) (N := some 66) (v := ?_) (a' := ?_) #[true, true, true, true, true, true, true, true, true, true, true, false] rfl rfl (by kernel_rfl) (fun _ _ _ h => h) (Or.inl ⟨by rfl, ?_⟩) ?_ ?_
    rotate_left
    · intro w'
      go_simp
      (try with_reducible rfl)
    rotate_left
    · simp only [Act.put, List.setIfInBounds_toArray, List.set_cons_zero, List.set_cons_succ]
      rfl
    refine last_ (i := 11) (N := none) #[true, true, true, true, true, true, true, true, true, true, true, true] rfl rfl (by kernel_rfl) (by decide) (fun K hK => ?_)
    go_simp
    refine hK.out _ _ ?_
    (try clear hHeld)
    clear hK K
    try simp only [Act.put, List.setIfInBounds_toArray, List.set_cons_zero, List.set_cons_succ]
    refine wpAnyLast_done (by kernel_rfl) ?_ _
    obtain ⟨w13, hw13⟩ : ∃ w13, w13 = w12.setCell ⟨r, 3, none⟩ (.slice A12 (on + 1) c12) := ⟨_, rfl⟩
    rw [← hw13]
    have hF := rpush_fin (w13 := w13) (y := ⟨k, x.own, x.peer, x.view, x.pushed + 1, A8, c8, xs, B8, d8, ys⟩) M11.out.G HRC.out M11.out.lt M11.out.ltU M11.out.C.size HS7.out HS9.out (by have h := HN11.out; rw [← HXL.out.1] at h; exact h) (by have h := HW11.out; rw [← HXL.out.2] at h; exact h) (by rw [← HON10.out]; simp only [RSn.cells, Hd.cells, Hd.nv, Hd.wv, HXL.out.1, HXL.out.2, List.cons_append, List.nil_append]; exact HF12.out.1) HF12.out.2.1 HF12.out.2.2 hw13
    have HF := Lib.hid hF
    clear hF hw13 f3 v3 y0 y1 y2 y3 y4 y5 y6
    go_wp2_with fail
    go_ret
    unfold RPushR
    rw [HD.out]
    obtain ⟨S', U', h1, h2, h3, h4⟩ := HF.out
    exact ⟨S', U', rfl, h1, M11.out.C.trans h2 (fun k _ h => h), h3, h4⟩
end
end Go.Proofs.Ytbkpgkkfkjlnnaa.G
