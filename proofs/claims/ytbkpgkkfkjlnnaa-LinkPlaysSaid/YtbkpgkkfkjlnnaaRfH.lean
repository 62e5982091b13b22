/- The reference's link: Get that takes a message (printed by a program of mine, mkrfh.py). -/
import Derived.Test.YtbkpgkkfkjlnnaaRfG
set_option linter.unusedVariables false
set_option linter.unusedSimpArgs false
namespace Go.Proofs.Ytbkpgkkfkjlnnaa.G
open Go.RowKit Go.Proofs.YtbkpgkkfkjlnnaaW.PrintWords Go.Proofs.YtbkpgkkfkjlnnaaW.PrintLast Go.Proofs.Ytbkpgkkfkjlnnaa.K Go.Proofs.Ytbkpgkkfkjlnnaa.Row Go.Proofs.Ytbkpgkkfkjlnnaa

theorem app_cells7q {w0 W : World} {P : Program} {ops : Array Oper} {o : Oper} {rest : List Oper} {a : Act} {Qx : Exit → Act → World → Prop} (base : Nat) (hgd : o.guard = none) (s x : Operand) (t e : TypeId)
    (ho : o.op = .call { callee := .builtin .append, args := #[s, x], argTypes := #[t, t] })
    (ht : P.underlying t = some (.slice e)) (hinfo : (P.info? e).map (fun i => (i.zero, i.size, i.bytes)) = some (some (.agg #[.int .i64 0, .int .i64 0, .int .i64 0, .int .u32 0, .int .u32 0, .slice none 0 0, .slice none 0 0]), 7, 80))
    (v : Value) (xs news : List Value) (n : Nat) (hnl : news.length = 7) (hone : ∀ u ∈ news, u.oneCell' = true) (hs : a.eval s = v) (hx : a.eval x = .slice (some ⟨W.heap.size, 0, none⟩) 1 1)
    (HO : W.ownsRow base e 7 v n xs) (HB : Below base w0 W) (hbase : base ≤ W.heap.size) (hl : n ≤ 1000000)
    (h : ∀ A1 c1 w1, w1.ownsRow base e 7 (.slice A1 (n + 1) c1) (n + 1) (xs ++ news) → Below base w0 w1 → W.grownBy w1 v.ownBlock → ((Value.slice A1 (n + 1) c1).ownBlock = v.ownBlock ∨ ∃ b, (Value.slice A1 (n + 1) c1).ownBlock = some b ∧ W.heap.size ≤ b) → wpList P ops Qx rest (a.put o.dst (.slice A1 (n + 1) c1)) w1) :
    wpList P ops Qx (o :: rest) a (W.alloc (.cells news.toArray e)) := by
  refine print_append_cells (P := P) base hgd s x t e (.agg #[.int .i64 0, .int .i64 0, .int .i64 0, .int .u32 0, .int .u32 0, .slice none 0 0, .slice none 0 0]) 7 80 ho ht hinfo rfl (by decide) (by decide) v n xs news hs hx hnl hone HO HB hbase (by omega) ?_
  intro v1 w1 hown hB hg hq
  obtain ⟨A1, c1, rfl⟩ := own_slice hown
  exact h A1 c1 w1 hown hB hg hq
theorem lit0_of {B : Nat} {W0 W : World} (_ : Below B W0 W) (base : Nat) (e : TypeId) (size : Nat) (hb : base ≤ W.heap.size) : (W.alloc (.cells #[] e)).ownsRow base e size (.slice (some ⟨W.heap.size, 0, none⟩) 0 0) 0 [] := lit0_own W base e size hb
/-- The held row is another one now. -/
theorem RefG.newHeld {w w3 w4 : World} {S U T : Nat → Prop} {r : Nat} {x : DS} {V : Value} {B : Option Addr} {c : Nat} {O : List RSn} {H H' : List Hd} {A' : Option Addr} {n' c' : Nat} {held' : List Dt} (hG : RefG w S U r x) (hc : RefC w S U r x V B c O H) (hcg : Chg T w w3) (hT : ∀ b, T b → (Value.slice B H.length c).ownBlock = some b)
    (hn : n' = H'.length) (ho : w3.ownsRow 0 51 7 (.slice A' n' c') n' (hdC H')) (hab : ∀ b, (Value.slice A' n' c').ownBlock = some b → (Value.slice B H.length c).ownBlock = some b ∨ w.heap.size ≤ b) (hb : ∀ h ∈ H', h ∈ H ∨ HdRd w U h) (hw4 : w4 = w3.setCell ⟨r, 7, none⟩ (.slice A' n' c')) (he : H'.map Hd.dt = held') :
    RefG w4 (fun b => S b ∨ (Value.slice A' n' c').ownBlock = some b) U r { x with held := held' } ∧ Chg S w w4 ∧ (∀ b, (S b ∨ (Value.slice A' n' c').ownBlock = some b) → S b ∨ w.heap.size ≤ b) := by
  obtain ⟨t1, t2, t3⟩ := hc.vr
  have hTS : ∀ b, T b → S b := fun b hb => hc.h.2 b (hT b hb)
  have c2 : Chg (fun b => b = r) w3 w4 := by rw [hw4]; exact Chg.ofGrown (grown_set _) (fun k e => by injection e with e; exact e.symm)
  have hr3 : w3.heap[r]? = _ := hcg.keep hc.blk (fun e => t2 r (hT r e) rfl)
  have hA' : ∀ b, (Value.slice A' n' c').ownBlock = some b → (S b ∨ w.heap.size ≤ b) ∧ b ≠ r := fun b hb => by
    rcases hab b hb with h | h
    · exact ⟨.inl (hc.h.2 b h), t2 b h⟩
    · exact ⟨.inr h, fun e => by have := hG.inn r hG.hr; omega⟩
  have dU : ∀ {h : Hd}, HdRd w U h → HdRd w4 U h := fun hh => (hh.chg hcg (fun b hb e => hG.sep b (hTS b e) hb)).chg c2 (fun b hb e => hG.sep r hG.hr (e ▸ hb))
  refine ⟨⟨fun b hb => ?_, fun b hb => Nat.lt_of_lt_of_le (hG.inU b hb) (Nat.le_trans hcg.size c2.size), fun b hb hu => ?_, .inl hG.hr, ⟨V, A', c', O, H', ⟨by rw [hw4, heap_set _ hr3, hn]; rfl, (hc.q.chg hcg (fun k hk e => t3 k hk (hT k e))).chg c2 (fun k hk e => t1 k hk e), fun b hb => .inl (hc.qs b hb), ⟨by rw [← hn]; exact c2.own ho (fun g hg e => (hA' g hg).2 e), fun b hb => .inr (by rw [hn]; exact hb)⟩, hc.eo, he, fun p hp => dU (hc.bo p hp), fun p hp => ?_⟩⟩⟩, ?_, fun b hb => ?_⟩
  · rcases hb with hb | hb
    · exact Nat.lt_of_lt_of_le (hG.inn b hb) (Nat.le_trans hcg.size c2.size)
    · exact Nat.lt_of_lt_of_le (own_lt ho b hb) c2.size
  · rcases hb with hb | hb
    · exact hG.sep b hb hu
    · rcases (hA' b hb).1 with h | h
      · exact hG.sep b h hu
      · have := hG.inU b hu; omega
  · rcases hb p hp with h | h
    · exact dU (hc.bh p h)
    · exact dU h
  · exact (hcg.mono (fun k _ e => hTS k e)).trans c2 (fun k _ e => by rw [e]; exact hG.hr)
  · rcases hb with hb | hb
    · exact .inl hb
    · exact (hA' b hb).1
def heldLen (w : World) (r : Nat) : Nat := match w.cell? ⟨r, 7, none⟩ with | some (.slice _ n _) => n | _ => 0
/-- The loop that hands out those whose turn it is. -/
structure RRd (w wr : World) (S U S' : Nat → Prop) (r : Nat) (x : DS) (R : List Dt × Int × List Dt) (gk : Nat) (A : Option Addr) (k c : Nat) (nx : Int) (held : List Dt) (L : List Hd) : Prop where
  G : RefG wr S' U r { x with next := nx, held := held }
  o : wr.ownsRow w.heap.size 51 7 (.slice A k c) k (hdC L)
  b : ∀ h ∈ L, HdRd wr U h
  e : rdyD gk nx held (L.map Hd.dt) = R
  gk : held.length < gk
  C : Chg S w wr
  inc : ∀ b, S' b → S b ∨ w.heap.size ≤ b
  ap : ∀ b, (Value.slice A k c).ownBlock = some b → ¬ S' b
  lt : ∀ b, S b → b < w.heap.size
  ltU : ∀ b, U b → b < w.heap.size
  nb : 1 ≤ nx ∧ nx + held.length < 4294960002
  hk : held.length ≤ 1000 ∧ k + held.length ≤ 1000
theorem RRd.below {w wr wx : World} {S U S' : Nat → Prop} {r : Nat} {x : DS} {R : List Dt × Int × List Dt} {gk : Nat} {A : Option Addr} {k c : Nat} {nx : Int} {held : List Dt} {L : List Hd} (h : RRd w wr S U S' r x R gk A k c nx held L) (hb : Below wr.heap.size wr wx) : RRd w wx S U S' r x R gk A k c nx held L :=
  ⟨h.G.below hb, pw_own_below h.o hb, fun y hy => (h.b y hy).below hb, h.e, h.gk, h.C.trans (Chg.ofBelow (S := fun _ => False) hb) (fun _ _ h => h.elim), h.inc, h.ap, h.lt, h.ltU, h.nb, h.hk⟩
theorem rdyD_fuel (m : Nat) (nx : Int) (held out : List Dt) (h : held.length ≤ m) : rdyD (m + 1) nx held out = rdyD m nx held out := by
  induction m generalizing nx held out with
  | zero =>
    obtain rfl : held = [] := List.eq_nil_of_length_eq_zero (by omega)
    rfl
  | succ m ih =>
    rw [rdyD]
    conv => rhs; rw [rdyD]
    cases hx : held[held.findIdx (fun h => h.s == nx)]? with
    | none => rfl
    | some x =>
      have hlt := (List.getElem?_eq_some_iff.1 hx).1
      exact ih _ _ _ (by rw [List.length_eraseIdx_of_lt hlt]; omega)
/-- One more was handed out. -/
theorem RRd.fin {w wr w2 w5 w6 : World} {S U S' S2 : Nat → Prop} {r : Nat} {x : DS} {R : List Dt × Int × List Dt} {gk : Nat} {A A2 : Option Addr} {k c c2 : Nat} {nx : Int} {held : List Dt} {L : List Hd} {y : Hd} {j : Nat} (h : RRd w wr S U S' r x R (gk + 1) A k c nx held L)
    (hj : j = held.findIdx (fun h => h.s == nx)) (hy : held[j]? = some y.dt) (hyb : HdRd wr U y)
    (ho : w2.ownsRow w.heap.size 51 7 (.slice A2 (k + 1) c2) (k + 1) (hdC L ++ y.cells)) (hg : wr.grownBy w2 (Value.slice A k c).ownBlock) (hap : ∀ b, (Value.slice A2 (k + 1) c2).ownBlock = some b → (Value.slice A k c).ownBlock = some b ∨ wr.heap.size ≤ b)
    (hG5 : RefG w5 S2 U r { x with next := nx, held := held.eraseIdx j }) (hc5 : Chg S' w2 w5) (hS2 : ∀ b, S2 b → S' b ∨ w2.heap.size ≤ b) (hw6 : w6 = w5.setCell ⟨r, 8, none⟩ (.int .u32 nx)) :
    RRd w w6 S U S2 r x R gk A2 (k + 1) c2 (nx + 1) (held.eraseIdx j) (L ++ [y]) := by
  have hjl := (List.getElem?_eq_some_iff.1 hy).1
  have hA : ∀ b, (Value.slice A k c).ownBlock = some b → w.heap.size ≤ b := fun b hb => own_base h.o b hb
  have c1 : Chg (fun b => (Value.slice A k c).ownBlock = some b) wr w2 := Chg.ofGrown hg (fun k e => e)
  have c3 : Chg (fun b => b = r) w5 w6 := by rw [hw6]; exact Chg.ofGrown (grown_set _) (fun k e => by injection e with e; exact e.symm)
  have hr : S' r := h.G.hr
  have hUA : ∀ b, U b → ¬ (Value.slice A k c).ownBlock = some b := fun b hb e => by have := h.ltU b hb; have := hA b e; omega
  have hA2 : ∀ b, (Value.slice A2 (k + 1) c2).ownBlock = some b → ¬ S' b ∧ w.heap.size ≤ b ∧ b < w2.heap.size := fun b hb => by
    refine ⟨fun hs => ?_, own_base ho b hb, own_lt ho b hb⟩
    rcases hap b hb with h1 | h1
    · exact h.ap b h1 hs
    · have := h.G.inn b hs; omega
  have dU : ∀ {z : Hd}, HdRd wr U z → HdRd w6 U z := fun hz => ((hz.chg c1 hUA).chg hc5 (fun b hb hs => h.G.sep b hs hb)).chg c3 (fun b hb e => h.G.sep r hr (e ▸ hb))
  refine ⟨?_, ?_, fun z hz => ?_, ?_, ?_, ?_, fun b hb => ?_, fun b hb hs => ?_, h.lt, h.ltU, ?_, ?_⟩
  · rw [hw6]
    exact hG5.num (d' := { x with next := nx + 1, held := held.eraseIdx j }) (grown_set _) (by simp [World.setCell]) rfl rfl (fun O H hh => by rw [heap_set _ hh]; show some (Obj.cells (rlC x.own x.peer x.view O x.pushed x.told H nx x.now) _ (0, 0)) = some (Obj.cells (rlC x.own x.peer x.view O x.pushed x.told H (nx + 1 - 1) x.now) _ (0, 0)); rw [Int.add_sub_cancel])
  · rw [show hdC (L ++ [y]) = hdC L ++ y.cells by simp [hdC]]
    exact c3.own (hc5.own ho (fun b hb hs => (hA2 b hb).1 hs)) (fun b hb e => (hA2 b hb).1 (e ▸ hr))
  · rcases List.mem_append.1 hz with hz | hz
    · exact dU (h.b z hz)
    · obtain rfl := List.mem_singleton.1 hz; exact dU hyb
  · have h1 := h.e
    rw [rdyD, ← hj, hy] at h1
    rw [List.map_append]; exact h1
  · rw [List.length_eraseIdx_of_lt hjl]; have := h.gk; omega
  · have c0 : Chg S w w2 := h.C.trans c1 (fun q hq e => by have := hA q e; omega)
    have c00 : Chg S w w5 := c0.trans hc5 (fun q hq hs => (h.inc q hs).elim id (fun h' => by omega))
    exact c00.trans c3 (fun q hq e => (h.inc q (e ▸ hr)).elim id (fun h' => by omega))
  · rcases hS2 b hb with h1 | h1
    · exact h.inc b h1
    · exact .inr (Nat.le_trans (Nat.le_trans h.C.size c1.size) h1)
  · have h1 := hA2 b hb
    rcases hS2 b hs with h2 | h2
    · exact h1.1 h2
    · omega
  · have := h.nb; rw [List.length_eraseIdx_of_lt hjl]; omega
  · have := h.hk; rw [List.length_eraseIdx_of_lt hjl]; omega
theorem ixD_cases (L : List Dt) (q : Int) : (ixD L q = -1 ∧ L[L.findIdx (fun h => h.s == q)]? = none) ∨ ∃ x, ixD L q = ((L.findIdx (fun h => h.s == q) : Nat) : Int) ∧ L[L.findIdx (fun h => h.s == q)]? = some x ∧ L.findIdx (fun h => h.s == q) < L.length := by
  by_cases h : L.findIdx (fun h => h.s == q) < L.length
  · exact .inr ⟨L[L.findIdx (fun h => h.s == q)], by unfold ixD; rw [if_pos h], List.getElem?_eq_getElem h, h⟩
  · exact .inl ⟨by unfold ixD; rw [if_neg h], List.getElem?_eq_none (by omega)⟩
section
variable (w : World) (S U : Nat → Prop) (r : Nat) (x : DS) (k f t v s : Int) (A B : Option Addr) (n c m d : Nat) (xs : List Int) (ys : List (Int × Int))
set_option maxRecDepth 100000 in
set_option maxHeartbeats 8000000 in
theorem rget_take (h : RefG w S U r x) (hnx : 1 ≤ x.next ∧ x.next < 4294967296) (hf : f = x.peer) (ht : t = x.own) (hv : v = x.view) (hk : ¬ k = 1) (hs : ¬ s = 0) (hsr : 0 ≤ s ∧ s < 4294967296) (hl : x.held.length ≤ 900) (hnb : x.next + x.held.length < 4294960000) (hr : ∀ wx, Chg S w wx → MsR wx A n c xs B m d ys) (hua : 0 < n → ∀ ad, A = some ad → U ad.block) (hub : 0 < m → ∀ ad, B = some ad → U ad.block) (hlt : ¬ s < x.next) (hge : ¬ hasD x.held s = true) (hfar : ¬ 32 ≤ s - x.next) :
    Calls Try.prog 21 #[.pointer (some ⟨r, 0, none⟩), .agg (msC k f t v s (.slice A n c) (.slice B m d))] w fun e w' => RGetR w w' S U r x ⟨k, f, t, v, s, xs, ys⟩ e := by
  have HDG := Lib.hid (show dGet x ⟨k, f, t, v, s, xs, ys⟩ = (((rdyD (x.held.length + 1) x.next (x.held ++ [⟨k, f, t, v, s, xs, ys⟩]) []).1, [ansDS { x with next := (rdyD (x.held.length + 1) x.next (x.held ++ [⟨k, f, t, v, s, xs, ys⟩]) []).2.1 }], 0), { x with next := (rdyD (x.held.length + 1) x.next (x.held ++ [⟨k, f, t, v, s, xs, ys⟩]) []).2.1, held := (rdyD (x.held.length + 1) x.next (x.held ++ [⟨k, f, t, v, s, xs, ys⟩]) []).2.2 }) by unfold dGet; rw [if_neg (fun h => h ⟨hf, ht⟩), if_neg (fun h => h hv), if_neg hk, if_neg hs, if_neg (fun h => h.elim hlt hge), if_neg hfar])
  have HRD := Lib.hid hr
  have HUA := Lib.hid (And.intro hua hub)
  clear hr hua hub
  obtain ⟨w1, hw1⟩ : ∃ w1, w1 = w.alloc (.cells (msC k f t v s (.slice A n c) (.slice B m d)) 51) := ⟨_, rfl⟩
  have hb1 : Below w.heap.size w w1 := by rw [hw1]; exact alloc_back _
  have q1 : w1.heap[w.heap.size]? = some (.cells (msC k f t v s (.slice A n c) (.slice B m d)) 51 (0, 0)) := by rw [hw1]; exact heap_alloc_new _ _
  have M1 := Lib.hid (show RMid w w1 S U r x (msC k f t v s (.slice A n c) (.slice B m d)) from ⟨q1, h.below hb1, Chg.ofBelow hb1, h.inn, h.inU⟩)
  have HW1 := Lib.hid hw1
  obtain ⟨V0, B0, c0, O0, H0, hc0⟩ := M1.out.G.cl
  obtain ⟨l0, l1, l2, l3, l4, l6, l7, l8, l9⟩ := rlC_cells hc0.blk
  obtain ⟨z0, z1, z2, z3, z4, z5, z6⟩ := msC_cells q1
  clear hw1 hb1 q1 h hc0
  clear l3 l4 l6 l7 l9 z5 z6
  have b1 : (f != x.peer) = false := by simp [hf]
  have b2 : (t != x.own) = false := by simp [ht]
  have b3 : (v != x.view) = false := by simp [hv]
  have b4 : (k == 1) = false := by simpa using hk
  have b5 : (s == 0) = false := by simpa using hs
  clear hf ht hv hk hs
  go_enter Try.func21, Try.ntmps21
  go_upto_region 1 with (fail)
  rw [← HW1.out]
  go_quiet (fail)
  revert nq; intro n1
  go_wp2_with fail
  go_quiet (fail)
  revert nq; intro n2
  go_wp2_with fail
  obtain ⟨w2, hw2⟩ : ∃ w2, w2 = w1.drewN (n1 + n2) := ⟨_, rfl⟩
  have hb2 : Below w1.heap.size w1 w2 := by rw [hw2]; exact pw_below_drewN (Below.refl _ _) _
  have M2 := Lib.hid (M1.out.below hb2)
  have y4 := pw_cell_below hb2 z4; have y8 := pw_cell_below hb2 l8
  rw [← hw2]
  clear hw2 hb2 z0 z1 z2 z3 z4 l0 l1 l2 l8 M1 HW1
  have b6 : decide (s ≤ x.next - 1) = false := decide_eq_false (by omega)
  have b7 : ¬ s ≤ x.next - 1 := by omega
  obtain ⟨ix, hix⟩ : ∃ ix, ix = ixD x.held s := ⟨_, rfl⟩
  have hix0 : ¬ 0 ≤ ix := by rw [hix]; exact fun h => hge ((ixD_has _ _).1 h)
  have b8 : decide (0 ≤ ix) = false := decide_eq_false hix0
  have CH := Lib.hid (fun z : Nat => rhas (M2.out.G.below (pw_below_drewN (Below.refl w2.heap.size w2) z)) s (by omega))
  rw [← hix] at CH
  clear hge hix
  go_quiet ((go_at_call 35; exact Calls.quiet_of_same ((CH.out _).mono fun e w' he => ⟨he.1, he.2.symm⟩)))
  go_wp2_with fail
  obtain ⟨w3, hw3⟩ : ∃ w3, w3 = w2.drewN nq := ⟨_, rfl⟩
  have hb3 : Below w2.heap.size w2 w3 := by rw [hw3]; exact pw_below_drewN (Below.refl _ _) _
  have M3 := Lib.hid (M2.out.below hb3)
  have x4 := pw_cell_below hb3 y4; have x8 := pw_cell_below hb3 y8
  rw [← hw3]
  have ew : IntKind.u32.wrap (s - (x.next - 1)) = s - (x.next - 1) := by rw [IntKind.wrap_u32]; omega
  clear hw3 hb3 y4 y8 b6 b7 b8 hix0 CH M2
  have c6 : decide ((32 : Int) < s - (x.next - 1)) = false := decide_eq_false (by omega)
  have c7 : ¬ (32 : Int) < s - (x.next - 1) := by omega
  clear hlt hfar hsr
  go_quiet (fail)
  go_upto_region 17 with (fail)
  obtain ⟨w4, hw4⟩ : ∃ w4, w4 = w3.drewN nq := ⟨_, rfl⟩
  have hb4 : Below w3.heap.size w3 w4 := by rw [hw4]; exact pw_below_drewN (Below.refl _ _) _
  have M4 := Lib.hid (M3.out.below hb4)
  rw [← hw4]
  clear hw4 hb4 x4 x8 ew c6 c7 M3
  have HR4 := Lib.hid (HRD.out w4 M4.out.C)
  have HXL := Lib.hid (And.intro HR4.out.rd.1 HR4.out.wd.1)
  obtain ⟨V4, Bh, dh, O4, H4, hc4⟩ := M4.out.G.cl
  obtain ⟨hn1, hhn⟩ : ∃ hn1, hn1 = H4.length := ⟨_, rfl⟩
  have HRC := Lib.hid hc4
  have HHN := Lib.hid hhn
  have hhl : hn1 = x.held.length := by rw [hhn]; exact hc4.olen.2
  have hn9 : hn1 ≤ 900 := by omega
  have HHL := Lib.hid hhl
  clear hhl
  have hb := hc4.blk
  rw [← hhn] at hb
  obtain ⟨-, -, -, -, -, -, l7, -, -⟩ := rlC_cells hb
  obtain ⟨z0, z1, z2, z3, z4, z5, z6⟩ := msC_cells M4.out.q
  have HC4 := Lib.hid hb
  have HO4 := Lib.hid (show w4.ownsRow 0 51 7 (.slice Bh hn1 dh) hn1 (hdC H4) by rw [hhn]; exact hc4.h.1)
  have HT4 := Lib.hid (show ∀ b, (Value.slice Bh hn1 dh).ownBlock = some b → b ≠ r by rw [hhn]; exact hc4.vr.2.1)
  have HB4 := Lib.hid (show (Value.slice Bh hn1 dh).ownBlock ≠ some w.heap.size from fun e => by have := M4.out.lt _ (hc4.h.2 _ (by rw [← hhn]; exact e)); omega)
  have HDM := Lib.hid (show HdRd w4 U ⟨k, f, t, v, s, A, c, xs, B, d, ys⟩ from ⟨by have h := HR4.out.rd; rw [← HXL.out.1] at h; exact h, by have h := HR4.out.wd; rw [← HXL.out.2] at h; exact h, fun h0 => HUA.out.1 (by rw [← HXL.out.1]; exact h0), fun h0 => HUA.out.2 (by rw [← HXL.out.2]; exact h0)⟩)
  obtain ⟨i0, z0', hi0, hz0, hz1, hz2, hz3⟩ := rInfo
  have HI := Lib.hid (And.intro hi0 (And.intro hz0 (And.intro hz1 (And.intro hz2 hz3))))
  have BD := Lib.hid (fun o : Obj => ((below_drew (Below.refl _ _)).alloc (Nat.le_refl _) o : Below w4.heap.size w4 (w4.drew.alloc o)))
  clear hi0 hz0 hz1 hz2 hz3 hc4 hb hhn
  refine start_ (n := 11) (S := fun w' => w'.cell? ⟨r, 7, none⟩ = some (.slice Bh hn1 dh) ∧ w'.cell? ⟨w.heap.size, 0, none⟩ = some (.int .i64 k) ∧ w'.cell? ⟨w.heap.size, 1, none⟩ = some (.int .i64 f) ∧ w'.cell? ⟨w.heap.size, 2, none⟩ = some (.int .i64 t) ∧ w'.cell? ⟨w.heap.size, 3, none⟩ = some (.int .u32 v) ∧ w'.cell? ⟨w.heap.size, 4, none⟩ = some (.int .u32 s) ∧ w'.cell? ⟨w.heap.size, 5, none⟩ = some (.slice A n c) ∧ w'.cell? ⟨w.heap.size, 6, none⟩ = some (.slice B m d)) (ds := [10]) #[false, false, false, false, false, false, false, false, false, false, false] (by kernel_rfl) rfl rfl (⟨l7, z0, z1, z2, z3, z4, z5, z6⟩) (fun hHeld => ?_)
  refine pure_ (i := 0) (N := some 126) (v := ?_) (a' := ?_) #[true, false, false, false, false, false, false, false, false, false, false] rfl rfl (by kernel_rfl) (fun _ _ _ h => h) (Or.inl ⟨by rfl, ?_⟩) ?_ ?_
  rotate_left
  · intro w'
    go_simp
    (try with_reducible rfl)
  rotate_left
  · simp only [Act.put, List.setIfInBounds_toArray, List.set_cons_zero, List.set_cons_succ]
    rfl
  refine pure_ (i := 1) (N := some 127) (v := ?_) (a' := ?_) #[true, true, false, false, false, false, false, false, false, false, false] rfl rfl (by kernel_rfl) (fun _ _ _ h => h) (Or.inl ⟨by rfl, ?_⟩) ?_ ?_
  rotate_left
  · intro w'
    go_simp
    (try with_reducible rfl)
  rotate_left
  · simp only [Act.put, List.setIfInBounds_toArray, List.set_cons_zero, List.set_cons_succ]
    rfl
  refine pure_ (i := 2) (N := some 128) (v := ?_) (a' := ?_) #[true, true, true, false, false, false, false, false, false, false, false] rfl rfl (by kernel_rfl) (fun _ _ _ h => h) (Or.inl ⟨by rfl, ?_⟩) ?_ ?_
  rotate_left
  · intro w'
    go_simp
    (try with_reducible rfl)
  rotate_left
  · simp only [Act.put, List.setIfInBounds_toArray, List.set_cons_zero, List.set_cons_succ]
    rfl
  refine pure_ (i := 3) (N := some 129) (v := ?_) (a' := ?_) #[true, true, true, true, false, false, false, false, false, false, false] rfl rfl (by kernel_rfl) (fun _ _ _ h => h) (Or.inl ⟨by rfl, ?_⟩) ?_ ?_
  rotate_left
  · intro w'
    go_simp
    (try with_reducible rfl)
  rotate_left
  · simp only [Act.put, List.setIfInBounds_toArray, List.set_cons_zero, List.set_cons_succ]
    rfl
  refine take_ (i := 4) (N := some 130) (v := ?_) (a' := ?_) #[true, true, true, true, true, false, false, false, false, false, false] rfl rfl (by kernel_rfl) (fun _ _ _ h => h) (Or.inl ⟨by rfl, ?_⟩) hHeld ?_ ?_
  rotate_left
  · rintro w' ⟨s0, s1, s2, s3, s4, s5, s6, s7⟩
    go_simp
    (try with_reducible rfl)
  rotate_left
  · simp only [Act.put, List.setIfInBounds_toArray, List.set_cons_zero, List.set_cons_succ]
    rfl
  refine take_ (i := 5) (N := some 131) (v := ?_) (a' := ?_) #[true, true, true, true, true, true, false, false, false, false, false] rfl rfl (by kernel_rfl) (fun _ _ _ h => h) (Or.inl ⟨by rfl, ?_⟩) hHeld ?_ ?_
  rotate_left
  · rintro w' ⟨s0, s1, s2, s3, s4, s5, s6, s7⟩
    go_simp
    (try with_reducible rfl)
  rotate_left
  · simp only [Act.put, List.setIfInBounds_toArray, List.set_cons_zero, List.set_cons_succ]
    rfl
  refine one_ (i := 6) (N := some 132) #[true, true, true, true, true, true, true, false, false, false, false] rfl rfl (by kernel_rfl) (by decide) (fun K hK => ?_)
  go_simp
  refine hK.out _ _ ?_ (fun hHeld2 => ?_)
  · (try dsimp only)
    exact ⟨pw_cell_below (by first | exact alloc_back _ | exact (below_drew (Below.refl _ _)).alloc (Nat.le_refl _) _) l7, pw_cell_below (by first | exact alloc_back _ | exact (below_drew (Below.refl _ _)).alloc (Nat.le_refl _) _) z0, pw_cell_below (by first | exact alloc_back _ | exact (below_drew (Below.refl _ _)).alloc (Nat.le_refl _) _) z1, pw_cell_below (by first | exact alloc_back _ | exact (below_drew (Below.refl _ _)).alloc (Nat.le_refl _) _) z2, pw_cell_below (by first | exact alloc_back _ | exact (below_drew (Below.refl _ _)).alloc (Nat.le_refl _) _) z3, pw_cell_below (by first | exact alloc_back _ | exact (below_drew (Below.refl _ _)).alloc (Nat.le_refl _) _) z4, pw_cell_below (by first | exact alloc_back _ | exact (below_drew (Below.refl _ _)).alloc (Nat.le_refl _) _) z5, pw_cell_below (by first | exact alloc_back _ | exact (below_drew (Below.refl _ _)).alloc (Nat.le_refl _) _) z6⟩
  clear hHeld hK K
  have hHeld := hHeld2
  clear hHeld2
  try simp only [Act.put, List.setIfInBounds_toArray, List.set_cons_zero, List.set_cons_succ]
  refine one_ (i := 7) (N := some 133) #[true, true, true, true, true, true, true, true, false, false, false] rfl rfl (by kernel_rfl) (by decide) (fun K hK => ?_)
  refine step_app_cells (w0 := w4.drew.alloc (.cells #[.int .i64 k, .int .i64 f, .int .i64 t, .int .u32 v, .int .u32 s, .slice A n c, .slice B m d] 51)) 0 (by rfl) _ _ 45 51 i0 z0' 7 80 (by rfl) Try.underlying45 HI.out.1 HI.out.2.1 HI.out.2.2.1 HI.out.2.2.2.1 HI.out.2.2.2.2 (by decide) (by decide) (.slice Bh hn1 dh) hn1 (hdC H4) [.int .i64 k, .int .i64 f, .int .i64 t, .int .u32 v, .int .u32 s, .slice A n c, .slice B m d] (some ⟨w4.heap.size, 0, none⟩) 1 1 (by rfl) (by rfl) (pw_own_below HO4.out (BD.out (.cells #[.int .i64 k, .int .i64 f, .int .i64 t, .int .u32 v, .int .u32 s, .slice A n c, .slice B m d] 51))) (lit1_reads w4.drew [.int .i64 k, .int .i64 f, .int .i64 t, .int .u32 v, .int .u32 s, .slice A n c, .slice B m d] 51 7 rfl (by simp [Value.oneCell'])) (Below.refl _ _) (Nat.zero_le _) (by omega) (hn1 + 1) rfl ?_
  intro A8 c8 w8 ho8 hB8 hg8 ha8
  have HF8 := Lib.hid (And.intro ho8 (And.intro hg8 ha8))
  have hr8 := (hg8.block r (lt_of_heap (heap_keep (BD.out (.cells #[.int .i64 k, .int .i64 f, .int .i64 t, .int .u32 v, .int .u32 s, .slice A n c, .slice B m d] 51)) HC4.out)) (fun e => HT4.out r e.symm rfl)).trans (heap_keep (BD.out (.cells #[.int .i64 k, .int .i64 f, .int .i64 t, .int .u32 v, .int .u32 s, .slice A n c, .slice B m d] 51)) HC4.out)
  obtain ⟨v0, v01, v02, v03, v04, v06, v7, v08, v09⟩ := rlC_cells hr8
  have f7 := froz hr8 7
  obtain ⟨y0, y1, y2, y3, y4, y5, y6⟩ := msC_cells ((hg8.block _ (lt_of_heap (heap_keep (BD.out (.cells #[.int .i64 k, .int .i64 f, .int .i64 t, .int .u32 v, .int .u32 s, .slice A n c, .slice B m d] 51)) M4.out.q)) (fun e => HB4.out e.symm)).trans (heap_keep (BD.out (.cells #[.int .i64 k, .int .i64 f, .int .i64 t, .int .u32 v, .int .u32 s, .slice A n c, .slice B m d] 51)) M4.out.q))
  clear ho8 hB8 hg8 ha8 hr8 v0 v01 v02 v03 v04 v06 v08 v09
  refine hK.out _ _ ?_ (fun hHeld2 => ?_)
  · (try dsimp only)
    exact ⟨v7, y0, y1, y2, y3, y4, y5, y6⟩
  clear hHeld hK K
  have hHeld := hHeld2
  clear hHeld2
  try simp only [Act.put, List.setIfInBounds_toArray, List.set_cons_zero, List.set_cons_succ]
  refine pure_ (i := 8) (N := some 134) (v := ?_) (a' := ?_) #[true, true, true, true, true, true, true, true, true, false, false] rfl rfl (by kernel_rfl) (fun _ _ _ h => h) (Or.inl ⟨by rfl, ?_⟩) ?_ ?_
  rotate_left
  · intro w'
    go_simp
    (try with_reducible rfl)
  rotate_left
  · simp only [Act.put, List.setIfInBounds_toArray, List.set_cons_zero, List.set_cons_succ]
    rfl
  refine pure_ (i := 9) (N := some 135) (v := ?_) (a' := ?_) #[true, true, true, true, true, true, true, true, true, true, false] rfl rfl (by kernel_rfl) (fun _ _ _ h => h) (Or.inl ⟨by rfl, ?_⟩) ?_ ?_
  rotate_left
  · intro w'
    go_simp
    (try with_reducible rfl)
  rotate_left
  · simp only [Act.put, List.setIfInBounds_toArray, List.set_cons_zero, List.set_cons_succ]
    rfl
  refine last_ (i := 10) (N := none) #[true, true, true, true, true, true, true, true, true, true, true] rfl rfl (by kernel_rfl) (by decide) (fun K hK => ?_)
  go_simp
  refine hK.out _ _ ?_
  (try clear hHeld)
  clear hK K
  try simp only [Act.put, List.setIfInBounds_toArray, List.set_cons_zero, List.set_cons_succ]
  refine wpAnyLast_done (by kernel_rfl) ?_ _
  obtain ⟨w9, hw9⟩ : ∃ w9, w9 = w8.setCell ⟨r, 7, none⟩ (.slice A8 (hn1 + 1) c8) := ⟨_, rfl⟩
  rw [← hw9]
  have hcg : Chg (fun b => (Value.slice Bh hn1 dh).ownBlock = some b) w4 w8 := (Chg.ofBelow (BD.out (.cells #[.int .i64 k, .int .i64 f, .int .i64 t, .int .u32 v, .int .u32 s, .slice A n c, .slice B m d] 51))).trans (Chg.ofGrown (S := fun b => (Value.slice Bh hn1 dh).ownBlock = some b) HF8.out.2.1 (fun k e => e)) (fun k _ e => e)
  have hF := RefG.newHeld (w4 := w9) (H' := H4 ++ [⟨k, f, t, v, s, A, c, xs, B, d, ys⟩]) (held' := x.held ++ [⟨k, f, t, v, s, xs, ys⟩]) M4.out.G HRC.out hcg (fun b hb => by rw [← HHN.out]; exact hb) (by rw [List.length_append, List.length_singleton, ← HHN.out]) (by have h := HF8.out.1; rw [show hdC (H4 ++ [(⟨k, f, t, v, s, A, c, xs, B, d, ys⟩ : Hd)]) = hdC H4 ++ (⟨k, f, t, v, s, A, c, xs, B, d, ys⟩ : Hd).cells by simp [hdC]]; simp only [Hd.cells, Hd.nv, Hd.wv, HXL.out.1, HXL.out.2]; exact h) (fun b hb => by rcases HF8.out.2.2 with h | h; { left; rw [← HHN.out, ← h]; exact hb }; { right; rw [h] at hb; injection hb with hb; rw [← hb]; exact (BD.out (.cells #[.int .i64 k, .int .i64 f, .int .i64 t, .int .u32 v, .int .u32 s, .slice A n c, .slice B m d] 51)).size }) (fun h hh => by rcases List.mem_append.1 hh with hh | hh; { exact .inl hh }; { obtain rfl := List.mem_singleton.1 hh; exact .inr HDM.out }) hw9 (by rw [List.map_append, HRC.out.eh]; rfl)
  have HF := Lib.hid hF
  clear hF hw9 hcg f7 v7 y0 y1 y2 y3 y4 y5 y6
  obtain ⟨R, hRR⟩ : ∃ R, R = rdyD (x.held.length + 2) x.next (x.held ++ [⟨k, f, t, v, s, xs, ys⟩]) [] := ⟨_, rfl⟩
  have T0 := Lib.hid (show RRd w w9 S U _ r x R (x.held.length + 2) none 0 0 x.next (x.held ++ [⟨k, f, t, v, s, xs, ys⟩]) [] from ⟨HF.out.1, ⟨by simp [hdC], .inl ⟨rfl, rfl⟩⟩, (fun h hh => by cases hh), hRR.symm, by rw [List.length_append, List.length_singleton]; omega, M4.out.C.trans HF.out.2.1 (fun k _ h => h), fun b hb => (HF.out.2.2 b hb).elim .inl (fun h => .inr (Nat.le_trans M4.out.C.size h)), (fun b hb => by simp [Value.ownBlock] at hb), M4.out.lt, M4.out.ltU, ⟨hnx.1, by rw [List.length_append, List.length_singleton]; omega⟩, by rw [List.length_append, List.length_singleton]; omega⟩)
  have HRR := Lib.hid hRR
  clear HF HF8 hRR
  go_wp2_with fail
  go_loopw [7] (fun s7 wr => ∃ (A3 : Option Addr) (k3 c3 : Nat), s7 = .slice A3 k3 c3 ∧ Aside0 (∃ S' gk nx held L, RRd w wr S U S' r x R gk A3 k3 c3 nx held L)) (fun _ wr => heldLen wr r)
  case atStart => exact ⟨none, 0, 0, rfl, ⟨_, _, _, _, _, T0.out⟩⟩
  case round =>
    obtain ⟨A3, k3, c3, rfl, HK⟩ := hrel
    obtain ⟨S', gk, nx, held, L, hL⟩ := HK.out
    have HL := Lib.hid hL
    have hnb := hL.nb
    have hhk := hL.hk
    clear HK hL
    obtain ⟨V5, B5, d5, O5, H5, hc5⟩ := HL.out.G.cl
    obtain ⟨hn5, hhn5⟩ : ∃ hn5, hn5 = H5.length := ⟨_, rfl⟩
    have hhl5 : hn5 = held.length := by rw [hhn5]; exact hc5.olen.2
    have hb5 := hc5.blk
    rw [← hhn5] at hb5
    obtain ⟨-, -, -, -, -, -, l7, l8, -⟩ := rlC_cells hb5
    dsimp only at l8
    have HC5 := Lib.hid hc5; have HB5 := Lib.hid hb5; have HN5 := Lib.hid hhn5; have HL5 := Lib.hid hhl5
    have en : nx % 4294967296 = nx := by omega
    have CH := Lib.hid (rhas HL.out.G nx (by have := hhk.1; dsimp only; omega))
    dsimp only at CH
    have hl7 : heldLen wr r = hn5 := by unfold heldLen; rw [l7]
    have HH7 := Lib.hid hl7
    clear hc5 hb5 hhn5 hhl5 hl7
    rcases ixD_cases held nx with ⟨hix, hno⟩ | ⟨y0, hix, hy0, hjl⟩
    · rw [hix] at CH
      have hE : R = (L.map Hd.dt, nx, held) := by
        have h1 := HL.out.e
        have h2 := HL.out.gk
        obtain ⟨g1, rfl⟩ : ∃ g1, gk = g1 + 1 := ⟨gk - 1, by omega⟩
        rw [rdyD, hno] at h1
        exact h1.symm
      have HE := Lib.hid hE
      clear hix hno hE hnb
      go_wp2_with fail
      refine CH.out.mono ?_
      rintro e w' ⟨rfl, rfl⟩
      clear CH en l7 l8
      have CA := Lib.hid (rack HL.out.G (by have := HL.out.nb; dsimp only; omega))
      go_wp2_with fail
      refine CA.out.mono ?_
      rintro e w7 ⟨V7, rfl, hV7, hb7⟩
      have HV7 := Lib.hid hV7
      have HL7 := Lib.hid (HL.out.below hb7)
      clear hV7 hb7 CA
      go_wp2_with fail
      go_ret3
      unfold RGetR
      rw [HDG.out, ← rdyD_fuel (x.held.length + 1) x.next (x.held ++ [(⟨k, f, t, v, s, xs, ys⟩ : Dt)]) [] (by simp), ← HRR.out, HE.out]
      have hk : k3 = L.length := by have h1 := HL7.out.o.1; have h2 : (hdC L).length = L.length * 7 := flat_len Hd.cells 7 hd_len L; omega
      refine ⟨_, V7, S', U, rfl, ?_, HV7.out, HL7.out.G, ⟨HL7.out.C, HL7.out.inc, fun b h => .inl h⟩⟩
      have h := HL7.out.o
      rw [hk] at h ⊢
      exact rowC_own h HL7.out.b
    · obtain ⟨i, hi⟩ : ∃ i, i = held.findIdx (fun h => h.s == nx) := ⟨_, rfl⟩
      rw [← hi] at hix hy0 hjl
      rw [hix] at CH
      have hih : i < H5.length := by have := HN5.out; have := HL5.out; omega
      obtain ⟨y, hy⟩ : ∃ y, H5[i]? = some y := ⟨_, List.getElem?_eq_getElem hih⟩
      have hyd : y.dt = y0 := by
        have h1 : (H5.map Hd.dt)[i]? = some y0 := by rw [HC5.out.eh]; exact hy0
        rw [List.getElem?_map, hy] at h1
        injection h1
      have hown5 := HC5.out.h.1
      rw [← HN5.out] at hown5
      obtain ⟨g, rfl, p0, p1, p2, p3, p4, p5, p6⟩ := row7' hown5 hy
      obtain ⟨gk1, rfl⟩ : ∃ g1, gk = g1 + 1 := ⟨gk - 1, by have := HL.out.gk; omega⟩
      have HYB := Lib.hid (HC5.out.bh y (List.mem_of_getElem? hy))
      have HI := Lib.hid hi; have HY0 := Lib.hid (show held[i]? = some y.dt by rw [hyd]; exact hy0)
      have HOW := Lib.hid hown5
      obtain ⟨yk, yf, yt, yv, ys', yA, yc, yxs, yB, yd, yys⟩ := y
      simp only [Hd.nv, Hd.wv] at p5 p6
      have i1 : (0 : Int) ≤ (i : Int) := Int.natCast_nonneg _
      have i2 : (i : Int) < (hn5 : Int) := by have := HN5.out; omega
      have i3 : i < hn5 := by have := HN5.out; omega
      have HI3 := Lib.hid i3
      have HK3 := Lib.hid hhk
      have HWS := Lib.hid HL.out.C.size
      have HBW := Lib.hid (Below.refl w.heap.size wr)
      clear hix hi hy0 hy hyd hown5 hih hjl hhk
      go_upto_region 19 with (fail)
      go_wp2_with fail
      refine CH.out.mono ?_
      rintro e w' ⟨rfl, rfl⟩
      clear CH en
      go_upto_region 22 with (at_builtin; refine app_cells7q (w0 := wr) w.heap.size rfl (.tmp 145) (.tmp 153) 45 51 rfl Try.underlying45 (by kernel_rfl) (.slice A3 k3 c3) (hdC L) [.int .i64 yk, .int .i64 yf, .int .i64 yt, .int .u32 yv, .int .u32 ys', .slice yA yxs.length yc, .slice yB yys.length yd] k3 rfl (by simp [Value.oneCell']) rfl rfl HL.out.o HBW.out HWS.out (by have := HK3.out; omega) ?_; intro Aq cq wq ho8 hb8 hg8 ha8; have HO8 := Lib.hid ho8; have HG8 := Lib.hid hg8; have HA8 := Lib.hid ha8; clear ho8 hb8 hg8 ha8)
      have hc1 : Chg (fun b => (Value.slice A3 k3 c3).ownBlock = some b) wr wq := Chg.ofGrown HG8.out (fun k e => e)
      have hSn : ∀ b, S' b → ¬ (Value.slice A3 k3 c3).ownBlock = some b := fun b hb e => HL.out.ap b e hb
      have hUn : ∀ b, U b → ¬ (Value.slice A3 k3 c3).ownBlock = some b := fun b hb e => by have := HL.out.ltU b hb; have := own_base HL.out.o b e; omega
      have HGQ := Lib.hid (HL.out.G.chg hc1 hSn hUn)
      have hcq := HC5.out.chg HL.out.G.hr hc1 hSn hUn
      have HCQ := Lib.hid hcq
      have hbq := hcq.blk
      rw [← HN5.out] at hbq
      have HBQ := Lib.hid hbq
      have hoq := hcq.h.1
      rw [← HN5.out] at hoq
      have HOQ := Lib.hid hoq
      have O1 := Lib.hid (ReadsC.ofOwn hoq (hdC_one H5))
      have x1 : wq.cell? ⟨r, 7, none⟩ = some (.slice (some ⟨g, 0, none⟩) hn5 d5) := (rlC_cells hbq).2.2.2.2.2.2.1
      have hle := own_le hoq
      have hle2 : hn5 ≤ d5 := hle
      clear hc1 hSn hUn hcq hbq hoq p0 p1 p2 p3 p4 p5 p6 l7 l8
      obtain ⟨i0, z0', hi, hz0, hz1, hz2, hz3⟩ := rInfo
      have HI0 := Lib.hid (And.intro hi (And.intro hz0 (And.intro hz1 (And.intro hz2 hz3))))
      obtain ⟨Ac3, hrun3, hrd3, _⟩ := cut_to' (P := Try.prog) 45 51 .i64 (size := 7) Try.underlying45 hi hz1 (some ⟨g, 0, none⟩) hn5 d5 i (by omega)
      obtain ⟨Ac5, hrun5, hrd5, _⟩ := cut_from' (P := Try.prog) 45 51 .i64 (size := 7) Try.underlying45 hi hz1 (some ⟨g, 0, none⟩) hn5 d5 (i + 1) (by omega)
      have R3 := Lib.hid (hrd3 wq _ (by omega) O1.out)
      have R5 := Lib.hid (hrd5 wq _ hle2 O1.out)
      have HKP := Lib.hid ((fun W h => pw_cell_below h x1) : ∀ W : World, Below wq.heap.size wq W → W.cell? ⟨r, 7, none⟩ = some (.slice (some ⟨g, 0, none⟩) hn5 d5))
      have HFZ := Lib.hid ((fun W h => froz (heap_keep h HBQ.out) 7) : ∀ W : World, Below wq.heap.size wq W → W.frozen? ⟨r, 7, none⟩ = false)
      have hq : Below wq.heap.size wq wq.drew := below_drew (Below.refl _ _)
      have hrun6 : ∀ W : World, (Instr.slice 45 (.slice (some ⟨g, 0, none⟩) hn5 d5) (some (.int .i64 ((i : Int) + 1))) none none).run Try.prog W = .ok (.slice Ac5 (hn5 - (i + 1)) (d5 - (i + 1))) W := fun W => hrun5 W
      have hn5b : hn5 ≤ 1000 := by have := HK3.out; have := HL5.out; omega
      have ek2 : IntKind.i64.wrap ((i : Int) + 1) = (i : Int) + 1 := by rw [IntKind.wrap_i64]; omega
      clear hrun5 hle2 hi hz0 hz1 hz2 hz3 hrd3 hrd5 hle
      refine start_ (n := 20) (S := fun w' => w'.cell? ⟨r, 7, none⟩ = some (.slice (some ⟨g, 0, none⟩) hn5 d5)) (ds := [19]) #[false, false, false, false, false, false, false, false, false, false, false, false, false, false, false, false, false, false, false, false] (by kernel_rfl) rfl rfl (x1) (fun hHeld => ?_)
      refine pure_ (i := 0) (N := some 155) (v := ?_) (a' := ?_) #[true, false, false, false, false, false, false, false, false, false, false, false, false, false, false, false, false, false, false, false] rfl rfl (by kernel_rfl) (fun _ _ _ h => h) (Or.inl ⟨by rfl, ?_⟩) ?_ ?_
      rotate_left
      · intro w'
        go_simp
        (try with_reducible rfl)
      rotate_left
      · simp only [Act.put, List.setIfInBounds_toArray, List.set_cons_zero, List.set_cons_succ]
        rfl
      refine pure_ (i := 2) (N := some 157) (v := ?_) (a' := ?_) #[true, false, true, false, false, false, false, false, false, false, false, false, false, false, false, false, false, false, false, false] rfl rfl (by kernel_rfl) (fun _ _ _ h => h) (Or.inl ⟨by rfl, ?_⟩) ?_ ?_
      rotate_left
      · intro w'
        go_simp
        (try with_reducible rfl)
      rotate_left
      · simp only [Act.put, List.setIfInBounds_toArray, List.set_cons_zero, List.set_cons_succ]
        rfl
      refine pure_ (i := 3) (N := some 158) (v := ?_) (a' := ?_) #[true, false, true, true, false, false, false, false, false, false, false, false, false, false, false, false, false, false, false, false] rfl rfl (by kernel_rfl) (fun _ _ _ h => h) (Or.inl ⟨by rfl, ?_⟩) ?_ ?_
      rotate_left
      · intro w'
        go_simp
        (try with_reducible rfl)
      rotate_left
      · simp only [Act.put, List.setIfInBounds_toArray, List.set_cons_zero, List.set_cons_succ]
        rfl
      refine pure_ (i := 4) (N := some 159) (v := ?_) (a' := ?_) #[true, false, true, true, true, false, false, false, false, false, false, false, false, false, false, false, false, false, false, false] rfl rfl (by kernel_rfl) (fun _ _ _ h => h) (Or.inl ⟨by rfl, ?_⟩) ?_ ?_
      rotate_left
      · intro w'
        go_simp
        (try with_reducible rfl)
      rotate_left
      · simp only [Act.put, List.setIfInBounds_toArray, List.set_cons_zero, List.set_cons_succ]
        rfl
      refine take_ (i := 5) (N := some 160) (v := ?_) (a' := ?_) #[true, false, true, true, true, true, false, false, false, false, false, false, false, false, false, false, false, false, false, false] rfl rfl (by kernel_rfl) (fun _ _ _ h => h) (Or.inl ⟨by rfl, ?_⟩) hHeld ?_ ?_
      rotate_left
      · intro w' s0
        go_simp
        (try with_reducible rfl)
      rotate_left
      · simp only [Act.put, List.setIfInBounds_toArray, List.set_cons_zero, List.set_cons_succ]
        rfl
      refine pure_ (i := 6) (N := some 161) (v := ?_) (a' := ?_) #[true, false, true, true, true, true, true, false, false, false, false, false, false, false, false, false, false, false, false, false] rfl rfl (by kernel_rfl) (fun _ _ _ h => h) (Or.inl ⟨by rfl, ?_⟩) ?_ ?_
      rotate_left
      · intro w'
        go_simp
        (try with_reducible rfl)
      rotate_left
      · simp only [Act.put, List.setIfInBounds_toArray, List.set_cons_zero, List.set_cons_succ]
        rfl
      refine pure_ (i := 7) (N := some 162) (v := ?_) (a' := ?_) #[true, false, true, true, true, true, true, true, false, false, false, false, false, false, false, false, false, false, false, false] rfl rfl (by kernel_rfl) (fun _ _ _ h => h) (Or.inl ⟨by rfl, ?_⟩) ?_ ?_
      rotate_left
      · intro w'
        go_simp
        (try with_reducible rfl)
      rotate_left
      · simp only [Act.put, List.setIfInBounds_toArray, List.set_cons_zero, List.set_cons_succ]
        rfl
      refine pure_ (i := 9) (N := some 164) (v := ?_) (a' := ?_) #[true, false, true, true, true, true, true, true, false, true, false, false, false, false, false, false, false, false, false, false] rfl rfl (by kernel_rfl) (fun _ _ _ h => h) (Or.inl ⟨by rfl, ?_⟩) ?_ ?_
      rotate_left
      · intro w'
        go_simp
        (try with_reducible rfl)
      rotate_left
      · simp only [Act.put, List.setIfInBounds_toArray, List.set_cons_zero, List.set_cons_succ]
        rfl
      refine pure_ (i := 10) (N := some 165) (v := ?_) (a' := ?_) #[true, false, true, true, true, true, true, true, false, true, true, false, false, false, false, false, false, false, false, false] rfl rfl (by kernel_rfl) (fun _ _ _ h => h) (Or.inl ⟨by rfl, ?_⟩) ?_ ?_
      rotate_left
      · intro w'
        go_simp
        (try with_reducible rfl)
      rotate_left
      · simp only [Act.put, List.setIfInBounds_toArray, List.set_cons_zero, List.set_cons_succ]
        rfl
      refine pure_ (i := 11) (N := some 166) (v := ?_) (a' := ?_) #[true, false, true, true, true, true, true, true, false, true, true, true, false, false, false, false, false, false, false, false] rfl rfl (by kernel_rfl) (fun _ _ _ h => h) (Or.inl ⟨by rfl, ?_⟩) ?_ ?_
      rotate_left
      · intro w'
        go_simp
        (try with_reducible rfl)
      rotate_left
      · simp only [Act.put, List.setIfInBounds_toArray, List.set_cons_zero, List.set_cons_succ]
        rfl
      refine take_ (i := 12) (N := some 167) (v := ?_) (a' := ?_) #[true, false, true, true, true, true, true, true, false, true, true, true, true, false, false, false, false, false, false, false] rfl rfl (by kernel_rfl) (fun _ _ _ h => h) (Or.inl ⟨by rfl, ?_⟩) hHeld ?_ ?_
      rotate_left
      · intro w' s0
        go_simp
        (try with_reducible rfl)
      rotate_left
      · simp only [Act.put, List.setIfInBounds_toArray, List.set_cons_zero, List.set_cons_succ]
        rfl
      refine pure_ (i := 13) (N := some 168) (v := ?_) (a' := ?_) #[true, false, true, true, true, true, true, true, false, true, true, true, true, true, false, false, false, false, false, false] rfl rfl (by kernel_rfl) (fun _ _ _ h => h) (Or.inl ⟨by rfl, ?_⟩) ?_ ?_
      rotate_left
      · intro w'
        go_simp
        (try with_reducible rfl)
      rotate_left
      · simp only [Act.put, List.setIfInBounds_toArray, List.set_cons_zero, List.set_cons_succ]
        rfl
      refine pure_ (i := 14) (N := some 169) (v := ?_) (a' := ?_) #[true, false, true, true, true, true, true, true, false, true, true, true, true, true, true, false, false, false, false, false] rfl rfl (by kernel_rfl) (fun _ _ _ h => h) (Or.inl ⟨by rfl, ?_⟩) ?_ ?_
      rotate_left
      · intro w'
        go_simp
        (try with_reducible rfl)
      rotate_left
      · simp only [Act.put, List.setIfInBounds_toArray, List.set_cons_zero, List.set_cons_succ]
        rfl
      refine pure_ (i := 15) (N := some 170) (v := ?_) (a' := ?_) #[true, false, true, true, true, true, true, true, false, true, true, true, true, true, true, true, false, false, false, false] rfl rfl (by kernel_rfl) (fun _ _ _ h => h) (Or.inl ⟨by rfl, ?_⟩) ?_ ?_
      rotate_left
      · intro w'
        go_simp
        (try with_reducible rfl)
      rotate_left
      · simp only [Act.put, List.setIfInBounds_toArray, List.set_cons_zero, List.set_cons_succ]
        rfl
      refine one_ (i := 1) (N := some 156) #[true, true, true, true, true, true, true, true, false, true, true, true, true, true, true, true, false, false, false, false] rfl rfl (by kernel_rfl) (by decide) (fun K hK => ?_)
      go_simp
      have hqn := alloc_below hq hq.size (.cells #[] 51)
      have hn := lit0_of hq wq.heap.size 51 7 hq.size
      (try simp only [World.size_alloc, hdr] at hn)
      have hl1 := Lib.hid hn
      clear hn
      clear hq
      have hq := hqn
      clear hqn
      refine hK.out _ _ ?_ (fun hHeld2 => ?_)
      · (try dsimp only)
        exact HKP.out _ hq
      clear hHeld hK K
      have hHeld := hHeld2
      clear hHeld2
      try simp only [Act.put, List.setIfInBounds_toArray, List.set_cons_zero, List.set_cons_succ]
      refine one_ (i := 8) (N := some 163) #[true, true, true, true, true, true, true, true, true, true, true, true, true, true, true, true, false, false, false, false] rfl rfl (by kernel_rfl) (by decide) (fun K hK => ?_)
      refine step_app_cells (w0 := wq) wq.heap.size (by rfl) _ _ 45 51 i0 z0' 7 80 (by rfl) Try.underlying45 HI0.out.1 HI0.out.2.1 HI0.out.2.2.1 HI0.out.2.2.2.1 HI0.out.2.2.2.2 (by decide) (by decide) _ 0 [] ((hdC H5).take (i * 7)) Ac3 i d5 (by rfl) (by rfl) hl1.out (R3.out.below hq) hq hq.size (by omega) i (Nat.zero_add _) ?_
      intro A8 c8 w8 ho8 hB8 hg8 ha8
      clear hl1
      have hl8 := Lib.hid ho8
      clear hq
      have hq := hB8
      clear hB8 ho8 hg8 ha8
      refine hK.out _ _ ?_ (fun hHeld2 => ?_)
      · (try dsimp only)
        exact HKP.out _ hq
      clear hHeld hK K
      have hHeld := hHeld2
      clear hHeld2
      try simp only [Act.put, List.setIfInBounds_toArray, List.set_cons_zero, List.set_cons_succ]
      refine one_ (i := 16) (N := some 171) #[true, true, true, true, true, true, true, true, true, true, true, true, true, true, true, true, true, false, false, false] rfl rfl (by kernel_rfl) (by decide) (fun K hK => ?_)
      refine step_app_cells (w0 := wq) wq.heap.size (by rfl) _ _ 45 51 i0 z0' 7 80 (by rfl) Try.underlying45 HI0.out.1 HI0.out.2.1 HI0.out.2.2.1 HI0.out.2.2.2.1 HI0.out.2.2.2.2 (by decide) (by decide) _ i ([] ++ (hdC H5).take (i * 7)) ((hdC H5).drop ((i + 1) * 7)) Ac5 (hn5 - (i + 1)) (d5 - (i + 1)) (by rfl) (by rfl) hl8.out (R5.out.below hq) hq hq.size (by omega) (hn5 - 1) (by omega) ?_
      intro A16 c16 w16 ho16 hB16 hg16 ha16
      clear hl8
      have hl16 := Lib.hid ho16
      clear hq
      have hq := hB16
      clear hB16 ho16 hg16 ha16
      have fz := HFZ.out _ hq
      have cz := HKP.out _ hq
      clear ek2
      refine hK.out _ _ ?_ (fun hHeld2 => ?_)
      · (try dsimp only)
        exact HKP.out _ hq
      clear hHeld hK K
      have hHeld := hHeld2
      clear hHeld2
      try simp only [Act.put, List.setIfInBounds_toArray, List.set_cons_zero, List.set_cons_succ]
      refine pure_ (i := 17) (N := some 172) (v := ?_) (a' := ?_) #[true, true, true, true, true, true, true, true, true, true, true, true, true, true, true, true, true, true, false, false] rfl rfl (by kernel_rfl) (fun _ _ _ h => h) (Or.inl ⟨by rfl, ?_⟩) ?_ ?_
      rotate_left
      · intro w'
        go_simp
        (try with_reducible rfl)
      rotate_left
      · simp only [Act.put, List.setIfInBounds_toArray, List.set_cons_zero, List.set_cons_succ]
        rfl
      refine pure_ (i := 18) (N := some 173) (v := ?_) (a' := ?_) #[true, true, true, true, true, true, true, true, true, true, true, true, true, true, true, true, true, true, true, false] rfl rfl (by kernel_rfl) (fun _ _ _ h => h) (Or.inl ⟨by rfl, ?_⟩) ?_ ?_
      rotate_left
      · intro w'
        go_simp
        (try with_reducible rfl)
      rotate_left
      · simp only [Act.put, List.setIfInBounds_toArray, List.set_cons_zero, List.set_cons_succ]
        rfl
      refine last_ (i := 19) (N := none) #[true, true, true, true, true, true, true, true, true, true, true, true, true, true, true, true, true, true, true, true] rfl rfl (by kernel_rfl) (by decide) (fun K hK => ?_)
      go_simp
      refine hK.out _ _ ?_
      (try clear hHeld)
      clear hK K
      try simp only [Act.put, List.setIfInBounds_toArray, List.set_cons_zero, List.set_cons_succ]
      refine wpAnyLast_done (by kernel_rfl) ?_ _
      obtain ⟨w17, hw17⟩ : ∃ w17, w17 = w16.setCell ⟨r, 7, none⟩ (.slice A16 (hn5 - 1) c16) := ⟨_, rfl⟩
      rw [← hw17]
      have hlen : (H5.eraseIdx i).length = hn5 - 1 := by rw [List.length_eraseIdx_of_lt (by have := HN5.out; omega), ← HN5.out]
      have hF := RefG.newHeld (w4 := w17) (T := fun _ => False) (H' := H5.eraseIdx i) (held' := held.eraseIdx i) HGQ.out HCQ.out (Chg.ofBelow hq) (fun _ h => h.elim) hlen.symm (by rw [show hdC (H5.eraseIdx i) = (hdC H5).take (i * 7) ++ (hdC H5).drop ((i + 1) * 7) from flat_erase Hd.cells 7 hd_len H5 i]; have h := own_base_le hl16.out (Nat.zero_le _); simpa using h) (fun b hb => .inr (own_base hl16.out b hb)) (fun h hh => .inl (List.mem_of_mem_eraseIdx hh)) hw17 (by rw [erase_map, HCQ.out.eh])
      have HF := Lib.hid hF
      have hx7 : w17.cell? ⟨r, 7, none⟩ = some (.slice A16 (hn5 - 1) c16) := by rw [hw17]; exact World.cell?_setCell_same' w16 _ _ (by rw [cz]; rfl)
      have HX7 := Lib.hid hx7
      obtain ⟨V17, B17, d17, O17, H17, hc17⟩ := HF.out.1.cl
      have f8 := froz hc17.blk 8
      obtain ⟨-, -, -, -, -, -, -, l8, -⟩ := rlC_cells hc17.blk
      dsimp only at l8
      clear hF hw17 hlen fz cz hx7 hc17 hq
      have en : nx % 4294967296 = nx := by omega
      go_upto_region 23 with (fail)
      obtain ⟨w18, hw18⟩ : ∃ w18, w18 = w17.setCell ⟨r, 8, none⟩ (.int .u32 nx) := ⟨_, rfl⟩
      have HFN := Lib.hid (HL.out.fin (y := ⟨yk, yf, yt, yv, ys', yA, yc, yxs, yB, yd, yys⟩) HI.out HY0.out HYB.out HO8.out HG8.out (fun b hb => HA8.out.elim (fun h => .inl (h ▸ hb)) (fun ⟨b', h1, h2⟩ => .inr (by rw [h1] at hb; injection hb with hb; rw [← hb]; exact h2))) HF.out.1 HF.out.2.1 HF.out.2.2 hw18)
      have hx9 : w18.cell? ⟨r, 7, none⟩ = some (.slice A16 (hn5 - 1) c16) := by rw [hw18, near_cell _ _ (by decide)]; exact HX7.out
      have HM := Lib.hid (show heldLen w18 r < heldLen wr r by rw [HH7.out]; unfold heldLen; rw [hx9]; show hn5 - 1 < hn5; omega)
      have HW18 := Lib.hid hw18
      clear hx9 hw18
      go_wp2_with fail
      rw [← HW18.out]
      go_roundw
      case rel => exact ⟨Aq, k3 + 1, cq, rfl, ⟨_, gk1, nx + 1, held.eraseIdx i, _, HFN.out⟩⟩
      case measure => exact HM.out
end
end Go.Proofs.Ytbkpgkkfkjlnnaa.G
