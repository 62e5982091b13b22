/- The walk of LinkKnown (printed by a program of mine, mklgzb.py). -/
import Derived.Test.YtbkpgkkfkjlnnaaLgZ
set_option linter.unusedVariables false
set_option linter.unusedSimpArgs false
namespace Go.Proofs.Ytbkpgkkfkjlnnaa.G
open Go.RowKit Go.Proofs.YtbkpgkkfkjlnnaaW.PrintWords Go.Proofs.YtbkpgkkfkjlnnaaW.PrintLast Go.Proofs.Ytbkpgkkfkjlnnaa.K Go.Proofs.Ytbkpgkkfkjlnnaa.Row Go.Proofs.Ytbkpgkkfkjlnnaa

/-- A link behind W beside a block q that holds a message. -/
structure KS (W w : World) (S : Nat → Prop) (r q : Nat) (d : DS) (N : Nat) (C : Array Value) : Prop where
  ex : ∃ x, LkG w S r x ∧ x.ds = d
  i : Inv d N
  nS : ¬ S q
  SW : ∀ b, S b → W.heap.size ≤ b
  hq : w.heap[q]? = some (.cells C 32 (0, 0))
  qW : W.heap.size ≤ q
  B : Below W.heap.size W w
/-- An answer: its kind, its one number. -/
def AnsC (w : World) (S : Nat → Prop) (lo : Nat) (V : Value) (k z : Int) : Prop := ∃ g a c c', V = .slice (some ⟨g, 0, none⟩) 1 c ∧ w.cell? ⟨g, 0, none⟩ = some (.int .i64 k) ∧ w.cell? ⟨g, 5, none⟩ = some (.slice (some ⟨a, 0, none⟩) 1 c') ∧ w.cell? ⟨a, 0, none⟩ = some (.int .i64 z) ∧ lo ≤ g ∧ lo ≤ a ∧ ¬ S g ∧ ¬ S a
theorem AnsC.stp {w w' : World} {S S' : Nat → Prop} {lo : Nat} {V : Value} {k z : Int} (h : AnsC w S lo V k z) (hs : Stp w w' S S') : AnsC w' S' lo V k z := by
  obtain ⟨g, a, c, c', h0, h1, h2, h3, h4, h5, h6, h7⟩ := h
  have lt : ∀ {b j : Nat} {v : Value}, w.cell? ⟨b, j, none⟩ = some v → b < w.heap.size := fun {b j v} hc => by
    rcases Nat.lt_or_ge b w.heap.size with h | h
    · exact h
    · unfold World.cell? at hc
      rw [Array.getElem?_eq_none (by simpa using h)] at hc
      simp at hc
  exact ⟨g, a, c, c', h0, hs.chg.cell h1 h6, hs.chg.cell h2 h6, hs.chg.cell h3 h7, h4, h5, fun hb => (hs.inc g hb).elim h6 (fun hb => by have := lt h1; omega), fun hb => (hs.inc a hb).elim h7 (fun hb => by have := lt h3; omega)⟩
theorem AnsC.set {w : World} {S : Nat → Prop} {lo q j : Nat} {V v : Value} {k z : Int} (h : AnsC w S lo V k z) (hq : q < lo) : AnsC (w.setCell ⟨q, j, none⟩ v) S lo V k z := by
  obtain ⟨g, a, c, c', h0, h1, h2, h3, h4, h5, h6, h7⟩ := h
  exact ⟨g, a, c, c', h0, far_set (by omega) h1, far_set (by omega) h2, far_set (by omega) h3, h4, h5, h6, h7⟩
theorem ansC_of {w w' : World} {S : Nat → Prop} {V : Value} {r : Dt} {k z : Int} (h : RowF w w' S V [r]) (h1 : r.k = k) (h2 : r.xs = [z]) : AnsC w' S w.heap.size V k z := by
  obtain ⟨A, c, L, rfl, hR, hL⟩ := h
  obtain ⟨y, rfl, hy⟩ : ∃ y, L = [y] ∧ y.dt = r := by
    match L, hL with
    | [y], hL => exact ⟨y, rfl, by simpa using hL⟩
  subst hy
  obtain ⟨g, hg, c0, -, -, -, -, c5, -⟩ := row7 (k := 0) hR.o.1 rfl
  have hN := (hR.b y (List.mem_singleton_self _)).n
  have e1 : y.xs = [z] := h2
  obtain ⟨a, cap, e, _, _⟩ := hN.1.form (by rw [e1]; simp)
  have hz := hN.1.cells (g := a) (by rw [e]; rfl) 0 (.int .i64 z) (by rw [e1]; rfl)
  have e3 : y.nv = .slice (some ⟨a, 0, none⟩) 1 cap := by rw [e, e1]; rfl
  have b1 := hR.o.2 g (by rw [hg]; rfl)
  have b2 := hN.2 a (by rw [e]; rfl)
  refine ⟨g, a, c, cap, by rw [hg]; rfl, ?_, ?_, by rw [Go.Proofs.YtbkpgkkfkjlnnaaW.PrintWords.add_plain] at hz; exact hz, b1.1, b2.1, b1.2, b2.2⟩
  · rw [Nat.zero_mul] at c0; rw [c0]; exact congrArg (fun u => some (Value.int .i64 u)) h1
  · rw [Nat.zero_mul, Nat.zero_add, e3] at c5; exact c5
theorem KS.set {W w : World} {S : Nat → Prop} {r q N : Nat} {d : DS} {C C' : Array Value} (h : KS W w S r q d N C) (j : Nat) (v : Value) (hc : (w.setCell ⟨q, j, none⟩ v).heap[q]? = some (.cells C' 32 (0, 0))) : KS W (w.setCell ⟨q, j, none⟩ v) S r q d N C' := by
  obtain ⟨x, hG, hd⟩ := h.ex
  have hch : Chg (fun b => b = q) w (w.setCell ⟨q, j, none⟩ v) := Chg.ofGrown (grown_set _) (fun k e => by injection e with e; exact e.symm)
  exact ⟨⟨x, hG.chg hch (fun b hb e => h.nS (e ▸ hb)), hd⟩, h.i, h.nS, h.SW, hc, h.qW, hch.on h.B h.B.size (fun k e => by rw [e]; exact h.qW)⟩
theorem KS.below {W w w' : World} {S : Nat → Prop} {r q N : Nat} {d : DS} {C : Array Value} (h : KS W w S r q d N C) (hb : Below w.heap.size w w') : KS W w' S r q d N C := by
  obtain ⟨x, hG, hd⟩ := h.ex
  exact ⟨⟨x, hG.below hb, hd⟩, h.i, h.nS, h.SW, heap_keep hb h.hq, h.qW, below_then h.B h.B.size hb⟩
def KGet (W w w' : World) (S : Nat → Prop) (r q : Nat) (N : Nat) (C : Array Value) (n1 : Nat) (L2 : List Dt) (E : Int) (D' : DS) (e : Ending) : Prop := ∃ S' A1 c1 V2, e = .returned (.tuple #[.slice A1 n1 c1, V2, .int .i64 E]) ∧ KS W w' S' r q D' (N + 1) C ∧ RowF w w' S' V2 L2 ∧ Stp w w' S S'
theorem KS.get {W w : World} {S : Nat → Prop} {r q N : Nat} {d : DS} {C : Array Value} (h : KS W w S r q d N C) (hN : N ≤ 100) (k f t v s : Int) (A B : Option Addr) (n c m d' : Nat) (xs : List Int) (ys : List (Int × Int)) (hr : MsR w A n c xs B m d' ys) (hn : n ≤ 10) (hm : m ≤ 10) (hAS : ∀ ad, A = some ad → n = 1 → ¬ S ad.block) (hs0 : 0 ≤ s ∧ s < 4294967296)
    {n1 : Nat} {L1 L2 : List Dt} {E : Int} {D' : DS} (hD : dGet d ⟨k, f, t, v, s, xs, ys⟩ = ((L1, L2, E), D')) (hn1 : L1.length = n1) :
    Calls Try.prog 13 #[.pointer (some ⟨r, 0, none⟩), .agg (msC k f t v s (.slice A n c) (.slice B m d'))] w fun e w' => KGet W w w' S r q N C n1 L2 E D' e := by
  obtain ⟨x, hG, rfl⟩ := h.ex
  refine (get_any w S r x k f t v s A B n c m d' xs ys hG h.i (by omega) hr.rd hr.wd hr.az hr.bz (by omega) (by omega) hs0 hAS).mono ?_
  rintro e w' ⟨S', x', V1, V2, rfl, ⟨A1, c1, L, rfl, _, _⟩, h2, hd, hG', hst⟩
  have hi := h.i.get ⟨k, f, t, v, s, xs, ys⟩
  rw [hD] at h2 hd hi ⊢
  have hql := lt_of_heap h.hq
  exact ⟨S', A1, c1, V2, by rw [hn1], ⟨⟨x', hG', hd⟩, hi, fun hb => (hst.inc q hb).elim h.nS (fun hb => by omega), fun b hb => (hst.inc b hb).elim (h.SW b) (fun hb => Nat.le_trans h.B.size hb), hst.chg.keep h.hq h.nS, h.qW, hst.chg.on h.B h.B.size h.SW⟩, h2, hst⟩
theorem msr_nil (w : World) : MsR w none 0 0 [] none 0 0 [] := ⟨reads_nil _ _, wides_nil _, fun _ => rfl, fun _ => ⟨rfl, rfl⟩, Nat.le_refl _, Nat.le_refl _⟩
def d0 : DS := ⟨1, 2, 3, 0, 0, 0, 1, [], []⟩
def d1 : DS := ⟨1, 2, 3, 0, 0, 0, 1, [], [⟨5, 2, 1, 3, 2, [], []⟩]⟩
def d2 : DS := ⟨1, 2, 3, 0, 0, 0, 3, [], []⟩
theorem g1 : dGet d0 ⟨5, 2, 1, 3, 2, [], []⟩ = (([], [⟨1, 1, 2, 3, 0, [0], []⟩], 0), d1) := by rfl
theorem g2 : dGet d1 ⟨5, 2, 1, 3, 2, [], []⟩ = (([], [⟨1, 1, 2, 3, 0, [0], []⟩], 8), d1) := by rfl
theorem g3 : dGet d1 ⟨5, 2, 1, 3, 1, [], []⟩ = (([⟨5, 2, 1, 3, 1, [], []⟩, ⟨5, 2, 1, 3, 2, [], []⟩], [⟨1, 1, 2, 3, 0, [2], []⟩], 0), d2) := by rfl
theorem g4 : dGet d2 ⟨5, 2, 1, 3, 40, [], []⟩ = (([], [], 6), d2) := by rfl
theorem g5 : dGet d2 ⟨5, 2, 1, 3, 0, [], []⟩ = (([], [], 3), d2) := by rfl
theorem g6 : dGet d2 ⟨5, 2, 1, 4, 0, [], []⟩ = (([], [], 8), d2) := by rfl
theorem g7 : dGet d2 ⟨5, 3, 1, 4, 0, [], []⟩ = (([], [], 1), d2) := by rfl
theorem g8 : dGet d2 ⟨1, 2, 1, 3, 0, [1], []⟩ = (([], [], 3), d2) := by rfl
theorem KS.made {W w : World} (h : Below W.heap.size W w) : KS W ((w.alloc (.cells (lkC 1 2 3 0 (.slice none 0 0) 0 0 1 (.slice none 0 0)) 61)).alloc (.cells (msC 5 2 1 3 2 (.slice none 0 0) (.slice none 0 0)) 32)) (fun b => b = w.heap.size) w.heap.size (w.heap.size + 1) d0 0 (msC 5 2 1 3 2 (.slice none 0 0) (.slice none 0 0)) := by
  have hb1 := alloc_back (W := w) (.cells (lkC 1 2 3 0 (.slice none 0 0) 0 0 1 (.slice none 0 0)) 61)
  have hb2 := alloc_back (W := w.alloc (.cells (lkC 1 2 3 0 (.slice none 0 0) 0 0 1 (.slice none 0 0)) 61)) (.cells (msC 5 2 1 3 2 (.slice none 0 0) (.slice none 0 0)) 32)
  have hq := heap_alloc_new (w.alloc (.cells (lkC 1 2 3 0 (.slice none 0 0) 0 0 1 (.slice none 0 0)) 61)) (.cells (msC 5 2 1 3 2 (.slice none 0 0) (.slice none 0 0)) 32)
  rw [World.size_alloc] at hq
  have := h.size
  exact ⟨⟨_, (lk_made w 1 2 3).below hb2, rfl⟩, inv_new (own := 1) (peer := 2) (view := 3) ⟨by decide, by decide⟩ ⟨by decide, by decide⟩, by omega, fun b hb => by omega, hq, by omega, below_then h this (below_then hb1 hb1.size hb2)⟩
set_option maxRecDepth 100000 in
set_option maxHeartbeats 8000000 in
theorem known_walk (W : World) : Calls Try.prog 5 #[] W fun e w' => e = .returned (.bool true) ∧ Below W.heap.size W w' := by
  go_enter Try.func5, Try.ntmps5
  go_wp2_with fail
  refine (awake_walk _).mono ?_
  rintro e wA ⟨rfl, hbA⟩
  have HBA := Lib.hid hbA; clear hbA
  go_wp2_with fail
  refine (new_bad 1 1 0 _ (by decide)).mono ?_
  rintro e wB ⟨rfl, rfl⟩
  go_wp2_with fail
  refine (new_ok 1 2 3 _ (by decide) (by decide) (by decide)).mono ?_
  rintro e w1 ⟨rfl, hw1⟩
  have K0 := Lib.hid (KS.made HBA.out)
  rw [← hw1] at K0
  have hs1 : w1.heap.size = wA.heap.size + 1 := by rw [hw1]; simp
  obtain ⟨r, hr⟩ : ∃ r, r = wA.heap.size := ⟨_, rfl⟩
  obtain ⟨q, hq⟩ : ∃ q, q = w1.heap.size := ⟨_, rfl⟩
  rw [← hs1, ← hq, ← hr] at K0
  obtain ⟨w2, hw2⟩ : ∃ w2, w2 = w1.alloc (.cells (msC 5 2 1 3 2 (.slice none 0 0) (.slice none 0 0)) 32) := ⟨_, rfl⟩
  rw [← hw2] at K0
  rw [← hr]
  have HW2 := Lib.hid (show w1.alloc (.cells #[.int .i64 5, .int .i64 2, .int .i64 1, .int .u32 3, .int .u32 2, .slice none 0 0, .slice none 0 0] 32) = w2 from hw2.symm)
  have HQ := Lib.hid hq.symm
  clear hw1 hs1 hr hq hw2
  have C1 := Lib.hid (K0.out.get (by decide) 5 2 1 3 2 none none 0 0 0 0 [] [] (msr_nil _) (by decide) (by decide) (fun _ h => by cases h) (by decide) g1 rfl)
  go_wp2_with fail
  rw [HW2.out, HQ.out]
  refine C1.out.mono ?_
  rintro e x1 ⟨S1, A1, p1, V1, rfl, h1, h2, h3⟩
  have K1 := Lib.hid h1
  obtain ⟨l1, hl1⟩ : ∃ l1, l1 = w2.heap.size := ⟨_, rfl⟩
  have Y1 := Lib.hid (show AnsC x1 S1 l1 V1 1 0 by rw [hl1]; exact ansC_of h2 rfl rfl)
  have lq1 : q < l1 := by rw [hl1]; exact lt_of_heap K0.out.hq
  clear hl1
  clear h1 h2 h3 C1
  have C2 := Lib.hid (K1.out.get (by decide) 5 2 1 3 2 none none 0 0 0 0 [] [] (msr_nil _) (by decide) (by decide) (fun _ h => by cases h) (by decide) g2 rfl)
  obtain ⟨c0, c1, c2, c3, c4, c5, c6⟩ := msC_cells K1.out.hq
  go_wp2_with fail
  refine C2.out.mono ?_
  rintro e x2 ⟨S2, A2, p2, V2, rfl, h1, h2, h3⟩
  have K2 := Lib.hid h1
  have Y1' := Lib.hid (Y1.out.stp h3)
  clear Y1; have Y1 := Y1'; clear Y1'
  obtain ⟨g2a, c2a, L2a, e2a, _, _⟩ := h2
  subst e2a
  clear h1  h3 C2
  go_wp2_with fail
  obtain ⟨xh, hGh, hdh⟩ := K2.out.ex
  have CH := Lib.hid (ahead_any hGh)
  rw [show (xh.held.length : Int) = 1 by have : xh.held.length = d1.held.length := by rw [← hdh]; simp [LSt.ds]
                                         rw [this]; rfl] at CH
  clear hGh hdh
  refine CH.out.mono ?_
  rintro e wh ⟨rfl, rfl⟩
  clear CH
  obtain ⟨v3, hv3⟩ : ∃ v3, v3 = x2.setCell ⟨q, 4, none⟩ (.int .u32 1) := ⟨_, rfl⟩
  have KX3 := Lib.hid (show KS W v3 S2 r q _ _ (msC 5 2 1 3 1 (.slice none 0 0) (.slice none 0 0)) by rw [hv3]; exact K2.out.set 4 _ (by rw [heap_set _ K2.out.hq]; rfl))
  have Y1' := Lib.hid (show AnsC v3 S2 l1 V1 1 0 by rw [hv3]; exact Y1.out.set (by omega))
  clear Y1; have Y1 := Y1'; clear Y1'
  have HV3 := Lib.hid hv3.symm; clear hv3
  have C3 := Lib.hid (KX3.out.get (by decide) 5 2 1 3 1 none none 0 0 0 0 [] [] (msr_nil _) (by decide) (by decide) (fun _ h => by cases h) (by decide) g3 rfl)
  obtain ⟨c0, c1, c2, c3, c4, c5, c6⟩ := msC_cells K2.out.hq
  have fz := froz K2.out.hq 4
  go_wp2_with fail
  rw [HV3.out]
  refine C3.out.mono ?_
  rintro e x3 ⟨S3, A3, p3, V3, rfl, h1, h2, h3⟩
  have K3 := Lib.hid h1
  have Y1' := Lib.hid (Y1.out.stp h3)
  clear Y1; have Y1 := Y1'; clear Y1'
  obtain ⟨l3, hl3⟩ : ∃ l3, l3 = v3.heap.size := ⟨_, rfl⟩
  have Y3 := Lib.hid (show AnsC x3 S3 l3 V3 1 2 by rw [hl3]; exact ansC_of h2 rfl rfl)
  have lq3 : q < l3 := by rw [hl3]; exact lt_of_heap KX3.out.hq
  clear hl3
  clear h1 h2 h3 C3
  obtain ⟨v4, hv4⟩ : ∃ v4, v4 = x3.setCell ⟨q, 4, none⟩ (.int .u32 40) := ⟨_, rfl⟩
  have KX4 := Lib.hid (show KS W v4 S3 r q _ _ (msC 5 2 1 3 40 (.slice none 0 0) (.slice none 0 0)) by rw [hv4]; exact K3.out.set 4 _ (by rw [heap_set _ K3.out.hq]; rfl))
  have Y1' := Lib.hid (show AnsC v4 S3 l1 V1 1 0 by rw [hv4]; exact Y1.out.set (by omega))
  clear Y1; have Y1 := Y1'; clear Y1'
  have Y3' := Lib.hid (show AnsC v4 S3 l3 V3 1 2 by rw [hv4]; exact Y3.out.set (by omega))
  clear Y3; have Y3 := Y3'; clear Y3'
  have HV4 := Lib.hid hv4.symm; clear hv4
  have C4 := Lib.hid (KX4.out.get (by decide) 5 2 1 3 40 none none 0 0 0 0 [] [] (msr_nil _) (by decide) (by decide) (fun _ h => by cases h) (by decide) g4 rfl)
  obtain ⟨c0, c1, c2, c3, c4, c5, c6⟩ := msC_cells K3.out.hq
  have fz := froz K3.out.hq 4
  go_wp2_with fail
  rw [HV4.out]
  refine C4.out.mono ?_
  rintro e x4 ⟨S4, A4, p4, V4, rfl, h1, h2, h3⟩
  have K4 := Lib.hid h1
  have Y1' := Lib.hid (Y1.out.stp h3)
  clear Y1; have Y1 := Y1'; clear Y1'
  have Y3' := Lib.hid (Y3.out.stp h3)
  clear Y3; have Y3 := Y3'; clear Y3'
  obtain ⟨g4a, c4a, L4a, e4a, _, _⟩ := h2
  subst e4a
  clear h1  h3 C4
  obtain ⟨v5, hv5⟩ : ∃ v5, v5 = x4.setCell ⟨q, 4, none⟩ (.int .u32 0) := ⟨_, rfl⟩
  have KX5 := Lib.hid (show KS W v5 S4 r q _ _ (msC 5 2 1 3 0 (.slice none 0 0) (.slice none 0 0)) by rw [hv5]; exact K4.out.set 4 _ (by rw [heap_set _ K4.out.hq]; rfl))
  have Y1' := Lib.hid (show AnsC v5 S4 l1 V1 1 0 by rw [hv5]; exact Y1.out.set (by omega))
  clear Y1; have Y1 := Y1'; clear Y1'
  have Y3' := Lib.hid (show AnsC v5 S4 l3 V3 1 2 by rw [hv5]; exact Y3.out.set (by omega))
  clear Y3; have Y3 := Y3'; clear Y3'
  have HV5 := Lib.hid hv5.symm; clear hv5
  have C5 := Lib.hid (KX5.out.get (by decide) 5 2 1 3 0 none none 0 0 0 0 [] [] (msr_nil _) (by decide) (by decide) (fun _ h => by cases h) (by decide) g5 rfl)
  obtain ⟨c0, c1, c2, c3, c4, c5, c6⟩ := msC_cells K4.out.hq
  have fz := froz K4.out.hq 4
  go_wp2_with fail
  rw [HV5.out]
  refine C5.out.mono ?_
  rintro e x5 ⟨S5, A5, p5, V5, rfl, h1, h2, h3⟩
  have K5 := Lib.hid h1
  have Y1' := Lib.hid (Y1.out.stp h3)
  clear Y1; have Y1 := Y1'; clear Y1'
  have Y3' := Lib.hid (Y3.out.stp h3)
  clear Y3; have Y3 := Y3'; clear Y3'
  obtain ⟨g5a, c5a, L5a, e5a, _, _⟩ := h2
  subst e5a
  clear h1  h3 C5
  obtain ⟨v6, hv6⟩ : ∃ v6, v6 = x5.setCell ⟨q, 3, none⟩ (.int .u32 4) := ⟨_, rfl⟩
  have KX6 := Lib.hid (show KS W v6 S5 r q _ _ (msC 5 2 1 4 0 (.slice none 0 0) (.slice none 0 0)) by rw [hv6]; exact K5.out.set 3 _ (by rw [heap_set _ K5.out.hq]; rfl))
  have Y1' := Lib.hid (show AnsC v6 S5 l1 V1 1 0 by rw [hv6]; exact Y1.out.set (by omega))
  clear Y1; have Y1 := Y1'; clear Y1'
  have Y3' := Lib.hid (show AnsC v6 S5 l3 V3 1 2 by rw [hv6]; exact Y3.out.set (by omega))
  clear Y3; have Y3 := Y3'; clear Y3'
  have HV6 := Lib.hid hv6.symm; clear hv6
  have C6 := Lib.hid (KX6.out.get (by decide) 5 2 1 4 0 none none 0 0 0 0 [] [] (msr_nil _) (by decide) (by decide) (fun _ h => by cases h) (by decide) g6 rfl)
  obtain ⟨c0, c1, c2, c3, c4, c5, c6⟩ := msC_cells K5.out.hq
  have fz := froz K5.out.hq 3
  go_wp2_with fail
  rw [HV6.out]
  refine C6.out.mono ?_
  rintro e x6 ⟨S6, A6, p6, V6, rfl, h1, h2, h3⟩
  have K6 := Lib.hid h1
  have Y1' := Lib.hid (Y1.out.stp h3)
  clear Y1; have Y1 := Y1'; clear Y1'
  have Y3' := Lib.hid (Y3.out.stp h3)
  clear Y3; have Y3 := Y3'; clear Y3'
  obtain ⟨g6a, c6a, L6a, e6a, _, _⟩ := h2
  subst e6a
  clear h1  h3 C6
  obtain ⟨v7, hv7⟩ : ∃ v7, v7 = x6.setCell ⟨q, 1, none⟩ (.int .i64 3) := ⟨_, rfl⟩
  have KX7 := Lib.hid (show KS W v7 S6 r q _ _ (msC 5 3 1 4 0 (.slice none 0 0) (.slice none 0 0)) by rw [hv7]; exact K6.out.set 1 _ (by rw [heap_set _ K6.out.hq]; rfl))
  have Y1' := Lib.hid (show AnsC v7 S6 l1 V1 1 0 by rw [hv7]; exact Y1.out.set (by omega))
  clear Y1; have Y1 := Y1'; clear Y1'
  have Y3' := Lib.hid (show AnsC v7 S6 l3 V3 1 2 by rw [hv7]; exact Y3.out.set (by omega))
  clear Y3; have Y3 := Y3'; clear Y3'
  have HV7 := Lib.hid hv7.symm; clear hv7
  have C7 := Lib.hid (KX7.out.get (by decide) 5 3 1 4 0 none none 0 0 0 0 [] [] (msr_nil _) (by decide) (by decide) (fun _ h => by cases h) (by decide) g7 rfl)
  obtain ⟨c0, c1, c2, c3, c4, c5, c6⟩ := msC_cells K6.out.hq
  have fz := froz K6.out.hq 1
  go_wp2_with fail
  rw [HV7.out]
  refine C7.out.mono ?_
  rintro e x7 ⟨S7, A7, p7, V7, rfl, h1, h2, h3⟩
  have K7 := Lib.hid h1
  have Y1' := Lib.hid (Y1.out.stp h3)
  clear Y1; have Y1 := Y1'; clear Y1'
  have Y3' := Lib.hid (Y3.out.stp h3)
  clear Y3; have Y3 := Y3'; clear Y3'
  obtain ⟨g7a, c7a, L7a, e7a, _, _⟩ := h2
  subst e7a
  clear h1  h3 C7
  have hb := alloc_back (W := x7) (.cells (nums .i64 [1]).toArray 2)
  have K8 := Lib.hid (K7.out.below hb)
  have Y1' := Lib.hid (Y1.out.stp (Stp.ofBelow hb))
  clear Y1; have Y1 := Y1'; clear Y1'
  have Y3' := Lib.hid (Y3.out.stp (Stp.ofBelow hb))
  clear Y3; have Y3 := Y3'; clear Y3'
  have C8 := Lib.hid (K8.out.get (by decide) 1 2 1 3 0 (some ⟨x7.heap.size, 0, none⟩) none 1 1 0 0 [1] [] ⟨reads_lit x7 .i64 [1] 2 (0, 0) 1 rfl (by decide), wides_nil _, fun h => (by cases h), fun _ => ⟨rfl, rfl⟩, by decide, by decide⟩ (by decide) (by decide) (fun ad h _ hS => by injection h with h; subst h; obtain ⟨x, hG, _⟩ := K7.out.ex; have := hG.inn _ hS; simp at this) (by decide) g8 rfl)
  clear hb
  go_wp2_with fail
  refine C8.out.mono ?_
  rintro e x8 ⟨S8, A8, p8, V8, rfl, h1, h2, h3⟩
  obtain ⟨g8a, c8a, L8a, e8a, _, _⟩ := h2
  subst e8a
  obtain ⟨y1g, y1a, y1c, y1d, rfl, y10, y15, y1z, -⟩ := Y1.out.stp h3
  obtain ⟨y3g, y3a, y3c, y3d, rfl, y30, y35, y3z, -⟩ := Y3.out.stp h3
  obtain ⟨xz, hGz, hdz⟩ := h1.ex
  have CN := Lib.hid (next_any hGz)
  rw [show xz.next = 3 by have : xz.next = d2.next := by rw [← hdz]; rfl
                          rw [this]; rfl] at CN
  have CP := Lib.hid (push_any x8 S8 r xz 1 0 0 0 0 none none 0 0 0 0 [] [] hGz (by rw [hdz]; exact h1.i) (by decide) (reads_nil _ _) (wides_nil _) (fun _ => rfl) (fun _ => ⟨rfl, rfl⟩) (by decide) (by decide))
  have HB8 := Lib.hid h1.B
  have HS8 := Lib.hid h1.SW
  clear hGz hdz h1 h3 C8 Y1 Y3
  go_wp2_with fail
  refine CN.out.mono ?_
  rintro e xn ⟨rfl, rfl⟩
  go_wp2_with fail
  refine CP.out.mono ?_
  rintro e xp ⟨Sp, xq, rfl, hdp, hGp, hsp⟩
  have hBp := hsp.chg.on HB8.out HB8.out.size HS8.out
  have HBp := Lib.hid hBp
  clear hdp hGp hsp hBp
  have hp1 : (dPush xz.ds ⟨1, 0, 0, 0, 0, [], []⟩).1 = 1 := by unfold dPush; rw [if_pos (.inl rfl)]
  rw [hp1]
  go_wp2_with fail
  go_ret
  exact ⟨by first | rfl | simp, HBp.out⟩
end Go.Proofs.Ytbkpgkkfkjlnnaa.G
