/- Links of any messages: Get of a message that is taken (printed by a program of mine, mklgo.py). -/
import Derived.Test.YtbkpgkkfkjlnnaaLgN
set_option linter.unusedVariables false
set_option linter.unusedSimpArgs false
namespace Go.Proofs.Ytbkpgkkfkjlnnaa.G
open Go.RowKit Go.Proofs.YtbkpgkkfkjlnnaaW.PrintWords Go.Proofs.YtbkpgkkfkjlnnaaW.PrintLast Go.Proofs.Ytbkpgkkfkjlnnaa.K Go.Proofs.Ytbkpgkkfkjlnnaa.Row Go.Proofs.Ytbkpgkkfkjlnnaa

theorem lit1_of {B : Nat} {W0 W : World} (_ : Below B W0 W) (cs : List Value) (e : TypeId) (size : Nat) (hl : cs.length = size) (h1 : ∀ u ∈ cs, u.oneCell' = true) : ReadsC (W.alloc (.cells cs.toArray e)) size (some ⟨W.heap.size, 0, none⟩) 1 cs := lit1_reads W cs e size hl h1
/-- What the taking of a message leaves. -/
theorem take_fin {w4 w5 w9 w10 : World} {S : Nat → Prop} {r : Nat} {x : LSt} {y : Hd} {B1 A8 : Option Addr} {d1 c8 : Nat} {o : Obj} (h : LkG w4 S r x) (hb5 : Below w4.heap.size w4 w5) (ho : w4.ownsRow 0 32 7 (.slice B1 x.held.length d1) x.held.length (hdC x.held) ∧ ∀ b, (Value.slice B1 x.held.length d1).ownBlock = some b → S b)
    (hyn : w5.ownsRow w4.heap.size 2 1 y.nv y.xs.length (nums .i64 y.xs)) (hyw : w5.ownsRow w4.heap.size 79 2 y.wv y.ys.length (wides y.ys))
    (ho8 : w9.ownsRow 0 32 7 (.slice A8 (x.held.length + 1) c8) (x.held.length + 1) (hdC x.held ++ y.cells)) (hg8 : (w5.alloc o).grownBy w9 (Value.slice B1 x.held.length d1).ownBlock) (ha8 : (Value.slice A8 (x.held.length + 1) c8).ownBlock = (Value.slice B1 x.held.length d1).ownBlock ∨ (Value.slice A8 (x.held.length + 1) c8).ownBlock = some (w5.alloc o).heap.size)
    (hw10 : w10 = w9.setCell ⟨r, 8, none⟩ (.slice A8 (x.held.length + 1) c8)) :
    LkG w10 (fun b => S b ∨ (w4.heap.size ≤ b ∧ b < w9.heap.size)) r ⟨x.own, x.peer, x.view, x.now, x.pushed, x.told, x.next, x.out, x.held ++ [y]⟩ ∧ Stp w4 w10 S (fun b => S b ∨ (w4.heap.size ≤ b ∧ b < w9.heap.size)) := by
  have hb : Below w4.heap.size w4 (w5.alloc o) := hb5.alloc hb5.size o
  have hc : Chg (fun b => (Value.slice B1 x.held.length d1).ownBlock = some b) w4 w9 := (Chg.ofBelow hb).trans (Chg.ofGrown (S := fun b => (Value.slice B1 x.held.length d1).ownBlock = some b) hg8 (fun k e => e)) (fun k _ e => e)
  have hT : ∀ b, (Value.slice B1 x.held.length d1).ownBlock = some b → ∃ cs, w4.heap[b]? = some (.cells cs 32 (0, 0)) := fun b hb => own_typed ho.1 b hb
  have hl : (x.held ++ [y]).length = x.held.length + 1 := by simp
  have hcat : hdC (x.held ++ [y]) = hdC x.held ++ y.cells := by simp [hdC]
  have hrow : Own w9 (fun b => S b ∨ (w4.heap.size ≤ b ∧ b < w9.heap.size)) 32 7 (.slice A8 (x.held ++ [y]).length c8) (x.held ++ [y]).length (hdC (x.held ++ [y])) := by
    rw [hl, hcat]
    refine ⟨ho8, fun b hb8 => ?_⟩
    rcases ha8 with h1 | h1
    · exact .inl (ho.2 b (h1 ▸ hb8))
    · rw [h1] at hb8; injection hb8 with hb8
      exact .inr ⟨by rw [← hb8]; exact hb.size, own_lt ho8 b (by rw [h1, hb8])⟩
  have upy : ∀ {e : TypeId} {sz n : Nat} {V : Value} {M : List Value}, w5.ownsRow w4.heap.size e sz V n M → Own w9 (fun b => S b ∨ (w4.heap.size ≤ b ∧ b < w9.heap.size)) e sz V n M := fun hV => by
    have h1 := hV.alloc o
    have h2 := own_other h1 hg8 (by
      cases hV' : (Value.slice B1 x.held.length d1).ownBlock with
      | none => cases hq : Value.ownBlock _ with
        | none => exact .inl rfl
        | some b => exact .inr (by simp)
      | some b => cases hq : Value.ownBlock _ with
        | none => exact .inl rfl
        | some b' => exact .inr (fun e => by
            injection e with e
            have h3 := own_base h1 b' hq
            have h4 := own_lt ho.1 b hV'
            omega))
    exact ⟨own_base_le h2 (Nat.zero_le _), fun b hb' => .inr ⟨own_base h2 b hb', own_lt h2 b hb'⟩⟩
  have hL := h.newHeld (S' := fun b => S b ∨ (w4.heap.size ≤ b ∧ b < w9.heap.size)) (held := x.held ++ [y]) (B' := A8) (d' := c8) hc hT (fun _ h => .inl h) (fun b hb' => by
    rcases hb' with h1 | h1
    · exact Nat.lt_of_lt_of_le (h.inn b h1) hc.size
    · exact h1.2) hrow (fun p hp => by
    rcases List.mem_append.1 hp with hp | hp
    · exact .inl hp
    · obtain rfl := List.mem_singleton.1 hp
      exact .inr ⟨upy hyn, upy hyw⟩)
  rw [hl, ← hw10] at hL
  refine ⟨hL, ⟨(hc.mono (fun k _ e => ho.2 k e)).trans (w2 := w10) (T := fun b => b = r) (by rw [hw10]; exact Chg.ofGrown (grown_set _) (fun k e => by injection e with e; exact e.symm)) (fun k _ e => by rw [e]; exact h.hr), fun b hb' => ?_⟩⟩
  rcases hb' with h1 | h1
  · exact .inl h1
  · exact .inr h1.1
/-- An answer whose row is no block of the link's. -/
def AnsF (w w' : World) (S : Nat → Prop) (x : LSt) (V : Value) : Prop := ∃ A c L, V = .slice A 1 c ∧ Rws w' (fun b => w.heap.size ≤ b ∧ ¬ S b) A c L ∧ L.map Hd.dt = [ansD x]
/-- What Get hands back, and leaves, of a message y that it takes. -/
def Took (w w' : World) (S : Nat → Prop) (r : Nat) (x : LSt) (dt : Dt) (e : Ending) : Prop :=
  ∃ y R A5 c5 V S', y.dt = dt ∧ R = rdy (x.held.length + 1) x.next (x.held ++ [y]) [] ∧ e = .returned (.tuple #[.slice A5 R.1.length c5, V, .int .i64 0]) ∧ Rws w' (fun b => S' b ∨ w.heap.size ≤ b) A5 c5 R.1 ∧
    AnsF w w' S' ⟨x.own, x.peer, x.view, x.now, x.pushed, x.told, R.2.1, x.out, R.2.2⟩ V ∧
    LkG w' S' r ⟨x.own, x.peer, x.view, x.now, x.pushed, x.told, R.2.1, x.out, R.2.2⟩ ∧ Stp w w' S S'
theorem rdy_next (m : Nat) (nx : Int) (held out : List Hd) (hm : held.length ≤ m) : nx ≤ (rdy m nx held out).2.1 ∧ (rdy m nx held out).2.1 + (rdy m nx held out).2.2.length ≤ nx + held.length := by
  induction m generalizing nx held out with
  | zero => exact ⟨Int.le_refl _, Int.le_refl _⟩
  | succ m ih =>
    simp only [rdy]
    split
    · rename_i y hy
      have hk := (List.getElem?_eq_some_iff.1 hy).1
      have hl := List.length_eraseIdx_of_lt hk
      have := ih (nx + 1) (held.eraseIdx (held.findIdx (fun h => h.s == nx))) (out ++ [y]) (by omega)
      rw [hl] at this
      omega
    · exact ⟨Int.le_refl _, Int.le_refl _⟩
section
variable (w : World) (S : Nat → Prop) (r : Nat) (x : LSt) (k f t v s : Int) (A B : Option Addr) (n c m d : Nat) (xs : List Int) (ys : List (Int × Int))
set_option maxRecDepth 100000 in
set_option maxHeartbeats 4000000 in
theorem get_take (h : LkG w S r x) (hl : x.held.length ≤ 900) (hn : 1 ≤ x.next ∧ x.next < 4294967296) (hnb : x.next + x.held.length < 4294960000) (hsr : 0 ≤ s ∧ s < 4294967296) (hrd : ReadsInt w .i64 A n xs) (hwd : WidesAt w B m ys) (hnn : n ≤ 1000000) (hmm : m ≤ 1000000) (hA : A = none → c = 0) (hBn : B = none → m = 0 ∧ d = 0) (hf : f = x.peer) (ht : t = x.own) (hv : v = x.view) (hk : ¬ k = 1) (hs : ¬ s = 0) (hlt : ¬ s < x.next) (hge : ¬ 0 ≤ fIx x.held s) (hfar : ¬ 32 ≤ s - x.next) :
    Calls Try.prog 13 #[.pointer (some ⟨r, 0, none⟩), .agg (msC k f t v s (.slice A n c) (.slice B m d))] w fun e w' => Took w w' S r x ⟨k, x.peer, x.own, x.view, s, xs, ys⟩ e := by
  subst hf; subst ht; subst hv
  obtain ⟨A1, c1, B1, d1, h1, _, _⟩ := h.cl
  obtain ⟨w1, hw1⟩ : ∃ w1, w1 = w.alloc (.cells (msC k x.peer x.own x.view s (.slice A n c) (.slice B m d)) 32) := ⟨_, rfl⟩
  have hb1 : Below w.heap.size w w1 := by rw [hw1]; exact alloc_back _
  have q1 : w1.heap[w.heap.size]? = some (.cells (msC k x.peer x.own x.view s (.slice A n c) (.slice B m d)) 32 (0, 0)) := by rw [hw1]; exact heap_alloc_new _ _
  obtain ⟨z0, z1, z2, z3, z4, z5, z6⟩ := msC_cells q1
  obtain ⟨c0, c1', c2, c3, c4, c5, c6, c7, c8⟩ := lkC_cells (heap_keep hb1 h1)
  have HW1 := Lib.hid hw1; have HB1 := Lib.hid hb1; have HG := Lib.hid (h.below hb1); have Q1 := Lib.hid q1; have H1 := Lib.hid h1
  clear hw1 hb1 q1 h1
  have hk' : (k == 1) = false := by simpa using hk
  have hs' : (s == 0) = false := by simpa using hs
  clear hk hs
  go_enter Try.func13, Try.ntmps13
  go_wp2_with fail
  rw [← HW1.out]
  go_quiet (fail)
  revert nq; intro n1
  go_wp2_with fail
  go_quiet (fail)
  revert nq; intro n2
  go_wp2_with fail
  obtain ⟨w2, hw2⟩ : ∃ w2, w2 = w1.drewN (n1 + n2) := ⟨_, rfl⟩
  have hb2 : Below w1.heap.size w1 w2 := by rw [hw2]; exact pw_below_drewN (Below.refl _ _) _
  have B2 := Lib.hid (below_then HB1.out HB1.out.size hb2)
  have G2 := Lib.hid (HG.out.below hb2)
  have y4 := pw_cell_below hb2 z4; have e7 := pw_cell_below hb2 c7
  have Q2 := Lib.hid (heap_keep hb2 Q1.out)
  have H2 := Lib.hid (heap_keep hb2 (heap_keep HB1.out H1.out))
  rw [← hw2]
  clear hw2 hb2 z0 z1 z2 z3 z4 z5 z6 c0 c1' c2 c3 c4 c5 c6 c7 c8
  have hlt' : decide (s < x.next) = false := decide_eq_false (by omega)
  obtain ⟨q, hq⟩ : ∃ q, q = fIx x.held s := ⟨_, rfl⟩
  have CF := Lib.hid (fun (u : World) (hu : Below w2.heap.size w2 u) => (by rw [hq]; exact find_walk u S r x s (G2.out.below hu) (by omega) : Calls Try.prog 29 #[.pointer (some ⟨r, 0, none⟩), .int .u32 s] u fun e w' => e = .returned (.int .i64 q) ∧ Below u.heap.size u w'))
  have HQ := Lib.hid hq
  clear hq
  first | (go_region_held3 (fun w' => w'.cell? ⟨w.heap.size, 4, none⟩ = some (.int .u32 s) ∧ w'.cell? ⟨r, 7, none⟩ = some (.int .u32 x.next))
    (first | with_reducible exact ⟨u4, u7⟩ | exact ⟨y4, e7⟩ | go_keep)
    ((go_at_call 29; (with_reducible refine (CF.out _ (below_drew (Below.refl _ _))).mono ?_); rintro e w3 ⟨rfl, hb3⟩; have hb23 := below_then (below_drew (Below.refl w2.heap.size w2)) (Nat.le_refl _) hb3; have u4 := pw_cell_below hb23 y4; have u7 := pw_cell_below hb23 e7; have B23 := Lib.hid hb23; clear hb3 hb23))) | fail "held"
  have hge' : decide (0 ≤ q) = false := decide_eq_false (by rw [HQ.out]; omega)
  have hge2 : ¬ 0 ≤ q := by rw [HQ.out]; omega
  have ew : IntKind.u32.wrap (s - x.next) = s - x.next := by rw [IntKind.wrap_u32]; omega
  have hfar' : decide (32 ≤ s - x.next) = false := decide_eq_false (by omega)
  clear hge
  go_wp2_with fail
  go_quiet (fail)
  clear ew
  go_wp2_with fail
  obtain ⟨w4, hw4⟩ : ∃ w4, w4 = w3.drewN nq := ⟨_, rfl⟩
  have hb34 : Below w3.heap.size w3 w4 := by rw [hw4]; exact pw_below_drewN (Below.refl _ _) _
  have hb24 := below_then B23.out B23.out.size hb34
  have BW4 := Lib.hid (below_then B2.out B2.out.size hb24)
  have G4 := Lib.hid (G2.out.below hb24)
  have hq4 := heap_keep hb24 Q2.out
  have h4 := heap_keep hb24 H2.out
  obtain ⟨hn1, hhn⟩ : ∃ hn1, hn1 = x.held.length := ⟨_, rfl⟩
  rw [← hhn] at h4
  obtain ⟨A4', c4', B4', d4', g1, g2, g3⟩ := G4.out.cl
  rw [← hhn] at g1 g3
  have hBB : B4' = B1 ∧ d4' = d1 := by
    rw [h4] at g1; injection g1 with g1; injection g1 with g1 _
    simp only [lkC, Array.mk.injEq, List.cons.injEq, Value.slice.injEq, true_and, and_true] at g1
    exact ⟨g1.2.1.symm, g1.2.2.symm⟩
  obtain ⟨rfl, rfl⟩ := hBB
  have HO4 := Lib.hid g3.1; have HOS := Lib.hid g3.2; have H4 := Lib.hid h4; have HHN := Lib.hid hhn
  have HNE := Lib.hid (fun e => by
    obtain ⟨cs, hcs⟩ := own_typed g3.1 r e.symm
    exact absurd rfl (ty_ne hcs h4 (by decide)) : ¬ some r = (Value.slice B4' hn1 d4').ownBlock)
  have HNB := Lib.hid (fun e => by
    have h1 := g3.2 _ e.symm
    have h2 := h.inn _ h1
    omega : ¬ some w.heap.size = (Value.slice B4' hn1 d4').ownBlock)
  have HQ4 := Lib.hid hq4
  obtain ⟨z0, z1, z2, z3, z4, z5, z6⟩ := msC_cells hq4
  have d8 := (lkC_cells h4).2.2.2.2.2.2.2.2
  have HKP := Lib.hid ((fun W h => ⟨pw_cell_below h d8, pw_cell_below h z0, pw_cell_below h z1, pw_cell_below h z2, pw_cell_below h z3, pw_cell_below h z4, pw_cell_below h z5, pw_cell_below h z6⟩) : ∀ W : World, Below w4.heap.size w4 W → _ ∧ _ ∧ _ ∧ _ ∧ _ ∧ _ ∧ _ ∧ _)
  have HR := Lib.hid (fun (W : World) (h : Below w4.heap.size w4 W) => (hrd.below BW4.out).below h)
  have HWd := Lib.hid (fun (W : World) (h : Below w4.heap.size w4 W) => (hwd.below BW4.out).below h)
  have HXL := Lib.hid (And.intro hrd.1 hwd.1)
  obtain ⟨i0, z0', hi, hz0, hz1, hz2, hz3⟩ := mInfo
  have HI := Lib.hid (And.intro hi (And.intro hz0 (And.intro hz1 (And.intro hz2 hz3))))
  have HBD := Lib.hid (And.intro hnb hl)
  have hn1b : hn1 ≤ 900 := by omega
  have hq : Below w4.heap.size w4 w4.drew := below_drew (Below.refl _ _)
  rw [← hw4]
  clear hw4 hb34 hb24 hq4 h4 hhn g1 g2 g3 z0 z1 z2 z3 z4 z5 z6 d8 hrd hwd hi hz0 hz1 hz2 hz3 u4 u7 y4 e7 hfar' hnb
  refine start_ (n := 12) (S := fun w' => w'.cell? ⟨r, 8, none⟩ = some (.slice B4' hn1 d4') ∧ w'.cell? ⟨w.heap.size, 0, none⟩ = some (.int .i64 k) ∧ w'.cell? ⟨w.heap.size, 1, none⟩ = some (.int .i64 x.peer) ∧ w'.cell? ⟨w.heap.size, 2, none⟩ = some (.int .i64 x.own) ∧ w'.cell? ⟨w.heap.size, 3, none⟩ = some (.int .u32 x.view) ∧ w'.cell? ⟨w.heap.size, 4, none⟩ = some (.int .u32 s) ∧ w'.cell? ⟨w.heap.size, 5, none⟩ = some (.slice A n c) ∧ w'.cell? ⟨w.heap.size, 6, none⟩ = some (.slice B m d)) (ds := [11]) #[false, false, false, false, false, false, false, false, false, false, false, false] (by kernel_rfl) rfl rfl (HKP.out _ (below_drew (Below.refl _ _))) (fun hHeld => ?_)
  refine pure_ (i := 0) (N := some 70) (v := ?_) (a' := ?_) #[true, false, false, false, false, false, false, false, false, false, false, false] rfl rfl (by kernel_rfl) (fun _ _ _ h => h) (Or.inl ⟨by rfl, ?_⟩) ?_ ?_
  rotate_left
  · intro w'
    go_simp
    (try with_reducible rfl)
  rotate_left
  · simp only [Act.put, List.setIfInBounds_toArray, List.set_cons_zero, List.set_cons_succ]
    rfl
  refine pure_ (i := 1) (N := some 71) (v := ?_) (a' := ?_) #[true, true, false, false, false, false, false, false, false, false, false, false] rfl rfl (by kernel_rfl) (fun _ _ _ h => h) (Or.inl ⟨by rfl, ?_⟩) ?_ ?_
  rotate_left
  · intro w'
    go_simp
    (try with_reducible rfl)
  rotate_left
  · simp only [Act.put, List.setIfInBounds_toArray, List.set_cons_zero, List.set_cons_succ]
    rfl
  refine pure_ (i := 2) (N := some 72) (v := ?_) (a' := ?_) #[true, true, true, false, false, false, false, false, false, false, false, false] rfl rfl (by kernel_rfl) (fun _ _ _ h => h) (Or.inl ⟨by rfl, ?_⟩) ?_ ?_
  rotate_left
  · intro w'
    go_simp
    (try with_reducible rfl)
  rotate_left
  · simp only [Act.put, List.setIfInBounds_toArray, List.set_cons_zero, List.set_cons_succ]
    rfl
  refine pure_ (i := 3) (N := some 73) (v := ?_) (a' := ?_) #[true, true, true, true, false, false, false, false, false, false, false, false] rfl rfl (by kernel_rfl) (fun _ _ _ h => h) (Or.inl ⟨by rfl, ?_⟩) ?_ ?_
  rotate_left
  · intro w'
    go_simp
    (try with_reducible rfl)
  rotate_left
  · simp only [Act.put, List.setIfInBounds_toArray, List.set_cons_zero, List.set_cons_succ]
    rfl
  refine take_ (i := 4) (N := some 74) (v := ?_) (a' := ?_) #[true, true, true, true, true, false, false, false, false, false, false, false] rfl rfl (by kernel_rfl) (fun _ _ _ h => h) (Or.inl ⟨by rfl, ?_⟩) hHeld ?_ ?_
  rotate_left
  · rintro w' ⟨s0, s1, s2, s3, s4, s5, s6, s7⟩
    go_simp
    (try with_reducible rfl)
  rotate_left
  · simp only [Act.put, List.setIfInBounds_toArray, List.set_cons_zero, List.set_cons_succ]
    rfl
  refine take_ (i := 5) (N := some 75) (v := ?_) (a' := ?_) #[true, true, true, true, true, true, false, false, false, false, false, false] rfl rfl (by kernel_rfl) (fun _ _ _ h => h) (Or.inl ⟨by rfl, ?_⟩) hHeld ?_ ?_
  rotate_left
  · rintro w' ⟨s0, s1, s2, s3, s4, s5, s6, s7⟩
    go_simp
    (try with_reducible rfl)
  rotate_left
  · simp only [Act.put, List.setIfInBounds_toArray, List.set_cons_zero, List.set_cons_succ]
    rfl
  refine one_ (i := 6) (N := some 76) #[true, true, true, true, true, true, true, false, false, false, false, false] rfl rfl (by kernel_rfl) (by decide) (fun K hK => ?_)
  go_simp
  refine (copied_any k x.peer x.own x.view s A B n c m d xs ys _ (HR.out _ hq) (HWd.out _ hq) (by omega) (by omega) hA hBn).mono ?_
  rintro e w5 ⟨A3, c3, B3, d3, rfl, hn3, hw3, hb5⟩
  have hq5 := below_then hq hq.size hb5
  have HY := Lib.hid (And.intro hn3 hw3)
  have HB5 := Lib.hid hq5
  have HO5 := Lib.hid (fun o => pw_own_below (pw_own_below (pw_own_below HO4.out hq5) (alloc_back o)) (Below.refl _ _))
  have HFZ := Lib.hid (fun (W : World) (hg : (w5.alloc (.cells #[.int .i64 k, .int .i64 x.peer, .int .i64 x.own, .int .u32 x.view, .int .u32 s, .slice A3 n c3, .slice B3 m d3] 32)).grownBy W (Value.slice B4' hn1 d4').ownBlock) => froz ((hg.block r (lt_of_heap (heap_keep (alloc_back _) (heap_keep hq5 H4.out))) HNE.out).trans (heap_keep (alloc_back _) (heap_keep hq5 H4.out))) 8)
  have HCZ := Lib.hid (fun (W : World) (hg : (w5.alloc (.cells #[.int .i64 k, .int .i64 x.peer, .int .i64 x.own, .int .u32 x.view, .int .u32 s, .slice A3 n c3, .slice B3 m d3] 32)).grownBy W (Value.slice B4' hn1 d4').ownBlock) => (lkC_cells ((hg.block r (lt_of_heap (heap_keep (alloc_back _) (heap_keep hq5 H4.out))) HNE.out).trans (heap_keep (alloc_back _) (heap_keep hq5 H4.out)))).2.2.2.2.2.2.2.2)
  have HBX := Lib.hid (fun (W : World) (hg : (w5.alloc (.cells #[.int .i64 k, .int .i64 x.peer, .int .i64 x.own, .int .u32 x.view, .int .u32 s, .slice A3 n c3, .slice B3 m d3] 32)).grownBy W (Value.slice B4' hn1 d4').ownBlock) => msC_cells ((hg.block w.heap.size (lt_of_heap (heap_keep (alloc_back _) (heap_keep hq5 HQ4.out))) HNB.out).trans (heap_keep (alloc_back _) (heap_keep hq5 HQ4.out))))
  clear hq
  have hq := hq5
  clear hn3 hw3 hb5
  try go_wp2_with fail
  refine hK.out _ _ ?_ (fun hHeld2 => ?_)
  · (try dsimp only)
    exact HKP.out _ hq
  clear hHeld hK K
  have hHeld := hHeld2
  clear hHeld2
  try simp only [Act.put, List.setIfInBounds_toArray, List.set_cons_zero, List.set_cons_succ]
  refine one_ (i := 7) (N := some 77) #[true, true, true, true, true, true, true, true, false, false, false, false] rfl rfl (by kernel_rfl) (by decide) (fun K hK => ?_)
  go_simp
  have hqn := alloc_below hq hq.size (.cells #[.int .i64 k, .int .i64 x.peer, .int .i64 x.own, .int .u32 x.view, .int .u32 s, .slice A3 n c3, .slice B3 m d3] 32)
  have hn := lit1_of hq5 [.int .i64 k, .int .i64 x.peer, .int .i64 x.own, .int .u32 x.view, .int .u32 s, .slice A3 n c3, .slice B3 m d3] 32 7 rfl (by simp [Value.oneCell'])
  (try simp only [World.size_alloc, hdr] at hn)
  have hl7 := Lib.hid hn
  clear hn
  clear hq
  have hq := hqn
  clear hqn
  refine hK.out _ _ ?_ (fun hHeld2 => ?_)
  · (try dsimp only)
    exact HKP.out _ hq
  clear hHeld hK K
  have hHeld := hHeld2
  clear hHeld2
  try simp only [Act.put, List.setIfInBounds_toArray, List.set_cons_zero, List.set_cons_succ]
  refine one_ (i := 8) (N := some 78) #[true, true, true, true, true, true, true, true, true, false, false, false] rfl rfl (by kernel_rfl) (by decide) (fun K hK => ?_)
  refine step_app_cells (w0 := w5.alloc (.cells #[.int .i64 k, .int .i64 x.peer, .int .i64 x.own, .int .u32 x.view, .int .u32 s, .slice A3 n c3, .slice B3 m d3] 32)) 0 (by rfl) _ _ 33 32 i0 z0' 7 80 (by rfl) Try.underlying33 HI.out.1 HI.out.2.1 HI.out.2.2.1 HI.out.2.2.2.1 HI.out.2.2.2.2 (by decide) (by decide) _ hn1 (hdC x.held) [.int .i64 k, .int .i64 x.peer, .int .i64 x.own, .int .u32 x.view, .int .u32 s, .slice A3 n c3, .slice B3 m d3] (some ⟨w5.heap.size, 0, none⟩) 1 1 (by rfl) (by rfl) (HO5.out (.cells #[.int .i64 k, .int .i64 x.peer, .int .i64 x.own, .int .u32 x.view, .int .u32 s, .slice A3 n c3, .slice B3 m d3] 32)) hl7.out (Below.refl _ _) (Nat.zero_le _) (by omega) (hn1 + 1) rfl ?_
  intro A8 c8 w9 ho8 hB8 hg8 ha8
  have HF8 := Lib.hid (And.intro ho8 (And.intro hg8 ha8))
  have fz := HFZ.out w9 hg8
  have cz := HCZ.out w9 hg8
  have bx := HBX.out w9 hg8
  clear ho8 hB8 hg8 ha8 hq
  refine hK.out _ _ ?_ (fun hHeld2 => ?_)
  · (try dsimp only)
    exact ⟨cz, bx⟩
  clear hHeld hK K
  have hHeld := hHeld2
  clear hHeld2
  try simp only [Act.put, List.setIfInBounds_toArray, List.set_cons_zero, List.set_cons_succ]
  refine pure_ (i := 9) (N := some 79) (v := ?_) (a' := ?_) #[true, true, true, true, true, true, true, true, true, true, false, false] rfl rfl (by kernel_rfl) (fun _ _ _ h => h) (Or.inl ⟨by rfl, ?_⟩) ?_ ?_
  rotate_left
  · intro w'
    go_simp
    (try with_reducible rfl)
  rotate_left
  · simp only [Act.put, List.setIfInBounds_toArray, List.set_cons_zero, List.set_cons_succ]
    rfl
  refine pure_ (i := 10) (N := some 80) (v := ?_) (a' := ?_) #[true, true, true, true, true, true, true, true, true, true, true, false] rfl rfl (by kernel_rfl) (fun _ _ _ h => h) (Or.inl ⟨by rfl, ?_⟩) ?_ ?_
  rotate_left
  · intro w'
    go_simp
    (try with_reducible rfl)
  rotate_left
  · simp only [Act.put, List.setIfInBounds_toArray, List.set_cons_zero, List.set_cons_succ]
    rfl
  refine last_ (i := 11) (N := none) #[true, true, true, true, true, true, true, true, true, true, true, true] rfl rfl (by kernel_rfl) (by decide) (fun K hK => ?_)
  go_simp
  refine hK.out _ _ ?_
  (try clear hHeld)
  clear hK K
  try simp only [Act.put, List.setIfInBounds_toArray, List.set_cons_zero, List.set_cons_succ]
  refine wpAnyLast_done (by kernel_rfl) ?_ _
  obtain ⟨w10, hw10⟩ : ∃ w10, w10 = w9.setCell ⟨r, 8, none⟩ (.slice A8 (hn1 + 1) c8) := ⟨_, rfl⟩
  rw [← hw10]
  have hFT := take_fin (y := ⟨k, x.peer, x.own, x.view, s, A3, c3, xs, B3, d3, ys⟩) (w10 := w10) G4.out HB5.out (by rw [← HHN.out]; exact ⟨HO4.out, HOS.out⟩) (by have h := HY.out.1; rw [← HXL.out.1] at h; exact h) (by have h := HY.out.2; rw [← HXL.out.2] at h; exact h) (by rw [← HHN.out]; have h := HF8.out.1; simp only [Hd.cells, Hd.nv, Hd.wv, HXL.out.1, HXL.out.2]; exact h) (by rw [← HHN.out]; exact HF8.out.2.1) (by rw [← HHN.out]; exact HF8.out.2.2) (by rw [← HHN.out]; exact hw10)
  have HFT := Lib.hid hFT
  clear hFT hw10 fz cz bx
  have hlen2 : (x.held ++ [(⟨k, x.peer, x.own, x.view, s, A3, c3, xs, B3, d3, ys⟩ : Hd)]).length = x.held.length + 1 := by simp
  have h11 := ready_walk w10 _ r _ HFT.out.1 hn.1 (by show x.next + _ < _; rw [hlen2]; have := HBD.out; omega) (by show _ ≤ 1000; rw [hlen2]; have := HBD.out; omega)
  have hnx := rdy_next (x.held ++ [(⟨k, x.peer, x.own, x.view, s, A3, c3, xs, B3, d3, ys⟩ : Hd)]).length x.next (x.held ++ [(⟨k, x.peer, x.own, x.view, s, A3, c3, xs, B3, d3, ys⟩ : Hd)]) [] (Nat.le_refl _)
  dsimp only at h11
  rw [hlen2] at h11 hnx
  obtain ⟨R, hRR⟩ : ∃ R, R = rdy (x.held.length + 1) x.next (x.held ++ [(⟨k, x.peer, x.own, x.view, s, A3, c3, xs, B3, d3, ys⟩ : Hd)]) [] := ⟨_, rfl⟩
  rw [← hRR] at h11 hnx
  have C11 := Lib.hid h11; have HNX := Lib.hid hnx; have HRR := Lib.hid hRR
  clear h11 hnx hRR hlen2
  go_wp2_with fail
  refine C11.out.mono ?_
  rintro e w11 ⟨A5, c5, rfl, hR, hLk, hSt⟩
  have HRw := Lib.hid hR; have HLk := Lib.hid hLk; have HSt := Lib.hid hSt
  clear hR hLk hSt
  have C12 := Lib.hid (answer_walk w11 _ r _ HLk.out (by show 1 ≤ R.2.1 ∧ R.2.1 < _; have h1 := HNX.out; have h3 := HBD.out; omega))
  go_wp2_with fail
  refine C12.out.mono ?_
  rintro e w12 ⟨Aa, ca, La, rfl, hR2, hD2, hb12⟩
  have HR2 := Lib.hid hR2; have HD2 := Lib.hid hD2; have HB4'2 := Lib.hid hb12
  clear hR2 hD2 hb12
  go_wp2_with fail
  go_ret3
  have s4 : w.heap.size ≤ w4.heap.size := BW4.out.size
  have ST := ((Stp.ofBelow (S := S) BW4.out).trans HFT.out.2).trans HSt.out
  exact ⟨⟨k, x.peer, x.own, x.view, s, A3, c3, xs, B3, d3, ys⟩, R, A5, c5, _, _, rfl, HRR.out, rfl, (HRw.out.below HB4'2.out).mono (fun b hb => by rcases hb with hb | hb; exact .inl hb; exact .inr (Nat.le_trans s4 (Nat.le_trans HFT.out.2.chg.size hb))), ⟨Aa, ca, La, rfl, HR2.out.mono (fun b hb => ⟨Nat.le_trans ST.chg.size hb, fun hS => by have := HLk.out.inn b hS; omega⟩), HD2.out⟩, HLk.out.below HB4'2.out, ST.trans (Stp.ofBelow HB4'2.out)⟩
end
end Go.Proofs.Ytbkpgkkfkjlnnaa.G
