/- The walk of msg.Get (printed by a program of mine, mkget.py). -/
import Derived.Test.YtbjjfgfepbklnaaMsgH
import Derived.Test.YtbjjfgfepbklnaaWLast
import Derived.Test.YtbjjfgfepbklnaaWMore
import Derived.Deep.AppendLies
set_option linter.unusedVariables false
set_option linter.unusedSimpArgs false
namespace Go.Proofs.Ytbjjfgfepbklnaa
open Go.RowKit Go.Proofs.YtbjjfgfepbklnaaW.PrintWords Go.Proofs.YtbjjfgfepbklnaaW.PrintLast Go.Proofs.YtbjjfgfepbklnaaW.PrintMore Go.Proofs.Ytbjjfgfepbklnaa.K
attribute [local go_sem] min2_int min_two

/-- What Get answers. -/
def Got (W : World) (xs : List Int) (e : Ending) (w' : World) : Prop :=
  ((∃ x : Ms, MIs xs x ∧ ∃ A n c B m d, e = .returned (.tuple #[.agg (msC x.k x.f x.t x.v x.s (.slice A n c) (.slice B m d)), .int .i64 0]) ∧ ReadsInt w' .i64 A n x.n ∧ WidesAt w' B m x.w) ∨
    ((¬ ∃ x : Ms, MIs xs x) ∧ e = .returned (.tuple #[.agg (msC 0 0 0 0 0 (.slice none 0 0) (.slice none 0 0)), .int .i64 3]))) ∧ Below W.heap.size W w'
theorem i64w (x : Int) : IntKind.i64.wrap x = wrap64 x := by simp [IntKind.wrap, wrap64, IntKind.signed, IntKind.bits]; split <;> omega
theorem info64 : (Try.prog.info? 2).map (fun i => (i.zero.map (·.cells.size), i.size, i.bytes)) = some (some 1, 1, 8) := by kernel_rfl
theorem i64Info : ∃ i z, Try.prog.info? 2 = some i ∧ i.zero = some z ∧ i.size = 1 ∧ i.bytes = 8 ∧ z.cells.size = 1 := by
  obtain ⟨i, hi, h⟩ := Option.map_eq_some_iff.1 info64
  simp only [Prod.mk.injEq] at h
  obtain ⟨hz, h1, h2⟩ := h
  obtain ⟨z, hz1, hz2⟩ := Option.map_eq_some_iff.1 hz
  exact ⟨i, z, hi, hz1, h1, h2, hz2⟩
theorem own_ne {u : World} {N bs sz k : Nat} {e ty : TypeId} {V : Value} {M : List Value} {cs : Array Value} (hu : u.heap[N]? = some (.cells cs ty (0, 0))) (hV : u.ownsRow bs e sz V k M) (he : e ≠ ty) : V.ownBlock = none ∨ V.ownBlock ≠ some N := by
  rcases hV.2 with ⟨h, _⟩ | ⟨g', _, _, h, _, hh, _⟩
  · left; rw [h]; rfl
  · right; rw [h]; intro e2
    have e3 : g' = N := by simpa [Value.ownBlock] using e2
    rw [e3, hu] at hh; injection hh with hh; injection hh with _ hh; exact he hh.symm
theorem own_ne' {u : World} {N bs sz k : Nat} {e ty : TypeId} {V : Value} {M : List Value} {cs : Array Value} (hu : u.heap[N]? = some (.cells cs ty (0, 0))) (hV : u.ownsRow bs e sz V k M) (he : e ≠ ty) : some N ≠ V.ownBlock := by
  rcases own_ne hu hV he with h | h
  · rw [h]; simp
  · exact fun e => h e.symm
theorem set7 {w : World} {r : Nat} {k f t v s k' f' t' v' s' : Int} {A B A' B' : Value} {ty : TypeId} (h : w.heap[r]? = some (.cells (msC k f t v s A B) ty (0, 0))) :
    (((((((w.setCell ⟨r, 0, none⟩ (.int .i64 k')).setCell ⟨r, 1, none⟩ (.int .i64 f')).setCell ⟨r, 2, none⟩ (.int .i64 t')).setCell ⟨r, 3, none⟩ (.int .u32 v')).setCell ⟨r, 4, none⟩ (.int .u32 s')).setCell ⟨r, 5, none⟩ A').setCell ⟨r, 6, none⟩ B').heap[r]? = some (.cells (msC k' f' t' v' s' A' B') ty (0, 0)) := by
  rw [heap_set _ (heap_set _ (heap_set _ (heap_set _ (heap_set _ (heap_set _ (heap_set _ h))))))]; rfl
theorem grown7 (w : World) (r : Nat) (a b c d e f g : Value) : w.grownBy (((((((w.setCell ⟨r, 0, none⟩ a).setCell ⟨r, 1, none⟩ b).setCell ⟨r, 2, none⟩ c).setCell ⟨r, 3, none⟩ d).setCell ⟨r, 4, none⟩ e).setCell ⟨r, 5, none⟩ f).setCell ⟨r, 6, none⟩ g) (some r) :=
  World.grownBy.trans (World.grownBy.trans (World.grownBy.trans (World.grownBy.trans (World.grownBy.trans (World.grownBy.trans (grown_set _) (grown_set _)) (grown_set _)) (grown_set _)) (grown_set _)) (grown_set _)) (grown_set _)
/-- Get on its way: the reader, the message that is filled, the result's box. -/
structure GS (W : World) (r q N0 : Nat) (y : Fr) (A : Option Addr) (n c : Nat) (B : Option Addr) (m d : Nat) (N : List Int) (Wl : List (Int × Int)) (s : RSt) (w : World) : Prop where
  bel : Below W.heap.size W w
  rd : Rdr w r s.1 s.2
  hr : W.heap.size ≤ r
  hq : W.heap.size ≤ q
  h0 : W.heap.size ≤ N0
  mc : w.heap[q]? = some (.cells (msC y.k y.f y.t y.v y.s (.slice A n c) (.slice B m d)) 27 (0, 0))
  on : w.ownsRow N0 2 1 (.slice A n c) n (nums .i64 N)
  ow : w.ownsRow N0 47 2 (.slice B m d) m (wides Wl)
  re : w.heap[W.heap.size]? = some (.cells (msC 0 0 0 0 0 (.slice none 0 0) (.slice none 0 0)) 27 (0, 0))
  ne : q ≠ W.heap.size
  nb : N0 ≤ w.heap.size
section
variable {W w w' : World} {r q N0 : Nat} {y : Fr} {A : Option Addr} {n c : Nat} {B : Option Addr} {m d : Nat} {N : List Int} {Wl : List (Int × Int)} {s s' : RSt}
theorem below_mono' {a b : Nat} {u u' : World} (h : Below b u u') (hab : a ≤ b) : Below a u u' := ⟨h.os, h.tape, h.output, h.size, fun k hk => h.block k (Nat.lt_of_lt_of_le hk hab)⟩
theorem rdr_heap (h : Rdr w r s.1 s.2) : ∃ cs, w.heap[r]? = some (.cells cs 77 (0, 0)) := by obtain ⟨_, _, _, h, _⟩ := h; exact ⟨_, h⟩
theorem GS.below (h : GS W r q N0 y A n c B m d N Wl s w) (hb : Below w.heap.size w w') : GS W r q N0 y A n c B m d N Wl s w' :=
  ⟨below_then h.bel h.bel.size hb, h.rd.below hb, h.hr, h.hq, h.h0, heap_keep' hb h.mc, pw_own_below h.on hb, pw_own_below h.ow hb, heap_keep' hb h.re, h.ne, Nat.le_trans h.nb hb.size⟩
theorem GS.read (h : GS W r q N0 y A n c B m d N Wl s w) (h2 : Rdr w' r s'.1 s'.2) (hg : w.grownBy w' (some r)) : GS W r q N0 y A n c B m d N Wl s' w' := by
  obtain ⟨cs, hc⟩ := rdr_heap h.rd
  have ne1 : ∀ {k : Nat} {cs : Array Value}, w.heap[k]? = some (.cells cs 27 (0, 0)) → some k ≠ some r := by
    intro k cs hk e; injection e with e; subst e; rw [hk] at hc; injection hc with hc; injection hc with _ hc; exact absurd hc (by decide)
  exact ⟨pw_below_grown h.bel (some r) h.bel.size hg (fun k e => by cases e; exact h.hr), h2, h.hr, h.hq, h.h0, (hg.block q (lt_of_heap h.mc) (ne1 h.mc)).trans h.mc, own_other h.on hg (own_ne hc h.on (by decide)), own_other h.ow hg (own_ne hc h.ow (by decide)), (hg.block _ (lt_of_heap h.re) (ne1 h.re)).trans h.re, h.ne, Nat.le_trans h.nb hg.size⟩
theorem GS.cells (h : GS W r q N0 y A n c B m d N Wl s w) : w.cell? ⟨q, 0, none⟩ = some (.int .i64 y.k) ∧ w.cell? ⟨q, 1, none⟩ = some (.int .i64 y.f) ∧ w.cell? ⟨q, 2, none⟩ = some (.int .i64 y.t) ∧ w.cell? ⟨q, 3, none⟩ = some (.int .u32 y.v) ∧ w.cell? ⟨q, 4, none⟩ = some (.int .u32 y.s) ∧ w.cell? ⟨q, 5, none⟩ = some (.slice A n c) ∧ w.cell? ⟨q, 6, none⟩ = some (.slice B m d) := msC_cells h.mc
/-- Behind a row's growth in one block, and a store of its new header. -/
theorem GS.grow (h : GS W r q N0 y A n c B m d N Wl s w) {A' B' : Option Addr} {n' c' m' d' j : Nat} {N' : List Int} {Wl' : List (Int × Int)} {V v : Value} {e : TypeId} {sz k : Nat} {M : List Value} (hV : w.ownsRow N0 e sz V k M) (he1 : e ≠ 27) (he2 : e ≠ 77) (he3 : e ≠ 5)
    (hg : w.grownBy w' V.ownBlock) (hn : w'.ownsRow N0 2 1 (.slice A' n' c') n' (nums .i64 N')) (hw : w'.ownsRow N0 47 2 (.slice B' m' d') m' (wides Wl'))
    (hc : (msC y.k y.f y.t y.v y.s (.slice A n c) (.slice B m d)).setIfInBounds j v = msC y.k y.f y.t y.v y.s (.slice A' n' c') (.slice B' m' d')) :
    GS W r q N0 y A' n' c' B' m' d' N' Wl' s (w'.setCell ⟨q, j, none⟩ v) := by
  obtain ⟨rc, hrc⟩ := rdr_heap h.rd
  have k1 := (hg.block q (lt_of_heap h.mc) (own_ne' h.mc hV he1)).trans h.mc
  have k2 := (hg.block _ (lt_of_heap h.re) (own_ne' h.re hV he1)).trans h.re
  have k3 : Rdr w' r s.1 s.2 := h.rd.kept fun k ⟨cs', t, fr, hk, ht⟩ => hg.block k (lt_of_heap hk) (fun e2 => by
    rcases hV.2 with ⟨h1, _⟩ | ⟨g', _, _, h1, _, hh, _⟩
    · rw [h1] at e2; simp [Value.ownBlock] at e2
    · rw [h1] at e2
      have e3 : k = g' := by simpa [Value.ownBlock] using e2
      rw [e3, hh] at hk; injection hk with hk; injection hk with _ hk
      rcases ht with rfl | rfl
      · exact he3 hk
      · rw [e3, hh] at hrc; injection hrc with hrc; injection hrc with _ hrc; exact he2 hrc)
  have b1 := pw_below_grown h.bel V.ownBlock h.bel.size hg (fun k e => Nat.le_trans h.h0 (own_base hV k e))
  have s2 : (w'.setCell ⟨q, j, none⟩ v).heap.size = w'.heap.size := by simp [World.setCell]
  refine ⟨bset' b1 h.hq b1.size, k3.box k1 (by decide) (by decide) (grown_set v), h.hr, h.hq, h.h0, ?_, own_other hn (grown_set v) (own_ne k1 hn (by decide)), own_other hw (grown_set v) (own_ne k1 hw (by decide)), ?_, h.ne, by rw [s2]; exact Nat.le_trans h.nb hg.size⟩
  · rw [heap_set v k1, hc]
  · exact ((grown_set (w := w') (r := q) (j := j) v).block _ (lt_of_heap k2) (fun e => h.ne (by injection e with e; exact e.symm))).trans k2
end
set_option maxRecDepth 100000 in
set_option maxHeartbeats 8000000 in
theorem mget_walk (A : Option Addr) (n c : Nat) (xs : List Int) (W : World) (h : ReadsInt W .u8 A n xs) (hw : ∀ y ∈ xs, (Lit.int .u8 y).wf = true) :
    Calls Try.prog 9 #[.slice A n c] W (Got W xs) := by
  obtain ⟨w0, hw0⟩ : ∃ w0, w0 = W.alloc (.cells (msC 0 0 0 0 0 (.slice none 0 0) (.slice none 0 0)) 27) := ⟨_, rfl⟩
  have hb0 : Below W.heap.size W w0 := by rw [hw0]; exact alloc_back _
  have q0 : w0.heap[W.heap.size]? = some (.cells (msC 0 0 0 0 0 (.slice none 0 0) (.slice none 0 0)) 27 (0, 0)) := by rw [hw0]; exact heap_alloc_new _ _
  have hsz0 : w0.heap.size = W.heap.size + 1 := by rw [hw0]; simp
  have HL := Lib.hid h; have HW := Lib.hid hw
  have HB := Lib.hid hb0; have Q0 := Lib.hid q0; have HW0 := Lib.hid hw0; have HS0 := Lib.hid hsz0
  clear h hw hb0 q0 hw0 hsz0
  go_enter Try.func9, Try.ntmps9
  go_wp2_with fail
  rw [← HW0.out]
  refine (decode_any A n c xs w0 (HL.out.below HB.out) HW.out).mono ?_
  rintro e w1 ⟨hD, hb1⟩
  have B1 := Lib.hid (below_then HB.out HB.out.size hb1); have Q1 := Lib.hid (heap_keep' hb1 Q0.out)
  have HS1 := Lib.hid (show W.heap.size + 1 ≤ w1.heap.size by have := hb1.size; rw [HS0.out] at this; exact this)
  clear hb1
  rcases hD with ⟨y, hy, A', c', rfl, hrd⟩ | ⟨hno, rfl⟩
  · have HY := Lib.hid hy; have HRD := Lib.hid hrd
    clear hy hrd
    go_wp2_with fail
    obtain ⟨w2, hw2⟩ : ∃ w2, w2 = (w1.alloc (.cells (frC y.k y.f y.t y.v y.s (.slice A' y.b.length c')) 49)).alloc (.cells (msC y.k y.f y.t y.v y.s (.slice none 0 0) (.slice none 0 0)) 27) := ⟨_, rfl⟩
    have hb2 : Below w1.heap.size w1 w2 := by rw [hw2]; exact alloc_back2 _ _
    have q2 : w2.heap[w1.heap.size + 1]? = some (.cells (msC y.k y.f y.t y.v y.s (.slice none 0 0) (.slice none 0 0)) 27 (0, 0)) := by rw [hw2]; exact two_new _ _ _
    have hyl : y.b.length ≤ 16384 := HY.out.1.2.2.2
    have HYL := Lib.hid hyl; clear hyl
    (first | rw [← hw2] | skip)
    clear hw2
    refine (read_walk A' y.b y.b.length c' w2 (HRD.out.below hb2) (by have := HYL.out; omega)).mono ?_
    rintro e w3 ⟨r, hr, rfl, hrd3, hb3⟩
    have hs2 := hb2.size
    have hs3 := hb3.size
    have G0 : GS W r (w1.heap.size + 1) w3.heap.size y none 0 0 none 0 0 [] [] (y.b, false) w3 := by
      have hs1 := HS1.out
      have hsq := lt_of_heap q2
      exact ⟨below_then B1.out B1.out.size (below_then hb2 hs2 hb3), hrd3, by omega, by omega, by omega, heap_keep' hb3 q2, ⟨rfl, .inl ⟨rfl, rfl⟩⟩, ⟨rfl, .inl ⟨rfl, rfl⟩⟩, heap_keep' hb3 (heap_keep' hb2 Q1.out), by omega, Nat.le_refl _⟩
    have HG0 := Lib.hid G0
    have hbw : ∀ z ∈ y.b, (Lit.int .u8 z).wf = true := HY.out.2.1.2.2
    have HBW := Lib.hid hbw
    obtain ⟨N0, hN0⟩ : ∃ N0, N0 = w3.heap.size := ⟨_, rfl⟩
    obtain ⟨q, hq⟩ : ∃ q, q = w1.heap.size + 1 := ⟨_, rfl⟩
    rw [← hN0, ← hq] at HG0
    clear hN0 hr hrd3 hb3 hb2 q2 hs2 hs3 G0 hbw
    have C1 := Lib.hid (U16_s r (y.b, false) w3 HG0.out.rd (by have := HYL.out; simp only; omega))
    have hm1 := cntR_eq (y.b, false) HBW.out
    have hm1 : (if (500 : Int) < wrap64 (rv 2 (y.b, false)) then (500 : Int) else wrap64 (rv 2 (y.b, false))) = (gc1 y.b : Int) := by unfold gc1; rw [← hm1]; split <;> omega
    go_wp2_with fail
    refine C1.out.mono ?_
    rintro e w4 ⟨rfl, hrd4, hg4⟩
    have G1 := Lib.hid (HG0.out.read (s' := g1 y.b) hrd4 hg4)
    clear hrd4 hg4
    rw [← hq]
    clear hq
    go_wp2_with fail
    clear hm1
    go_loopw [36] (fun i wr => ∃ (k : Nat) (A1 : Option Addr) (c1 : Nat), k ≤ gc1 y.b ∧ i = .int .i64 k ∧ Aside0 (GS W r q N0 y A1 k c1 none 0 0 (gN (g1 y.b) k) [] (iterS 8 k (g1 y.b)) wr)) (fun i _ => gc1 y.b - (intOf i).toNat)
    case atStart => exact ⟨0, none, 0, Nat.zero_le _, rfl, ⟨G1.out⟩⟩
    case round =>
      obtain ⟨k, A1, c1, hk, rfl, HK⟩ := hrel
      have hc500 : gc1 y.b ≤ 500 := cntR_le _
      by_cases hlt : k < gc1 y.b
      · have HG := Lib.hid HK.out
        obtain ⟨z0, z1, z2, z3, z4, z5, z6⟩ := HG.out.cells
        clear z0 z1 z2 z3 z4 z6
        obtain ⟨i0, z0', hi0, hz0, hz1, hz2, hz3⟩ := i64Info
        have HI := Lib.hid (And.intro hi0 (And.intro hz0 (And.intro hz1 (And.intro hz2 hz3))))
        clear hi0 hz0 hz1 hz2 hz3
        go_wp2_with fail
        refine start_ (n := 9) (S := fun w' => w'.cell? ⟨q, 5, none⟩ = some (.slice A1 k c1)) (ds := [8]) #[false, false, false, false, false, false, false, false, false] (by kernel_rfl) rfl rfl (z5) (fun hHeld => ?_)
        refine pure_ (i := 0) (N := some 38) (v := ?_) (a' := ?_) #[true, false, false, false, false, false, false, false, false] rfl rfl (by kernel_rfl) (fun _ _ _ h => h) (Or.inl ⟨by rfl, ?_⟩) ?_ ?_
        rotate_left
        · intro w'
          go_simp
          (try with_reducible rfl)
        rotate_left
        · simp only [Act.put, List.setIfInBounds_toArray, List.set_cons_zero, List.set_cons_succ]
          rfl
        refine take_ (i := 1) (N := some 39) (v := ?_) (a' := ?_) #[true, true, false, false, false, false, false, false, false] rfl rfl (by kernel_rfl) (fun _ _ _ h => h) (Or.inl ⟨by rfl, ?_⟩) hHeld ?_ ?_
        rotate_left
        · intro w' s0
          go_simp
          (try with_reducible rfl)
        rotate_left
        · simp only [Act.put, List.setIfInBounds_toArray, List.set_cons_zero, List.set_cons_succ]
          rfl
        refine pure_ (i := 2) (N := some 40) (v := ?_) (a' := ?_) #[true, true, true, false, false, false, false, false, false] rfl rfl (by kernel_rfl) (fun _ _ _ h => h) (Or.inl ⟨by rfl, ?_⟩) ?_ ?_
        rotate_left
        · intro w'
          go_simp
          (try with_reducible rfl)
        rotate_left
        · simp only [Act.put, List.setIfInBounds_toArray, List.set_cons_zero, List.set_cons_succ]
          rfl
        refine one_ (i := 3) (N := some 41) #[true, true, true, true, false, false, false, false, false] rfl rfl (by kernel_rfl) (by decide) (fun K hK => ?_)
        go_simp
        refine (U64_s r (iterS 8 k (g1 y.b)) _ (HG.out.below (pw_below_drewN (Below.refl _ _) _)).rd (by have := iterS_len 8 (g1 y.b) k; have := rs_len 2 (y.b, false); have := HYL.out; unfold g1 at *; simp only at *; omega)).mono ?_
        rintro e w4 ⟨rfl, hrd4, hg4⟩
        have G4 := Lib.hid ((HG.out.below (pw_below_drewN (Below.refl _ _) _)).read (s' := iterS 8 (k + 1) (g1 y.b)) hrd4 hg4)
        obtain ⟨z0, z1, z2, z3, z4, z5, z6⟩ := G4.out.cells
        clear hrd4 hg4 z0 z1 z2 z3 z4 z6
        try go_wp2_with fail
        refine hK.out _ _ ?_ (fun hHeld2 => ?_)
        · (try dsimp only)
          exact z5
        clear hHeld hK K
        have hHeld := hHeld2
        clear hHeld2
        try simp only [Act.put, List.setIfInBounds_toArray, List.set_cons_zero, List.set_cons_succ]
        refine pure_ (i := 4) (N := some 42) (v := ?_) (a' := ?_) #[true, true, true, true, true, false, false, false, false] rfl rfl (by kernel_rfl) (fun _ _ _ h => h) (Or.inl ⟨by rfl, ?_⟩) ?_ ?_
        rotate_left
        · intro w'
          go_simp
          (try with_reducible rfl)
        rotate_left
        · simp only [Act.put, List.setIfInBounds_toArray, List.set_cons_zero, List.set_cons_succ]
          rfl
        refine one_ (i := 5) (N := some 43) #[true, true, true, true, true, true, false, false, false] rfl rfl (by kernel_rfl) (by decide) (fun K hK => ?_)
        go_simp
        refine hK.out _ _ ?_ (fun hHeld2 => ?_)
        · (try dsimp only)
          exact pw_cell_below (alloc_back _) z5
        clear hHeld hK K
        have hHeld := hHeld2
        clear hHeld2
        try simp only [Act.put, List.setIfInBounds_toArray, List.set_cons_zero, List.set_cons_succ]
        refine one_ (i := 6) (N := some 44) #[true, true, true, true, true, true, true, false, false] rfl rfl (by kernel_rfl) (by decide) (fun K hK => ?_)
        refine step_append_lies _ (by rfl) _ _ _ (by rfl) N0 2 i0 z0' 1 8 Try.underlying24 HI.out.1 HI.out.2.1 HI.out.2.2.1 HI.out.2.2.2.1 HI.out.2.2.2.2 (by decide) (.slice A1 k c1) k (nums .i64 (gN (g1 y.b) k)) (by rfl) (pw_own_below G4.out.on (alloc_back _)) ⟨w4.heap.size, 0, none⟩ 1 1 [.int .i64 (IntKind.i64.wrap (rv 8 (iterS 8 k (g1 y.b))))] (by rfl) rfl (World.news_of_block (heap_alloc_new w4 _)) (by simp [Value.oneCell']) (by decide) (by unfold maxLen; omega) (by omega) (by have := G4.out.nb; simp; omega) (w4.heap.size + 1) (by simp) ?_
        intro g cap w5 hown hgrow hat hlt5
        have HO5 := Lib.hid hown
        have HG5 := Lib.hid hgrow
        have G4' := Lib.hid (G4.out.below (alloc_back (.cells #[.int .i64 (IntKind.i64.wrap (rv 8 (iterS 8 k (g1 y.b))))] 2)))
        have zz5 : w5.cell? ⟨q, 5, none⟩ = some (.slice A1 k c1) := by rw [World.cell?_of_block (hgrow.block q (lt_of_heap G4'.out.mc) (own_ne' G4'.out.mc G4'.out.on (by decide)))]; exact G4'.out.cells.2.2.2.2.2.1
        have fz5 : w5.frozen? ⟨q, 5, none⟩ = false := by rw [World.frozen?_of_block (hgrow.block q (lt_of_heap G4'.out.mc) (own_ne' G4'.out.mc G4'.out.on (by decide)))]; exact froz G4'.out.mc 5
        clear hown hgrow hat hlt5
        refine hK.out _ _ ?_ (fun hHeld2 => ?_)
        · (try dsimp only)
          exact zz5
        clear hHeld hK K
        have hHeld := hHeld2
        clear hHeld2
        try simp only [Act.put, List.setIfInBounds_toArray, List.set_cons_zero, List.set_cons_succ]
        refine pure_ (i := 7) (N := some 45) (v := ?_) (a' := ?_) #[true, true, true, true, true, true, true, true, false] rfl rfl (by kernel_rfl) (fun _ _ _ h => h) (Or.inl ⟨by rfl, ?_⟩) ?_ ?_
        rotate_left
        · intro w'
          go_simp
          (try with_reducible rfl)
        rotate_left
        · simp only [Act.put, List.setIfInBounds_toArray, List.set_cons_zero, List.set_cons_succ]
          rfl
        refine last_ (i := 8) (N := none) #[true, true, true, true, true, true, true, true, true] rfl rfl (by kernel_rfl) (by decide) (fun K hK => ?_)
        go_simp
        refine hK.out _ _ ?_
        clear hHeld hK K
        try simp only [Act.put, List.setIfInBounds_toArray, List.set_cons_zero, List.set_cons_succ]
        refine wpAnyLast_done (by kernel_rfl) ?_ _
        go_wp2_with fail
        go_roundw
        case rel =>
          have hnew := G4'.out.grow (j := 5) G4'.out.on (by decide) (by decide) (by decide) HG5.out (show w5.ownsRow N0 2 1 (.slice (some ⟨g, 0, none⟩) (k + 1) cap) (k + 1) (nums .i64 (gN (g1 y.b) (k + 1))) by rw [gN_succ, ← i64w]; simpa [nums] using HO5.out) (own_other G4'.out.ow HG5.out (own_type_ne G4'.out.ow G4'.out.on (by decide))) rfl
          exact ⟨k + 1, some ⟨g, 0, none⟩, cap, by omega, by go_num, ⟨hnew⟩⟩
        case measure => simp [intOf]; omega
      · obtain rfl : k = gc1 y.b := by omega
        have HG := Lib.hid (show GS W r q N0 y A1 (gc1 y.b) c1 none 0 0 (gN (g1 y.b) (gc1 y.b)) [] (g2 y.b) wr from HK.out)
        have hl2 : (g2 y.b).1.length ≤ 1000000 := by have := iterS_len 8 (g1 y.b) (gc1 y.b); have := rs_len 2 (y.b, false); have := HYL.out; unfold g2 g1 at *; simp only at *; omega
        have HL2 := Lib.hid hl2
        have C2 := Lib.hid (U16_s r (g2 y.b) wr HG.out.rd hl2)
        have hm2 := cntR_eq (g2 y.b) (fun z hz => HBW.out z (rs_mem 2 (y.b, false) z (iterS_mem 8 (g1 y.b) z (gc1 y.b) hz)))
        have hm2 : (if (500 : Int) < wrap64 (rv 2 (g2 y.b)) then (500 : Int) else wrap64 (rv 2 (g2 y.b))) = (gc2 y.b : Int) := by unfold gc2; rw [← hm2]; split <;> omega
        clear hl2
        go_wp2_with fail
        refine C2.out.mono ?_
        rintro e w4 ⟨rfl, hrd4, hg4⟩
        have G3 := Lib.hid (HG.out.read (s' := g3 y.b) hrd4 hg4)
        clear hrd4 hg4
        go_wp2_with fail
        clear hm2
        go_loopw [50] (fun i wr => ∃ (j : Nat) (B1 : Option Addr) (d1 : Nat), j ≤ gc2 y.b ∧ i = .int .i64 j ∧ Aside0 (GS W r q N0 y A1 (gc1 y.b) c1 B1 j d1 (gN (g1 y.b) (gc1 y.b)) (gW (g3 y.b) j) (iterS 16 j (g3 y.b)) wr)) (fun i _ => gc2 y.b - (intOf i).toNat)
        case atStart => exact ⟨0, none, 0, Nat.zero_le _, rfl, ⟨G3.out⟩⟩
        case round =>
          obtain ⟨j, B1, d1, hj, rfl, HJ⟩ := hrel
          have hc502 : gc2 y.b ≤ 500 := cntR_le _
          by_cases hlj : j < gc2 y.b
          · have HG4 := Lib.hid HJ.out
            have C4 := Lib.hid (Bytes_s r 16 (iterS 16 j (g3 y.b)) _ HG4.out.rd (by have := iterS_len 16 (g3 y.b) j; have := rs_len 2 (g2 y.b); have := HL2.out; unfold g3 at *; omega))
            go_wp2_with fail
            refine C4.out.mono ?_
            rintro e w5 ⟨A5, n5, c5, rfl, ho5, hrd5, hg5⟩
            have G5 := Lib.hid (HG4.out.read (s' := iterS 16 (j + 1) (g3 y.b)) hrd5 hg5)
            have C5 := Lib.hid (wget_walk A5 n5 c5 (rb 16 (iterS 16 j (g3 y.b))) w5 (by have h := own_info ho5; rw [h.1]; exact h.2.2.2.1))
            clear ho5 hrd5 hg5
            go_wp2_with fail
            refine C5.out.mono ?_
            rintro e w6 ⟨⟨er, rfl⟩, hb6⟩
            obtain ⟨wp, hwp⟩ : ∃ p, p = wv (rb 16 (iterS 16 j (g3 y.b))) := ⟨_, rfl⟩
            rw [← hwp]
            obtain ⟨u, v⟩ := wp
            have HWP := Lib.hid hwp
            clear hwp
            have G6 := Lib.hid ((G5.out.below hb6).below (alloc_back (.cells #[.int .i64 u, .int .u64 v] 47)))
            obtain ⟨z0, z1, z2, z3, z4, z5, z6⟩ := G6.out.cells
            clear z0 z1 z2 z3 z4 z5 hb6
            have fz6 := froz G6.out.mc 6
            go_wp2_with (first | (at_builtin; refine K.app_wide (w0 := w6.alloc (.cells #[.int .i64 u, .int .u64 v] 47)) N0 rfl (.tmp 59) (.tmp 61) 25 47 rfl Try.underlying25 (by kernel_rfl) (.slice B1 j d1) (gW (g3 y.b) j) u v j rfl (by rw [show (w6.alloc (.cells #[.int .i64 u, .int .u64 v] 47)).heap.size = w6.heap.size + 1 by simp]; rfl) G6.out.ow (below_mono' (Below.refl _ _) G6.out.nb) G6.out.nb (by omega) ?_; intro A7 k7 w7 ho7 hb7 hg7 hq7; have R7 := Lib.hid (And.intro ho7 hg7); have zz6 : w7.cell? ⟨q, 6, none⟩ = some (.slice B1 j d1) := by { rw [World.cell?_of_block (hg7.block q (lt_of_heap G6.out.mc) (own_ne' G6.out.mc G6.out.ow (by decide)))]; exact z6 }; have zf6 : w7.frozen? ⟨q, 6, none⟩ = false := by { rw [World.frozen?_of_block (hg7.block q (lt_of_heap G6.out.mc) (own_ne' G6.out.mc G6.out.ow (by decide)))]; exact fz6 }; clear ho7 hb7 hg7 hq7))
            go_roundw
            case rel =>
              have hnew := G6.out.grow (j := 6) G6.out.ow (by decide) (by decide) (by decide) R7.out.2 (own_other G6.out.on R7.out.2 (own_type_ne G6.out.on G6.out.ow (by decide))) (show w7.ownsRow N0 47 2 (.slice A7 (j + 1) k7) (j + 1) (wides (gW (g3 y.b) (j + 1))) by rw [gW_succ, ← HWP.out]; exact R7.out.1) rfl
              exact ⟨j + 1, A7, k7, by omega, by go_num, ⟨hnew⟩⟩
            case measure => simp [intOf]; omega
          · obtain rfl : j = gc2 y.b := by omega
            have HG4 := Lib.hid (show GS W r q N0 y A1 (gc1 y.b) c1 B1 (gc2 y.b) d1 (gM y).n (gM y).w (g4 y.b) wr from HJ.out)
            have C4 := Lib.hid (show Calls Try.prog 25 #[.pointer (some ⟨r, 0, none⟩)] wr fun e w' => e = .returned (.bool (gEnd y.b)) ∧ wr = w' from end_walk r wr _ _ HG4.out.rd)
            obtain ⟨z0, z1, z2, z3, z4, z5, z6⟩ := HG4.out.cells
            by_cases hend : gEnd y.b = true
            · rw [hend] at C4
              have HE := Lib.hid hend
              have E1 := own_info HG4.out.on
              have E2 := wides_own HG4.out.ow (by have := cntR_le (g2 y.b); unfold gc2; omega)
              have HN := Lib.hid E1; have HWD := Lib.hid E2
              have CP := Lib.hid (fun w hb => mput_walk (gM y) (gM_good HY.out.1) (gM_wf HY.out.2.1) A1 B1 (gc1 y.b) c1 (gc2 y.b) d1 w (E1.2.2.2.1.below hb) (E2.2.2.below hb) : ∀ w, Below wr.heap.size wr w → _)
              clear hend E1 E2
              go_wp2_with fail
              refine C4.out.mono ?_
              rintro e w' ⟨rfl, rfl⟩
              go_wp2_with fail
              refine (CP.out wr (Below.refl _ _)).mono ?_
              rintro e w8 ⟨A8, k8, rfl, ho8, hb8⟩
              have G8 := Lib.hid (HG4.out.below hb8)
              have C8 := Lib.hid (equal_walk A8 A _ n k8 c (menc (gM y)) xs w8 (own_info ho8).2.2.2.1 (HL.out.below (HG4.out.below hb8).bel))
              clear ho8 hb8
              by_cases heq : menc (gM y) = xs
              · rw [decide_eq_true heq] at C8
                have HQ := Lib.hid (yes_msg HY.out heq)
                clear heq
                go_wp2_with fail
                refine C8.out.mono ?_
                rintro e w9 ⟨rfl, hb9⟩
                have G9 := Lib.hid (G8.out.below hb9)
                obtain ⟨v0, v1, v2, v3, v4, v5, v6⟩ := G9.out.cells
                obtain ⟨r0, r1, r2, r3, r4, r5, r6⟩ := msC_cells G9.out.re
                have fz0 := froz G9.out.re 0
                have fz1 := froz G9.out.re 1
                have fz2 := froz G9.out.re 2
                have fz3 := froz G9.out.re 3
                have fz4 := froz G9.out.re 4
                have fz5 := froz G9.out.re 5
                have fz6 := froz G9.out.re 6
                clear z0 z1 z2 z3 z4 z5 z6 hb9
                go_wp2_with fail
                (try simp only [Exit.inBlock, Exit.then])
                refine bodyPost_ret (results_ct rfl _ _ W.heap.size 27 (msC y.k y.f y.t y.v y.s (.slice A1 (gc1 y.b) c1) (.slice B1 (gc2 y.b) d1)) (0, 0) _ rfl (set7 G9.out.re) Try.underlying27 rfl (by kernel_rfl)) rfl ?_
                refine ⟨.inl ⟨gM y, HQ.out, A1, gc1 y.b, c1, B1, gc2 y.b, d1, rfl, ?_, ?_⟩, ?_⟩
                · exact (own_info (own_other G9.out.on (grown7 _ _ _ _ _ _ _ _ _) (own_ne G9.out.re G9.out.on (by decide)))).2.2.2.1
                · exact (wides_own (own_other G9.out.ow (grown7 _ _ _ _ _ _ _ _ _) (own_ne G9.out.re G9.out.ow (by decide))) (by have := cntR_le (g2 y.b); unfold gc2; omega)).2.2
                · exact pw_below_grown G9.out.bel (some W.heap.size) G9.out.bel.size (grown7 _ _ _ _ _ _ _ _ _) (fun k e => by cases e; exact Nat.le_refl _)
              · rw [decide_eq_false heq] at C8
                have HQ := Lib.hid (no_msg HY.out (fun h => heq h.2))
                clear heq
                go_wp2_with fail
                refine C8.out.mono ?_
                rintro e w9 ⟨rfl, hb9⟩
                have G9 := Lib.hid (G8.out.below hb9)
                have fz0 := froz G9.out.re 0
                have fz1 := froz G9.out.re 1
                have fz2 := froz G9.out.re 2
                have fz3 := froz G9.out.re 3
                have fz4 := froz G9.out.re 4
                have fz5 := froz G9.out.re 5
                have fz6 := froz G9.out.re 6
                obtain ⟨r0, r1, r2, r3, r4, r5, r6⟩ := msC_cells G9.out.re
                clear z0 z1 z2 z3 z4 z5 z6 hb9
                go_wp2_with fail
                (try simp only [Exit.inBlock, Exit.then])
                refine bodyPost_ret (results_ct rfl _ _ W.heap.size 27 (msC 0 0 0 0 0 (.slice none 0 0) (.slice none 0 0)) (0, 0) _ rfl (set7 G9.out.re) Try.underlying27 rfl (by kernel_rfl)) rfl ?_
                exact ⟨.inr ⟨HQ.out, rfl⟩, pw_below_grown G9.out.bel (some W.heap.size) G9.out.bel.size (grown7 _ _ _ _ _ _ _ _ _) (fun k e => by cases e; exact Nat.le_refl _)⟩
            · have hend' : gEnd y.b = false := by simpa using hend
              rw [hend'] at C4
              have HQ := Lib.hid (no_msg HY.out (fun h => hend h.1))
              have G9 := HG4
              have fz0 := froz G9.out.re 0
              have fz1 := froz G9.out.re 1
              have fz2 := froz G9.out.re 2
              have fz3 := froz G9.out.re 3
              have fz4 := froz G9.out.re 4
              have fz5 := froz G9.out.re 5
              have fz6 := froz G9.out.re 6
              obtain ⟨r0, r1, r2, r3, r4, r5, r6⟩ := msC_cells G9.out.re
              clear z0 z1 z2 z3 z4 z5 z6 hend hend'
              go_wp2_with fail
              refine C4.out.mono ?_
              rintro e w' ⟨rfl, rfl⟩
              go_wp2_with fail
              (try simp only [Exit.inBlock, Exit.then])
              refine bodyPost_ret (results_ct rfl _ _ W.heap.size 27 (msC 0 0 0 0 0 (.slice none 0 0) (.slice none 0 0)) (0, 0) _ rfl (set7 G9.out.re) Try.underlying27 rfl (by kernel_rfl)) rfl ?_
              exact ⟨.inr ⟨HQ.out, rfl⟩, pw_below_grown G9.out.bel (some W.heap.size) G9.out.bel.size (grown7 _ _ _ _ _ _ _ _ _) (fun k e => by cases e; exact Nat.le_refl _)⟩
  · have q1' := heap_keep' (alloc_back (.cells (frC 0 0 0 0 0 (.slice none 0 0)) 49)) Q1.out
    have Q1' := Lib.hid q1'
    obtain ⟨r0, r1, r2, r3, r4, r5, r6⟩ := msC_cells q1'
    have fz0 := froz q1' 0
    have fz1 := froz q1' 1
    have fz2 := froz q1' 2
    have fz3 := froz q1' 3
    have fz4 := froz q1' 4
    have fz5 := froz q1' 5
    have fz6 := froz q1' 6
    have HQ := Lib.hid (no_msg' hno)
    clear hno q1'
    go_wp2_with fail
    (try simp only [Exit.inBlock, Exit.then])
    refine bodyPost_ret (results_ct rfl _ _ W.heap.size 27 (msC 0 0 0 0 0 (.slice none 0 0) (.slice none 0 0)) (0, 0) _ rfl (set7 Q1'.out) Try.underlying27 rfl (by kernel_rfl)) rfl ?_
    have b1 := B1.out.alloc B1.out.size (.cells (frC 0 0 0 0 0 (.slice none 0 0)) 49)
    exact ⟨.inr ⟨HQ.out, rfl⟩, pw_below_grown b1 (some W.heap.size) b1.size (grown7 _ _ _ _ _ _ _ _ _) (fun k e => by cases e; exact Nat.le_refl _)⟩
end Go.Proofs.Ytbjjfgfepbklnaa
