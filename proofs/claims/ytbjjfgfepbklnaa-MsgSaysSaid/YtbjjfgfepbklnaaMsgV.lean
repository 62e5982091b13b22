/- The walks of the reference's WGet and Get (printed by a program of mine, mkrget.py). -/
import Derived.Test.YtbjjfgfepbklnaaMsgU
import Derived.Test.YtbjjfgfepbklnaaMsgO
import Derived.Test.YtbjjfgfepbklnaaFrameF
import Derived.Test.YtbjjfgfepbklnaaWLast
import Derived.Deep.AppendLies
set_option linter.unusedVariables false
set_option linter.unusedSimpArgs false
namespace Go.Proofs.Ytbjjfgfepbklnaa
open Go.RowKit Go.Proofs.YtbjjfgfepbklnaaW.PrintWords Go.Proofs.YtbjjfgfepbklnaaW.PrintLast Go.Proofs.Ytbjjfgfepbklnaa.K

theorem rdecode_all (A : Option Addr) (n c : Nat) (xs : List Int) (W : World) (h : ReadsInt W .u8 A n xs) (hw : ∀ y ∈ xs, (Lit.int .u8 y).wf = true) (hm : n ≤ 1000000) (hc : n ≤ c) :
    Calls Try.prog 35 #[.slice A n c] W (Recd W xs) := by
  by_cases h1 : 19 ≤ n
  · exact rdecode_walk A n c xs W h hw h1 hm hc
  · exact rdecode_short A n c xs W h (by omega)
set_option maxHeartbeats 1000000 in
theorem rwget_walk (A : Option Addr) (n c a : Nat) (xs : List Int) (W : World) (h : ReadsInt W .u8 A n xs) (ha : a + 16 ≤ n) (hn : n ≤ 1000000) :
    Calls Try.prog 37 #[.slice A n c, .int .i64 a] W fun e w' => e = .returned (.agg #[.int .i64 (wrap64 (atU xs a 8)), .int .u64 (atU xs (a + 8) 8)]) ∧ Below W.heap.size W w' := by
  obtain ⟨w0, hw0⟩ : ∃ w0, w0 = W.alloc (.cells #[.int .i64 0, .int .u64 0] 47) := ⟨_, rfl⟩
  have hb0 : Below W.heap.size W w0 := by rw [hw0]; exact alloc_back _
  have q0 : w0.heap[W.heap.size]? = some (.cells #[.int .i64 0, .int .u64 0] 47 (0, 0)) := by rw [hw0]; exact heap_alloc_new _ _
  have C1 := Lib.hid (fun w (hb : Below w0.heap.size w0 w) => at_walk A xs n c a 8 w ((h.below hb0).below hb) (by omega) (by decide))
  have C2' : ∀ w (hb : Below w0.heap.size w0 w), Calls Try.prog 36 #[.slice A n c, .int .i64 ((a : Int) + 8), .int .i64 8] w fun e w' => e = .returned (.int .u64 (atU xs (a + 8) 8)) ∧ w = w' := fun w hb => by
    have := at_walk A xs n c (a + 8) 8 w ((h.below hb0).below hb) (by omega) (by decide)
    rw [show ((a + 8 : Nat) : Int) = (a : Int) + 8 by omega] at this
    exact this
  have C2 := Lib.hid C2'
  have HB := Lib.hid hb0; have Q0 := Lib.hid q0; have HW0 := Lib.hid hw0
  obtain ⟨u, hu⟩ : ∃ u, u = atU xs a 8 := ⟨_, rfl⟩
  obtain ⟨v, hv⟩ : ∃ v, v = atU xs (a + 8) 8 := ⟨_, rfl⟩
  rw [← hu] at C1
  rw [← hv] at C2
  rw [← hu, ← hv]
  have z0 : w0.cell? ⟨W.heap.size, 0, none⟩ = some (.int .i64 0) := by simp [World.cell?, q0]
  have z1 : w0.cell? ⟨W.heap.size, 1, none⟩ = some (.int .u64 0) := by simp [World.cell?, q0]
  have f0 := froz q0 0
  have f1 := froz q0 1
  clear h hb0 q0 hw0 hu hv C2'
  go_enter Try.func37, Try.ntmps37
  go_wp2_with fail
  rw [← HW0.out]
  refine (C1.out w0 (Below.refl _ _)).mono ?_
  rintro e w1 ⟨rfl, rfl⟩
  go_wp2_with fail
  refine (C2.out w0 (Below.refl _ _)).mono ?_
  rintro e w1 ⟨rfl, rfl⟩
  go_wp2_with fail
  (try simp only [Exit.inBlock, Exit.then])
  refine bodyPost_ret (results_cell_row rfl _ _ W.heap.size 47 #[.int .i64 (wrap64 u), .int .u64 v] (0, 0) _ rfl (by rw [heap_set _ (heap_set _ Q0.out)]; rfl) Try.underlying47 rfl (by kernel_rfl)) rfl ?_
  have gg : ∀ (u : World) (j : Nat) (v : Value), (u.setCell ⟨W.heap.size, j, none⟩ v).heap.size = u.heap.size := fun u j v => by simp [World.setCell]
  exact ⟨rfl, bset' (bset' HB.out (Nat.le_refl _) HB.out.size) (Nat.le_refl _) (by rw [gg]; exact HB.out.size)⟩
/-- What the reference's Get answers. -/
def RGot (W : World) (xs : List Int) (e : Ending) (w' : World) : Prop :=
  ((∃ x : Ms, MIs xs x ∧ ∃ A n c B m d, e = .returned (.tuple #[.agg (msC x.k x.f x.t x.v x.s (.slice A n c) (.slice B m d)), .bool true]) ∧ ReadsInt w' .i64 A n x.n ∧ WidesAt w' B m x.w) ∨
    ((¬ ∃ x : Ms, MIs xs x) ∧ e = .returned (.tuple #[.agg (msC 0 0 0 0 0 (.slice none 0 0) (.slice none 0 0)), .bool false]))) ∧ Below W.heap.size W w'
/-- The reference's Get on its way: the message that is filled. -/
structure GR (w1 : World) (q N0 : Nat) (y : Fr) (A : Option Addr) (n c : Nat) (B : Option Addr) (m d : Nat) (N : List Int) (Wl : List (Int × Int)) (w : World) : Prop where
  bel : Below w1.heap.size w1 w
  hq : w1.heap.size ≤ q
  h0 : w1.heap.size ≤ N0
  mc : w.heap[q]? = some (.cells (msC y.k y.f y.t y.v y.s (.slice A n c) (.slice B m d)) 35 (0, 0))
  on : w.ownsRow N0 2 1 (.slice A n c) n (nums .i64 N)
  ow : w.ownsRow N0 47 2 (.slice B m d) m (wides Wl)
  nb : N0 ≤ w.heap.size
section
variable {w1 w w' : World} {q N0 : Nat} {y : Fr} {A : Option Addr} {n c : Nat} {B : Option Addr} {m d : Nat} {N : List Int} {Wl : List (Int × Int)}
theorem GR.below (h : GR w1 q N0 y A n c B m d N Wl w) (hb : Below w.heap.size w w') : GR w1 q N0 y A n c B m d N Wl w' :=
  ⟨below_then h.bel h.bel.size hb, h.hq, h.h0, heap_keep' hb h.mc, pw_own_below h.on hb, pw_own_below h.ow hb, Nat.le_trans h.nb hb.size⟩
theorem GR.cells (h : GR w1 q N0 y A n c B m d N Wl w) : w.cell? ⟨q, 0, none⟩ = some (.int .i64 y.k) ∧ w.cell? ⟨q, 1, none⟩ = some (.int .i64 y.f) ∧ w.cell? ⟨q, 2, none⟩ = some (.int .i64 y.t) ∧ w.cell? ⟨q, 3, none⟩ = some (.int .u32 y.v) ∧ w.cell? ⟨q, 4, none⟩ = some (.int .u32 y.s) ∧ w.cell? ⟨q, 5, none⟩ = some (.slice A n c) ∧ w.cell? ⟨q, 6, none⟩ = some (.slice B m d) := msC_cells h.mc
theorem GR.grow (h : GR w1 q N0 y A n c B m d N Wl w) {A' B' : Option Addr} {n' c' m' d' j : Nat} {N' : List Int} {Wl' : List (Int × Int)} {V v : Value} {e : TypeId} {sz k : Nat} {M : List Value} (hV : w.ownsRow N0 e sz V k M) (he1 : e ≠ 35)
    (hg : w.grownBy w' V.ownBlock) (hn : w'.ownsRow N0 2 1 (.slice A' n' c') n' (nums .i64 N')) (hw : w'.ownsRow N0 47 2 (.slice B' m' d') m' (wides Wl'))
    (hc : (msC y.k y.f y.t y.v y.s (.slice A n c) (.slice B m d)).setIfInBounds j v = msC y.k y.f y.t y.v y.s (.slice A' n' c') (.slice B' m' d')) :
    GR w1 q N0 y A' n' c' B' m' d' N' Wl' (w'.setCell ⟨q, j, none⟩ v) := by
  have k1 := (hg.block q (lt_of_heap h.mc) (own_ne' h.mc hV he1)).trans h.mc
  have b1 := pw_below_grown h.bel V.ownBlock h.bel.size hg (fun k e => Nat.le_trans h.h0 (own_base hV k e))
  have s2 : (w'.setCell ⟨q, j, none⟩ v).heap.size = w'.heap.size := by simp [World.setCell]
  refine ⟨bset' b1 h.hq b1.size, h.hq, h.h0, ?_, own_other hn (grown_set v) (own_ne k1 hn (by decide)), own_other hw (grown_set v) (own_ne k1 hw (by decide)), by rw [s2]; exact Nat.le_trans h.nb hg.size⟩
  rw [heap_set v k1, hc]
end
set_option maxRecDepth 100000 in
set_option maxHeartbeats 8000000 in
theorem rget_walk (A : Option Addr) (n c : Nat) (xs : List Int) (W : World) (h : ReadsInt W .u8 A n xs) (hw : ∀ y ∈ xs, (Lit.int .u8 y).wf = true) (hn : n ≤ 1000000) (hc : n ≤ c) :
    Calls Try.prog 14 #[.slice A n c] W (RGot W xs) := by
  obtain ⟨w0, hw0⟩ : ∃ w0, w0 = W.alloc (.cells (msC 0 0 0 0 0 (.slice none 0 0) (.slice none 0 0)) 35) := ⟨_, rfl⟩
  have hb0 : Below W.heap.size W w0 := by rw [hw0]; exact alloc_back _
  have q0 : w0.heap[W.heap.size]? = some (.cells (msC 0 0 0 0 0 (.slice none 0 0) (.slice none 0 0)) 35 (0, 0)) := by rw [hw0]; exact heap_alloc_new _ _
  have HB := Lib.hid hb0; have Q0 := Lib.hid q0; have HW0 := Lib.hid hw0
  have CD := Lib.hid (rdecode_all A n c xs w0 (h.below hb0) hw hn hc)
  clear h hw hb0 q0 hw0
  go_enter Try.func14, Try.ntmps14
  go_wp2_with fail
  rw [← HW0.out]
  refine CD.out.mono ?_
  rintro e w1 ⟨hD, hb1⟩
  have BB1 := Lib.hid (below_then HB.out HB.out.size hb1); have Q1 := Lib.hid (heap_keep' hb1 Q0.out)
  clear hb1 CD
  rcases hD with ⟨y, hy, A', c', rfl, hrd⟩ | ⟨hno, rfl⟩
  · have HY := Lib.hid hy; have HRD := Lib.hid hrd
    have hyl : y.b.length ≤ 16384 := hy.1.2.2.2
    have hbw : ∀ z ∈ y.b, (Lit.int .u8 z).wf = true := hy.2.1.2.2
    have HBW := Lib.hid hbw
    clear hy hrd hbw
    by_cases h4 : y.b.length < 4
    · have HQ := Lib.hid (rg_no HY.out (fun g => by have := g.1; omega))
      obtain ⟨w2, hw2⟩ : ∃ w2, w2 = w1.alloc (.cells (frC y.k y.f y.t y.v y.s (.slice A' y.b.length c')) 68) := ⟨_, rfl⟩
      have hb2 : Below w1.heap.size w1 w2 := by rw [hw2]; exact alloc_back _
      obtain ⟨b0, b1, b2, b3, b4, b5⟩ := box_cells (show w2.heap[w1.heap.size]? = some (.cells (frC y.k y.f y.t y.v y.s (.slice A' y.b.length c')) 68 (0, 0)) by rw [hw2]; exact heap_alloc_new _ _)
      have RE := Lib.hid (heap_keep' hb2 Q1.out)
      have BE := Lib.hid (below_then BB1.out BB1.out.size hb2)
      obtain ⟨r0, r1, r2, r3, r4, r5, r6⟩ := msC_cells RE.out
      have fz0 := froz RE.out 0
      have fz1 := froz RE.out 1
      have fz2 := froz RE.out 2
      have fz3 := froz RE.out 3
      have fz4 := froz RE.out 4
      have fz5 := froz RE.out 5
      have fz6 := froz RE.out 6
      clear hb2
      subst hw2
      go_wp2_with fail
      (try simp only [Exit.inBlock, Exit.then])
      refine bodyPost_ret (results_ct rfl _ _ W.heap.size 35 (msC 0 0 0 0 0 (.slice none 0 0) (.slice none 0 0)) (0, 0) _ rfl (set7 RE.out) Try.underlying35 rfl (by kernel_rfl)) rfl ?_
      exact ⟨.inr ⟨HQ.out, rfl⟩, pw_below_grown BE.out (some W.heap.size) BE.out.size (grown7 _ _ _ _ _ _ _ _ _) (fun k e => by cases e; exact Nat.le_refl _)⟩
    obtain ⟨P, hP⟩ : ∃ P, P = pcn y.b := ⟨_, rfl⟩
    have a1 := at_back (b := y.b) (a := 0) (m := 2) (by decide) (by omega) HBW.out
    have hP1 : atU y.b 0 2 = (P : Int) := by rw [hP]; unfold pcn; exact (Int.toNat_of_nonneg a1.1.1).symm
    have hP2 : P < 65536 := by have := a1.1.2; rw [hP1] at this; simp at this; omega
    have C1 := Lib.hid (fun (w : World) (hb : Below w1.heap.size w1 w) => (by
      have := at_walk A' y.b y.b.length c' 0 2 w (HRD.out.below hb) (by omega) (by decide)
      rw [hP1] at this; exact this : Calls Try.prog 36 #[.slice A' y.b.length c', .int .i64 0, .int .i64 2] w fun e w' => e = .returned (.int .u64 (P : Int)) ∧ w = w'))
    have HP := Lib.hid hP
    clear a1 hP1 hP
    obtain ⟨w2, hw2⟩ : ∃ w2, w2 = (w1.alloc (.cells (frC y.k y.f y.t y.v y.s (.slice A' y.b.length c')) 68)).alloc (.cells (msC y.k y.f y.t y.v y.s (.slice none 0 0) (.slice none 0 0)) 35) := ⟨_, rfl⟩
    have hb2 : Below w1.heap.size w1 w2 := by rw [hw2]; exact alloc_back2 _ _
    have q2 : w2.heap[w1.heap.size + 1]? = some (.cells (msC y.k y.f y.t y.v y.s (.slice none 0 0) (.slice none 0 0)) 35 (0, 0)) := by rw [hw2]; exact two_new _ _ _
    have G0 := Lib.hid (show GR w1 (w1.heap.size + 1) w2.heap.size y none 0 0 none 0 0 [] [] w2 from ⟨hb2, by omega, hb2.size, q2, ⟨rfl, .inl ⟨rfl, rfl⟩⟩, ⟨rfl, .inl ⟨rfl, rfl⟩⟩, Nat.le_refl _⟩)
    obtain ⟨b0, b1, b2, b3, b4, b5⟩ := box_cells (heap_alloc_new w1 (.cells (frC y.k y.f y.t y.v y.s (.slice A' y.b.length c')) 68))
    clear hb2 q2
    have HW2 := Lib.hid hw2
    clear hw2
    go_wp2_with fail
    rw [← HW2.out]
    clear b0 b1 b2 b3 b4 b5 HW2
    obtain ⟨q, hq⟩ : ∃ q, q = w1.heap.size + 1 := ⟨_, rfl⟩
    obtain ⟨N0, hN0⟩ : ∃ N0, N0 = w2.heap.size := ⟨_, rfl⟩
    rw [← hq, ← hN0] at G0
    rw [← hq]
    clear hq hN0
    refine (C1.out w2 G0.out.bel).mono ?_
    rintro e w' ⟨rfl, rfl⟩
    by_cases h5 : 500 < P
    · have HQ := Lib.hid (rg_no HY.out (fun g => by have := g.2.1; rw [← HP.out] at this; omega))
      have RE := Lib.hid (heap_keep' G0.out.bel Q1.out)
      have BE := Lib.hid (below_then BB1.out BB1.out.size G0.out.bel)
      obtain ⟨r0, r1, r2, r3, r4, r5, r6⟩ := msC_cells RE.out
      have fz0 := froz RE.out 0
      have fz1 := froz RE.out 1
      have fz2 := froz RE.out 2
      have fz3 := froz RE.out 3
      have fz4 := froz RE.out 4
      have fz5 := froz RE.out 5
      have fz6 := froz RE.out 6
      go_wp2_with fail
      (try simp only [Exit.inBlock, Exit.then])
      refine bodyPost_ret (results_ct rfl _ _ W.heap.size 35 (msC 0 0 0 0 0 (.slice none 0 0) (.slice none 0 0)) (0, 0) _ rfl (set7 RE.out) Try.underlying35 rfl (by kernel_rfl)) rfl ?_
      exact ⟨.inr ⟨HQ.out, rfl⟩, pw_below_grown BE.out (some W.heap.size) BE.out.size (grown7 _ _ _ _ _ _ _ _ _) (fun k e => by cases e; exact Nat.le_refl _)⟩
    by_cases h6 : y.b.length < 4 + 8 * P
    · have HQ := Lib.hid (rg_no HY.out (fun g => by have := g.2.2.1; rw [← HP.out] at this; omega))
      have RE := Lib.hid (heap_keep' G0.out.bel Q1.out)
      have BE := Lib.hid (below_then BB1.out BB1.out.size G0.out.bel)
      obtain ⟨r0, r1, r2, r3, r4, r5, r6⟩ := msC_cells RE.out
      have fz0 := froz RE.out 0
      have fz1 := froz RE.out 1
      have fz2 := froz RE.out 2
      have fz3 := froz RE.out 3
      have fz4 := froz RE.out 4
      have fz5 := froz RE.out 5
      have fz6 := froz RE.out 6
      go_wp2_with fail
      (try simp only [Exit.inBlock, Exit.then])
      refine bodyPost_ret (results_ct rfl _ _ W.heap.size 35 (msC 0 0 0 0 0 (.slice none 0 0) (.slice none 0 0)) (0, 0) _ rfl (set7 RE.out) Try.underlying35 rfl (by kernel_rfl)) rfl ?_
      exact ⟨.inr ⟨HQ.out, rfl⟩, pw_below_grown BE.out (some W.heap.size) BE.out.size (grown7 _ _ _ _ _ _ _ _ _) (fun k e => by cases e; exact Nat.le_refl _)⟩
    go_wp2_with fail
    go_loopw [9] (fun i wr => ∃ (k : Nat) (A1 : Option Addr) (c1 : Nat), k ≤ P ∧ i = .int .i64 k ∧ Aside0 (GR w1 q N0 y A1 k c1 none 0 0 (pN y.b k) [] wr)) (fun i _ => P - (intOf i).toNat)
    case atStart => exact ⟨0, none, 0, Nat.zero_le _, rfl, ⟨G0.out⟩⟩
    case round =>
      obtain ⟨k, A1, c1, hk, rfl, HK⟩ := hrel
      by_cases hlt : k < P
      · have HG := Lib.hid HK.out
        obtain ⟨z0, z1, z2, z3, z4, z5, z6⟩ := HG.out.cells
        clear z0 z1 z2 z3 z4 z6
        obtain ⟨i0, z0', hi0, hz0, hz1, hz2, hz3⟩ := i64Info
        have HI := Lib.hid (And.intro hi0 (And.intro hz0 (And.intro hz1 (And.intro hz2 hz3))))
        clear hi0 hz0 hz1 hz2 hz3
        obtain ⟨u, hu⟩ : ∃ u, u = atU y.b (2 + 8 * k) 8 := ⟨_, rfl⟩
        have CA := Lib.hid (fun (w : World) (hb : Below w1.heap.size w1 w) => (by
          have := at_walk A' y.b y.b.length c' (2 + 8 * k) 8 w (HRD.out.below hb) (by omega) (by decide)
          rw [← hu, show ((2 + 8 * k : Nat) : Int) = 2 + 8 * (k : Int) by omega] at this; exact this : Calls Try.prog 36 #[.slice A' y.b.length c', .int .i64 (2 + 8 * (k : Int)), .int .i64 8] w fun e w' => e = .returned (.int .u64 u) ∧ w = w'))
        have HU := Lib.hid hu
        clear hu
        have o1 : IntKind.i64.wrap (8 * (k : Int)) = 8 * (k : Int) := by rw [IntKind.wrap_i64]; omega
        have o2 : IntKind.i64.wrap (2 + 8 * (k : Int)) = 2 + 8 * (k : Int) := by rw [IntKind.wrap_i64]; omega
        go_wp2_with fail
        refine start_ (n := 12) (S := fun w' => w'.cell? ⟨q, 5, none⟩ = some (.slice A1 k c1)) (ds := [11]) #[false, false, false, false, false, false, false, false, false, false, false, false] (by kernel_rfl) rfl rfl (z5) (fun hHeld => ?_)
        refine pure_ (i := 0) (N := some 58) (v := ?_) (a' := ?_) #[true, false, false, false, false, false, false, false, false, false, false, false] rfl rfl (by kernel_rfl) (fun _ _ _ h => h) (Or.inl ⟨by rfl, ?_⟩) ?_ ?_
        rotate_left
        · intro w'
          go_simp
          (try with_reducible rfl)
        rotate_left
        · simp only [Act.put, List.setIfInBounds_toArray, List.set_cons_zero, List.set_cons_succ]
          rfl
        refine take_ (i := 1) (N := some 59) (v := ?_) (a' := ?_) #[true, true, false, false, false, false, false, false, false, false, false, false] rfl rfl (by kernel_rfl) (fun _ _ _ h => h) (Or.inl ⟨by rfl, ?_⟩) hHeld ?_ ?_
        rotate_left
        · intro w' s0
          go_simp
          (try with_reducible rfl)
        rotate_left
        · simp only [Act.put, List.setIfInBounds_toArray, List.set_cons_zero, List.set_cons_succ]
          rfl
        refine pure_ (i := 2) (N := some 60) (v := ?_) (a' := ?_) #[true, true, true, false, false, false, false, false, false, false, false, false] rfl rfl (by kernel_rfl) (fun _ _ _ h => h) (Or.inl ⟨by rfl, ?_⟩) ?_ ?_
        rotate_left
        · intro w'
          go_simp
          (try with_reducible rfl)
        rotate_left
        · simp only [Act.put, List.setIfInBounds_toArray, List.set_cons_zero, List.set_cons_succ]
          rfl
        refine pure_ (i := 3) (N := some 61) (v := ?_) (a' := ?_) #[true, true, true, true, false, false, false, false, false, false, false, false] rfl rfl (by kernel_rfl) (fun _ _ _ h => h) (Or.inl ⟨by rfl, ?_⟩) ?_ ?_
        rotate_left
        · intro w'
          go_simp
          (try with_reducible rfl)
        rotate_left
        · simp only [Act.put, List.setIfInBounds_toArray, List.set_cons_zero, List.set_cons_succ]
          rfl
        refine pure_ (i := 4) (N := some 62) (v := ?_) (a' := ?_) #[true, true, true, true, true, false, false, false, false, false, false, false] rfl rfl (by kernel_rfl) (fun _ _ _ h => h) (Or.inl ⟨by rfl, ?_⟩) ?_ ?_
        rotate_left
        · intro w'
          go_simp
          (try with_reducible rfl)
        rotate_left
        · simp only [Act.put, List.setIfInBounds_toArray, List.set_cons_zero, List.set_cons_succ]
          rfl
        refine pure_ (i := 5) (N := some 63) (v := ?_) (a' := ?_) #[true, true, true, true, true, true, false, false, false, false, false, false] rfl rfl (by kernel_rfl) (fun _ _ _ h => h) (Or.inl ⟨by rfl, ?_⟩) ?_ ?_
        rotate_left
        · intro w'
          go_simp
          (try with_reducible rfl)
        rotate_left
        · simp only [Act.put, List.setIfInBounds_toArray, List.set_cons_zero, List.set_cons_succ]
          rfl
        refine one_ (i := 6) (N := some 64) #[true, true, true, true, true, true, true, false, false, false, false, false] rfl rfl (by kernel_rfl) (by decide) (fun K hK => ?_)
        go_simp
        refine (CA.out _ (HG.out.below (below_drew (Below.refl _ _))).bel).mono ?_
        rintro e w4 ⟨rfl, hw4⟩
        have G4 := Lib.hid (show GR w1 q N0 y A1 k c1 none 0 0 (pN y.b k) [] w4 from by rw [← hw4]; exact HG.out.below (below_drew (Below.refl _ _)))
        obtain ⟨z0, z1, z2, z3, z4, z5, z6⟩ := G4.out.cells
        clear z0 z1 z2 z3 z4 z6 hw4
        try go_wp2_with fail
        refine hK.out _ _ ?_ (fun hHeld2 => ?_)
        · (try dsimp only)
          exact z5
        clear hHeld hK K
        have hHeld := hHeld2
        clear hHeld2
        try simp only [Act.put, List.setIfInBounds_toArray, List.set_cons_zero, List.set_cons_succ]
        refine pure_ (i := 7) (N := some 65) (v := ?_) (a' := ?_) #[true, true, true, true, true, true, true, true, false, false, false, false] rfl rfl (by kernel_rfl) (fun _ _ _ h => h) (Or.inl ⟨by rfl, ?_⟩) ?_ ?_
        rotate_left
        · intro w'
          go_simp
          (try with_reducible rfl)
        rotate_left
        · simp only [Act.put, List.setIfInBounds_toArray, List.set_cons_zero, List.set_cons_succ]
          rfl
        refine one_ (i := 8) (N := some 66) #[true, true, true, true, true, true, true, true, true, false, false, false] rfl rfl (by kernel_rfl) (by decide) (fun K hK => ?_)
        go_simp
        refine hK.out _ _ ?_ (fun hHeld2 => ?_)
        · (try dsimp only)
          exact pw_cell_below (alloc_back _) z5
        clear hHeld hK K
        have hHeld := hHeld2
        clear hHeld2
        try simp only [Act.put, List.setIfInBounds_toArray, List.set_cons_zero, List.set_cons_succ]
        refine one_ (i := 9) (N := some 67) #[true, true, true, true, true, true, true, true, true, true, false, false] rfl rfl (by kernel_rfl) (by decide) (fun K hK => ?_)
        refine step_append_lies _ (by rfl) _ _ _ (by rfl) N0 2 i0 z0' 1 8 Try.underlying24 HI.out.1 HI.out.2.1 HI.out.2.2.1 HI.out.2.2.2.1 HI.out.2.2.2.2 (by decide) (.slice A1 k c1) k (nums .i64 (pN y.b k)) (by rfl) (pw_own_below G4.out.on (alloc_back _)) ⟨w4.heap.size, 0, none⟩ 1 1 [.int .i64 (IntKind.i64.wrap u)] (by rfl) rfl (World.news_of_block (heap_alloc_new w4 _)) (by simp [Value.oneCell']) (by decide) (by unfold maxLen; omega) (by omega) (by have := G4.out.nb; simp; omega) (w4.heap.size + 1) (by simp) ?_
        intro g cap w5 hown hgrow hat hlt5
        have HO5 := Lib.hid hown
        have HG5 := Lib.hid hgrow
        have G4' := Lib.hid (G4.out.below (alloc_back (.cells #[.int .i64 (IntKind.i64.wrap u)] 2)))
        have zz5 : w5.cell? ⟨q, 5, none⟩ = some (.slice A1 k c1) := by rw [World.cell?_of_block (hgrow.block q (lt_of_heap G4'.out.mc) (own_ne' G4'.out.mc G4'.out.on (by decide)))]; exact G4'.out.cells.2.2.2.2.2.1
        have fz5 : w5.frozen? ⟨q, 5, none⟩ = false := by rw [World.frozen?_of_block (hgrow.block q (lt_of_heap G4'.out.mc) (own_ne' G4'.out.mc G4'.out.on (by decide)))]; exact froz G4'.out.mc 5
        clear hown hgrow hat hlt5
        refine hK.out _ _ ?_ (fun hHeld2 => ?_)
        · (try dsimp only)
          exact zz5
        clear hHeld hK K
        have hHeld := hHeld2
        clear hHeld2
        try simp only [Act.put, List.setIfInBounds_toArray, List.set_cons_zero, List.set_cons_succ]
        refine pure_ (i := 10) (N := some 68) (v := ?_) (a' := ?_) #[true, true, true, true, true, true, true, true, true, true, true, false] rfl rfl (by kernel_rfl) (fun _ _ _ h => h) (Or.inl ⟨by rfl, ?_⟩) ?_ ?_
        rotate_left
        · intro w'
          go_simp
          (try with_reducible rfl)
        rotate_left
        · simp only [Act.put, List.setIfInBounds_toArray, List.set_cons_zero, List.set_cons_succ]
          rfl
        refine last_ (i := 11) (N := none) #[true, true, true, true, true, true, true, true, true, true, true, true] rfl rfl (by kernel_rfl) (by decide) (fun K hK => ?_)
        go_simp
        refine hK.out _ _ ?_
        clear hHeld hK K
        try simp only [Act.put, List.setIfInBounds_toArray, List.set_cons_zero, List.set_cons_succ]
        refine wpAnyLast_done (by kernel_rfl) ?_ _
        go_wp2_with fail
        go_roundw
        case rel =>
          have hnew := G4'.out.grow (j := 5) G4'.out.on (by decide) HG5.out (show w5.ownsRow N0 2 1 (.slice (some ⟨g, 0, none⟩) (k + 1) cap) (k + 1) (nums .i64 (pN y.b (k + 1))) by rw [pN_succ, ← HU.out, ← i64w]; simpa [nums] using HO5.out) (own_other G4'.out.ow HG5.out (own_type_ne G4'.out.ow G4'.out.on (by decide))) rfl
          exact ⟨k + 1, some ⟨g, 0, none⟩, cap, by omega, by go_num, ⟨hnew⟩⟩
        case measure => simp [intOf]; omega
      · obtain rfl : k = P := by omega
        obtain ⟨Q, hQ⟩ : ∃ Q, Q = pcw y.b := ⟨_, rfl⟩
        have a2 := at_back (b := y.b) (a := 2 + 8 * k) (m := 2) (by decide) (by omega) HBW.out
        have hQ1 : atU y.b (2 + 8 * k) 2 = (Q : Int) := by rw [hQ]; unfold pcw; rw [← HP.out]; exact (Int.toNat_of_nonneg a2.1.1).symm
        have hQ2 : Q < 65536 := by have := a2.1.2; rw [hQ1] at this; simp at this; omega
        obtain ⟨p, hp⟩ : ∃ p : Nat, p = 2 + 8 * k := ⟨_, rfl⟩
        have o3 : IntKind.i64.wrap (2 + 8 * (k : Int)) = (p : Int) := by rw [IntKind.wrap_i64]; omega
        have o4 : wrap64 (2 + 8 * (k : Int)) = (p : Int) := by unfold wrap64; omega
        have C2 := Lib.hid (fun (w : World) (hb : Below w1.heap.size w1 w) => (by
          have := at_walk A' y.b y.b.length c' p 2 w (HRD.out.below hb) (by omega) (by decide)
          rw [hp, hQ1, ← hp] at this; exact this : Calls Try.prog 36 #[.slice A' y.b.length c', .int .i64 (p : Int), .int .i64 2] w fun e w' => e = .returned (.int .u64 (Q : Int)) ∧ w = w'))
        have HQC := Lib.hid hQ
        have HG := Lib.hid HK.out
        clear a2 hQ1 hQ
        go_wp2_with fail
        (try rw [show 2 + 8 * (k : Int) = (p : Int) by omega])
        refine (C2.out wr HG.out.bel).mono ?_
        rintro e w' ⟨rfl, rfl⟩
        clear o3 o4
        by_cases h7 : 500 < Q
        · have HQ := Lib.hid (rg_no HY.out (fun g => by have := g.2.2.2.1; rw [← HQC.out] at this; omega))
          have RE := Lib.hid (heap_keep' HG.out.bel Q1.out)
          have BE := Lib.hid (below_then BB1.out BB1.out.size HG.out.bel)
          obtain ⟨r0, r1, r2, r3, r4, r5, r6⟩ := msC_cells RE.out
          have fz0 := froz RE.out 0
          have fz1 := froz RE.out 1
          have fz2 := froz RE.out 2
          have fz3 := froz RE.out 3
          have fz4 := froz RE.out 4
          have fz5 := froz RE.out 5
          have fz6 := froz RE.out 6
          go_wp2_with fail
          (try simp only [Exit.inBlock, Exit.then])
          refine bodyPost_ret (results_ct rfl _ _ W.heap.size 35 (msC 0 0 0 0 0 (.slice none 0 0) (.slice none 0 0)) (0, 0) _ rfl (set7 RE.out) Try.underlying35 rfl (by kernel_rfl)) rfl ?_
          exact ⟨.inr ⟨HQ.out, rfl⟩, pw_below_grown BE.out (some W.heap.size) BE.out.size (grown7 _ _ _ _ _ _ _ _ _) (fun k e => by cases e; exact Nat.le_refl _)⟩
        by_cases h8 : y.b.length = p + 2 + 16 * Q
        case neg =>
          have h8' : ¬ ((y.b.length : Int) = 2 + 8 * (k : Int) + 2 + 16 * (Q : Int)) := by omega
          have h8b : ((y.b.length : Int) != 2 + 8 * (k : Int) + 2 + 16 * (Q : Int)) = true := bne_iff_ne.2 h8'
          have HQ := Lib.hid (rg_no HY.out (fun g => by have := g.2.2.2.2; rw [← HQC.out, ← HP.out] at this; omega))
          have RE := Lib.hid (heap_keep' HG.out.bel Q1.out)
          have BE := Lib.hid (below_then BB1.out BB1.out.size HG.out.bel)
          obtain ⟨r0, r1, r2, r3, r4, r5, r6⟩ := msC_cells RE.out
          have fz0 := froz RE.out 0
          have fz1 := froz RE.out 1
          have fz2 := froz RE.out 2
          have fz3 := froz RE.out 3
          have fz4 := froz RE.out 4
          have fz5 := froz RE.out 5
          have fz6 := froz RE.out 6
          go_wp2_with fail
          (try simp only [Exit.inBlock, Exit.then])
          refine bodyPost_ret (results_ct rfl _ _ W.heap.size 35 (msC 0 0 0 0 0 (.slice none 0 0) (.slice none 0 0)) (0, 0) _ rfl (set7 RE.out) Try.underlying35 rfl (by kernel_rfl)) rfl ?_
          exact ⟨.inr ⟨HQ.out, rfl⟩, pw_below_grown BE.out (some W.heap.size) BE.out.size (grown7 _ _ _ _ _ _ _ _ _) (fun k e => by cases e; exact Nat.le_refl _)⟩
        have h8' : (y.b.length : Int) = 2 + 8 * (k : Int) + 2 + 16 * (Q : Int) := by omega
        have HM := Lib.hid (rg_yes HY.out ⟨by omega, by rw [← HP.out]; omega, by rw [← HP.out]; omega, by rw [← HQC.out]; omega, by rw [← HQC.out, ← HP.out]; omega⟩)
        obtain ⟨a0, ha0⟩ : ∃ a0 : Nat, a0 = p + 2 := ⟨_, rfl⟩
        go_wp2_with fail
        clear h8'
        go_loopw [12] (fun i wr => ∃ (j : Nat) (B1 : Option Addr) (d1 : Nat), j ≤ Q ∧ i = .int .i64 j ∧ Aside0 (GR w1 q N0 y A1 k c1 B1 j d1 (pN y.b k) (pW y.b a0 j) wr)) (fun i _ => Q - (intOf i).toNat)
        case atStart => exact ⟨0, none, 0, Nat.zero_le _, rfl, ⟨HG.out⟩⟩
        case round =>
          obtain ⟨j, B1, d1, hj, rfl, HJ⟩ := hrel
          by_cases hlj : j < Q
          · have HG := Lib.hid HJ.out
            obtain ⟨z0, z1, z2, z3, z4, z5, z6⟩ := HG.out.cells
            clear z0 z1 z2 z3 z4 z5
            obtain ⟨i0, hi0, hz0, hz1, hz2⟩ := infoW
            have HI := Lib.hid (And.intro hi0 (And.intro hz0 (And.intro hz1 hz2)))
            clear hi0 hz0 hz1 hz2
            obtain ⟨u, hu⟩ : ∃ u, u = atU y.b (a0 + 16 * j) 8 := ⟨_, rfl⟩
            obtain ⟨v, hv⟩ : ∃ v, v = atU y.b (a0 + 16 * j + 8) 8 := ⟨_, rfl⟩
            have CW := Lib.hid (fun (w : World) (hb : Below w1.heap.size w1 w) => (by
              have hr := HRD.out.below hb
              rw [show y.b.length = 2 + 8 * k + 2 + 16 * Q by omega] at hr
              have := rwget_walk A' (2 + 8 * k + 2 + 16 * Q) c' (a0 + 16 * j) y.b w hr (by omega) (by omega)
              rw [← hu, ← hv, show ((a0 + 16 * j : Nat) : Int) = 2 + 8 * (k : Int) + 2 + 16 * (j : Int) by omega] at this; exact this : Calls Try.prog 37 #[.slice A' (2 + 8 * k + 2 + 16 * Q) c', .int .i64 (2 + 8 * (k : Int) + 2 + 16 * (j : Int))] w fun e w' => e = .returned (.agg #[.int .i64 (wrap64 u), .int .u64 v]) ∧ Below w.heap.size w w'))
            have HU := Lib.hid (And.intro hu hv)
            clear hu hv
            have o1 : IntKind.i64.wrap (2 + 8 * (k : Int) + 2) = 2 + 8 * (k : Int) + 2 := by rw [IntKind.wrap_i64]; omega
            have o2 : IntKind.i64.wrap (16 * (j : Int)) = 16 * (j : Int) := by rw [IntKind.wrap_i64]; omega
            have o3 : IntKind.i64.wrap (2 + 8 * (k : Int) + 2 + 16 * (j : Int)) = 2 + 8 * (k : Int) + 2 + 16 * (j : Int) := by rw [IntKind.wrap_i64]; omega
            go_wp2_with fail
            refine start_ (n := 13) (S := fun w' => w'.cell? ⟨q, 6, none⟩ = some (.slice B1 j d1)) (ds := [12]) #[false, false, false, false, false, false, false, false, false, false, false, false, false] (by kernel_rfl) rfl rfl (z6) (fun hHeld => ?_)
            refine pure_ (i := 0) (N := some 94) (v := ?_) (a' := ?_) #[true, false, false, false, false, false, false, false, false, false, false, false, false] rfl rfl (by kernel_rfl) (fun _ _ _ h => h) (Or.inl ⟨by rfl, ?_⟩) ?_ ?_
            rotate_left
            · intro w'
              go_simp
              (try with_reducible rfl)
            rotate_left
            · simp only [Act.put, List.setIfInBounds_toArray, List.set_cons_zero, List.set_cons_succ]
              rfl
            refine take_ (i := 1) (N := some 95) (v := ?_) (a' := ?_) #[true, true, false, false, false, false, false, false, false, false, false, false, false] rfl rfl (by kernel_rfl) (fun _ _ _ h => h) (Or.inl ⟨by rfl, ?_⟩) hHeld ?_ ?_
            rotate_left
            · intro w' s0
              go_simp
              (try with_reducible rfl)
            rotate_left
            · simp only [Act.put, List.setIfInBounds_toArray, List.set_cons_zero, List.set_cons_succ]
              rfl
            refine pure_ (i := 2) (N := some 96) (v := ?_) (a' := ?_) #[true, true, true, false, false, false, false, false, false, false, false, false, false] rfl rfl (by kernel_rfl) (fun _ _ _ h => h) (Or.inl ⟨by rfl, ?_⟩) ?_ ?_
            rotate_left
            · intro w'
              go_simp
              (try with_reducible rfl)
            rotate_left
            · simp only [Act.put, List.setIfInBounds_toArray, List.set_cons_zero, List.set_cons_succ]
              rfl
            refine pure_ (i := 3) (N := some 97) (v := ?_) (a' := ?_) #[true, true, true, true, false, false, false, false, false, false, false, false, false] rfl rfl (by kernel_rfl) (fun _ _ _ h => h) (Or.inl ⟨by rfl, ?_⟩) ?_ ?_
            rotate_left
            · intro w'
              go_simp
              (try with_reducible rfl)
            rotate_left
            · simp only [Act.put, List.setIfInBounds_toArray, List.set_cons_zero, List.set_cons_succ]
              rfl
            refine pure_ (i := 4) (N := some 98) (v := ?_) (a' := ?_) #[true, true, true, true, true, false, false, false, false, false, false, false, false] rfl rfl (by kernel_rfl) (fun _ _ _ h => h) (Or.inl ⟨by rfl, ?_⟩) ?_ ?_
            rotate_left
            · intro w'
              go_simp
              (try with_reducible rfl)
            rotate_left
            · simp only [Act.put, List.setIfInBounds_toArray, List.set_cons_zero, List.set_cons_succ]
              rfl
            refine pure_ (i := 5) (N := some 99) (v := ?_) (a' := ?_) #[true, true, true, true, true, true, false, false, false, false, false, false, false] rfl rfl (by kernel_rfl) (fun _ _ _ h => h) (Or.inl ⟨by rfl, ?_⟩) ?_ ?_
            rotate_left
            · intro w'
              go_simp
              (try with_reducible rfl)
            rotate_left
            · simp only [Act.put, List.setIfInBounds_toArray, List.set_cons_zero, List.set_cons_succ]
              rfl
            refine pure_ (i := 6) (N := some 100) (v := ?_) (a' := ?_) #[true, true, true, true, true, true, true, false, false, false, false, false, false] rfl rfl (by kernel_rfl) (fun _ _ _ h => h) (Or.inl ⟨by rfl, ?_⟩) ?_ ?_
            rotate_left
            · intro w'
              go_simp
              (try with_reducible rfl)
            rotate_left
            · simp only [Act.put, List.setIfInBounds_toArray, List.set_cons_zero, List.set_cons_succ]
              rfl
            refine pure_ (i := 7) (N := some 101) (v := ?_) (a' := ?_) #[true, true, true, true, true, true, true, true, false, false, false, false, false] rfl rfl (by kernel_rfl) (fun _ _ _ h => h) (Or.inl ⟨by rfl, ?_⟩) ?_ ?_
            rotate_left
            · intro w'
              go_simp
              (try with_reducible rfl)
            rotate_left
            · simp only [Act.put, List.setIfInBounds_toArray, List.set_cons_zero, List.set_cons_succ]
              rfl
            refine one_ (i := 8) (N := some 102) #[true, true, true, true, true, true, true, true, true, false, false, false, false] rfl rfl (by kernel_rfl) (by decide) (fun K hK => ?_)
            go_simp
            refine (CW.out _ (HG.out.below (below_drew (Below.refl _ _))).bel).mono ?_
            rintro e w4 ⟨rfl, hb4⟩
            have G4 := Lib.hid ((HG.out.below (below_drew (Below.refl _ _))).below hb4)
            obtain ⟨z0, z1, z2, z3, z4, z5, z6⟩ := G4.out.cells
            clear z0 z1 z2 z3 z4 z5 hb4
            try go_wp2_with fail
            refine hK.out _ _ ?_ (fun hHeld2 => ?_)
            · (try dsimp only)
              exact z6
            clear hHeld hK K
            have hHeld := hHeld2
            clear hHeld2
            try simp only [Act.put, List.setIfInBounds_toArray, List.set_cons_zero, List.set_cons_succ]
            refine one_ (i := 9) (N := some 103) #[true, true, true, true, true, true, true, true, true, true, false, false, false] rfl rfl (by kernel_rfl) (by decide) (fun K hK => ?_)
            go_simp
            refine hK.out _ _ ?_ (fun hHeld2 => ?_)
            · (try dsimp only)
              exact pw_cell_below (alloc_back _) z6
            clear hHeld hK K
            have hHeld := hHeld2
            clear hHeld2
            try simp only [Act.put, List.setIfInBounds_toArray, List.set_cons_zero, List.set_cons_succ]
            refine one_ (i := 10) (N := some 104) #[true, true, true, true, true, true, true, true, true, true, true, false, false] rfl rfl (by kernel_rfl) (by decide) (fun K hK => ?_)
            refine step_append_lies _ (by rfl) _ _ _ (by rfl) N0 47 i0 _ 2 16 Try.underlying25 HI.out.1 HI.out.2.1 HI.out.2.2.1 HI.out.2.2.2 rfl (by decide) (.slice B1 j d1) j (wides (pW y.b a0 j)) (by rfl) (pw_own_below G4.out.ow (alloc_back _)) ⟨w4.heap.size, 0, none⟩ 1 1 [.int .i64 (wrap64 u), .int .u64 v] (by rfl) rfl (World.news_of_block (heap_alloc_new w4 _)) (by simp [Value.oneCell']) (by decide) (by unfold maxLen; omega) (by omega) (by have := G4.out.nb; simp; omega) (w4.heap.size + 1) (by simp) ?_
            intro g cap w5 hown hgrow hat hlt5
            have HO5 := Lib.hid hown
            have HG5 := Lib.hid hgrow
            have G4' := Lib.hid (G4.out.below (alloc_back (.cells #[.int .i64 (wrap64 u), .int .u64 v] 47)))
            have zz6 : w5.cell? ⟨q, 6, none⟩ = some (.slice B1 j d1) := by rw [World.cell?_of_block (hgrow.block q (lt_of_heap G4'.out.mc) (own_ne' G4'.out.mc G4'.out.ow (by decide)))]; exact G4'.out.cells.2.2.2.2.2.2
            have fz6 : w5.frozen? ⟨q, 6, none⟩ = false := by rw [World.frozen?_of_block (hgrow.block q (lt_of_heap G4'.out.mc) (own_ne' G4'.out.mc G4'.out.ow (by decide)))]; exact froz G4'.out.mc 6
            clear hown hgrow hat hlt5
            refine hK.out _ _ ?_ (fun hHeld2 => ?_)
            · (try dsimp only)
              exact zz6
            clear hHeld hK K
            have hHeld := hHeld2
            clear hHeld2
            try simp only [Act.put, List.setIfInBounds_toArray, List.set_cons_zero, List.set_cons_succ]
            refine pure_ (i := 11) (N := some 105) (v := ?_) (a' := ?_) #[true, true, true, true, true, true, true, true, true, true, true, true, false] rfl rfl (by kernel_rfl) (fun _ _ _ h => h) (Or.inl ⟨by rfl, ?_⟩) ?_ ?_
            rotate_left
            · intro w'
              go_simp
              (try with_reducible rfl)
            rotate_left
            · simp only [Act.put, List.setIfInBounds_toArray, List.set_cons_zero, List.set_cons_succ]
              rfl
            refine last_ (i := 12) (N := none) #[true, true, true, true, true, true, true, true, true, true, true, true, true] rfl rfl (by kernel_rfl) (by decide) (fun K hK => ?_)
            go_simp
            refine hK.out _ _ ?_
            clear hHeld hK K
            try simp only [Act.put, List.setIfInBounds_toArray, List.set_cons_zero, List.set_cons_succ]
            refine wpAnyLast_done (by kernel_rfl) ?_ _
            go_wp2_with fail
            go_roundw
            case rel =>
              have hnew := G4'.out.grow (j := 6) G4'.out.ow (by decide) HG5.out (own_other G4'.out.on HG5.out (own_type_ne G4'.out.on G4'.out.ow (by decide))) (show w5.ownsRow N0 47 2 (.slice (some ⟨g, 0, none⟩) (j + 1) cap) (j + 1) (wides (pW y.b a0 (j + 1))) by rw [pW_succ, ← HU.out.1, ← HU.out.2, wides_append]; simpa [wides] using HO5.out) rfl
              exact ⟨j + 1, some ⟨g, 0, none⟩, cap, by omega, by go_num, ⟨hnew⟩⟩
            case measure => simp [intOf]; omega
          · obtain rfl : j = Q := by omega
            have HG := Lib.hid HJ.out
            obtain ⟨v0, v1, v2, v3, v4, v5, v6⟩ := HG.out.cells
            have RE := Lib.hid (heap_keep' HG.out.bel Q1.out)
            have BE := Lib.hid (below_then BB1.out BB1.out.size HG.out.bel)
            obtain ⟨r0, r1, r2, r3, r4, r5, r6⟩ := msC_cells RE.out
            have fz0 := froz RE.out 0
            have fz1 := froz RE.out 1
            have fz2 := froz RE.out 2
            have fz3 := froz RE.out 3
            have fz4 := froz RE.out 4
            have fz5 := froz RE.out 5
            have fz6 := froz RE.out 6
            go_wp2_with fail
            (try simp only [Exit.inBlock, Exit.then])
            refine bodyPost_ret (results_ct rfl _ _ W.heap.size 35 (msC y.k y.f y.t y.v y.s (.slice A1 k c1) (.slice B1 j d1)) (0, 0) _ rfl (set7 RE.out) Try.underlying35 rfl (by kernel_rfl)) rfl ?_
            have en : (pM y).n = pN y.b k := by show pN _ _ = _; rw [← HP.out]
            have ew : (pM y).w = pW y.b a0 j := by show pW _ _ _ = _; rw [← HP.out, ← HQC.out, ha0, hp]
            refine ⟨.inl ⟨pM y, HM.out, A1, k, c1, B1, j, d1, rfl, ?_, ?_⟩, pw_below_grown BE.out (some W.heap.size) BE.out.size (grown7 _ _ _ _ _ _ _ _ _) (fun k e => by cases e; exact Nat.le_refl _)⟩
            · rw [en]; exact (own_info (own_other HG.out.on (grown7 _ _ _ _ _ _ _ _ _) (own_ne RE.out HG.out.on (by decide)))).2.2.2.1
            · rw [ew]; exact (wides_own (own_other HG.out.ow (grown7 _ _ _ _ _ _ _ _ _) (own_ne RE.out HG.out.ow (by decide))) (by omega)).2.2
  · obtain ⟨w2, hw2⟩ : ∃ w2, w2 = w1.alloc (.cells (frC 0 0 0 0 0 (.slice none 0 0)) 68) := ⟨_, rfl⟩
    have hb2 : Below w1.heap.size w1 w2 := by rw [hw2]; exact alloc_back _
    obtain ⟨b0, b1, b2, b3, b4, b5⟩ := box_cells (show w2.heap[w1.heap.size]? = some (.cells (frC 0 0 0 0 0 (.slice none 0 0)) 68 (0, 0)) by rw [hw2]; exact heap_alloc_new _ _)
    have RE := Lib.hid (heap_keep' hb2 Q1.out)
    have BE := Lib.hid (below_then BB1.out BB1.out.size hb2)
    obtain ⟨r0, r1, r2, r3, r4, r5, r6⟩ := msC_cells RE.out
    have fz0 := froz RE.out 0
    have fz1 := froz RE.out 1
    have fz2 := froz RE.out 2
    have fz3 := froz RE.out 3
    have fz4 := froz RE.out 4
    have fz5 := froz RE.out 5
    have fz6 := froz RE.out 6
    have HQ := Lib.hid (no_msg' hno)
    clear hno hb2
    subst hw2
    go_wp2_with fail
    (try simp only [Exit.inBlock, Exit.then])
    refine bodyPost_ret (results_ct rfl _ _ W.heap.size 35 (msC 0 0 0 0 0 (.slice none 0 0) (.slice none 0 0)) (0, 0) _ rfl (set7 RE.out) Try.underlying35 rfl (by kernel_rfl)) rfl ?_
    exact ⟨.inr ⟨HQ.out, rfl⟩, pw_below_grown BE.out (some W.heap.size) BE.out.size (grown7 _ _ _ _ _ _ _ _ _) (fun k e => by cases e; exact Nat.le_refl _)⟩
end Go.Proofs.Ytbjjfgfepbklnaa
