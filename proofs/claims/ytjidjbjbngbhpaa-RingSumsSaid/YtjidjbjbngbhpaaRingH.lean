/- Ring: Out. -/
import Derived.Test.YtjidjbjbngbhpaaRingG
import Derived.Deep.RegionHeld3
import Derived.StillTailTactics
import Derived.Deep.DeepCutAuto
set_option linter.unusedVariables false
set_option linter.unusedSimpArgs false
namespace Go.Proofs.Ytjidjbjbngbhpaa
open Go.RowKit Go.Proofs.YtjidjbjbngbhpaaW.PrintWords Go.Proofs.Ytjidjbjbngbhpaa.K

theorem rbox3 {w : World} {r : Nat} {f t : Int} {B : Value} {ty : TypeId} (h : w.heap[r]? = some (.cells #[.int .i64 f, .int .i64 t, B] ty (0, 0))) :
    w.cell? ⟨r, 0, none⟩ = some (.int .i64 f) ∧ w.cell? ⟨r, 1, none⟩ = some (.int .i64 t) ∧ w.cell? ⟨r, 2, none⟩ = some B := by
  simp [World.cell?, h]
theorem rset3 {w : World} {r : Nat} {f t f' t' : Int} {B B' : Value} {ty : TypeId} (h : w.heap[r]? = some (.cells #[.int .i64 f, .int .i64 t, B] ty (0, 0))) :
    (((w.setCell ⟨r, 0, none⟩ (.int .i64 f')).setCell ⟨r, 1, none⟩ (.int .i64 t')).setCell ⟨r, 2, none⟩ B').heap[r]? = some (.cells #[.int .i64 f', .int .i64 t', B'] ty (0, 0)) := by
  rw [heap_set _ (heap_set _ (heap_set _ h))]; rfl
theorem rset3_below {w0 w : World} {r : Nat} {a b c : Value} (h : Below w0.heap.size w0 w) (hr : w0.heap.size ≤ r) : Below w0.heap.size w0 (((w.setCell ⟨r, 0, none⟩ a).setCell ⟨r, 1, none⟩ b).setCell ⟨r, 2, none⟩ c) := ((h.setCell hr a).setCell hr b).setCell hr c
theorem out_told (w : World) (id : RgId) (place : Int) (n k : Nat) (l : List (Int × Int)) (round : Int) (taken : Bool) (h : RgS w id place n k l round true taken) :
    Calls Try.prog 9 #[.pointer (some ⟨id.r, 0, none⟩)] w fun e w' => e = .returned (.tuple #[.agg #[.int .i64 0, .int .i64 0, .slice none 0 0], .bool false]) ∧ Below w.heap.size w w' := by
  obtain ⟨w1, hw1⟩ : ∃ w1, w1 = w.alloc (.cells #[.int .i64 0, .int .i64 0, .slice none 0 0] 37) := ⟨_, rfl⟩
  have hb1 : Below w.heap.size w w1 := by rw [hw1]; exact (Below.refl _ _).alloc (Nat.le_refl _) _
  have q0 : w1.heap[w.heap.size]? = some (.cells #[.int .i64 0, .int .i64 0, .slice none 0 0] 37 (0, 0)) := by rw [hw1]; exact heap_alloc_new _ _
  have H1 := h.below hb1
  have c5 : (w.alloc (.cells #[.int .i64 0, .int .i64 0, .slice none 0 0] 37)).cell? ⟨id.r, 5, none⟩ = some (.bool true) := by rw [← hw1]; exact (rgC_cells H1.obj).2.2.2.2.2.1
  have B1 := Lib.hid hb1; have Q0 := Lib.hid q0
  clear h H1 hb1 q0
  go_enter Try.func9, Try.ntmps9
  go_wp2_with fail
  rw [← hw1]
  (try simp only [Exit.inBlock, Exit.then])
  refine bodyPost_ret (results_ct rfl _ _ w.heap.size 37 #[.int .i64 0, .int .i64 0, .slice none 0 0] (0, 0) _ rfl Q0.out Try.underlying37 rfl (by kernel_rfl)) rfl ?_
  exact ⟨rfl, B1.out⟩
theorem out_done (w : World) (id : RgId) (place : Int) (n k : Nat) (l : List (Int × Int)) (round : Int) (taken : Bool) (h : RgS w id place n k l round false taken) (hd : 2 * (n : Int) - 3 < round) :
    Calls Try.prog 9 #[.pointer (some ⟨id.r, 0, none⟩)] w fun e w' => e = .returned (.tuple #[.agg #[.int .i64 0, .int .i64 0, .slice none 0 0], .bool false]) ∧ Below w.heap.size w w' := by
  obtain ⟨a1, a2, a3, a4, a5, a6, a7, a8⟩ := h.ok
  obtain ⟨w1, hw1⟩ : ∃ w1, w1 = w.alloc (.cells #[.int .i64 0, .int .i64 0, .slice none 0 0] 37) := ⟨_, rfl⟩
  have hb1 : Below w.heap.size w w1 := by rw [hw1]; exact (Below.refl _ _).alloc (Nat.le_refl _) _
  have q0 : w1.heap[w.heap.size]? = some (.cells #[.int .i64 0, .int .i64 0, .slice none 0 0] 37 (0, 0)) := by rw [hw1]; exact heap_alloc_new _ _
  have H1 := h.below hb1
  have c5 : (w.alloc (.cells #[.int .i64 0, .int .i64 0, .slice none 0 0] 37)).cell? ⟨id.r, 5, none⟩ = some (.bool false) := by rw [← hw1]; exact (rgC_cells H1.obj).2.2.2.2.2.1
  have HD := Lib.hid (done_walk w1 id.r place n _ _ round false taken H1.obj ⟨by omega, by omega⟩)
  rw [decide_eq_true hd] at HD
  have B1 := Lib.hid hb1; have Q0 := Lib.hid q0
  clear h H1 hb1 q0 hd a8
  go_enter Try.func9, Try.ntmps9
  go_wp2_with fail
  rw [← hw1]
  clear hw1 c5
  refine HD.out.mono ?_
  rintro e w2 ⟨rfl, hb2⟩
  have B2 := Lib.hid hb2
  have q2 := rheap_keep hb2 Q0.out
  have f0 := frozr q2 0; have f1 := frozr q2 1; have f2 := frozr q2 2
  obtain ⟨z0, z1, z2⟩ := rbox3 q2
  have Q2 := Lib.hid q2
  clear hb2 q2
  go_wp2_with fail
  (try simp only [Exit.inBlock, Exit.then])
  refine bodyPost_ret (results_ct rfl _ _ w.heap.size 37 #[.int .i64 0, .int .i64 0, .slice none 0 0] (0, 0) _ rfl (rset3 Q2.out) Try.underlying37 rfl (by kernel_rfl)) rfl ?_
  exact ⟨rfl, rset3_below (below_then B1.out B1.out.size B2.out) (Nat.le_refl _)⟩
theorem rheap_set_far {w : World} {X r : Nat} {cs cs' : Array Value} {t t' : TypeId} (h : w.heap[X]? = some (.cells cs t (0, 0))) (hr : w.heap[r]? = some (.cells cs' t' (0, 0))) (hne : t ≠ t') (j : Nat) (v : Value) : (w.setCell ⟨r, j, none⟩ v).heap[X]? = some (.cells cs t (0, 0)) :=
  blk_far h (p := ⟨r, j, none⟩) (blk_ne h hr hne) v
theorem RgS.told {w : World} {id : RgId} {place : Int} {n k : Nat} {l : List (Int × Int)} {round : Int} {told taken : Bool} (h : RgS w id place n k l round told taken) : RgS (w.setCell ⟨id.r, 5, none⟩ (.bool true)) id place n k l round true taken :=
  ⟨by rw [heap_set _ h.obj]; rfl, own_setCell h.row (own_ne h.row h.obj (by decide)) _, own_setCell h.chs (own_ne h.chs h.obj (by decide)) _, h.lo, h.ok⟩
theorem RgS.taken {w : World} {id : RgId} {place : Int} {n k : Nat} {l : List (Int × Int)} {round : Int} {told taken : Bool} (h : RgS w id place n k l round told taken) : RgS (w.setCell ⟨id.r, 6, none⟩ (.bool true)) id place n k l round told true :=
  ⟨by rw [heap_set _ h.obj]; rfl, own_setCell h.row (own_ne h.row h.obj (by decide)) _, own_setCell h.chs (own_ne h.chs h.obj (by decide)) _, h.lo, h.ok⟩
theorem RgS.far {w : World} {id : RgId} {place : Int} {n k : Nat} {l : List (Int × Int)} {round : Int} {told taken : Bool} (h : RgS w id place n k l round told taken) {X : Nat} {cs : Array Value} {t : TypeId} (hX : w.heap[X]? = some (.cells cs t (0, 0))) (h1 : 54 ≠ t) (h2 : 33 ≠ t) (h3 : 63 ≠ t) (j : Nat) (v : Value) : RgS (w.setCell ⟨X, j, none⟩ v) id place n k l round told taken :=
  ⟨rheap_set_far h.obj hX h1 j v, own_setCell h.row (own_ne h.row hX h2) _, own_setCell h.chs (own_ne h.chs hX h3) _, h.lo, h.ok⟩
theorem RgF.then {w w1 w2 : World} {id : RgId} (h : RgF w w1 id) (hb : Below w.heap.size w1 w2) : RgF w w2 id :=
  ⟨hb.os.trans h.os, hb.tape.trans h.tape, hb.output.trans h.output, Nat.le_trans h.size hb.size, fun k hk h1 h2 => (hb.block k hk).trans (h.block k hk h1 h2)⟩
def OutOk (w : World) (id : RgId) (place : Int) (n k : Nat) (l : List (Int × Int)) (round : Int) (taken : Bool) (c m : Nat) (M : List (Int × Int)) (e : Ending) (w' : World) : Prop :=
  ∃ A1 c1, e = .returned (.tuple #[.agg #[.int .i64 round, .int .i64 (c : Int), .slice A1 m c1], .bool true]) ∧ w'.ownsRow w.heap.size 33 2 (.slice A1 m c1) m (wides M) ∧
    RgS w' id place n k l (nxR round true taken) (nxT true taken) (nxG true taken) ∧ RgF w w' id
def PartAt (w2 wx : World) (X : Nat) (round : Int) (c m : Nat) (A1 : Option Addr) (c1 : Nat) (M : List (Int × Int)) : Prop :=
  wx.heap[X]? = some (.cells #[.int .i64 round, .int .i64 (c : Int), .slice A1 m c1] 37 (0, 0)) ∧ wx.ownsRow w2.heap.size 33 2 (.slice A1 m c1) m (wides M) ∧ Below w2.heap.size w2 wx
theorem partA {w2 w4 : World} {round : Int} {c m : Nat} {A1 : Option Addr} {c1 : Nat} {M : List (Int × Int)} (ho : w4.ownsRow w2.heap.size 33 2 (.slice A1 m c1) m (wides M)) (hb : Below w2.heap.size w2 w4) :
    PartAt w2 (w4.alloc (.cells #[.int .i64 round, .int .i64 (c : Int), .slice A1 m c1] 37)) w4.heap.size round c m A1 c1 M :=
  ⟨heap_alloc_new _ _, ho.alloc _, hb.alloc hb.size _⟩
theorem partB {w2 w4 : World} {X : Nat} {f t : Int} {B : Value} {round : Int} {c m : Nat} {A1 : Option Addr} {c1 : Nat} {M : List (Int × Int)} (hx : w4.heap[X]? = some (.cells #[.int .i64 f, .int .i64 t, B] 37 (0, 0))) (ho : w4.ownsRow w2.heap.size 33 2 (.slice A1 m c1) m (wides M)) (hb : Below w2.heap.size w2 w4) (hX : w2.heap.size ≤ X) :
    PartAt w2 (((w4.setCell ⟨X, 0, none⟩ (.int .i64 round)).setCell ⟨X, 1, none⟩ (.int .i64 (c : Int))).setCell ⟨X, 2, none⟩ (.slice A1 m c1)) X round c m A1 c1 M :=
  have hne := own_ne ho hx (by decide)
  ⟨rset3 hx, own_setCell (own_setCell (own_setCell ho hne _) hne _) hne _, rset3_below hb hX⟩
theorem PartAt.drew {w2 wx : World} {X : Nat} {round : Int} {c m : Nat} {A1 : Option Addr} {c1 : Nat} {M : List (Int × Int)} (h : PartAt w2 wx X round c m A1 c1 M) : PartAt w2 wx.drew X round c m A1 c1 M := ⟨h.1, h.2.1, below_drew h.2.2⟩
def cloned (w2 W : World) (m : Nat) (M : List (Int × Int)) (e : Ending) (w' : World) : Prop :=
  ∃ A1 c1, e = .returned (.slice A1 m c1) ∧ w'.ownsRow w2.heap.size 33 2 (.slice A1 m c1) m (wides M) ∧ Below W.heap.size W w' ∧ Below w2.heap.size w2 w'
theorem clone_part (w2 : World) (A' : Option Addr) (m c' : Nat) (M : List (Int × Int)) (h : WidesAt w2 A' m M) (hm : m ≤ 1000000) (hA : A' = none → m = 0 ∧ c' = 0) (W : World) (hb : Below w2.heap.size w2 W) :
    Calls Try.prog 17 #[.slice A' m c'] W (cloned w2 W m M) := by
  refine (wclone_walk A' m c' M W (h.below hb) hm hA).mono ?_
  rintro e w' ⟨A1, c1, h1, h2, h3⟩
  exact ⟨A1, c1, h1, own_base_le h2 hb.size, h3, below_then hb hb.size h3⟩
set_option maxRecDepth 100000 in
set_option maxHeartbeats 4000000 in
theorem out_ok (w : World) (id : RgId) (place : Int) (n k : Nat) (l : List (Int × Int)) (round : Int) (taken : Bool) (h : RgS w id place n k l round false taken) (hd : ¬ 2 * (n : Int) - 3 < round) (c : Nat) (hc : cs place n round = c) :
    Calls Try.prog 9 #[.pointer (some ⟨id.r, 0, none⟩)] w (OutOk w id place n k l round taken c (cstart k n (c + 1) - cstart k n c) (cutL l (cstart k n c) (cstart k n (c + 1)))) := by
  obtain ⟨a1, a2, a3, a4, a5, a6, a7, a8⟩ := h.ok
  have hcn : c < n := by have := (cs_rng (p := place) (n := (n : Int)) (r := round) (by omega)).2; omega
  obtain ⟨lo, hlo⟩ : ∃ lo, lo = cstart k n c := ⟨_, rfl⟩
  obtain ⟨hi, hhi⟩ : ∃ hi, hi = cstart k n (c + 1) := ⟨_, rfl⟩
  have hlh : lo ≤ hi := by rw [hlo, hhi]; exact cstart_mono k n c
  have hhk : hi ≤ k := by rw [hhi]; exact cstart_le k n (c + 1) (by omega)
  have hpr := chunk_at k n n c hcn
  rw [← hlo, ← hhi] at hpr ⊢
  clear hlo hhi
  obtain ⟨w1, hw1⟩ : ∃ w1, w1 = w.alloc (.cells #[.int .i64 0, .int .i64 0, .slice none 0 0] 37) := ⟨_, rfl⟩
  have hb1 : Below w.heap.size w w1 := by rw [hw1]; exact (Below.refl _ _).alloc (Nat.le_refl _) _
  have q0 : w1.heap[w.heap.size]? = some (.cells #[.int .i64 0, .int .i64 0, .slice none 0 0] 37 (0, 0)) := by rw [hw1]; exact heap_alloc_new _ _
  have H1 := h.below hb1
  have c5 : (w.alloc (.cells #[.int .i64 0, .int .i64 0, .slice none 0 0] 37)).cell? ⟨id.r, 5, none⟩ = some (.bool false) := by rw [← hw1]; exact (rgC_cells H1.obj).2.2.2.2.2.1
  have HD := Lib.hid (done_walk w1 id.r place n _ _ round false taken H1.obj ⟨by omega, by omega⟩)
  rw [decide_eq_false hd] at HD
  have HS := Lib.hid (fun w => sends_any place n round w ⟨by omega, by omega, a3, a4, a6, by omega⟩)
  rw [hc] at HS
  have B1 := Lib.hid hb1; have Q0 := Lib.hid q0; have R1 := Lib.hid H1; have A8 := Lib.hid a8; have R0 := Lib.hid h; have HP := Lib.hid hpr
  clear h H1 hb1 q0 a8 hc hpr
  go_enter Try.func9, Try.ntmps9
  go_wp2_with fail
  rw [← hw1]
  clear hw1 c5
  refine HD.out.mono ?_
  rintro e w2 ⟨rfl, hb2⟩
  have B2 := Lib.hid hb2
  have q2 := rheap_keep hb2 Q0.out
  have R2 := Lib.hid (R1.out.below hb2)
  have Q2 := Lib.hid q2
  obtain ⟨c0, c1, c2, c3, c4, c5, c6⟩ := rgC_cells R2.out.obj
  clear hb2 q2
  go_wp2_with fail
  go_quiet ((go_at_call 21; exact Calls.quiet_of_same ((HS.out _).mono fun _ _ he => ⟨he.1, he.2.symm⟩)))
  go_wp2_with fail
  have hws : w2.heap.size = w2.heap.size := rfl
  obtain ⟨hcn1, hpc⟩ := pairs_own R2.out.chs (by omega)
  obtain ⟨g, hg, p0, p1⟩ := hpc.2.2 c hcn
  rw [HP.out] at p0 p1
  simp only [] at p0 p1
  obtain ⟨hk1, hkc, hwa⟩ := wides_own R2.out.row (by omega)
  have hA : (if id.c = lo then id.A else id.A.map (·.add (lo * 2))) = none → hi - lo = 0 ∧ id.c - lo = 0 := by
    intro he
    have hAn : id.A = none := by
      split at he
      · exact he
      · simpa using he
    rcases R2.out.row.2 with ⟨h1, h2⟩ | ⟨g', cap, cur, h1, _⟩
    · injection h1 with h3 h4 h5; omega
    · injection h1 with h3; rw [hAn] at h3; cases h3
  have HC0 := clone_part w2 _ (hi - lo) (id.c - lo) _ (wides_cut hwa id.c lo hi hlh hhk hkc) (by omega) hA
  have hsl := run_cutw id.A k id.c lo hi hlh (by omega)
  obtain ⟨A', hA'⟩ : ∃ A', A' = (if id.c = lo then id.A else id.A.map (·.add (lo * 2))) := ⟨_, rfl⟩
  rw [← hA'] at HC0 hsl
  have HC := Lib.hid HC0
  clear HC0 hA'
  rw [hg] at c3
  have hN0 : (0 : Int) ≤ (c : Int) := by omega
  have hN1 : (c : Int) < (n : Int) := by omega
  have RC := Lib.hid (And.intro c0 (And.intro c1 c5))
  have HG := Lib.hid hg
  clear hws hpc hwa hcn1 hk1 hg c0 c1 c5 c6
  go_cut [7] (fun s7 wx => ∃ X A1 c1, s7 = .pointer (some ⟨X, 0, none⟩) ∧ Aside0 (PartAt w2 wx X round c (hi - lo) A1 c1 (cutL l lo hi)))
  case first =>
    go_region_held3 (fun w' => w'.cell? ⟨id.r, 2, none⟩ = some (.slice id.A k id.c) ∧ w'.cell? ⟨id.r, 3, none⟩ = some (.slice (some ⟨g, 0, none⟩) n id.d) ∧ w'.cell? ⟨id.r, 4, none⟩ = some (.int .i64 round) ∧ w'.cell? ⟨g, c * 2, none⟩ = some (.int .i64 (lo : Int)) ∧ w'.cell? ⟨g, c * 2 + 1, none⟩ = some (.int .i64 (hi : Int)))
      (first | with_reducible exact ⟨pw_cell_below hq c2, pw_cell_below hq c3, pw_cell_below hq c4, pw_cell_below hq p0, pw_cell_below hq p1⟩ | (with_reducible exact ⟨pw_cell_below (by repeat (first | with_reducible exact hq | with_reducible exact Below.refl _ _ | with_reducible apply pw_below_drewN | with_reducible apply below_drew | with_reducible refine Below.alloc ?_ ?_ _ | with_reducible refine rset3_below ?_ ?_ | exact hq.size | omega | (simp; done) | (simp; omega))) c2, pw_cell_below (by repeat (first | with_reducible exact hq | with_reducible exact Below.refl _ _ | with_reducible apply pw_below_drewN | with_reducible apply below_drew | with_reducible refine Below.alloc ?_ ?_ _ | with_reducible refine rset3_below ?_ ?_ | exact hq.size | omega | (simp; done) | (simp; omega))) c3, pw_cell_below (by repeat (first | with_reducible exact hq | with_reducible exact Below.refl _ _ | with_reducible apply pw_below_drewN | with_reducible apply below_drew | with_reducible refine Below.alloc ?_ ?_ _ | with_reducible refine rset3_below ?_ ?_ | exact hq.size | omega | (simp; done) | (simp; omega))) c4, pw_cell_below (by repeat (first | with_reducible exact hq | with_reducible exact Below.refl _ _ | with_reducible apply pw_below_drewN | with_reducible apply below_drew | with_reducible refine Below.alloc ?_ ?_ _ | with_reducible refine rset3_below ?_ ?_ | exact hq.size | omega | (simp; done) | (simp; omega))) p0, pw_cell_below (by repeat (first | with_reducible exact hq | with_reducible exact Below.refl _ _ | with_reducible apply pw_below_drewN | with_reducible apply below_drew | with_reducible refine Below.alloc ?_ ?_ _ | with_reducible refine rset3_below ?_ ?_ | exact hq.size | omega | (simp; done) | (simp; omega))) p1⟩) | exact ⟨c2, c3, c4, p0, p1⟩ | go_keep)
      (first
        | (go_at_call 17; (with_reducible refine (HC.out _ (by repeat (first | with_reducible exact Below.refl _ _ | with_reducible apply pw_below_drewN | with_reducible apply below_drew | with_reducible refine Below.alloc ?_ ?_ _ | omega | (simp; done) | (simp; omega)))).mono ?_); rintro e w4 ⟨A1, c1', rfl, ho4, hb4, hq⟩; have HO4 := Lib.hid ho4; have HB4 := Lib.hid hb4; have HQ := Lib.hid hq; clear ho4 hb4; have hx : w4.heap[w2.heap.size]? = some (.cells #[.int .i64 0, .int .i64 0, .slice none 0 0] 37 (0, 0)) := rheap_keep HB4.out (heap_alloc_new (w2.drewN _) _); obtain ⟨z0, z1, z2⟩ := rbox3 hx; have y0 := frozr hx 0; have y1 := frozr hx 1; have y2 := frozr hx 2; have HX := Lib.hid hx; clear hx)
        | (go_at_call 17; (with_reducible refine (HC.out _ (by repeat (first | with_reducible exact Below.refl _ _ | with_reducible apply pw_below_drewN | with_reducible apply below_drew | with_reducible refine Below.alloc ?_ ?_ _ | omega | (simp; done) | (simp; omega)))).mono ?_); rintro e w4 ⟨A1, c1', rfl, ho4, hb4, hq⟩; have HO4 := Lib.hid ho4; have HB4 := Lib.hid hb4; have HQ := Lib.hid hq; clear ho4 hb4))
    all_goals (go_wp2_with fail)
    all_goals go_meet
    · exact ⟨_, A1, c1', rfl, ⟨partA HO4.out HQ.out⟩⟩
    · exact ⟨_, A1, c1', rfl, ⟨partB HX.out HO4.out HQ.out (Nat.le_refl _)⟩⟩
  case rest =>
    obtain ⟨X, A1, c1', rfl, HK⟩ := hcut
    have R4 := RgS.told (R2.out.below HK.out.2.2)
    have fz5 : wc.frozen? ⟨id.r, 5, none⟩ = false := frozr (R2.out.below HK.out.2.2).obj 5
    have cz5 : wc.cell? ⟨id.r, 5, none⟩ = some (.bool false) := (rgC_cells (R2.out.below HK.out.2.2).obj).2.2.2.2.2.1
    have hX4 := rheap_set_far HK.out.1 (R2.out.below HK.out.2.2).obj (by decide) 5 (.bool true)
    have hQ4 := rheap_set_far (rheap_keep HK.out.2.2 Q2.out) (R2.out.below HK.out.2.2).obj (by decide) 5 (.bool true)
    have ho4 := own_setCell HK.out.2.1 (own_ne HK.out.2.1 (R2.out.below HK.out.2.2).obj (by decide)) (.bool true) (p := ⟨id.r, 5, none⟩)
    have hF4 : RgF w (wc.setCell ⟨id.r, 5, none⟩ (.bool true)) id := ((RgF.below (below_then (below_then B1.out B1.out.size B2.out) (Nat.le_trans B1.out.size B2.out.size) HK.out.2.2)).trans (RgF.grown (grown_set _)))
    have HR4 := Lib.hid R4; have HX4 := Lib.hid hX4; have HQ4 := Lib.hid hQ4; have HO4 := Lib.hid ho4; have HF4 := Lib.hid hF4
    clear R4 hX4 hQ4 ho4 hF4 c2 c3 c4 p0 p1 hsl hA hkc hN0 hN1
    obtain ⟨w5, hw5⟩ : ∃ w5, w5 = wc.setCell ⟨id.r, 5, none⟩ (.bool true) := ⟨_, rfl⟩
    go_wp2_with fail
    rw [← hw5] at HR4 HX4 HQ4 HO4 HF4 ⊢
    clear hw5 fz5 cz5
    refine (next_any w5 id place n k l round true taken HR4.out (by omega)).mono ?_
    rintro e w6 ⟨rfl, hR6, hg6⟩
    have hX6 := (hg6.block _ (lt_of_heap HX4.out) (fun e => blk_ne HX4.out HR4.out.obj (by decide) (by injection e))).trans HX4.out
    have hQ6 := (hg6.block _ (lt_of_heap HQ4.out) (fun e => blk_ne HQ4.out HR4.out.obj (by decide) (by injection e))).trans HQ4.out
    have ho6 := own_other HO4.out hg6 (.inr (fun e => own_ne HO4.out HR4.out.obj (by decide) e.symm))
    have HF6 := Lib.hid (HF4.out.trans (RgF.grown hg6))
    obtain ⟨x0, x1, x2⟩ := rbox3 hX6
    obtain ⟨q0, q1, q2⟩ := rbox3 hQ6
    have y0 := frozr hQ6 0; have y1 := frozr hQ6 1; have y2 := frozr hQ6 2
    have HR6 := Lib.hid hR6; have HQ6 := Lib.hid hQ6; have HO6 := Lib.hid ho6
    clear hR6 hX6 hQ6 ho6 hg6
    go_wp2_with fail
    (try simp only [Exit.inBlock, Exit.then])
    refine bodyPost_ret (results_ct rfl _ _ w.heap.size 37 #[.int .i64 round, .int .i64 (c : Int), .slice A1 (hi - lo) c1'] (0, 0) _ rfl (rset3 HQ6.out) Try.underlying37 rfl (by kernel_rfl)) rfl ?_
    have hne := own_ne HO6.out HQ6.out (by decide)
    refine ⟨A1, c1', rfl, own_base_le (own_setCell (own_setCell (own_setCell HO6.out hne _) hne _) hne _) (Nat.le_trans B1.out.size B2.out.size), ?_, ?_⟩
    · exact ((HR6.out.far HQ6.out (by decide) (by decide) (by decide) 0 _).far (heap_set _ HQ6.out) (by decide) (by decide) (by decide) 1 _).far (heap_set _ (heap_set _ HQ6.out)) (by decide) (by decide) (by decide) 2 _
    · exact HF6.out.then (((Below.refl w.heap.size w6).setCell (Nat.le_refl _) _).setCell (Nat.le_refl _) _ |>.setCell (Nat.le_refl _) _)
end Go.Proofs.Ytjidjbjbngbhpaa
