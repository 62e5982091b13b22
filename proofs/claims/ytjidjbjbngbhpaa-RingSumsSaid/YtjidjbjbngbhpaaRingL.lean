/- Ring: Get, what is taken. -/
import Derived.Test.YtjidjbjbngbhpaaRingK
import Derived.Deep.RegionHeld3
import Derived.StillTailTactics
set_option linter.unusedVariables false
set_option linter.unusedSimpArgs false
namespace Go.Proofs.Ytjidjbjbngbhpaa
open Go.RowKit Go.Proofs.YtjidjbjbngbhpaaW.PrintWords Go.Proofs.Ytjidjbjbngbhpaa.K

def GotP (w : World) (id : RgId) (place : Int) (n k : Nat) (l : List (Int × Int)) (round : Int) (told : Bool) (lo : Nat) (add : Bool) (M : List (Int × Int)) (e : Ending) (w' : World) : Prop :=
  e = .returned (.int .i64 0) ∧ RgS w' id place n k (gotL l lo add M M.length) (nxR round told true) (nxT told true) (nxG told true) ∧ RgF w w' id
theorem rfar2 {u : World} {N M i j o : Nat} {v x y : Value} (hc : u.cell? ⟨M, o, none⟩ = some v) (h : M ≠ N) : ((u.setCell ⟨N, i, none⟩ x).setCell ⟨N, j, none⟩ y).cell? ⟨M, o, none⟩ = some v := by
  rw [cell_far (by exact h), cell_far (by exact h)]; exact hc
theorem gotL_step {l : List (Int × Int)} {lo : Nat} {add : Bool} {M : List (Int × Int)} {j q : Nat} {xv yv : Int × Int} (hq : q = lo + j) (hx : xv = M.getD j (0, 0)) (hy : yv = (gotL l lo add M j).getD q (0, 0)) : (gotL l lo add M j).set q (gotV add yv xv) = gotL l lo add M (j + 1) := by
  subst hq hx hy
  rw [gotL_later l lo add M (lo + j) j (Nat.le_refl _), gotL]
theorem wadd_sum (a b : Int × Int) (ha : WwfP a) (hb : WwfP b) (W : World) : Calls Try.prog 23 #[.agg #[.int .i64 a.1, .int .u64 a.2], .agg #[.int .i64 b.1, .int .u64 b.2]] W fun e w' => e = .returned (.agg #[.int .i64 (wsum a b).1, .int .u64 (wsum a b).2]) ∧ Below W.heap.size W w' :=
  wadd_walk a.1 a.2 b.1 b.2 ((wwf_iff a).1 ha).2 ((wwf_iff b).1 hb).2 W
/-- What a round leaves. -/
theorem got_fin {w wy : World} {id : RgId} {place : Int} {n k : Nat} {l : List (Int × Int)} {round : Int} {told : Bool} {lo : Nat} {add : Bool} {M : List (Int × Int)} {j q m g2 : Nat} {PA : Option Addr} {v : Int × Int} (hR : RgS wy id place n k (gotL l lo add M j) round told false) (hP : WidesAt wy PA m M) (hF : RgF w wy id) (hA : id.A = some ⟨g2, 0, none⟩) (hq : q < k) (hv : WwfP v)
    (hap : ∀ ad, PA = some ad → ad.block ≠ id.r ∧ ∀ ad', id.A = some ad' → ad.block ≠ ad'.block) (he : (gotL l lo add M j).set q v = gotL l lo add M (j + 1)) :
    RgS ((wy.setCell ⟨g2, q * 2, none⟩ (.int .i64 v.1)).setCell ⟨g2, q * 2 + 1, none⟩ (.int .u64 v.2)) id place n k (gotL l lo add M (j + 1)) round told false ∧ WidesAt ((wy.setCell ⟨g2, q * 2, none⟩ (.int .i64 v.1)).setCell ⟨g2, q * 2 + 1, none⟩ (.int .u64 v.2)) PA m M ∧ RgF w ((wy.setCell ⟨g2, q * 2, none⟩ (.int .i64 v.1)).setCell ⟨g2, q * 2 + 1, none⟩ (.int .u64 v.2)) id := by
  rw [← he]
  exact ⟨hR.put hA hq hv, wides_frame hP (RgF.put hA _ _) hap, hF.trans (RgF.put hA _ _)⟩
theorem cell_put2a {u : World} {N : Nat} {a b : Value} {x y : Int} {ty : TypeId} (h : u.heap[N]? = some (.cells #[a, b] ty (0, 0))) : ((u.setCell ⟨N, 0, none⟩ (.int .i64 x)).setCell ⟨N, 1, none⟩ (.int .u64 y)).cell? ⟨N, 0, none⟩ = some (.int .i64 x) := (cells_2 (a := .int .i64 x) (b := .int .u64 y) (by rw [heap_set _ (heap_set _ h)]; rfl)).1
theorem cell_put2b {u : World} {N : Nat} {a b : Value} {x y : Int} {ty : TypeId} (h : u.heap[N]? = some (.cells #[a, b] ty (0, 0))) : ((u.setCell ⟨N, 0, none⟩ (.int .i64 x)).setCell ⟨N, 1, none⟩ (.int .u64 y)).cell? ⟨N, 1, none⟩ = some (.int .u64 y) := (cells_2 (a := .int .i64 x) (b := .int .u64 y) (by rw [heap_set _ (heap_set _ h)]; rfl)).2.1
def SumAt (wr : World) (v : Int × Int) (wy : World) : Prop := Below wr.heap.size wr wy ∧ wy.heap[wr.heap.size]? = some (.cells #[.int .i64 v.1, .int .u64 v.2] 33 (0, 0))
theorem SumAt.drew {wr wy : World} {v : Int × Int} (h : SumAt wr v wy) : SumAt wr v wy.drew := ⟨below_drew h.1, h.2⟩
theorem SumAt.mk' {wr wx w5 : World} {v : Int × Int} {a b : Value} (hx : Below wr.heap.size wr wx) (h : Below wx.heap.size wx w5) (hX : wx.heap[wr.heap.size]? = some (.cells #[a, b] 33 (0, 0))) : SumAt wr v ((w5.setCell ⟨wr.heap.size, 0, none⟩ (.int .i64 v.1)).setCell ⟨wr.heap.size, 1, none⟩ (.int .u64 v.2)) :=
  ⟨((below_then hx hx.size h).setCell (Nat.le_refl _) _).setCell (Nat.le_refl _) _, by rw [heap_set _ (heap_set _ (rheap_keep h hX))]; rfl⟩
theorem got_drew {w u : World} {id : RgId} {place : Int} {n k m : Nat} {l : List (Int × Int)} {round : Int} {told taken : Bool} {M : List (Int × Int)} {PA : Option Addr} (h : RgS u id place n k l round told taken ∧ WidesAt u PA m M ∧ RgF w u id) : RgS u.drew id place n k l round told taken ∧ WidesAt u.drew PA m M ∧ RgF w u.drew id :=
  ⟨h.1.below (below_drew (Below.refl _ _)), h.2.1.below (below_drew (Below.refl _ _)), h.2.2.trans (RgF.below (below_drew (Below.refl _ _)))⟩
set_option maxRecDepth 100000 in
set_option maxHeartbeats 8000000 in
theorem get_ok (w : World) (id : RgId) (place : Int) (n k : Nat) (l : List (Int × Int)) (round : Int) (told : Bool) (h : RgS w id place n k l round told false) (pc : Int) (PA : Option Addr) (m pcap : Nat) (hd : ¬ 2 * (n : Int) - 3 < round) (c : Nat) (hc : cs ((place + n - 1) % n) n round = c) (hm : m ≤ 100000)
    (M : List (Int × Int)) (hM : WidesAt w PA m M) (hMw : ∀ p ∈ M, WwfP p) (hap : ∀ ad, PA = some ad → ad.block ≠ id.r ∧ ∀ ad', id.A = some ad' → ad.block ≠ ad'.block)
    (hpc : pc = c ∧ m = cstart k n (c + 1) - cstart k n c) (add : Bool) (hadd : decide (round < (n : Int) - 1) = add) :
    Calls Try.prog 10 #[.pointer (some ⟨id.r, 0, none⟩), ptV round pc PA m pcap] w (GotP w id place n k l round told (cstart k n c) add M) := by
  obtain ⟨a1, a2, a3, a4, a5, a6, a7, a8⟩ := h.ok
  have hcn : c < n := by have := (cs_rng (p := (place + n - 1) % n) (n := (n : Int)) (r := round) (by omega)).2; omega
  obtain ⟨lo, hlo⟩ : ∃ lo, lo = cstart k n c := ⟨_, rfl⟩
  obtain ⟨hi, hhi⟩ : ∃ hi, hi = cstart k n (c + 1) := ⟨_, rfl⟩
  have hlh : lo ≤ hi := by rw [hlo, hhi]; exact cstart_mono k n c
  have hhk : hi ≤ k := by rw [hhi]; exact cstart_le k n (c + 1) (by omega)
  have hpr := chunk_at k n n c hcn
  rw [← hlo, ← hhi] at hpr
  rw [← hlo, ← hhi] at hpc
  rw [← hlo]
  clear hlo hhi
  obtain ⟨w1, hw1⟩ : ∃ w1, w1 = w.alloc (.cells #[.int .i64 round, .int .i64 pc, .slice PA m pcap] 37) := ⟨_, rfl⟩
  have hb1 : Below w.heap.size w w1 := by rw [hw1]; exact (Below.refl _ _).alloc (Nat.le_refl _) _
  have H1 := h.below hb1
  have HD0 := fun x => done_q (w1.drewN x) id.r place n _ _ round told false H1.obj ⟨by omega, by omega⟩
  rw [decide_eq_false hd] at HD0
  obtain ⟨c0, c1, c2, c3, c4, c5, c6⟩ := rgC_cells H1.obj
  obtain ⟨hcn1, hpa⟩ := pairs_own H1.chs (by omega)
  obtain ⟨g, hg, p0, p1⟩ := hpa.2.2 c hcn
  rw [hpr] at p0 p1
  simp only [] at p0 p1
  rw [hg] at c3
  have q0 : w1.heap[w.heap.size]? = some (.cells #[.int .i64 round, .int .i64 pc, .slice PA m pcap] 37 (0, 0)) := by rw [hw1]; exact heap_alloc_new _ _
  obtain ⟨b0, b1, b2⟩ := rbox3 q0
  rw [hw1] at HD0 c0 c1 c3 c4 c6 p0 p1 b0 b1 b2
  have HD := Lib.hid HD0
  obtain ⟨pv, hpv⟩ : ∃ pv, pv = (place + n - 1) % n := ⟨_, rfl⟩
  have hpv0 : 0 ≤ pv := by rw [hpv]; exact Int.emod_nonneg _ (by omega)
  have hpv1 : pv < n := by rw [hpv]; exact Int.emod_lt_of_pos _ (by omega)
  rw [← hpv] at hc
  have hw1' : IntKind.i64.wrap (place + n) = place + n := by rw [IntKind.wrap_i64]; omega
  have hw2 : IntKind.i64.wrap (place + n - 1) = place + n - 1 := by rw [IntKind.wrap_i64]; omega
  have ht : (place + (n : Int) - 1).tmod n = pv := by rw [Int.tmod_eq_emod_of_nonneg (by omega)]; exact hpv.symm
  have hw3 : IntKind.i64.wrap pv = pv := by rw [IntKind.wrap_i64]; omega
  have HS0 := fun w => sends_any pv n round w ⟨by omega, by omega, hpv0, hpv1, a6, by omega⟩
  rw [hc, hadd] at HS0
  have HM := Lib.hid hM; have HMw := Lib.hid hMw; have HAP := Lib.hid hap; have HADD := Lib.hid hadd
  have HS := Lib.hid HS0; have HP := Lib.hid hpc; have HH := Lib.hid h
  have hN0 : (0 : Int) ≤ (c : Int) := by omega
  have hN1 : (c : Int) < (n : Int) := by omega
  have hN2 : ¬ (n = 0) := by omega
  have hd2 : round + 1 ≤ 2 * (n : Int) - 2 := by omega
  have hN3 : ((n : Int) == 0) = false := beq_eq_false_iff_ne.2 (by omega)
  clear hM hMw hap hadd
  clear h H1 hb1 a8 hd HD0 c2 c5 hw1 q0 w1 hcn1 hpa hg HS0 hc hpr hpv hpc
  go_enter Try.func10, Try.ntmps10
  go_wp2_with fail
  go_quiet ((go_at_call 13; exact Calls.quiet_of (HD.out _)))
  go_wp2_with fail
  obtain ⟨x1, hx1⟩ : ∃ x1, x1 = (w.alloc (.cells #[.int .i64 round, .int .i64 pc, .slice PA m pcap] 37)).drewN nq := ⟨_, rfl⟩
  rw [← hx1]
  have c0' : x1.cell? ⟨id.r, 0, none⟩ = some (.int .i64 place) := by rw [hx1]; exact c0
  have c1' : x1.cell? ⟨id.r, 1, none⟩ = some (.int .i64 (n : Int)) := by rw [hx1]; exact c1
  have c3' : x1.cell? ⟨id.r, 3, none⟩ = some (.slice (some ⟨g, 0, none⟩) n id.d) := by rw [hx1]; exact c3
  have c4' : x1.cell? ⟨id.r, 4, none⟩ = some (.int .i64 round) := by rw [hx1]; exact c4
  have c6' : x1.cell? ⟨id.r, 6, none⟩ = some (.bool false) := by rw [hx1]; exact c6
  have p0' : x1.cell? ⟨g, c * 2, none⟩ = some (.int .i64 (lo : Int)) := by rw [hx1]; exact p0
  have p1' : x1.cell? ⟨g, c * 2 + 1, none⟩ = some (.int .i64 (hi : Int)) := by rw [hx1]; exact p1
  have b1' : x1.cell? ⟨w.heap.size, 1, none⟩ = some (.int .i64 pc) := by rw [hx1]; exact b1
  have b2' : x1.cell? ⟨w.heap.size, 2, none⟩ = some (.slice PA m pcap) := by rw [hx1]; exact b2
  have b0' : x1.cell? ⟨w.heap.size, 0, none⟩ = some (.int .i64 round) := by rw [hx1]; exact b0
  clear c0 c1 c3 c4 c6 p0 p1 b1 b2 b0
  have c0 := c0'
  have c1 := c1'
  have c3 := c3'
  have c4 := c4'
  have c6 := c6'
  have p0 := p0'
  have p1 := p1'
  have b1 := b1'
  have b2 := b2'
  have b0 := b0'
  clear c0' c1' c3' c4' c6' p0' p1' b1' b2' b0'
  have BB1 : Below w.heap.size w x1 := by rw [hx1]; exact pw_below_drewN ((Below.refl _ _).alloc (Nat.le_refl _) _) _
  clear hx1 nq
  go_quiet (fail)
  go_wp2_with fail
  obtain ⟨x2, hx2⟩ : ∃ x2, x2 = x1.drewN nq := ⟨_, rfl⟩
  rw [← hx2]
  have c0' : x2.cell? ⟨id.r, 0, none⟩ = some (.int .i64 place) := by rw [hx2]; exact c0
  have c1' : x2.cell? ⟨id.r, 1, none⟩ = some (.int .i64 (n : Int)) := by rw [hx2]; exact c1
  have c3' : x2.cell? ⟨id.r, 3, none⟩ = some (.slice (some ⟨g, 0, none⟩) n id.d) := by rw [hx2]; exact c3
  have c4' : x2.cell? ⟨id.r, 4, none⟩ = some (.int .i64 round) := by rw [hx2]; exact c4
  have c6' : x2.cell? ⟨id.r, 6, none⟩ = some (.bool false) := by rw [hx2]; exact c6
  have p0' : x2.cell? ⟨g, c * 2, none⟩ = some (.int .i64 (lo : Int)) := by rw [hx2]; exact p0
  have p1' : x2.cell? ⟨g, c * 2 + 1, none⟩ = some (.int .i64 (hi : Int)) := by rw [hx2]; exact p1
  have b1' : x2.cell? ⟨w.heap.size, 1, none⟩ = some (.int .i64 pc) := by rw [hx2]; exact b1
  have b2' : x2.cell? ⟨w.heap.size, 2, none⟩ = some (.slice PA m pcap) := by rw [hx2]; exact b2
  have b0' : x2.cell? ⟨w.heap.size, 0, none⟩ = some (.int .i64 round) := by rw [hx2]; exact b0
  clear c0 c1 c3 c4 c6 p0 p1 b1 b2 b0
  have c0 := c0'
  have c1 := c1'
  have c3 := c3'
  have c4 := c4'
  have c6 := c6'
  have p0 := p0'
  have p1 := p1'
  have b1 := b1'
  have b2 := b2'
  have b0 := b0'
  clear c0' c1' c3' c4' c6' p0' p1' b1' b2' b0'
  have BB2 : Below w.heap.size w x2 := by rw [hx2]; exact pw_below_drewN BB1 _
  clear hx2 nq
  go_quiet ((go_at_call 21; exact Calls.quiet_of_same ((HS.out _).mono fun _ _ he => ⟨he.1, he.2.symm⟩)))
  go_wp2_with fail
  obtain ⟨x3, hx3⟩ : ∃ x3, x3 = x2.drewN nq := ⟨_, rfl⟩
  rw [← hx3]
  have c0' : x3.cell? ⟨id.r, 0, none⟩ = some (.int .i64 place) := by rw [hx3]; exact c0
  have c1' : x3.cell? ⟨id.r, 1, none⟩ = some (.int .i64 (n : Int)) := by rw [hx3]; exact c1
  have c3' : x3.cell? ⟨id.r, 3, none⟩ = some (.slice (some ⟨g, 0, none⟩) n id.d) := by rw [hx3]; exact c3
  have c4' : x3.cell? ⟨id.r, 4, none⟩ = some (.int .i64 round) := by rw [hx3]; exact c4
  have c6' : x3.cell? ⟨id.r, 6, none⟩ = some (.bool false) := by rw [hx3]; exact c6
  have p0' : x3.cell? ⟨g, c * 2, none⟩ = some (.int .i64 (lo : Int)) := by rw [hx3]; exact p0
  have p1' : x3.cell? ⟨g, c * 2 + 1, none⟩ = some (.int .i64 (hi : Int)) := by rw [hx3]; exact p1
  have b1' : x3.cell? ⟨w.heap.size, 1, none⟩ = some (.int .i64 pc) := by rw [hx3]; exact b1
  have b2' : x3.cell? ⟨w.heap.size, 2, none⟩ = some (.slice PA m pcap) := by rw [hx3]; exact b2
  have b0' : x3.cell? ⟨w.heap.size, 0, none⟩ = some (.int .i64 round) := by rw [hx3]; exact b0
  clear c0 c1 c3 c4 c6 p0 p1 b1 b2 b0
  have c0 := c0'
  have c1 := c1'
  have c3 := c3'
  have c4 := c4'
  have c6 := c6'
  have p0 := p0'
  have p1 := p1'
  have b1 := b1'
  have b2 := b2'
  have b0 := b0'
  clear c0' c1' c3' c4' c6' p0' p1' b1' b2' b0'
  have BB3 : Below w.heap.size w x3 := by rw [hx3]; exact pw_below_drewN BB2 _
  clear hx3 nq
  clear hw1' hw2 ht hw3
  go_quiet (fail)
  obtain ⟨x4, hx4⟩ : ∃ x4, x4 = x3.drewN nq := ⟨_, rfl⟩
  rw [← hx4]
  have c0' : x4.cell? ⟨id.r, 0, none⟩ = some (.int .i64 place) := by rw [hx4]; exact c0
  have c1' : x4.cell? ⟨id.r, 1, none⟩ = some (.int .i64 (n : Int)) := by rw [hx4]; exact c1
  have c3' : x4.cell? ⟨id.r, 3, none⟩ = some (.slice (some ⟨g, 0, none⟩) n id.d) := by rw [hx4]; exact c3
  have c4' : x4.cell? ⟨id.r, 4, none⟩ = some (.int .i64 round) := by rw [hx4]; exact c4
  have c6' : x4.cell? ⟨id.r, 6, none⟩ = some (.bool false) := by rw [hx4]; exact c6
  have p0' : x4.cell? ⟨g, c * 2, none⟩ = some (.int .i64 (lo : Int)) := by rw [hx4]; exact p0
  have p1' : x4.cell? ⟨g, c * 2 + 1, none⟩ = some (.int .i64 (hi : Int)) := by rw [hx4]; exact p1
  have b1' : x4.cell? ⟨w.heap.size, 1, none⟩ = some (.int .i64 pc) := by rw [hx4]; exact b1
  have b2' : x4.cell? ⟨w.heap.size, 2, none⟩ = some (.slice PA m pcap) := by rw [hx4]; exact b2
  have b0' : x4.cell? ⟨w.heap.size, 0, none⟩ = some (.int .i64 round) := by rw [hx4]; exact b0
  clear c0 c1 c3 c4 c6 p0 p1 b1 b2 b0
  have c0 := c0'
  have c1 := c1'
  have c3 := c3'
  have c4 := c4'
  have c6 := c6'
  have p0 := p0'
  have p1 := p1'
  have b1 := b1'
  have b2 := b2'
  have b0 := b0'
  clear c0' c1' c3' c4' c6' p0' p1' b1' b2' b0'
  have BB4 : Below w.heap.size w x4 := by rw [hx4]; exact pw_below_drewN BB3 _
  clear hx4 nq
  obtain ⟨hp1, hp2⟩ := HP.out
  subst hp1
  have hmm : (m : Int) = (hi : Int) - (lo : Int) := by omega
  have e2 : ((m : Int) != (hi : Int) - (lo : Int)) = false := by rw [bne_eq_false_iff_eq]; exact hmm
  have hp2' := Lib.hid hp2
  clear hp2 hmm HS HD HP
  go_wp2_with fail
  have R4 := Lib.hid (HH.out.below BB4)
  clear c0 c1 c3 c4 c6 p0 p1 b0 b1 b2 e2 hpv0 hpv1 hN0 hN1 hN2 hN3 hcn BB1 BB2 BB3
  have B4 := Lib.hid BB4; clear BB4
  go_loopw [107] (fun i wr => ∃ j : Nat, j ≤ m ∧ i = .int .i64 j ∧ Aside0 (RgS wr id place n k (gotL l lo add M j) round told false ∧ WidesAt wr PA m M ∧ RgF w wr id)) (fun i _ => m - (intOf i).toNat)
  case atStart => exact ⟨0, Nat.zero_le _, rfl, ⟨R4.out, HM.out.below B4.out, RgF.below B4.out⟩⟩
  case round =>
    obtain ⟨j, hj, rfl, HR⟩ := hrel
    by_cases hjm : j < m
    · obtain ⟨ad, hPA, m0, m1⟩ := HR.out.2.1.2.2 j hjm
      subst hPA
      obtain ⟨q, hq⟩ : ∃ q, q = lo + j := ⟨_, rfl⟩
      have hqk : q < k := by have := hp2'.out; omega
      obtain ⟨xv, hxv⟩ : ∃ xv, xv = M.getD j (0, 0) := ⟨_, rfl⟩
      obtain ⟨yv, hyv⟩ : ∃ yv, yv = (gotL l lo add M j).getD q (0, 0) := ⟨_, rfl⟩
      rw [← hxv] at m0 m1
      obtain ⟨hk1, hkc, hwa⟩ := wides_own HR.out.1.row (by omega)
      obtain ⟨ad2, hA, y0, y1⟩ := hwa.2.2 q hqk
      obtain ⟨g2, hg2⟩ : ∃ g2, ad2 = ⟨g2, 0, none⟩ := by
        rcases HR.out.1.row.2 with ⟨h1, _⟩ | ⟨g', cap, cur, h1, _⟩
        · rw [hA] at h1; cases h1
        · rw [hA] at h1; injection h1 with h1; injection h1 with h1; exact ⟨g', h1⟩
      subst hg2
      rw [Go.Proofs.YtjidjbjbngbhpaaW.PrintWords.add_plain] at y0 y1
      simp only [] at y1
      rw [← hyv] at y0 y1
      have c2 := (rgC_cells HR.out.1.obj).2.2.1
      rw [hA] at c2
      have hwq : IntKind.i64.wrap ((lo : Int) + (j : Int)) = ((q : Nat) : Int) := by rw [IntKind.wrap_i64]; omega
      have hwj : IntKind.i64.wrap ((j : Int) + 1) = (j : Int) + 1 := by rw [IntKind.wrap_i64]; omega
      have hx1 : WwfP xv := by
        rw [hxv, List.getD_eq_getElem?_getD]
        have hl : j < M.length := by have := HM.out.1; omega
        rw [List.getElem?_eq_getElem hl]
        exact HMw.out _ (List.getElem_mem hl)
      have hy1 : WwfP yv := by
        have hl : q < (gotL l lo add M j).length := by have := hwa.1; omega
        rw [hyv, List.getD_eq_getElem?_getD, List.getElem?_eq_getElem hl]
        exact HR.out.1.ok.2.2.2.2.2.2.2 _ (List.getElem_mem hl)
      obtain ⟨wx, hwx⟩ : ∃ wx, wx = wr.alloc (.cells #[.int .i64 xv.1, .int .u64 xv.2] 33) := ⟨_, rfl⟩
      have hbx : Below wr.heap.size wr wx := by rw [hwx]; exact (Below.refl _ _).alloc (Nat.le_refl _) _
      have hX : wx.heap[wr.heap.size]? = some (.cells #[.int .i64 xv.1, .int .u64 xv.2] 33 (0, 0)) := by rw [hwx]; exact heap_alloc_new _ _
      have d2 : wx.cell? ⟨id.r, 2, none⟩ = some (.slice (some ⟨g2, 0, none⟩) k id.c) := pw_cell_below hbx c2
      have z0 := pw_cell_below hbx y0
      have z1 := pw_cell_below hbx y1
      obtain ⟨b0, b1, f0, f1⟩ := cells_2 hX
      have RX := Lib.hid (HR.out.1.below hbx)
      have FX := Lib.hid (HR.out.2.2.trans (RgF.below (id := id) hbx))
      have HXX := Lib.hid hX
      have HXV := Lib.hid hxv; have HYV := Lib.hid hyv; have HQ := Lib.hid hq; have HA := Lib.hid hA
      have HX1 := Lib.hid hx1; have HY1 := Lib.hid hy1; have BX := Lib.hid hbx
      have hg2X : g2 < wr.heap.size := World.block_lt_of_cell? wr _ y0
      have PW := Lib.hid HR.out.2.1
      have hN0 : (0 : Int) ≤ (q : Int) := by omega
      have hN1 : (q : Int) < (k : Int) := by omega
      have Y0 := Lib.hid y0; have Y1 := Lib.hid y1
      clear hX hxv hyv hq hA hx1 hy1 hk1 hwa y0 y1 c2
      cases add with
      | true =>
        go_wp2_with fail
        rw [← hwx]
        clear hwx
        have hrg : id.r ≠ g2 := fun e => by
          have := own_ne HR.out.1.row HR.out.1.obj (by decide)
          rw [HA.out] at this
          exact this (by rw [e]; rfl)
        have hXg : wr.heap.size ≠ g2 := by omega
        have HXR : id.r ≠ wr.heap.size := by have := lt_of_heap HR.out.1.obj; omega
        have CC := Lib.hid (wadd_sum yv xv HY1.out HX1.out)
        have HK0 := Lib.hid (fun w5 (h : Below wx.heap.size wx w5) => SumAt.mk' (v := wsum yv xv) BX.out h HXX.out)
        go_cut [123] (fun s123 wy => s123 = .agg #[.int .i64 (wsum yv xv).1, .int .u64 (wsum yv xv).2] ∧ Aside0 (SumAt wr (wsum yv xv) wy))
        case first =>
          go_region_with ((go_at_call 23; (with_reducible refine (CC.out _).mono ?_); rintro e w5 ⟨rfl, hb5⟩; have hq5 : Below wx.heap.size wx w5 := below_then (below_drew (Below.refl wx.heap.size wx)) (Nat.le_refl _) hb5; have hX5 := rheap_keep hq5 HXX.out; obtain ⟨t0, t1, t2, t3⟩ := cells_2 hX5; have BQ5 := Lib.hid hq5; clear hX5 hq5 hb5))
          all_goals (go_wp2_with fail)
          all_goals go_meet
          all_goals first | exact ⟨rfl, ⟨HK0.out _ BQ5.out⟩⟩ | exact ⟨rfl, ⟨(HK0.out _ BQ5.out).drew⟩⟩
        case rest =>
          obtain ⟨-, HK⟩ := hcut
          have hRc := HR.out.1.below HK.out.1
          have hFc := HR.out.2.2.trans (RgF.below (id := id) HK.out.1)
          have hPc := PW.out.below HK.out.1
          have c2c := (rgC_cells hRc.obj).2.2.1
          obtain ⟨csg, hg0⟩ : ∃ csg, wc.heap[g2]? = some (.cells csg 33 (0, 0)) := by
            have hrow := hRc.row
            rw [HA.out] at hrow
            exact (ownA hrow rfl).2.2
          have u0 := frozr hg0 (q * 2)
          have u1 := frozr hg0 (q * 2 + 1)
          obtain ⟨t0, t1, t2, t3⟩ := cells_2 HK.out.2
          have v0 := pw_cell_below HK.out.1 Y0.out
          have v1 := pw_cell_below HK.out.1 Y1.out
          have d5 := (rgC_cells hRc.obj).2.2.1
          rw [HA.out] at d5
          have HRC := Lib.hid hRc; have HFC := Lib.hid hFc; have HPC := Lib.hid hPc
          clear hg0 c2c hRc hFc hPc
          have hXg : wr.heap.size ≠ g2 := by omega
          go_wp2_with fail
          go_region_held3 (fun w' => w'.cell? ⟨id.r, 2, none⟩ = some (.slice (some ⟨g2, 0, none⟩) k id.c) ∧ w'.cell? ⟨wr.heap.size, 0, none⟩ = some (.int .i64 (wsum yv xv).1) ∧ w'.cell? ⟨wr.heap.size, 1, none⟩ = some (.int .u64 (wsum yv xv).2))
            (first | (with_reducible exact ⟨rfar2 d5 hrg, rfar2 t0 hXg, rfar2 t1 hXg⟩) | (exact ⟨rfar2 d5 hrg, rfar2 t0 hXg, rfar2 t1 hXg⟩) | exact ⟨d5, t0, t1⟩ | go_keep)
            (fail)
          go_wp2_with fail
          go_roundw
          case rel => first | exact ⟨j + 1, by omega, by go_num, ⟨got_fin HRC.out HPC.out HFC.out HA.out hqk (wsum_wf _ _) HAP.out (gotL_step (add := true) HQ.out HXV.out HYV.out)⟩⟩ | exact ⟨j + 1, by omega, by go_num, ⟨got_drew (got_fin HRC.out HPC.out HFC.out HA.out hqk (wsum_wf _ _) HAP.out (gotL_step (add := true) HQ.out HXV.out HYV.out))⟩⟩
          case measure => simp [intOf]; omega
      | false =>
        go_wp2_with fail
        rw [← hwx]
        clear hwx
        have hrg : id.r ≠ g2 := fun e => by
          have := own_ne HR.out.1.row HR.out.1.obj (by decide)
          rw [HA.out] at this
          exact this (by rw [e]; rfl)
        have hXg : wr.heap.size ≠ g2 := by omega
        obtain ⟨csg, hg0⟩ : ∃ csg, wx.heap[g2]? = some (.cells csg 33 (0, 0)) := by
          have hrow := RX.out.row
          rw [HA.out] at hrow
          exact (ownA hrow rfl).2.2
        have u0 := frozr hg0 (q * 2)
        have u1 := frozr hg0 (q * 2 + 1)
        clear hg0
        go_region_held3 (fun w' => w'.cell? ⟨id.r, 2, none⟩ = some (.slice (some ⟨g2, 0, none⟩) k id.c) ∧ w'.cell? ⟨wr.heap.size, 0, none⟩ = some (.int .i64 xv.1) ∧ w'.cell? ⟨wr.heap.size, 1, none⟩ = some (.int .u64 xv.2))
          (first | (with_reducible exact ⟨rfar2 d2 hrg, rfar2 b0 hXg, rfar2 b1 hXg⟩) | (exact ⟨rfar2 d2 hrg, rfar2 b0 hXg, rfar2 b1 hXg⟩) | exact ⟨d2, b0, b1⟩ | go_keep)
          (fail)
        go_wp2_with fail
        go_roundw
        case rel => first | exact ⟨j + 1, by omega, by go_num, ⟨got_fin RX.out (PW.out.below BX.out) FX.out HA.out hqk HX1.out HAP.out (gotL_step (add := false) HQ.out HXV.out HYV.out)⟩⟩ | exact ⟨j + 1, by omega, by go_num, ⟨got_drew (got_fin RX.out (PW.out.below BX.out) FX.out HA.out hqk HX1.out HAP.out (gotL_step (add := false) HQ.out HXV.out HYV.out))⟩⟩
        case measure => simp [intOf]; omega
    · obtain rfl : j = m := by omega
      have R5 := Lib.hid HR.out.1.taken; have F5 := Lib.hid (HR.out.2.2.trans (RgF.grown (grown_set (w := wr) (j := 6) (.bool true)))); have hml := Lib.hid HR.out.2.1.1
      have fz6 : wr.frozen? ⟨id.r, 6, none⟩ = false := frozr HR.out.1.obj 6
      have cz6 : wr.cell? ⟨id.r, 6, none⟩ = some (.bool false) := (rgC_cells HR.out.1.obj).2.2.2.2.2.2
      clear HR
      go_wp2_with fail
      refine (next_any _ id place n k _ round told true R5.out (by omega)).mono ?_
      rintro e w6 ⟨rfl, hR6, hg6⟩
      have HR6 := Lib.hid hR6; have F6 := Lib.hid (F5.out.trans (RgF.grown hg6))
      clear hR6 hg6
      go_wp2_with fail
      go_ret
      exact ⟨rfl, by rw [hml.out]; exact HR6.out, F6.out⟩
end Go.Proofs.Ytjidjbjbngbhpaa
