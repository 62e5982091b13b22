/- Ring: Get. -/
import Derived.Test.YtjidjbjbngbhpaaRingI
set_option linter.unusedVariables false
set_option linter.unusedSimpArgs false
namespace Go.Proofs.Ytjidjbjbngbhpaa
open Go.RowKit Go.Proofs.YtjidjbjbngbhpaaW.PrintWords Go.Proofs.Ytjidjbjbngbhpaa.K

set_option maxRecDepth 100000 in
set_option maxHeartbeats 8000000 in
theorem get_form (w : World) (id : RgId) (place : Int) (n k : Nat) (l : List (Int × Int)) (round : Int) (told : Bool) (h : RgS w id place n k l round told false) (pc : Int) (PA : Option Addr) (m pcap : Nat) (hd : ¬ 2 * (n : Int) - 3 < round) (c : Nat) (hc : cs ((place + n - 1) % n) n round = c) (hm : m ≤ 100000)
    (hpc : pc ≠ c ∨ m ≠ cstart k n (c + 1) - cstart k n c) :
    Calls Try.prog 10 #[.pointer (some ⟨id.r, 0, none⟩), ptV round pc PA m pcap] w fun e w' => e = .returned (.int .i64 3) ∧ Below w.heap.size w w' := by
  obtain ⟨a1, a2, a3, a4, a5, a6, a7, a8⟩ := h.ok
  have hcn : c < n := by have := (cs_rng (p := (place + n - 1) % n) (n := (n : Int)) (r := round) (by omega)).2; omega
  obtain ⟨lo, hlo⟩ : ∃ lo, lo = cstart k n c := ⟨_, rfl⟩
  obtain ⟨hi, hhi⟩ : ∃ hi, hi = cstart k n (c + 1) := ⟨_, rfl⟩
  have hlh : lo ≤ hi := by rw [hlo, hhi]; exact cstart_mono k n c
  have hhk : hi ≤ k := by rw [hhi]; exact cstart_le k n (c + 1) (by omega)
  have hpr := chunk_at k n n c hcn
  rw [← hlo, ← hhi] at hpr
  rw [← hlo, ← hhi] at hpc
  clear hlo hhi
  obtain ⟨w1, hw1⟩ : ∃ w1, w1 = w.alloc (.cells #[.int .i64 round, .int .i64 pc, .slice PA m pcap] 37) := ⟨_, rfl⟩
  have hb1 : Below w.heap.size w w1 := by rw [hw1]; exact (Below.refl _ _).alloc (Nat.le_refl _) _
  have H1 := h.below hb1
  have HD0 := fun x => done_q (w1.drewN x) id.r place n _ _ round told false H1.obj ⟨by omega, by omega⟩
  rw [decide_eq_false hd] at HD0
  obtain ⟨c0, c1, c2, c3, c4, c5, c6⟩ := rgC_cells H1.obj
  obtain ⟨hcn1, hpa⟩ := pairs_own H1.chs (by omega)
  obtain ⟨g, hg, p0, p1⟩ := hpa.2.2 c hcn
  rw [hpr] at p0 p1
  simp only [] at p0 p1
  rw [hg] at c3
  have q0 : w1.heap[w.heap.size]? = some (.cells #[.int .i64 round, .int .i64 pc, .slice PA m pcap] 37 (0, 0)) := by rw [hw1]; exact heap_alloc_new _ _
  obtain ⟨b0, b1, b2⟩ := rbox3 q0
  rw [hw1] at HD0 c0 c1 c3 c4 c6 p0 p1 b0 b1 b2
  have HD := Lib.hid HD0
  obtain ⟨pv, hpv⟩ : ∃ pv, pv = (place + n - 1) % n := ⟨_, rfl⟩
  have hpv0 : 0 ≤ pv := by rw [hpv]; exact Int.emod_nonneg _ (by omega)
  have hpv1 : pv < n := by rw [hpv]; exact Int.emod_lt_of_pos _ (by omega)
  rw [← hpv] at hc
  have hw1' : IntKind.i64.wrap (place + n) = place + n := by rw [IntKind.wrap_i64]; omega
  have hw2 : IntKind.i64.wrap (place + n - 1) = place + n - 1 := by rw [IntKind.wrap_i64]; omega
  have ht : (place + (n : Int) - 1).tmod n = pv := by rw [Int.tmod_eq_emod_of_nonneg (by omega)]; exact hpv.symm
  have hw3 : IntKind.i64.wrap pv = pv := by rw [IntKind.wrap_i64]; omega
  have HS0 := fun w => sends_any pv n round w ⟨by omega, by omega, hpv0, hpv1, a6, by omega⟩
  rw [hc] at HS0
  have HS := Lib.hid HS0; have HP := Lib.hid hpc; have HH := Lib.hid h
  have hN0 : (0 : Int) ≤ (c : Int) := by omega
  have hN1 : (c : Int) < (n : Int) := by omega
  have hN2 : ¬ (n = 0) := by omega
  have hN3 : ((n : Int) == 0) = false := beq_eq_false_iff_ne.2 (by omega)
  clear h H1 hb1 a8 hd HD0 c2 c5 hw1 q0 w1 hcn1 hpa hg HS0 hc hpr hpv hpc
  go_enter Try.func10, Try.ntmps10
  go_wp2_with fail
  go_quiet ((go_at_call 13; exact Calls.quiet_of (HD.out _)))
  go_wp2_with fail
  obtain ⟨x1, hx1⟩ : ∃ x1, x1 = (w.alloc (.cells #[.int .i64 round, .int .i64 pc, .slice PA m pcap] 37)).drewN nq := ⟨_, rfl⟩
  rw [← hx1]
  have c0' : x1.cell? ⟨id.r, 0, none⟩ = some (.int .i64 place) := by rw [hx1]; exact c0
  have c1' : x1.cell? ⟨id.r, 1, none⟩ = some (.int .i64 (n : Int)) := by rw [hx1]; exact c1
  have c3' : x1.cell? ⟨id.r, 3, none⟩ = some (.slice (some ⟨g, 0, none⟩) n id.d) := by rw [hx1]; exact c3
  have c4' : x1.cell? ⟨id.r, 4, none⟩ = some (.int .i64 round) := by rw [hx1]; exact c4
  have c6' : x1.cell? ⟨id.r, 6, none⟩ = some (.bool false) := by rw [hx1]; exact c6
  have p0' : x1.cell? ⟨g, c * 2, none⟩ = some (.int .i64 (lo : Int)) := by rw [hx1]; exact p0
  have p1' : x1.cell? ⟨g, c * 2 + 1, none⟩ = some (.int .i64 (hi : Int)) := by rw [hx1]; exact p1
  have b1' : x1.cell? ⟨w.heap.size, 1, none⟩ = some (.int .i64 pc) := by rw [hx1]; exact b1
  have b2' : x1.cell? ⟨w.heap.size, 2, none⟩ = some (.slice PA m pcap) := by rw [hx1]; exact b2
  have b0' : x1.cell? ⟨w.heap.size, 0, none⟩ = some (.int .i64 round) := by rw [hx1]; exact b0
  clear c0 c1 c3 c4 c6 p0 p1 b1 b2 b0
  have c0 := c0'
  have c1 := c1'
  have c3 := c3'
  have c4 := c4'
  have c6 := c6'
  have p0 := p0'
  have p1 := p1'
  have b1 := b1'
  have b2 := b2'
  have b0 := b0'
  clear c0' c1' c3' c4' c6' p0' p1' b1' b2' b0'
  have BB1 : Below w.heap.size w x1 := by rw [hx1]; exact pw_below_drewN ((Below.refl _ _).alloc (Nat.le_refl _) _) _
  clear hx1 nq
  go_quiet (fail)
  go_wp2_with fail
  obtain ⟨x2, hx2⟩ : ∃ x2, x2 = x1.drewN nq := ⟨_, rfl⟩
  rw [← hx2]
  have c0' : x2.cell? ⟨id.r, 0, none⟩ = some (.int .i64 place) := by rw [hx2]; exact c0
  have c1' : x2.cell? ⟨id.r, 1, none⟩ = some (.int .i64 (n : Int)) := by rw [hx2]; exact c1
  have c3' : x2.cell? ⟨id.r, 3, none⟩ = some (.slice (some ⟨g, 0, none⟩) n id.d) := by rw [hx2]; exact c3
  have c4' : x2.cell? ⟨id.r, 4, none⟩ = some (.int .i64 round) := by rw [hx2]; exact c4
  have c6' : x2.cell? ⟨id.r, 6, none⟩ = some (.bool false) := by rw [hx2]; exact c6
  have p0' : x2.cell? ⟨g, c * 2, none⟩ = some (.int .i64 (lo : Int)) := by rw [hx2]; exact p0
  have p1' : x2.cell? ⟨g, c * 2 + 1, none⟩ = some (.int .i64 (hi : Int)) := by rw [hx2]; exact p1
  have b1' : x2.cell? ⟨w.heap.size, 1, none⟩ = some (.int .i64 pc) := by rw [hx2]; exact b1
  have b2' : x2.cell? ⟨w.heap.size, 2, none⟩ = some (.slice PA m pcap) := by rw [hx2]; exact b2
  have b0' : x2.cell? ⟨w.heap.size, 0, none⟩ = some (.int .i64 round) := by rw [hx2]; exact b0
  clear c0 c1 c3 c4 c6 p0 p1 b1 b2 b0
  have c0 := c0'
  have c1 := c1'
  have c3 := c3'
  have c4 := c4'
  have c6 := c6'
  have p0 := p0'
  have p1 := p1'
  have b1 := b1'
  have b2 := b2'
  have b0 := b0'
  clear c0' c1' c3' c4' c6' p0' p1' b1' b2' b0'
  have BB2 : Below w.heap.size w x2 := by rw [hx2]; exact pw_below_drewN BB1 _
  clear hx2 nq
  go_quiet ((go_at_call 21; exact Calls.quiet_of_same ((HS.out _).mono fun _ _ he => ⟨he.1, he.2.symm⟩)))
  go_wp2_with fail
  obtain ⟨x3, hx3⟩ : ∃ x3, x3 = x2.drewN nq := ⟨_, rfl⟩
  rw [← hx3]
  have c0' : x3.cell? ⟨id.r, 0, none⟩ = some (.int .i64 place) := by rw [hx3]; exact c0
  have c1' : x3.cell? ⟨id.r, 1, none⟩ = some (.int .i64 (n : Int)) := by rw [hx3]; exact c1
  have c3' : x3.cell? ⟨id.r, 3, none⟩ = some (.slice (some ⟨g, 0, none⟩) n id.d) := by rw [hx3]; exact c3
  have c4' : x3.cell? ⟨id.r, 4, none⟩ = some (.int .i64 round) := by rw [hx3]; exact c4
  have c6' : x3.cell? ⟨id.r, 6, none⟩ = some (.bool false) := by rw [hx3]; exact c6
  have p0' : x3.cell? ⟨g, c * 2, none⟩ = some (.int .i64 (lo : Int)) := by rw [hx3]; exact p0
  have p1' : x3.cell? ⟨g, c * 2 + 1, none⟩ = some (.int .i64 (hi : Int)) := by rw [hx3]; exact p1
  have b1' : x3.cell? ⟨w.heap.size, 1, none⟩ = some (.int .i64 pc) := by rw [hx3]; exact b1
  have b2' : x3.cell? ⟨w.heap.size, 2, none⟩ = some (.slice PA m pcap) := by rw [hx3]; exact b2
  have b0' : x3.cell? ⟨w.heap.size, 0, none⟩ = some (.int .i64 round) := by rw [hx3]; exact b0
  clear c0 c1 c3 c4 c6 p0 p1 b1 b2 b0
  have c0 := c0'
  have c1 := c1'
  have c3 := c3'
  have c4 := c4'
  have c6 := c6'
  have p0 := p0'
  have p1 := p1'
  have b1 := b1'
  have b2 := b2'
  have b0 := b0'
  clear c0' c1' c3' c4' c6' p0' p1' b1' b2' b0'
  have BB3 : Below w.heap.size w x3 := by rw [hx3]; exact pw_below_drewN BB2 _
  clear hx3 nq
  clear hw1' hw2 ht hw3
  go_quiet (fail)
  obtain ⟨x4, hx4⟩ : ∃ x4, x4 = x3.drewN nq := ⟨_, rfl⟩
  rw [← hx4]
  have c0' : x4.cell? ⟨id.r, 0, none⟩ = some (.int .i64 place) := by rw [hx4]; exact c0
  have c1' : x4.cell? ⟨id.r, 1, none⟩ = some (.int .i64 (n : Int)) := by rw [hx4]; exact c1
  have c3' : x4.cell? ⟨id.r, 3, none⟩ = some (.slice (some ⟨g, 0, none⟩) n id.d) := by rw [hx4]; exact c3
  have c4' : x4.cell? ⟨id.r, 4, none⟩ = some (.int .i64 round) := by rw [hx4]; exact c4
  have c6' : x4.cell? ⟨id.r, 6, none⟩ = some (.bool false) := by rw [hx4]; exact c6
  have p0' : x4.cell? ⟨g, c * 2, none⟩ = some (.int .i64 (lo : Int)) := by rw [hx4]; exact p0
  have p1' : x4.cell? ⟨g, c * 2 + 1, none⟩ = some (.int .i64 (hi : Int)) := by rw [hx4]; exact p1
  have b1' : x4.cell? ⟨w.heap.size, 1, none⟩ = some (.int .i64 pc) := by rw [hx4]; exact b1
  have b2' : x4.cell? ⟨w.heap.size, 2, none⟩ = some (.slice PA m pcap) := by rw [hx4]; exact b2
  have b0' : x4.cell? ⟨w.heap.size, 0, none⟩ = some (.int .i64 round) := by rw [hx4]; exact b0
  clear c0 c1 c3 c4 c6 p0 p1 b1 b2 b0
  have c0 := c0'
  have c1 := c1'
  have c3 := c3'
  have c4 := c4'
  have c6 := c6'
  have p0 := p0'
  have p1 := p1'
  have b1 := b1'
  have b2 := b2'
  have b0 := b0'
  clear c0' c1' c3' c4' c6' p0' p1' b1' b2' b0'
  have BB4 : Below w.heap.size w x4 := by rw [hx4]; exact pw_below_drewN BB3 _
  clear hx4 nq
  by_cases hq : pc = c
  · subst hq
    have hm2 : m ≠ hi - lo := by rcases HP.out with h | h; exact absurd rfl h; exact h
    have e2 : ((m : Int) != (hi : Int) - (lo : Int)) = true := by rw [bne_iff_ne]; omega
    clear hm2
    go_wp2_with fail
    go_ret
    exact ⟨rfl, BB4⟩
  · have e1 : (pc != (c : Int)) = true := by rw [bne_iff_ne]; exact hq
    go_wp2_with fail
    go_ret
    exact ⟨rfl, BB4⟩
end Go.Proofs.Ytjidjbjbngbhpaa
