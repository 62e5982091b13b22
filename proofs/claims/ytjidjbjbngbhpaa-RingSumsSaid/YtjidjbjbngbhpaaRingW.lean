/- The reference's sums and differences of four words. -/
import Derived.Test.YtjidjbjbngbhpaaRingM
set_option linter.unusedVariables false
set_option linter.unusedSimpArgs false
namespace Go.Proofs.Ytjidjbjbngbhpaa
open Go.RowKit Go.Proofs.YtjidjbjbngbhpaaW.PrintWords Go.Proofs.Ytjidjbjbngbhpaa.K

def BB : Int := 18446744073709551616
/-- The carry, the borrow, into word k. -/
def cyP (a b : Nat → Int) : Nat → Int
  | 0 => 0
  | k + 1 => if a k + b k + cyP a b k < 18446744073709551616 then 0 else 1
def wdP (a b : Nat → Int) (k : Nat) : Int := (a k + b k + cyP a b k) % 18446744073709551616
def cyM (a b : Nat → Int) : Nat → Int
  | 0 => 0
  | k + 1 => if a k - b k - cyM a b k < 0 then 1 else 0
def wdM (a b : Nat → Int) (k : Nat) : Int := (a k - b k - cyM a b k) % 18446744073709551616
theorem cyP_rng (a b : Nat → Int) (k : Nat) : 0 ≤ cyP a b k ∧ cyP a b k ≤ 1 := by
  cases k with
  | zero => exact ⟨Int.le_refl 0, (by decide : (0 : Int) ≤ 1)⟩
  | succ k => unfold cyP; split <;> exact ⟨by decide, by decide⟩
theorem cyM_rng (a b : Nat → Int) (k : Nat) : 0 ≤ cyM a b k ∧ cyM a b k ≤ 1 := by
  cases k with
  | zero => exact ⟨Int.le_refl 0, (by decide : (0 : Int) ≤ 1)⟩
  | succ k => unfold cyM; split <;> exact ⟨by decide, by decide⟩
/-- Four words in memory; of the first k those that are made. -/
def w4 (f : Nat → Int) : Array Value := #[.int .u64 (f 0), .int .u64 (f 1), .int .u64 (f 2), .int .u64 (f 3)]
def upto (f : Nat → Int) (k i : Nat) : Int := if i < k then f i else 0
theorem w4_at (f : Nat → Int) {k : Nat} (hk : k < 4) : (w4 f)[k]? = some (.int .u64 (f k)) := by
  rcases (by omega : k = 0 ∨ k = 1 ∨ k = 2 ∨ k = 3) with rfl | rfl | rfl | rfl <;> rfl
theorem w4_put (f : Nat → Int) {k : Nat} (hk : k < 4) : (w4 (upto f k)).setIfInBounds k (.int .u64 (f k)) = w4 (upto f (k + 1)) := by
  rcases (by omega : k = 0 ∨ k = 1 ∨ k = 2 ∨ k = 3) with rfl | rfl | rfl | rfl <;> rfl
theorem w4_all (f : Nat → Int) : w4 (upto f 4) = w4 f := rfl
def In4 (a : Nat → Int) : Prop := ∀ k, 0 ≤ a k ∧ a k < 18446744073709551616
theorem w4_cell {w : World} {r : Nat} {f : Nat → Int} {t : TypeId} (h : w.heap[r]? = some (.cells (w4 f) t (0, 0))) {k : Nat} (hk : k < 4) : w.cell? ⟨r, k, none⟩ = some (.int .u64 (f k)) := (blk_cell h k).trans (w4_at f hk)
structure W4 (w wr : World) (a b f : Nat → Int) (k : Nat) : Prop where
  ha : wr.heap[w.heap.size]? = some (.cells (w4 a) 56 (0, 0))
  hb : wr.heap[w.heap.size + 1]? = some (.cells (w4 b) 56 (0, 0))
  hz : wr.heap[w.heap.size + 1 + 1]? = some (.cells (w4 fun _ => 0) 56 (0, 0))
  hc : wr.heap[w.heap.size + 1 + 1 + 1]? = some (.cells (w4 (upto f k)) 56 (0, 0))
  bw : Below w.heap.size w wr
theorem W4.drewN {w wr : World} {a b f : Nat → Int} {k : Nat} (h : W4 w wr a b f k) (n : Nat) : W4 w (wr.drewN n) a b f k := ⟨h.ha, h.hb, h.hz, h.hc, pw_below_drewN h.bw _⟩
theorem W4.put {w wr : World} {a b f : Nat → Int} {k : Nat} (h : W4 w wr a b f k) (hk : k < 4) : W4 w (wr.setCell ⟨w.heap.size + 1 + 1 + 1, k, none⟩ (.int .u64 (f k))) a b f (k + 1) :=
  ⟨blk_far h.ha (by show w.heap.size ≠ w.heap.size + 1 + 1 + 1; omega) _, blk_far h.hb (by show w.heap.size + 1 ≠ w.heap.size + 1 + 1 + 1; omega) _, blk_far h.hz (by show w.heap.size + 1 + 1 ≠ w.heap.size + 1 + 1 + 1; omega) _, by rw [heap_set _ h.hc, w4_put f hk], h.bw.setCell (by show w.heap.size ≤ w.heap.size + 1 + 1 + 1; omega) _⟩
theorem four_new (w : World) (a b c d : Obj) : (((((w.alloc a).alloc b).alloc c).alloc d).heap[w.heap.size]? = some a) ∧ (((((w.alloc a).alloc b).alloc c).alloc d).heap[w.heap.size + 1]? = some b) ∧ (((((w.alloc a).alloc b).alloc c).alloc d).heap[w.heap.size + 1 + 1]? = some c) ∧ (((((w.alloc a).alloc b).alloc c).alloc d).heap[w.heap.size + 1 + 1 + 1]? = some d) := by
  have s1 : (w.alloc a).heap.size = w.heap.size + 1 := by simp
  have s2 : ((w.alloc a).alloc b).heap.size = w.heap.size + 1 + 1 := by simp
  have s3 : (((w.alloc a).alloc b).alloc c).heap.size = w.heap.size + 1 + 1 + 1 := by simp
  have b1 := fun (w : World) (o : Obj) => (Below.refl w.heap.size w).alloc (Nat.le_refl _) o
  have e1 := heap_alloc_new w a
  have e2 := heap_alloc_new (w.alloc a) b
  have e3 := heap_alloc_new ((w.alloc a).alloc b) c
  have e4 := heap_alloc_new (((w.alloc a).alloc b).alloc c) d
  rw [s1] at e2
  rw [s2] at e3
  rw [s3] at e4
  have keep := fun (w : World) (o : Obj) {k : Nat} {x : Obj} (h : w.heap[k]? = some x) => rheap_keep (b1 w o) h
  exact ⟨keep _ _ (keep _ _ (keep _ _ e1)), keep _ _ (keep _ _ e2), keep _ _ e3, e4⟩
theorem W4.start (w : World) (a b f : Nat → Int) : W4 w ((((w.alloc (.cells (w4 a) 56)).alloc (.cells (w4 b) 56)).alloc (.cells (w4 fun _ => 0) 56)).alloc (.cells (w4 fun _ => 0) 56)) a b f 0 := by
  obtain ⟨h1, h2, h3, h4⟩ := four_new w (.cells (w4 a) 56) (.cells (w4 b) 56) (.cells (w4 fun _ => 0) 56) (.cells (w4 fun _ => 0) 56)
  refine ⟨h1, h2, h3, h4, ?_⟩
  exact (((((Below.refl _ _).alloc (Nat.le_refl _) _).alloc (by simp) _).alloc (by simp <;> omega) _).alloc (by simp <;> omega) _)
set_option maxHeartbeats 4000000 in
theorem plus_walk (a b : Nat → Int) (ha : In4 a) (hb : In4 b) (w : World) : Calls Try.prog 25 #[.agg (w4 a), .agg (w4 b)] w fun e w' => e = .returned (.agg (w4 (wdP a b))) ∧ Below w.heap.size w w' := by
  have HA := Lib.hid ha; have HB := Lib.hid hb
  have HS0 := Lib.hid (W4.start w a b (wdP a b))
  clear ha hb
  go_enter Try.func25, Try.ntmps25
  go_wp2_with fail
  go_loopw [6, 7] (fun cy i wr => ∃ k : Nat, k ≤ 4 ∧ i = .int .i64 k ∧ cy = .int .u64 (cyP a b k) ∧ Aside0 (W4 w wr a b (wdP a b) k)) (fun _ i _ => 4 - (intOf i).toNat)
  case atStart => exact ⟨0, Nat.zero_le _, rfl, rfl, ⟨HS0.out⟩⟩
  case round =>
    obtain ⟨k, hk, rfl, rfl, HK⟩ := hrel
    by_cases hk4 : k < 4
    · obtain ⟨x, hx⟩ : ∃ x, x = a k := ⟨_, rfl⟩
      obtain ⟨y, hy⟩ : ∃ y, y = b k := ⟨_, rfl⟩
      obtain ⟨c, hc⟩ : ∃ c, c = cyP a b k := ⟨_, rfl⟩
      have hx1 := HA.out k; have hy1 := HB.out k; have hc1 := cyP_rng a b k
      rw [← hx] at hx1
      rw [← hy] at hy1
      rw [← hc] at hc1
      obtain ⟨s, hs⟩ : ∃ s, s = IntKind.u64.wrap (x + y) := ⟨_, rfl⟩
      obtain ⟨t, ht⟩ : ∃ t, t = IntKind.u64.wrap (s + c) := ⟨_, rfl⟩
      have hs2 : s = (x + y) % 18446744073709551616 := by rw [hs, IntKind.wrap_u64]
      have ht2 : t = (s + c) % 18446744073709551616 := by rw [ht, IntKind.wrap_u64]
      have htw : t = wdP a b k := by unfold wdP; rw [← hx, ← hy, ← hc, ht2, hs2]; omega
      have hcy : cyP a b (k + 1) = if (s < x) ∨ (t < s) then 1 else 0 := by
        show (if _ then _ else _) = _
        rw [← hx, ← hy, ← hc]
        by_cases h1 : (s < x) ∨ (t < s)
        · rw [if_pos h1, if_neg (by omega)]
        · rw [if_neg h1, if_pos (by omega)]
      have ca := w4_cell HK.out.ha hk4
      have cb := w4_cell HK.out.hb hk4
      have cc := w4_cell HK.out.hc hk4
      have cf := frozr HK.out.hc k
      rw [← hx] at ca
      rw [← hy] at cb
      have HT := Lib.hid htw; have HC := Lib.hid hcy; have HS := Lib.hid hs.symm; have HTT := Lib.hid ht.symm
      have hwj : IntKind.i64.wrap ((k : Int) + 1) = (k : Int) + 1 := by rw [IntKind.wrap_i64]; omega
      have i0 : (0 : Int) ≤ (k : Int) := by omega
      have i1 : (k : Int) < 4 := by omega
      have hs0 : 0 ≤ s ∧ s < 18446744073709551616 := by omega
      rw [← hc]
      have HCC := Lib.hid hc
      clear hx hy hc hs ht hs2 ht2 htw hcy hx1 hy1 hc1 hs0
      by_cases g1 : s < x
      · have G1 := Lib.hid g1
        have es := HS.out
        have et := HTT.out
        go_wp2_with fail
        go_quiet (fail)
        go_wp2_with fail
        go_roundw
        case rel => exact ⟨k + 1, by omega, by go_num, by rw [HC.out, if_pos (.inl G1.out)], ⟨by rw [HT.out]; first | exact (HK.out.drewN _).put hk4 | exact ((HK.out.drewN _).put hk4).drewN _⟩⟩
        case measure => simp [intOf]; omega
      · by_cases g2 : t < s
        · have G2 := Lib.hid g2
          have es := HS.out
          have et := HTT.out
          go_wp2_with fail
          go_quiet (fail)
          go_wp2_with fail
          go_roundw
          case rel => exact ⟨k + 1, by omega, by go_num, by rw [HC.out, if_pos (.inr G2.out)], ⟨by rw [HT.out]; first | exact (HK.out.drewN _).put hk4 | exact ((HK.out.drewN _).put hk4).drewN _⟩⟩
          case measure => simp [intOf]; omega
        · skip
          have G1 := Lib.hid g1; have G2 := Lib.hid g2
          have es := HS.out
          have et := HTT.out
          go_wp2_with fail
          go_quiet (fail)
          go_wp2_with fail
          go_roundw
          case rel => exact ⟨k + 1, by omega, by go_num, by rw [HC.out, if_neg (fun h => h.elim (Int.not_lt.2 G1.out) (Int.not_lt.2 G2.out))], ⟨by rw [HT.out]; first | exact (HK.out.drewN _).put hk4 | exact ((HK.out.drewN _).put hk4).drewN _⟩⟩
          case measure => simp [intOf]; omega
    · obtain rfl : k = 4 := by omega
      have hh := HK.out.hc
      rw [w4_all] at hh
      have hz := HK.out.hz
      obtain ⟨c0, c1, c2, c3⟩ : wr.cell? ⟨w.heap.size + 1 + 1 + 1, 0, none⟩ = _ ∧ wr.cell? ⟨w.heap.size + 1 + 1 + 1, 1, none⟩ = _ ∧ wr.cell? ⟨w.heap.size + 1 + 1 + 1, 2, none⟩ = _ ∧ wr.cell? ⟨w.heap.size + 1 + 1 + 1, 3, none⟩ = _ := ⟨w4_cell hh (k := 0) (by decide), w4_cell hh (k := 1) (by decide), w4_cell hh (k := 2) (by decide), w4_cell hh (k := 3) (by decide)⟩
      obtain ⟨z0, z1, z2, z3⟩ : wr.cell? ⟨w.heap.size + 1 + 1, 0, none⟩ = _ ∧ wr.cell? ⟨w.heap.size + 1 + 1, 1, none⟩ = _ ∧ wr.cell? ⟨w.heap.size + 1 + 1, 2, none⟩ = _ ∧ wr.cell? ⟨w.heap.size + 1 + 1, 3, none⟩ = _ := ⟨w4_cell hz (k := 0) (by decide), w4_cell hz (k := 1) (by decide), w4_cell hz (k := 2) (by decide), w4_cell hz (k := 3) (by decide)⟩
      have f0 := frozr hz 0; have f1 := frozr hz 1; have f2 := frozr hz 2; have f3 := frozr hz 3
      have HZ := Lib.hid hz
      clear hh hz
      go_wp2_with fail
      (try simp only [Exit.inBlock, Exit.then])
      refine bodyPost_ret (results_cell_row rfl _ _ (w.heap.size + 1 + 1) 56 (w4 (wdP a b)) (0, 0) _ rfl (by rw [heap_set _ (heap_set _ (heap_set _ (heap_set _ HZ.out)))]; rfl) Try.underlying56 rfl (by kernel_rfl)) rfl ?_
      exact ⟨rfl, (((HK.out.bw.setCell (by show w.heap.size ≤ w.heap.size + 1 + 1; omega) _).setCell (by show w.heap.size ≤ w.heap.size + 1 + 1; omega) _).setCell (by show w.heap.size ≤ w.heap.size + 1 + 1; omega) _).setCell (by show w.heap.size ≤ w.heap.size + 1 + 1; omega) _⟩
set_option maxHeartbeats 4000000 in
theorem minus_walk (a b : Nat → Int) (ha : In4 a) (hb : In4 b) (w : World) : Calls Try.prog 27 #[.agg (w4 a), .agg (w4 b)] w fun e w' => e = .returned (.agg (w4 (wdM a b))) ∧ Below w.heap.size w w' := by
  have HA := Lib.hid ha; have HB := Lib.hid hb
  have HS0 := Lib.hid (W4.start w a b (wdM a b))
  clear ha hb
  go_enter Try.func27, Try.ntmps27
  go_wp2_with fail
  go_loopw [6, 7] (fun cy i wr => ∃ k : Nat, k ≤ 4 ∧ i = .int .i64 k ∧ cy = .int .u64 (cyM a b k) ∧ Aside0 (W4 w wr a b (wdM a b) k)) (fun _ i _ => 4 - (intOf i).toNat)
  case atStart => exact ⟨0, Nat.zero_le _, rfl, rfl, ⟨HS0.out⟩⟩
  case round =>
    obtain ⟨k, hk, rfl, rfl, HK⟩ := hrel
    by_cases hk4 : k < 4
    · obtain ⟨x, hx⟩ : ∃ x, x = a k := ⟨_, rfl⟩
      obtain ⟨y, hy⟩ : ∃ y, y = b k := ⟨_, rfl⟩
      obtain ⟨c, hc⟩ : ∃ c, c = cyM a b k := ⟨_, rfl⟩
      have hx1 := HA.out k; have hy1 := HB.out k; have hc1 := cyM_rng a b k
      rw [← hx] at hx1
      rw [← hy] at hy1
      rw [← hc] at hc1
      obtain ⟨s, hs⟩ : ∃ s, s = IntKind.u64.wrap (x - y) := ⟨_, rfl⟩
      obtain ⟨t, ht⟩ : ∃ t, t = IntKind.u64.wrap (s - c) := ⟨_, rfl⟩
      have hs2 : s = (x - y) % 18446744073709551616 := by rw [hs, IntKind.wrap_u64]
      have ht2 : t = (s - c) % 18446744073709551616 := by rw [ht, IntKind.wrap_u64]
      have htw : t = wdM a b k := by unfold wdM; rw [← hx, ← hy, ← hc, ht2, hs2]; omega
      have hcy : cyM a b (k + 1) = if (x < y) ∨ (s < c) then 1 else 0 := by
        show (if _ then _ else _) = _
        rw [← hx, ← hy, ← hc]
        by_cases h1 : (x < y) ∨ (s < c)
        · rw [if_pos h1, if_pos (by omega)]
        · rw [if_neg h1, if_neg (by omega)]
      have ca := w4_cell HK.out.ha hk4
      have cb := w4_cell HK.out.hb hk4
      have cc := w4_cell HK.out.hc hk4
      have cf := frozr HK.out.hc k
      rw [← hx] at ca
      rw [← hy] at cb
      have HT := Lib.hid htw; have HC := Lib.hid hcy; have HS := Lib.hid hs.symm; have HTT := Lib.hid ht.symm
      have hwj : IntKind.i64.wrap ((k : Int) + 1) = (k : Int) + 1 := by rw [IntKind.wrap_i64]; omega
      have i0 : (0 : Int) ≤ (k : Int) := by omega
      have i1 : (k : Int) < 4 := by omega
      have hs0 : 0 ≤ s ∧ s < 18446744073709551616 := by omega
      rw [← hc]
      have HCC := Lib.hid hc
      clear hx hy hc hs ht hs2 ht2 htw hcy hx1 hy1 hc1 hs0
      by_cases g1 : x < y
      · have G1 := Lib.hid g1
        have es := HS.out
        have et := HTT.out
        go_wp2_with fail
        go_quiet (fail)
        go_wp2_with fail
        go_quiet (fail)
        go_wp2_with fail
        go_roundw
        case rel => exact ⟨k + 1, by omega, by go_num, by rw [HC.out, if_pos (.inl G1.out)], ⟨by rw [HT.out]; first | exact (HK.out.drewN _).put hk4 | exact ((HK.out.drewN _).put hk4).drewN _⟩⟩
        case measure => simp [intOf]; omega
      · by_cases g2 : s < c
        · have G2 := Lib.hid g2
          have es := HS.out
          have et := HTT.out
          go_wp2_with fail
          go_quiet (fail)
          go_wp2_with fail
          go_quiet (fail)
          go_wp2_with fail
          go_roundw
          case rel => exact ⟨k + 1, by omega, by go_num, by rw [HC.out, if_pos (.inr G2.out)], ⟨by rw [HT.out]; first | exact (HK.out.drewN _).put hk4 | exact ((HK.out.drewN _).put hk4).drewN _⟩⟩
          case measure => simp [intOf]; omega
        · skip
          have G1 := Lib.hid g1; have G2 := Lib.hid g2
          have es := HS.out
          have et := HTT.out
          go_wp2_with fail
          go_quiet (fail)
          go_wp2_with fail
          go_quiet (fail)
          go_wp2_with fail
          go_roundw
          case rel => exact ⟨k + 1, by omega, by go_num, by rw [HC.out, if_neg (fun h => h.elim (Int.not_lt.2 G1.out) (Int.not_lt.2 G2.out))], ⟨by rw [HT.out]; first | exact (HK.out.drewN _).put hk4 | exact ((HK.out.drewN _).put hk4).drewN _⟩⟩
          case measure => simp [intOf]; omega
    · obtain rfl : k = 4 := by omega
      have hh := HK.out.hc
      rw [w4_all] at hh
      have hz := HK.out.hz
      obtain ⟨c0, c1, c2, c3⟩ : wr.cell? ⟨w.heap.size + 1 + 1 + 1, 0, none⟩ = _ ∧ wr.cell? ⟨w.heap.size + 1 + 1 + 1, 1, none⟩ = _ ∧ wr.cell? ⟨w.heap.size + 1 + 1 + 1, 2, none⟩ = _ ∧ wr.cell? ⟨w.heap.size + 1 + 1 + 1, 3, none⟩ = _ := ⟨w4_cell hh (k := 0) (by decide), w4_cell hh (k := 1) (by decide), w4_cell hh (k := 2) (by decide), w4_cell hh (k := 3) (by decide)⟩
      obtain ⟨z0, z1, z2, z3⟩ : wr.cell? ⟨w.heap.size + 1 + 1, 0, none⟩ = _ ∧ wr.cell? ⟨w.heap.size + 1 + 1, 1, none⟩ = _ ∧ wr.cell? ⟨w.heap.size + 1 + 1, 2, none⟩ = _ ∧ wr.cell? ⟨w.heap.size + 1 + 1, 3, none⟩ = _ := ⟨w4_cell hz (k := 0) (by decide), w4_cell hz (k := 1) (by decide), w4_cell hz (k := 2) (by decide), w4_cell hz (k := 3) (by decide)⟩
      have f0 := frozr hz 0; have f1 := frozr hz 1; have f2 := frozr hz 2; have f3 := frozr hz 3
      have HZ := Lib.hid hz
      clear hh hz
      go_wp2_with fail
      (try simp only [Exit.inBlock, Exit.then])
      refine bodyPost_ret (results_cell_row rfl _ _ (w.heap.size + 1 + 1) 56 (w4 (wdM a b)) (0, 0) _ rfl (by rw [heap_set _ (heap_set _ (heap_set _ (heap_set _ HZ.out)))]; rfl) Try.underlying56 rfl (by kernel_rfl)) rfl ?_
      exact ⟨rfl, (((HK.out.bw.setCell (by show w.heap.size ≤ w.heap.size + 1 + 1; omega) _).setCell (by show w.heap.size ≤ w.heap.size + 1 + 1; omega) _).setCell (by show w.heap.size ≤ w.heap.size + 1 + 1; omega) _).setCell (by show w.heap.size ≤ w.heap.size + 1 + 1; omega) _⟩
end Go.Proofs.Ytjidjbjbngbhpaa
