/- The reference's net: Send, Take, Copy (printed by a program of mine, mkrefnet.py). -/
import Derived.Test.YtenbjmgmgdkapaaNetPa
import Derived.Test.YtenbjmgmgdkapaaRow
import Derived.Test.YtenbjmgmgdkapaaNetV
import Derived.Test.YtenbjmgmgdkapaaWLast
import Derived.Deep.QuietTactic
import Derived.BigQuiet
set_option linter.unusedVariables false
set_option linter.unusedSimpArgs false
namespace Go.Proofs.Ytenbjmgmgdkapaa
open Go.RowKit Go.Proofs.YtenbjmgmgdkapaaW.PrintWords Go.Proofs.YtenbjmgmgdkapaaW.PrintLast Go.Proofs.Ytenbjmgmgdkapaa.K Go.Proofs.Ytenbjmgmgdkapaa.Row

theorem infoR : (Try.prog.info? 52).map (fun i => (i.zero.map (·.cells.size), i.size, i.bytes)) = some (some 4, 4, 48) := by kernel_rfl
theorem refInfo : ∃ i z, Try.prog.info? 52 = some i ∧ i.zero = some z ∧ i.size = 4 ∧ i.bytes = 48 ∧ z.cells.size = 4 := by
  obtain ⟨i, hi, h⟩ := Option.map_eq_some_iff.1 infoR
  simp only [Prod.mk.injEq] at h
  obtain ⟨hz, h1, h2⟩ := h
  obtain ⟨z, hz1, hz2⟩ := Option.map_eq_some_iff.1 hz
  exact ⟨i, z, hi, hz1, h1, h2, hz2⟩
/-- The reference's net in block r. -/
structure RefS (w : World) (base r : Nat) (room : Int) (f : Nat → Nat → Bool) (L : List Pk) : Prop where
  cl : ∃ A c, w.heap[r]? = some (.cells (refC room (.slice A L.length c) f) 47 (0, 0)) ∧ w.ownsRow base 52 4 (.slice A L.length c) L.length (pkCells L)
  bd : ∀ p ∈ L, w.ownsRow base 5 1 p.val p.b.length (nums .u8 p.b)
  br : base ≤ r
  bw : base ≤ w.heap.size
theorem RefS.lt {w : World} {base r : Nat} {room : Int} {f : Nat → Nat → Bool} {L : List Pk} (h : RefS w base r room f L) : r < w.heap.size := by
  obtain ⟨A, c, h1, _⟩ := h.cl; exact lt_of_heap h1
theorem RefS.chg {S : Nat → Prop} {w w' : World} {base r : Nat} {room : Int} {f : Nat → Nat → Bool} {L : List Pk} (h : RefS w base r room f L) (hc : Chg S w w') (h1 : ¬ S r) (h2 : ∀ V k M, w.ownsRow base 52 4 V k M → ∀ g, V.ownBlock = some g → ¬ S g) (h3 : ∀ p ∈ L, ∀ g, p.val.ownBlock = some g → ¬ S g) : RefS w' base r room f L := by
  obtain ⟨A, c, g1, g2⟩ := h.cl
  exact ⟨⟨A, c, hc.keep g1 h1, hc.own g2 (h2 _ _ _ g2)⟩, fun p hp => hc.own (h.bd p hp) (h3 p hp), h.br, Nat.le_trans h.bw hc.size⟩
theorem RefS.below {w w' : World} {base r : Nat} {room : Int} {f : Nat → Nat → Bool} {L : List Pk} (h : RefS w base r room f L) (hb : Below w.heap.size w w') : RefS w' base r room f L :=
  h.chg (S := fun _ => False) (Chg.ofBelow hb) (fun h => h) (fun _ _ _ _ _ _ h => h) (fun _ _ _ _ h => h)
theorem infoU8 : ∃ i z, Try.prog.info? 5 = some i ∧ i.zero = some z ∧ i.size = 1 ∧ i.bytes = 1 ∧ z.cells.size = 1 := by
  have h : (Try.prog.info? 5).map (fun i => (i.zero.map (·.cells.size), i.size, i.bytes)) = some (some 1, 1, 1) := by kernel_rfl
  obtain ⟨i, hi, h⟩ := Option.map_eq_some_iff.1 h
  simp only [Prod.mk.injEq] at h
  obtain ⟨hz, h1, h2⟩ := h
  obtain ⟨z, hz1, hz2⟩ := Option.map_eq_some_iff.1 hz
  exact ⟨i, z, hi, hz1, h1, h2, hz2⟩
theorem lit1_of {B : Nat} {W0 W : World} (_ : Below B W0 W) (cs : List Value) (e : TypeId) (size : Nat) (hl : cs.length = size) (h1 : ∀ u ∈ cs, u.oneCell' = true) : ReadsC (W.alloc (.cells cs.toArray e)) size (some ⟨W.heap.size, 0, none⟩) 1 cs := lit1_reads W cs e size hl h1
theorem lit0_of {B : Nat} {W0 W : World} (_ : Below B W0 W) (base : Nat) (e : TypeId) (size : Nat) (hb : base ≤ W.heap.size) : (W.alloc (.cells #[] e)).ownsRow base e size (.slice (some ⟨W.heap.size, 0, none⟩) 0 0) 0 [] := lit0_own W base e size hb
theorem alloc_in {B : Nat} {W w : World} (h : Below B W w) (hb : B ≤ W.heap.size) (o : Obj) : Below B W (w.alloc o) := h.alloc (Nat.le_trans hb h.size) o
/-- What the store of the new row leaves; boxes of the call's own may be written, too. -/
theorem ref_fin {w w1 w4 w5 : World} {base r : Nat} {room : Int} {f : Nat → Nat → Bool} {L L' : List Pk} {A1 : Option Addr} {k c1 : Nat} (hS : RefS w base r room f L) (hb1 : Below w.heap.size w w1) (h4 : Below w1.heap.size w1 w4) (hk : L'.length = k)
    (ho : w4.ownsRow w1.heap.size 52 4 (.slice A1 k c1) k (pkCells L')) (hbd : ∀ p ∈ L', p ∈ L ∨ w4.ownsRow w1.heap.size 5 1 p.val p.b.length (nums .u8 p.b))
    (h5 : w5.heap[r]? = some (.cells (refC room (.slice A1 k c1) f) 47 (0, 0))) (hc5 : Chg (fun b => b = r ∨ (w.heap.size ≤ b ∧ b < w1.heap.size)) w4 w5) :
    RefS w5 base r room f L' ∧ w.grownBy w5 (some r) ∧ (∀ p ∈ L, w5.ownsRow base 5 1 p.val p.b.length (nums .u8 p.b)) ∧ ∀ V k xs, w4.ownsRow w1.heap.size 5 1 V k xs → w5.ownsRow w.heap.size 5 1 V k xs := by
  obtain ⟨A, c, g1, g2⟩ := hS.cl
  have hb4 : Below w.heap.size w w4 := below_then hb1 hb1.size h4
  have hr4 := heap_keep hb4 g1
  have hlt := hS.lt
  have up : ∀ {sz n : Nat} {e : TypeId} {V : Value} {M : List Value}, w4.ownsRow w1.heap.size e sz V n M → w5.ownsRow w1.heap.size e sz V n M := fun hV => hc5.own hV (fun g hg hs => by
    have h6 := own_base hV g hg
    have := hb1.size
    rcases hs with rfl | ⟨_, h⟩ <;> omega)
  have old : ∀ p ∈ L, w5.ownsRow base 5 1 p.val p.b.length (nums .u8 p.b) := fun p hp => hc5.own (pw_own_below (hS.bd p hp) hb4) (fun g hg hs => by
    have h7 := own_lt (hS.bd p hp) g hg
    rcases hs with rfl | ⟨h, _⟩
    · obtain ⟨cs, h8⟩ := own_typed (hS.bd p hp) g hg
      rw [g1] at h8; injection h8 with h8; injection h8 with _ h8; exact absurd h8 (by decide)
    · omega)
  refine ⟨⟨⟨A1, c1, by rw [hk]; exact h5, by rw [hk]; exact own_base_le (up ho) (Nat.le_trans hS.bw hb1.size)⟩, fun p hp => ?_, hS.br, Nat.le_trans hS.bw (Nat.le_trans hb4.size hc5.size)⟩, ?_, old, fun V k xs h => own_base_le (up h) hb1.size⟩
  · rcases hbd p hp with h | h
    · exact old p h
    · exact own_base_le (up h) (Nat.le_trans hS.bw hb1.size)
  · exact ⟨hc5.os.trans hb4.os, hc5.tape.trans hb4.tape, hc5.output.trans hb4.output, Nat.le_trans hb4.size hc5.size, fun q hq hne => (hc5.block q (Nat.lt_of_lt_of_le hq hb4.size) (fun h => by
      rcases h with rfl | ⟨h, _⟩
      · exact hne rfl
      · omega)).trans (hb4.block q hq)⟩

set_option maxRecDepth 100000 in
set_option maxHeartbeats 4000000 in
theorem rsend_ok (base r : Nat) (room : Int) (f : Nat → Nat → Bool) (L : List Pk) (a b : Nat) (A : Option Addr) (n c : Nat) (xs : List Int) (w : World) (ha : a < 16) (hb : b < 16) (hn : n ≤ 32768) (hS : RefS w base r room f L) (hr : ReadsInt w .u8 A n xs)
    (hf : f a b = false) (hl : (L.length : Int) < room) (hL : L.length ≤ 100000) :
    Calls Try.prog 18 #[.pointer (some ⟨r, 0, none⟩), .agg #[.int .i64 (a : Int), .int .i64 (b : Int), .slice A n c, .bool false]] w fun e w' => ∃ A1 c1, e = .returned (.int .i64 0) ∧ RefS w' base r room f (L ++ [⟨a, b, A1, c1, xs, false⟩]) ∧ w.grownBy w' (some r) ∧ w'.ownsRow w.heap.size 5 1 (.slice A1 n c1) n (nums .u8 xs) := by
  obtain ⟨Al, cl, hc, ho⟩ := hS.cl
  obtain ⟨w0, hw0⟩ : ∃ w0, w0 = w.alloc (.cells #[.int .i64 (a : Int), .int .i64 (b : Int), .slice A n c, .bool false] 52) := ⟨_, rfl⟩
  have hb0 : Below w.heap.size w w0 := by rw [hw0]; exact alloc_back _
  have q0 : w0.heap[w.heap.size]? = some (.cells #[.int .i64 (a : Int), .int .i64 (b : Int), .slice A n c, .bool false] 52 (0, 0)) := by rw [hw0]; exact heap_alloc_new _ _
  have hc0 := heap_keep hb0 hc
  obtain ⟨u0, u1⟩ := ref_cells hc0
  have uc := ref_cut hc0 a b ha hb
  rw [hf] at uc
  obtain ⟨z0, z1, z2⟩ : w0.cell? ⟨w.heap.size, 0, none⟩ = some (.int .i64 (a : Int)) ∧ w0.cell? ⟨w.heap.size, 1, none⟩ = some (.int .i64 (b : Int)) ∧ w0.cell? ⟨w.heap.size, 2, none⟩ = some (.slice A n c) := by simp [World.cell?, q0]
  have hge : ¬ (room ≤ (L.length : Int)) := by omega
  have h1 : (a : Int) < 16 := by omega
  have h2 : (b : Int) < 16 := by omega
  have h3 : ¬ (32768 : Int) < (n : Int) := by omega
  have HWA := Lib.hid (fun w => rid_yes a ha w)
  have HWB := Lib.hid (fun w => rid_yes b hb w)
  obtain ⟨i0, z0', hi, hz0, hz1, hz2, hz3⟩ := refInfo
  have HI := Lib.hid (And.intro hi (And.intro hz0 (And.intro hz1 (And.intro hz2 hz3))))
  have HS := Lib.hid hS; have HC := Lib.hid hc0; have HO := Lib.hid (pw_own_below ho hb0); have HR := Lib.hid (hr.below hb0); have B0 := Lib.hid hb0
  obtain ⟨i1, z1', hj, hj0, hj1, hj2, hj3⟩ := infoU8
  have HJ := Lib.hid (And.intro hj (And.intro hj0 (And.intro hj1 (And.intro hj2 hj3))))
  clear hj hj0 hj1 hj2 hj3
  clear hi hz0 hz1 hz2 hz3 hS hc ho hr hb0 hc0 q0 hf
  go_enter Try.func18, Try.ntmps18
  go_wp2_with (first
    | (go_at_call 27; with_reducible refine (HWA.out _).mono ?_; rintro e w' ⟨rfl, rfl⟩)
    | (go_at_call 27; with_reducible refine (HWB.out _).mono ?_; rintro e w' ⟨rfl, rfl⟩))
  rw [← hw0]
  clear hw0
  go_quiet (fail)
  revert nq; intro nqa
  go_wp2_with fail
  go_quiet (fail)
  go_wp2_with fail
  obtain ⟨w1, hw1⟩ : ∃ w1, w1 = (w0.drewN nqa).drewN nq := ⟨_, rfl⟩
  have hb01 : Below w0.heap.size w0 w1 := by rw [hw1]; exact pw_below_drewN (pw_below_drewN (Below.refl _ _) _) _
  have hs1 : w.heap.size ≤ w1.heap.size := Nat.le_trans B0.out.size hb01.size
  have B1 : Hid (Below w.heap.size w w1) := Lib.hid (below_then B0.out B0.out.size hb01)
  have O1 := Lib.hid (ReadsC.ofOwn (pw_own_below HO.out hb01) (Go.Proofs.Ytenbjmgmgdkapaa.pk_one L)); have R1 := Lib.hid (HR.out.below hb01)
  have v0 := pw_cell_below hb01 z0; have v1 := pw_cell_below hb01 z1; have v2 := pw_cell_below hb01 z2; have x1 := pw_cell_below hb01 u1
  have hfz : w1.frozen? ⟨r, 1, none⟩ = false := froz (heap_keep hb01 HC.out) 1
  have HKP := Lib.hid ((fun W h => ⟨pw_cell_below h v0, pw_cell_below h v1, pw_cell_below h v2, pw_cell_below h x1⟩) : ∀ W : World, Below w1.heap.size w1 W → W.cell? ⟨w.heap.size, 0, none⟩ = some (.int .i64 (a : Int)) ∧ W.cell? ⟨w.heap.size, 1, none⟩ = some (.int .i64 (b : Int)) ∧ W.cell? ⟨w.heap.size, 2, none⟩ = some (.slice A n c) ∧ W.cell? ⟨r, 1, none⟩ = some (.slice Al L.length cl))
  have HFZ := Lib.hid ((fun W h => froz (heap_keep h (heap_keep hb01 HC.out)) 1) : ∀ W : World, Below w1.heap.size w1 W → W.frozen? ⟨r, 1, none⟩ = false)
  have hq : Below w1.heap.size w1 w1.drew := below_drew (Below.refl _ _)
  have B1' : Below w0.heap.size w0 w1 := hb01
  rw [← hw1]
  clear hw1 hb01 z0 z1 z2 u0 u1 uc hfz
  refine start_ (n := 21) (S := fun w' => w'.cell? ⟨w.heap.size, 0, none⟩ = some (.int .i64 (a : Int)) ∧ w'.cell? ⟨w.heap.size, 1, none⟩ = some (.int .i64 (b : Int)) ∧ w'.cell? ⟨w.heap.size, 2, none⟩ = some (.slice A n c) ∧ w'.cell? ⟨r, 1, none⟩ = some (.slice Al L.length cl)) (ds := [20]) #[false, false, false, false, false, false, false, false, false, false, false, false, false, false, false, false, false, false, false, false, false] (by kernel_rfl) rfl rfl (⟨v0, v1, v2, x1⟩) (fun hHeld => ?_)
  refine pure_ (i := 0) (N := some 41) (v := ?_) (a' := ?_) #[true, false, false, false, false, false, false, false, false, false, false, false, false, false, false, false, false, false, false, false, false] rfl rfl (by kernel_rfl) (fun _ _ _ h => h) (Or.inl ⟨by rfl, ?_⟩) ?_ ?_
  rotate_left
  · intro w'
    go_simp
    (try with_reducible rfl)
  rotate_left
  · simp only [Act.put, List.setIfInBounds_toArray, List.set_cons_zero, List.set_cons_succ]
    rfl
  refine pure_ (i := 2) (N := some 43) (v := ?_) (a' := ?_) #[true, false, true, false, false, false, false, false, false, false, false, false, false, false, false, false, false, false, false, false, false] rfl rfl (by kernel_rfl) (fun _ _ _ h => h) (Or.inl ⟨by rfl, ?_⟩) ?_ ?_
  rotate_left
  · intro w'
    go_simp
    (try with_reducible rfl)
  rotate_left
  · simp only [Act.put, List.setIfInBounds_toArray, List.set_cons_zero, List.set_cons_succ]
    rfl
  refine pure_ (i := 3) (N := some 44) (v := ?_) (a' := ?_) #[true, false, true, true, false, false, false, false, false, false, false, false, false, false, false, false, false, false, false, false, false] rfl rfl (by kernel_rfl) (fun _ _ _ h => h) (Or.inl ⟨by rfl, ?_⟩) ?_ ?_
  rotate_left
  · intro w'
    go_simp
    (try with_reducible rfl)
  rotate_left
  · simp only [Act.put, List.setIfInBounds_toArray, List.set_cons_zero, List.set_cons_succ]
    rfl
  refine pure_ (i := 4) (N := some 45) (v := ?_) (a' := ?_) #[true, false, true, true, true, false, false, false, false, false, false, false, false, false, false, false, false, false, false, false, false] rfl rfl (by kernel_rfl) (fun _ _ _ h => h) (Or.inl ⟨by rfl, ?_⟩) ?_ ?_
  rotate_left
  · intro w'
    go_simp
    (try with_reducible rfl)
  rotate_left
  · simp only [Act.put, List.setIfInBounds_toArray, List.set_cons_zero, List.set_cons_succ]
    rfl
  refine take_ (i := 5) (N := some 46) (v := ?_) (a' := ?_) #[true, false, true, true, true, true, false, false, false, false, false, false, false, false, false, false, false, false, false, false, false] rfl rfl (by kernel_rfl) (fun _ _ _ h => h) (Or.inl ⟨by rfl, ?_⟩) hHeld ?_ ?_
  rotate_left
  · rintro w' ⟨s0, s1, s2, s3⟩
    go_simp
    (try with_reducible rfl)
  rotate_left
  · simp only [Act.put, List.setIfInBounds_toArray, List.set_cons_zero, List.set_cons_succ]
    rfl
  refine pure_ (i := 7) (N := some 48) (v := ?_) (a' := ?_) #[true, false, true, true, true, true, false, true, false, false, false, false, false, false, false, false, false, false, false, false, false] rfl rfl (by kernel_rfl) (fun _ _ _ h => h) (Or.inl ⟨by rfl, ?_⟩) ?_ ?_
  rotate_left
  · intro w'
    go_simp
    (try with_reducible rfl)
  rotate_left
  · simp only [Act.put, List.setIfInBounds_toArray, List.set_cons_zero, List.set_cons_succ]
    rfl
  refine take_ (i := 8) (N := some 49) (v := ?_) (a' := ?_) #[true, false, true, true, true, true, false, true, true, false, false, false, false, false, false, false, false, false, false, false, false] rfl rfl (by kernel_rfl) (fun _ _ _ h => h) (Or.inl ⟨by rfl, ?_⟩) hHeld ?_ ?_
  rotate_left
  · rintro w' ⟨s0, s1, s2, s3⟩
    go_simp
    (try with_reducible rfl)
  rotate_left
  · simp only [Act.put, List.setIfInBounds_toArray, List.set_cons_zero, List.set_cons_succ]
    rfl
  refine pure_ (i := 9) (N := some 50) (v := ?_) (a' := ?_) #[true, false, true, true, true, true, false, true, true, true, false, false, false, false, false, false, false, false, false, false, false] rfl rfl (by kernel_rfl) (fun _ _ _ h => h) (Or.inl ⟨by rfl, ?_⟩) ?_ ?_
  rotate_left
  · intro w'
    go_simp
    (try with_reducible rfl)
  rotate_left
  · simp only [Act.put, List.setIfInBounds_toArray, List.set_cons_zero, List.set_cons_succ]
    rfl
  refine take_ (i := 10) (N := some 51) (v := ?_) (a' := ?_) #[true, false, true, true, true, true, false, true, true, true, true, false, false, false, false, false, false, false, false, false, false] rfl rfl (by kernel_rfl) (fun _ _ _ h => h) (Or.inl ⟨by rfl, ?_⟩) hHeld ?_ ?_
  rotate_left
  · rintro w' ⟨s0, s1, s2, s3⟩
    go_simp
    (try with_reducible rfl)
  rotate_left
  · simp only [Act.put, List.setIfInBounds_toArray, List.set_cons_zero, List.set_cons_succ]
    rfl
  refine pure_ (i := 12) (N := some 53) (v := ?_) (a' := ?_) #[true, false, true, true, true, true, false, true, true, true, true, false, true, false, false, false, false, false, false, false, false] rfl rfl (by kernel_rfl) (fun _ _ _ h => h) (Or.inl ⟨by rfl, ?_⟩) ?_ ?_
  rotate_left
  · intro w'
    go_simp
    (try with_reducible rfl)
  rotate_left
  · simp only [Act.put, List.setIfInBounds_toArray, List.set_cons_zero, List.set_cons_succ]
    rfl
  refine take_ (i := 13) (N := some 54) (v := ?_) (a' := ?_) #[true, false, true, true, true, true, false, true, true, true, true, false, true, true, false, false, false, false, false, false, false] rfl rfl (by kernel_rfl) (fun _ _ _ h => h) (Or.inl ⟨by rfl, ?_⟩) hHeld ?_ ?_
  rotate_left
  · rintro w' ⟨s0, s1, s2, s3⟩
    go_simp
    (try with_reducible rfl)
  rotate_left
  · simp only [Act.put, List.setIfInBounds_toArray, List.set_cons_zero, List.set_cons_succ]
    rfl
  refine two_ (i := 1) (j := 11) (Ni := some 42) (Nj := some 52) #[true, true, true, true, true, true, false, true, true, true, true, false, true, true, false, false, false, false, false, false, false] #[true, false, true, true, true, true, false, true, true, true, true, true, true, true, false, false, false, false, false, false, false] rfl rfl rfl rfl (by kernel_rfl) (by decide) (by decide) (fun K hK => ?_) (fun K hK => ?_)
  · skip
    go_simp
    have hqn := alloc_below hq hq.size (.cells #[] 52)
    try (have hn := Lib.hid (hl11.out.alloc (.cells #[] 52)); clear hl11; have hl11 := hn; clear hn)
    have hn := lit0_of hq w1.heap.size 52 4 hq.size
    (try simp only [World.size_alloc, hdr] at hn)
    have hl1 := Lib.hid hn
    clear hn
    clear hq
    have hq := hqn
    clear hqn
    refine hK.out _ _ ?_ (fun hHeld2 => ?_)
    · (try dsimp only)
      exact HKP.out _ hq
    clear hHeld hK K
    have hHeld := hHeld2
    clear hHeld2
    try simp only [Act.put, List.setIfInBounds_toArray, List.set_cons_zero, List.set_cons_succ]
    refine two_ (i := 6) (j := 11) (Ni := some 47) (Nj := some 52) #[true, true, true, true, true, true, true, true, true, true, true, false, true, true, false, false, false, false, false, false, false] #[true, true, true, true, true, true, false, true, true, true, true, true, true, true, false, false, false, false, false, false, false] rfl rfl rfl rfl (by kernel_rfl) (by decide) (by decide) (fun K hK => ?_) (fun K hK => ?_)
    · skip
      refine step_app_cells (w0 := w1) w1.heap.size (by rfl) _ _ 43 52 i0 z0' 4 48 (by rfl) Try.underlying43 HI.out.1 HI.out.2.1 HI.out.2.2.1 HI.out.2.2.2.1 HI.out.2.2.2.2 (by decide) (by decide) _ 0 [] (pkCells L) Al L.length cl (by rfl) (by rfl) hl1.out (O1.out.below hq) hq hq.size (by omega) L.length (Nat.zero_add _) ?_
      intro A6 c6 w6 ho6 hB6 hg6 ha6
      try (have hn := Lib.hid (hl11.out.kept hg6 (own_type_ne hl11.out hl1.out (by decide))); clear hl11; have hl11 := hn; clear hn)
      clear hl1
      have hl6 := Lib.hid ho6
      clear hq
      have hq := hB6
      clear hB6 ho6 hg6 ha6
      refine hK.out _ _ ?_ (fun hHeld2 => ?_)
      · (try dsimp only)
        exact HKP.out _ hq
      clear hHeld hK K
      have hHeld := hHeld2
      clear hHeld2
      try simp only [Act.put, List.setIfInBounds_toArray, List.set_cons_zero, List.set_cons_succ]
      refine one_ (i := 11) (N := some 52) #[true, true, true, true, true, true, true, true, true, true, true, true, true, true, false, false, false, false, false, false, false] rfl rfl (by kernel_rfl) (by decide) (fun K hK => ?_)
      go_simp
      have hqn := alloc_below hq hq.size (.cells #[] 5)
      try (have hn := Lib.hid (hl1.out.alloc (.cells #[] 5)); clear hl1; have hl1 := hn; clear hn)
      try (have hn := Lib.hid (hl6.out.alloc (.cells #[] 5)); clear hl6; have hl6 := hn; clear hn)
      have hn := lit0_of hq w1.heap.size 5 1 hq.size
      (try simp only [World.size_alloc, hdr] at hn)
      have hl11 := Lib.hid hn
      clear hn
      clear hq
      have hq := hqn
      clear hqn
      refine hK.out _ _ ?_ (fun hHeld2 => ?_)
      · (try dsimp only)
        exact HKP.out _ hq
      clear hHeld hK K
      have hHeld := hHeld2
      clear hHeld2
      try simp only [Act.put, List.setIfInBounds_toArray, List.set_cons_zero, List.set_cons_succ]
      refine one_ (i := 14) (N := some 55) #[true, true, true, true, true, true, true, true, true, true, true, true, true, true, true, false, false, false, false, false, false] rfl rfl (by kernel_rfl) (by decide) (fun K hK => ?_)
      refine step_app_cells (w0 := w1) w1.heap.size (by rfl) _ _ 28 5 i1 z1' 1 1 (by rfl) Try.underlying28 HJ.out.1 HJ.out.2.1 HJ.out.2.2.1 HJ.out.2.2.2.1 HJ.out.2.2.2.2 (by decide) (by decide) _ 0 [] (nums .u8 xs) A n c (by rfl) (by rfl) hl11.out ((ReadsC.ofInts R1.out).below hq) hq hq.size (by omega) n (Nat.zero_add _) ?_
      intro A14 c14 w14 ho14 hB14 hg14 ha14
      try (have hn := Lib.hid (hl6.out.kept hg14 (own_type_ne hl6.out hl11.out (by decide))); clear hl6; have hl6 := hn; clear hn)
      clear hl11
      have hl14 := Lib.hid ho14
      clear hq
      have hq := hB14
      clear hB14 ho14 hg14 ha14
      refine hK.out _ _ ?_ (fun hHeld2 => ?_)
      · (try dsimp only)
        exact HKP.out _ hq
      clear hHeld hK K
      have hHeld := hHeld2
      clear hHeld2
      try simp only [Act.put, List.setIfInBounds_toArray, List.set_cons_zero, List.set_cons_succ]
      refine pure_ (i := 15) (N := some 56) (v := ?_) (a' := ?_) #[true, true, true, true, true, true, true, true, true, true, true, true, true, true, true, true, false, false, false, false, false] rfl rfl (by kernel_rfl) (fun _ _ _ h => h) (Or.inl ⟨by rfl, ?_⟩) ?_ ?_
      rotate_left
      · intro w'
        go_simp
        (try with_reducible rfl)
      rotate_left
      · simp only [Act.put, List.setIfInBounds_toArray, List.set_cons_zero, List.set_cons_succ]
        rfl
      refine one_ (i := 16) (N := some 57) #[true, true, true, true, true, true, true, true, true, true, true, true, true, true, true, true, true, false, false, false, false] rfl rfl (by kernel_rfl) (by decide) (fun K hK => ?_)
      go_simp
      have hqn := alloc_below hq hq.size (.cells #[.int .i64 (a : Int), .int .i64 (b : Int), .slice A14 n c14, .bool false] 52)
      try (have hn := Lib.hid (hl6.out.alloc (.cells #[.int .i64 (a : Int), .int .i64 (b : Int), .slice A14 n c14, .bool false] 52)); clear hl6; have hl6 := hn; clear hn)
      try (have hn := Lib.hid (hl14.out.alloc (.cells #[.int .i64 (a : Int), .int .i64 (b : Int), .slice A14 n c14, .bool false] 52)); clear hl14; have hl14 := hn; clear hn)
      have hn := lit1_of hq [.int .i64 (a : Int), .int .i64 (b : Int), .slice A14 n c14, .bool false] 52 4 rfl (by simp [Value.oneCell'])
      (try simp only [World.size_alloc, hdr] at hn)
      have hl16 := Lib.hid hn
      clear hn
      clear hq
      have hq := hqn
      clear hqn
      refine hK.out _ _ ?_ (fun hHeld2 => ?_)
      · (try dsimp only)
        exact HKP.out _ hq
      clear hHeld hK K
      have hHeld := hHeld2
      clear hHeld2
      try simp only [Act.put, List.setIfInBounds_toArray, List.set_cons_zero, List.set_cons_succ]
      refine one_ (i := 17) (N := some 58) #[true, true, true, true, true, true, true, true, true, true, true, true, true, true, true, true, true, true, false, false, false] rfl rfl (by kernel_rfl) (by decide) (fun K hK => ?_)
      refine step_app_cells (w0 := w1) w1.heap.size (by rfl) _ _ 43 52 i0 z0' 4 48 (by rfl) Try.underlying43 HI.out.1 HI.out.2.1 HI.out.2.2.1 HI.out.2.2.2.1 HI.out.2.2.2.2 (by decide) (by decide) _ L.length ([] ++ pkCells L) [.int .i64 (a : Int), .int .i64 (b : Int), .slice A14 n c14, .bool false] _ 1 1 (by rfl) (by rfl) hl6.out (hl16.out) hq hq.size (by omega) (L.length + 1) rfl ?_
      intro A17 c17 w17 ho17 hB17 hg17 ha17
      try (have hn := Lib.hid (hl14.out.kept hg17 (own_type_ne hl14.out hl6.out (by decide))); clear hl14; have hl14 := hn; clear hn)
      clear hl6
      have hl17 := Lib.hid ho17
      clear hq
      have hq := hB17
      clear hB17 ho17 hg17 ha17
      have fz := HFZ.out _ hq
      have cz := (HKP.out _ hq).2.2.2
      refine hK.out _ _ ?_ (fun hHeld2 => ?_)
      · (try dsimp only)
        exact HKP.out _ hq
      clear hHeld hK K
      have hHeld := hHeld2
      clear hHeld2
      try simp only [Act.put, List.setIfInBounds_toArray, List.set_cons_zero, List.set_cons_succ]
      refine pure_ (i := 18) (N := some 59) (v := ?_) (a' := ?_) #[true, true, true, true, true, true, true, true, true, true, true, true, true, true, true, true, true, true, true, false, false] rfl rfl (by kernel_rfl) (fun _ _ _ h => h) (Or.inl ⟨by rfl, ?_⟩) ?_ ?_
      rotate_left
      · intro w'
        go_simp
        (try with_reducible rfl)
      rotate_left
      · simp only [Act.put, List.setIfInBounds_toArray, List.set_cons_zero, List.set_cons_succ]
        rfl
      refine pure_ (i := 19) (N := some 60) (v := ?_) (a' := ?_) #[true, true, true, true, true, true, true, true, true, true, true, true, true, true, true, true, true, true, true, true, false] rfl rfl (by kernel_rfl) (fun _ _ _ h => h) (Or.inl ⟨by rfl, ?_⟩) ?_ ?_
      rotate_left
      · intro w'
        go_simp
        (try with_reducible rfl)
      rotate_left
      · simp only [Act.put, List.setIfInBounds_toArray, List.set_cons_zero, List.set_cons_succ]
        rfl
      refine last_ (i := 20) (N := none) #[true, true, true, true, true, true, true, true, true, true, true, true, true, true, true, true, true, true, true, true, true] rfl rfl (by kernel_rfl) (by decide) (fun K hK => ?_)
      go_simp
      refine hK.out _ _ ?_
      (try clear hHeld)
      clear hK K
      try simp only [Act.put, List.setIfInBounds_toArray, List.set_cons_zero, List.set_cons_succ]
      refine wpAnyLast_done (by kernel_rfl) ?_ _
      have hF := ref_fin (L' := L ++ [⟨a, b, A14, c14, xs, false⟩]) (k := L.length + 1) (A1 := A17) (c1 := c17) HS.out B1.out hq (by simp) (by simpa [pkCells, Pk.cells, Pk.val, (R1.out).1] using hl17.out) (fun p hp => by
        rcases List.mem_append.1 hp with hp | hp
        · exact .inl hp
        · obtain rfl := List.mem_singleton.1 hp
          refine .inr ?_
          have h := hl14.out
          simpa [Pk.val, (R1.out).1] using h) (ref_put (heap_keep hq (heap_keep B1' HC.out)) _) (Chg.ofGrown (grown_set _) (fun k e => by injection e with e; exact .inl e.symm))
      go_wp2_with fail
      go_ret
      refine ⟨A14, c14, rfl, hF.1, hF.2.1, ?_⟩
      have h := hF.2.2.2 _ _ _ hl14.out
      simpa using h
    go_simp
    have hqn := alloc_below hq hq.size (.cells #[] 5)
    try (have hn := Lib.hid (hl1.out.alloc (.cells #[] 5)); clear hl1; have hl1 := hn; clear hn)
    try (have hn := Lib.hid (hl6.out.alloc (.cells #[] 5)); clear hl6; have hl6 := hn; clear hn)
    have hn := lit0_of hq w1.heap.size 5 1 hq.size
    (try simp only [World.size_alloc, hdr] at hn)
    have hl11 := Lib.hid hn
    clear hn
    clear hq
    have hq := hqn
    clear hqn
    refine hK.out _ _ ?_ (fun hHeld2 => ?_)
    · (try dsimp only)
      exact HKP.out _ hq
    clear hHeld hK K
    have hHeld := hHeld2
    clear hHeld2
    try simp only [Act.put, List.setIfInBounds_toArray, List.set_cons_zero, List.set_cons_succ]
    refine one_ (i := 6) (N := some 47) #[true, true, true, true, true, true, true, true, true, true, true, true, true, true, false, false, false, false, false, false, false] rfl rfl (by kernel_rfl) (by decide) (fun K hK => ?_)
    refine step_app_cells (w0 := w1) w1.heap.size (by rfl) _ _ 43 52 i0 z0' 4 48 (by rfl) Try.underlying43 HI.out.1 HI.out.2.1 HI.out.2.2.1 HI.out.2.2.2.1 HI.out.2.2.2.2 (by decide) (by decide) _ 0 [] (pkCells L) Al L.length cl (by rfl) (by rfl) hl1.out (O1.out.below hq) hq hq.size (by omega) L.length (Nat.zero_add _) ?_
    intro A6 c6 w6 ho6 hB6 hg6 ha6
    try (have hn := Lib.hid (hl11.out.kept hg6 (own_type_ne hl11.out hl1.out (by decide))); clear hl11; have hl11 := hn; clear hn)
    clear hl1
    have hl6 := Lib.hid ho6
    clear hq
    have hq := hB6
    clear hB6 ho6 hg6 ha6
    refine hK.out _ _ ?_ (fun hHeld2 => ?_)
    · (try dsimp only)
      exact HKP.out _ hq
    clear hHeld hK K
    have hHeld := hHeld2
    clear hHeld2
    try simp only [Act.put, List.setIfInBounds_toArray, List.set_cons_zero, List.set_cons_succ]
    refine one_ (i := 14) (N := some 55) #[true, true, true, true, true, true, true, true, true, true, true, true, true, true, true, false, false, false, false, false, false] rfl rfl (by kernel_rfl) (by decide) (fun K hK => ?_)
    refine step_app_cells (w0 := w1) w1.heap.size (by rfl) _ _ 28 5 i1 z1' 1 1 (by rfl) Try.underlying28 HJ.out.1 HJ.out.2.1 HJ.out.2.2.1 HJ.out.2.2.2.1 HJ.out.2.2.2.2 (by decide) (by decide) _ 0 [] (nums .u8 xs) A n c (by rfl) (by rfl) hl11.out ((ReadsC.ofInts R1.out).below hq) hq hq.size (by omega) n (Nat.zero_add _) ?_
    intro A14 c14 w14 ho14 hB14 hg14 ha14
    try (have hn := Lib.hid (hl6.out.kept hg14 (own_type_ne hl6.out hl11.out (by decide))); clear hl6; have hl6 := hn; clear hn)
    clear hl11
    have hl14 := Lib.hid ho14
    clear hq
    have hq := hB14
    clear hB14 ho14 hg14 ha14
    refine hK.out _ _ ?_ (fun hHeld2 => ?_)
    · (try dsimp only)
      exact HKP.out _ hq
    clear hHeld hK K
    have hHeld := hHeld2
    clear hHeld2
    try simp only [Act.put, List.setIfInBounds_toArray, List.set_cons_zero, List.set_cons_succ]
    refine pure_ (i := 15) (N := some 56) (v := ?_) (a' := ?_) #[true, true, true, true, true, true, true, true, true, true, true, true, true, true, true, true, false, false, false, false, false] rfl rfl (by kernel_rfl) (fun _ _ _ h => h) (Or.inl ⟨by rfl, ?_⟩) ?_ ?_
    rotate_left
    · intro w'
      go_simp
      (try with_reducible rfl)
    rotate_left
    · simp only [Act.put, List.setIfInBounds_toArray, List.set_cons_zero, List.set_cons_succ]
      rfl
    refine one_ (i := 16) (N := some 57) #[true, true, true, true, true, true, true, true, true, true, true, true, true, true, true, true, true, false, false, false, false] rfl rfl (by kernel_rfl) (by decide) (fun K hK => ?_)
    go_simp
    have hqn := alloc_below hq hq.size (.cells #[.int .i64 (a : Int), .int .i64 (b : Int), .slice A14 n c14, .bool false] 52)
    try (have hn := Lib.hid (hl6.out.alloc (.cells #[.int .i64 (a : Int), .int .i64 (b : Int), .slice A14 n c14, .bool false] 52)); clear hl6; have hl6 := hn; clear hn)
    try (have hn := Lib.hid (hl14.out.alloc (.cells #[.int .i64 (a : Int), .int .i64 (b : Int), .slice A14 n c14, .bool false] 52)); clear hl14; have hl14 := hn; clear hn)
    have hn := lit1_of hq [.int .i64 (a : Int), .int .i64 (b : Int), .slice A14 n c14, .bool false] 52 4 rfl (by simp [Value.oneCell'])
    (try simp only [World.size_alloc, hdr] at hn)
    have hl16 := Lib.hid hn
    clear hn
    clear hq
    have hq := hqn
    clear hqn
    refine hK.out _ _ ?_ (fun hHeld2 => ?_)
    · (try dsimp only)
      exact HKP.out _ hq
    clear hHeld hK K
    have hHeld := hHeld2
    clear hHeld2
    try simp only [Act.put, List.setIfInBounds_toArray, List.set_cons_zero, List.set_cons_succ]
    refine one_ (i := 17) (N := some 58) #[true, true, true, true, true, true, true, true, true, true, true, true, true, true, true, true, true, true, false, false, false] rfl rfl (by kernel_rfl) (by decide) (fun K hK => ?_)
    refine step_app_cells (w0 := w1) w1.heap.size (by rfl) _ _ 43 52 i0 z0' 4 48 (by rfl) Try.underlying43 HI.out.1 HI.out.2.1 HI.out.2.2.1 HI.out.2.2.2.1 HI.out.2.2.2.2 (by decide) (by decide) _ L.length ([] ++ pkCells L) [.int .i64 (a : Int), .int .i64 (b : Int), .slice A14 n c14, .bool false] _ 1 1 (by rfl) (by rfl) hl6.out (hl16.out) hq hq.size (by omega) (L.length + 1) rfl ?_
    intro A17 c17 w17 ho17 hB17 hg17 ha17
    try (have hn := Lib.hid (hl14.out.kept hg17 (own_type_ne hl14.out hl6.out (by decide))); clear hl14; have hl14 := hn; clear hn)
    clear hl6
    have hl17 := Lib.hid ho17
    clear hq
    have hq := hB17
    clear hB17 ho17 hg17 ha17
    have fz := HFZ.out _ hq
    have cz := (HKP.out _ hq).2.2.2
    refine hK.out _ _ ?_ (fun hHeld2 => ?_)
    · (try dsimp only)
      exact HKP.out _ hq
    clear hHeld hK K
    have hHeld := hHeld2
    clear hHeld2
    try simp only [Act.put, List.setIfInBounds_toArray, List.set_cons_zero, List.set_cons_succ]
    refine pure_ (i := 18) (N := some 59) (v := ?_) (a' := ?_) #[true, true, true, true, true, true, true, true, true, true, true, true, true, true, true, true, true, true, true, false, false] rfl rfl (by kernel_rfl) (fun _ _ _ h => h) (Or.inl ⟨by rfl, ?_⟩) ?_ ?_
    rotate_left
    · intro w'
      go_simp
      (try with_reducible rfl)
    rotate_left
    · simp only [Act.put, List.setIfInBounds_toArray, List.set_cons_zero, List.set_cons_succ]
      rfl
    refine pure_ (i := 19) (N := some 60) (v := ?_) (a' := ?_) #[true, true, true, true, true, true, true, true, true, true, true, true, true, true, true, true, true, true, true, true, false] rfl rfl (by kernel_rfl) (fun _ _ _ h => h) (Or.inl ⟨by rfl, ?_⟩) ?_ ?_
    rotate_left
    · intro w'
      go_simp
      (try with_reducible rfl)
    rotate_left
    · simp only [Act.put, List.setIfInBounds_toArray, List.set_cons_zero, List.set_cons_succ]
      rfl
    refine last_ (i := 20) (N := none) #[true, true, true, true, true, true, true, true, true, true, true, true, true, true, true, true, true, true, true, true, true] rfl rfl (by kernel_rfl) (by decide) (fun K hK => ?_)
    go_simp
    refine hK.out _ _ ?_
    (try clear hHeld)
    clear hK K
    try simp only [Act.put, List.setIfInBounds_toArray, List.set_cons_zero, List.set_cons_succ]
    refine wpAnyLast_done (by kernel_rfl) ?_ _
    have hF := ref_fin (L' := L ++ [⟨a, b, A14, c14, xs, false⟩]) (k := L.length + 1) (A1 := A17) (c1 := c17) HS.out B1.out hq (by simp) (by simpa [pkCells, Pk.cells, Pk.val, (R1.out).1] using hl17.out) (fun p hp => by
      rcases List.mem_append.1 hp with hp | hp
      · exact .inl hp
      · obtain rfl := List.mem_singleton.1 hp
        refine .inr ?_
        have h := hl14.out
        simpa [Pk.val, (R1.out).1] using h) (ref_put (heap_keep hq (heap_keep B1' HC.out)) _) (Chg.ofGrown (grown_set _) (fun k e => by injection e with e; exact .inl e.symm))
    go_wp2_with fail
    go_ret
    refine ⟨A14, c14, rfl, hF.1, hF.2.1, ?_⟩
    have h := hF.2.2.2 _ _ _ hl14.out
    simpa using h
  go_simp
  have hqn := alloc_below hq hq.size (.cells #[] 5)
  try (have hn := Lib.hid (hl1.out.alloc (.cells #[] 5)); clear hl1; have hl1 := hn; clear hn)
  try (have hn := Lib.hid (hl6.out.alloc (.cells #[] 5)); clear hl6; have hl6 := hn; clear hn)
  have hn := lit0_of hq w1.heap.size 5 1 hq.size
  (try simp only [World.size_alloc, hdr] at hn)
  have hl11 := Lib.hid hn
  clear hn
  clear hq
  have hq := hqn
  clear hqn
  refine hK.out _ _ ?_ (fun hHeld2 => ?_)
  · (try dsimp only)
    exact HKP.out _ hq
  clear hHeld hK K
  have hHeld := hHeld2
  clear hHeld2
  try simp only [Act.put, List.setIfInBounds_toArray, List.set_cons_zero, List.set_cons_succ]
  refine one_ (i := 1) (N := some 42) #[true, true, true, true, true, true, false, true, true, true, true, true, true, true, false, false, false, false, false, false, false] rfl rfl (by kernel_rfl) (by decide) (fun K hK => ?_)
  go_simp
  have hqn := alloc_below hq hq.size (.cells #[] 52)
  try (have hn := Lib.hid (hl11.out.alloc (.cells #[] 52)); clear hl11; have hl11 := hn; clear hn)
  have hn := lit0_of hq w1.heap.size 52 4 hq.size
  (try simp only [World.size_alloc, hdr] at hn)
  have hl1 := Lib.hid hn
  clear hn
  clear hq
  have hq := hqn
  clear hqn
  refine hK.out _ _ ?_ (fun hHeld2 => ?_)
  · (try dsimp only)
    exact HKP.out _ hq
  clear hHeld hK K
  have hHeld := hHeld2
  clear hHeld2
  try simp only [Act.put, List.setIfInBounds_toArray, List.set_cons_zero, List.set_cons_succ]
  refine one_ (i := 6) (N := some 47) #[true, true, true, true, true, true, true, true, true, true, true, true, true, true, false, false, false, false, false, false, false] rfl rfl (by kernel_rfl) (by decide) (fun K hK => ?_)
  refine step_app_cells (w0 := w1) w1.heap.size (by rfl) _ _ 43 52 i0 z0' 4 48 (by rfl) Try.underlying43 HI.out.1 HI.out.2.1 HI.out.2.2.1 HI.out.2.2.2.1 HI.out.2.2.2.2 (by decide) (by decide) _ 0 [] (pkCells L) Al L.length cl (by rfl) (by rfl) hl1.out (O1.out.below hq) hq hq.size (by omega) L.length (Nat.zero_add _) ?_
  intro A6 c6 w6 ho6 hB6 hg6 ha6
  try (have hn := Lib.hid (hl11.out.kept hg6 (own_type_ne hl11.out hl1.out (by decide))); clear hl11; have hl11 := hn; clear hn)
  clear hl1
  have hl6 := Lib.hid ho6
  clear hq
  have hq := hB6
  clear hB6 ho6 hg6 ha6
  refine hK.out _ _ ?_ (fun hHeld2 => ?_)
  · (try dsimp only)
    exact HKP.out _ hq
  clear hHeld hK K
  have hHeld := hHeld2
  clear hHeld2
  try simp only [Act.put, List.setIfInBounds_toArray, List.set_cons_zero, List.set_cons_succ]
  refine one_ (i := 14) (N := some 55) #[true, true, true, true, true, true, true, true, true, true, true, true, true, true, true, false, false, false, false, false, false] rfl rfl (by kernel_rfl) (by decide) (fun K hK => ?_)
  refine step_app_cells (w0 := w1) w1.heap.size (by rfl) _ _ 28 5 i1 z1' 1 1 (by rfl) Try.underlying28 HJ.out.1 HJ.out.2.1 HJ.out.2.2.1 HJ.out.2.2.2.1 HJ.out.2.2.2.2 (by decide) (by decide) _ 0 [] (nums .u8 xs) A n c (by rfl) (by rfl) hl11.out ((ReadsC.ofInts R1.out).below hq) hq hq.size (by omega) n (Nat.zero_add _) ?_
  intro A14 c14 w14 ho14 hB14 hg14 ha14
  try (have hn := Lib.hid (hl6.out.kept hg14 (own_type_ne hl6.out hl11.out (by decide))); clear hl6; have hl6 := hn; clear hn)
  clear hl11
  have hl14 := Lib.hid ho14
  clear hq
  have hq := hB14
  clear hB14 ho14 hg14 ha14
  refine hK.out _ _ ?_ (fun hHeld2 => ?_)
  · (try dsimp only)
    exact HKP.out _ hq
  clear hHeld hK K
  have hHeld := hHeld2
  clear hHeld2
  try simp only [Act.put, List.setIfInBounds_toArray, List.set_cons_zero, List.set_cons_succ]
  refine pure_ (i := 15) (N := some 56) (v := ?_) (a' := ?_) #[true, true, true, true, true, true, true, true, true, true, true, true, true, true, true, true, false, false, false, false, false] rfl rfl (by kernel_rfl) (fun _ _ _ h => h) (Or.inl ⟨by rfl, ?_⟩) ?_ ?_
  rotate_left
  · intro w'
    go_simp
    (try with_reducible rfl)
  rotate_left
  · simp only [Act.put, List.setIfInBounds_toArray, List.set_cons_zero, List.set_cons_succ]
    rfl
  refine one_ (i := 16) (N := some 57) #[true, true, true, true, true, true, true, true, true, true, true, true, true, true, true, true, true, false, false, false, false] rfl rfl (by kernel_rfl) (by decide) (fun K hK => ?_)
  go_simp
  have hqn := alloc_below hq hq.size (.cells #[.int .i64 (a : Int), .int .i64 (b : Int), .slice A14 n c14, .bool false] 52)
  try (have hn := Lib.hid (hl6.out.alloc (.cells #[.int .i64 (a : Int), .int .i64 (b : Int), .slice A14 n c14, .bool false] 52)); clear hl6; have hl6 := hn; clear hn)
  try (have hn := Lib.hid (hl14.out.alloc (.cells #[.int .i64 (a : Int), .int .i64 (b : Int), .slice A14 n c14, .bool false] 52)); clear hl14; have hl14 := hn; clear hn)
  have hn := lit1_of hq [.int .i64 (a : Int), .int .i64 (b : Int), .slice A14 n c14, .bool false] 52 4 rfl (by simp [Value.oneCell'])
  (try simp only [World.size_alloc, hdr] at hn)
  have hl16 := Lib.hid hn
  clear hn
  clear hq
  have hq := hqn
  clear hqn
  refine hK.out _ _ ?_ (fun hHeld2 => ?_)
  · (try dsimp only)
    exact HKP.out _ hq
  clear hHeld hK K
  have hHeld := hHeld2
  clear hHeld2
  try simp only [Act.put, List.setIfInBounds_toArray, List.set_cons_zero, List.set_cons_succ]
  refine one_ (i := 17) (N := some 58) #[true, true, true, true, true, true, true, true, true, true, true, true, true, true, true, true, true, true, false, false, false] rfl rfl (by kernel_rfl) (by decide) (fun K hK => ?_)
  refine step_app_cells (w0 := w1) w1.heap.size (by rfl) _ _ 43 52 i0 z0' 4 48 (by rfl) Try.underlying43 HI.out.1 HI.out.2.1 HI.out.2.2.1 HI.out.2.2.2.1 HI.out.2.2.2.2 (by decide) (by decide) _ L.length ([] ++ pkCells L) [.int .i64 (a : Int), .int .i64 (b : Int), .slice A14 n c14, .bool false] _ 1 1 (by rfl) (by rfl) hl6.out (hl16.out) hq hq.size (by omega) (L.length + 1) rfl ?_
  intro A17 c17 w17 ho17 hB17 hg17 ha17
  try (have hn := Lib.hid (hl14.out.kept hg17 (own_type_ne hl14.out hl6.out (by decide))); clear hl14; have hl14 := hn; clear hn)
  clear hl6
  have hl17 := Lib.hid ho17
  clear hq
  have hq := hB17
  clear hB17 ho17 hg17 ha17
  have fz := HFZ.out _ hq
  have cz := (HKP.out _ hq).2.2.2
  refine hK.out _ _ ?_ (fun hHeld2 => ?_)
  · (try dsimp only)
    exact HKP.out _ hq
  clear hHeld hK K
  have hHeld := hHeld2
  clear hHeld2
  try simp only [Act.put, List.setIfInBounds_toArray, List.set_cons_zero, List.set_cons_succ]
  refine pure_ (i := 18) (N := some 59) (v := ?_) (a' := ?_) #[true, true, true, true, true, true, true, true, true, true, true, true, true, true, true, true, true, true, true, false, false] rfl rfl (by kernel_rfl) (fun _ _ _ h => h) (Or.inl ⟨by rfl, ?_⟩) ?_ ?_
  rotate_left
  · intro w'
    go_simp
    (try with_reducible rfl)
  rotate_left
  · simp only [Act.put, List.setIfInBounds_toArray, List.set_cons_zero, List.set_cons_succ]
    rfl
  refine pure_ (i := 19) (N := some 60) (v := ?_) (a' := ?_) #[true, true, true, true, true, true, true, true, true, true, true, true, true, true, true, true, true, true, true, true, false] rfl rfl (by kernel_rfl) (fun _ _ _ h => h) (Or.inl ⟨by rfl, ?_⟩) ?_ ?_
  rotate_left
  · intro w'
    go_simp
    (try with_reducible rfl)
  rotate_left
  · simp only [Act.put, List.setIfInBounds_toArray, List.set_cons_zero, List.set_cons_succ]
    rfl
  refine last_ (i := 20) (N := none) #[true, true, true, true, true, true, true, true, true, true, true, true, true, true, true, true, true, true, true, true, true] rfl rfl (by kernel_rfl) (by decide) (fun K hK => ?_)
  go_simp
  refine hK.out _ _ ?_
  (try clear hHeld)
  clear hK K
  try simp only [Act.put, List.setIfInBounds_toArray, List.set_cons_zero, List.set_cons_succ]
  refine wpAnyLast_done (by kernel_rfl) ?_ _
  have hF := ref_fin (L' := L ++ [⟨a, b, A14, c14, xs, false⟩]) (k := L.length + 1) (A1 := A17) (c1 := c17) HS.out B1.out hq (by simp) (by simpa [pkCells, Pk.cells, Pk.val, (R1.out).1] using hl17.out) (fun p hp => by
    rcases List.mem_append.1 hp with hp | hp
    · exact .inl hp
    · obtain rfl := List.mem_singleton.1 hp
      refine .inr ?_
      have h := hl14.out
      simpa [Pk.val, (R1.out).1] using h) (ref_put (heap_keep hq (heap_keep B1' HC.out)) _) (Chg.ofGrown (grown_set _) (fun k e => by injection e with e; exact .inl e.symm))
  go_wp2_with fail
  go_ret
  refine ⟨A14, c14, rfl, hF.1, hF.2.1, ?_⟩
  have h := hF.2.2.2 _ _ _ hl14.out
  simpa using h
end Go.Proofs.Ytenbjmgmgdkapaa
