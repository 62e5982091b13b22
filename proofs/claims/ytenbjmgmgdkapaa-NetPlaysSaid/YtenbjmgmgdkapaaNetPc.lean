/- The reference's net: Send that fails, Take, Copy, Spoil (printed by a program of mine, mkrefnet2.py). -/
import Derived.Test.YtenbjmgmgdkapaaNetPb
set_option linter.unusedVariables false
set_option linter.unusedSimpArgs false
namespace Go.Proofs.Ytenbjmgmgdkapaa
open Go.RowKit Go.Proofs.YtenbjmgmgdkapaaW.PrintWords Go.Proofs.YtenbjmgmgdkapaaW.PrintLast Go.Proofs.Ytenbjmgmgdkapaa.K Go.Proofs.Ytenbjmgmgdkapaa.Row


set_option maxRecDepth 100000 in
set_option maxHeartbeats 2000000 in
theorem rsend_cut (base r : Nat) (room : Int) (f : Nat → Nat → Bool) (L : List Pk) (a b : Nat) (A : Option Addr) (n c : Nat) (w : World) (ha : a < 16) (hb : b < 16) (hn : n ≤ 32768) (hS : RefS w base r room f L) (hf : f a b = true) :
    Calls Try.prog 18 #[.pointer (some ⟨r, 0, none⟩), .agg #[.int .i64 (a : Int), .int .i64 (b : Int), .slice A n c, .bool false]] w fun e w' => e = .returned (.int .i64 0) ∧ Below w.heap.size w w' := by
  obtain ⟨Al, cl, hc, ho⟩ := hS.cl
  obtain ⟨w0, hw0⟩ : ∃ w0, w0 = w.alloc (.cells #[.int .i64 (a : Int), .int .i64 (b : Int), .slice A n c, .bool false] 52) := ⟨_, rfl⟩
  have hb0 : Below w.heap.size w w0 := by rw [hw0]; exact alloc_back _
  have q0 : w0.heap[w.heap.size]? = some (.cells #[.int .i64 (a : Int), .int .i64 (b : Int), .slice A n c, .bool false] 52 (0, 0)) := by rw [hw0]; exact heap_alloc_new _ _
  have hc0 := heap_keep hb0 hc
  obtain ⟨u0, u1⟩ := ref_cells hc0
  have uc := ref_cut hc0 a b ha hb
  rw [hf] at uc
  obtain ⟨z0, z1, z2⟩ : w0.cell? ⟨w.heap.size, 0, none⟩ = some (.int .i64 (a : Int)) ∧ w0.cell? ⟨w.heap.size, 1, none⟩ = some (.int .i64 (b : Int)) ∧ w0.cell? ⟨w.heap.size, 2, none⟩ = some (.slice A n c) := by simp [World.cell?, q0]
  have h1 : (a : Int) < 16 := by omega
  have h2 : (b : Int) < 16 := by omega
  have h3 : ¬ (32768 : Int) < (n : Int) := by omega
  have HWA := Lib.hid (fun w => rid_yes a ha w)
  have HWB := Lib.hid (fun w => rid_yes b hb w)
  have B0 := Lib.hid hb0
  clear hS hc ho hb0 hc0 q0 hf
  go_enter Try.func18, Try.ntmps18
  go_wp2_with (first
    | (go_at_call 27; with_reducible refine (HWA.out _).mono ?_; rintro e w' ⟨rfl, rfl⟩)
    | (go_at_call 27; with_reducible refine (HWB.out _).mono ?_; rintro e w' ⟨rfl, rfl⟩))
  rw [← hw0]
  clear hw0
  go_quiet (fail)
  go_wp2_with fail
  go_ret
  exact ⟨rfl, pw_below_drewN B0.out _⟩
set_option maxRecDepth 100000 in
set_option maxHeartbeats 2000000 in
theorem rsend_full (base r : Nat) (room : Int) (f : Nat → Nat → Bool) (L : List Pk) (a b : Nat) (A : Option Addr) (n c : Nat) (w : World) (ha : a < 16) (hb : b < 16) (hn : n ≤ 32768) (hS : RefS w base r room f L) (hf : f a b = false) (hl : room ≤ (L.length : Int)) :
    Calls Try.prog 18 #[.pointer (some ⟨r, 0, none⟩), .agg #[.int .i64 (a : Int), .int .i64 (b : Int), .slice A n c, .bool false]] w fun e w' => e = .returned (.int .i64 6) ∧ Below w.heap.size w w' := by
  obtain ⟨Al, cl, hc, ho⟩ := hS.cl
  obtain ⟨w0, hw0⟩ : ∃ w0, w0 = w.alloc (.cells #[.int .i64 (a : Int), .int .i64 (b : Int), .slice A n c, .bool false] 52) := ⟨_, rfl⟩
  have hb0 : Below w.heap.size w w0 := by rw [hw0]; exact alloc_back _
  have q0 : w0.heap[w.heap.size]? = some (.cells #[.int .i64 (a : Int), .int .i64 (b : Int), .slice A n c, .bool false] 52 (0, 0)) := by rw [hw0]; exact heap_alloc_new _ _
  have hc0 := heap_keep hb0 hc
  obtain ⟨u0, u1⟩ := ref_cells hc0
  have uc := ref_cut hc0 a b ha hb
  rw [hf] at uc
  obtain ⟨z0, z1, z2⟩ : w0.cell? ⟨w.heap.size, 0, none⟩ = some (.int .i64 (a : Int)) ∧ w0.cell? ⟨w.heap.size, 1, none⟩ = some (.int .i64 (b : Int)) ∧ w0.cell? ⟨w.heap.size, 2, none⟩ = some (.slice A n c) := by simp [World.cell?, q0]
  have h1 : (a : Int) < 16 := by omega
  have h2 : (b : Int) < 16 := by omega
  have h3 : ¬ (32768 : Int) < (n : Int) := by omega
  have HWA := Lib.hid (fun w => rid_yes a ha w)
  have HWB := Lib.hid (fun w => rid_yes b hb w)
  have B0 := Lib.hid hb0
  clear hS hc ho hb0 hc0 q0 hf
  go_enter Try.func18, Try.ntmps18
  go_wp2_with (first
    | (go_at_call 27; with_reducible refine (HWA.out _).mono ?_; rintro e w' ⟨rfl, rfl⟩)
    | (go_at_call 27; with_reducible refine (HWB.out _).mono ?_; rintro e w' ⟨rfl, rfl⟩))
  rw [← hw0]
  clear hw0
  go_quiet (fail)
  revert nq; intro nqa
  go_wp2_with fail
  go_quiet (fail)
  go_wp2_with fail
  go_ret
  exact ⟨rfl, pw_below_drewN (pw_below_drewN B0.out _) _⟩
theorem rsend_arg (r : Nat) (a b : Int) (A : Option Addr) (n c : Nat) (w : World) (h : ¬ (okW a ∧ okW b)) :
    Calls Try.prog 18 #[.pointer (some ⟨r, 0, none⟩), .agg #[.int .i64 a, .int .i64 b, .slice A n c, .bool false]] w fun e w' => e = .returned (.int .i64 1) ∧ Below w.heap.size w w' := by
  have HB := Lib.hid (alloc_back (W := w) (.cells #[.int .i64 a, .int .i64 b, .slice A n c, .bool false] 52))
  by_cases ha : okW a
  · have hb : ¬ okW b := fun hb => h ⟨ha, hb⟩
    have HWA := Lib.hid (fun w => rid_walk a w)
    have HWB := Lib.hid (fun w => rid_no b hb w)
    unfold okW at ha
    rw [decide_eq_true ha] at HWA
    clear ha hb h
    go_enter Try.func18, Try.ntmps18
    go_wp2_with fail
    refine (HWA.out _).mono ?_
    rintro e w' ⟨rfl, rfl⟩
    go_wp2_with fail
    refine (HWB.out _).mono ?_
    rintro e w' ⟨rfl, rfl⟩
    go_wp2_with fail
    go_ret
    exact ⟨rfl, HB.out⟩
  · have HWA := Lib.hid (fun w => rid_no a ha w)
    clear ha h
    go_enter Try.func18, Try.ntmps18
    go_wp2_with fail
    refine (HWA.out _).mono ?_
    rintro e w' ⟨rfl, rfl⟩
    go_wp2_with fail
    go_ret
    exact ⟨rfl, HB.out⟩
theorem set4 {w : World} {r : Nat} {a b c d a' b' c' d' : Value} {ty : TypeId} (h : w.heap[r]? = some (.cells #[a, b, c, d] ty (0, 0))) :
    ((((w.setCell ⟨r, 0, none⟩ a').setCell ⟨r, 1, none⟩ b').setCell ⟨r, 2, none⟩ c').setCell ⟨r, 3, none⟩ d').heap[r]? = some (.cells #[a', b', c', d'] ty (0, 0)) := by
  rw [heap_set _ (heap_set _ (heap_set _ (heap_set _ h)))]; rfl
theorem grown4 (w : World) (r : Nat) (a b c d : Value) : w.grownBy ((((w.setCell ⟨r, 0, none⟩ a).setCell ⟨r, 1, none⟩ b).setCell ⟨r, 2, none⟩ c).setCell ⟨r, 3, none⟩ d) (some r) :=
  World.grownBy.trans (World.grownBy.trans (World.grownBy.trans (grown_set _) (grown_set _)) (grown_set _)) (grown_set _)
theorem box4 {w : World} {r : Nat} {a b c d : Value} {ty : TypeId} (h : w.heap[r]? = some (.cells #[a, b, c, d] ty (0, 0))) :
    w.cell? ⟨r, 0, none⟩ = some a ∧ w.cell? ⟨r, 1, none⟩ = some b ∧ w.cell? ⟨r, 2, none⟩ = some c ∧ w.cell? ⟨r, 3, none⟩ = some d := by
  simp [World.cell?, h]
set_option maxHeartbeats 2000000 in
theorem rtake_no (r : Nat) (room : Int) (A : Option Addr) (L c : Nat) (f : Nat → Nat → Bool) (k : Int) (w : World) (hc : w.heap[r]? = some (.cells (refC room (.slice A L c) f) 47 (0, 0))) (hk : ¬ (0 ≤ k ∧ k < (L : Int))) :
    Calls Try.prog 19 #[.pointer (some ⟨r, 0, none⟩), .int .i64 k] w fun e w' => e = .returned (.tuple #[.agg #[.int .i64 0, .int .i64 0, .slice none 0 0, .bool false], .bool false]) ∧ Below w.heap.size w w' := by
  have Q0 := Lib.hid (heap_alloc_new w (.cells #[.int .i64 0, .int .i64 0, .slice none 0 0, .bool false] 52))
  have HB1 := Lib.hid (alloc_back (W := w) (.cells #[.int .i64 0, .int .i64 0, .slice none 0 0, .bool false] 52))
  obtain ⟨u0, u1⟩ := ref_cells hc
  have a1 : ∀ o, (w.alloc o).cell? ⟨r, 1, none⟩ = some (.slice A L c) := fun o => pw_cell_below (alloc_back o) u1
  by_cases h1 : k < 0
  all_goals
    (try have h2 : (L : Int) ≤ k := by omega)
    clear hk hc
    go_enter Try.func19, Try.ntmps19
    go_wp2_with fail
    (try simp only [Exit.inBlock, Exit.then])
    refine bodyPost_ret (results_ct rfl _ _ w.heap.size 52 #[.int .i64 0, .int .i64 0, .slice none 0 0, .bool false] (0, 0) _ rfl Q0.out Try.underlying52 rfl (by kernel_rfl)) rfl ?_
    exact ⟨rfl, HB1.out⟩
set_option maxRecDepth 100000 in
set_option maxHeartbeats 4000000 in
theorem rtake_ok (base r : Nat) (room : Int) (f : Nat → Nat → Bool) (L : List Pk) (k : Nat) (p : Pk) (w : World) (hS : RefS w base r room f L) (hp : L[k]? = some p) (hL : L.length ≤ 100000) :
    Calls Try.prog 19 #[.pointer (some ⟨r, 0, none⟩), .int .i64 (k : Int)] w fun e w' => e = .returned (.tuple #[.agg #[.int .i64 p.f, .int .i64 p.t, .slice p.A p.b.length p.c, .bool p.sp], .bool true]) ∧ w'.ownsRow base 5 1 p.val p.b.length (nums .u8 p.b) ∧ RefS w' base r room f (L.eraseIdx k) ∧ w.grownBy w' (some r) := by
  obtain ⟨Al, cl, hc, ho⟩ := hS.cl
  have hk : k < L.length := (List.getElem?_eq_some_iff.1 hp).1
  obtain ⟨g, cap, e, hgb, hgl⟩ := ho.form (by omega)
  injection e with e1 e2 e3
  subst e1 e3
  obtain ⟨u0, u1⟩ := ref_cells hc
  have y0 := ho.cells (g := g) rfl (k * 4 + 0) (.int .i64 p.f) (by rw [pk_get L k p hp 0 (by decide)]; rfl)
  have y1 := ho.cells (g := g) rfl (k * 4 + 1) (.int .i64 p.t) (by rw [pk_get L k p hp 1 (by decide)]; rfl)
  have y2 := ho.cells (g := g) rfl (k * 4 + 2) (.slice p.A p.b.length p.c) (by rw [pk_get L k p hp 2 (by decide)]; rfl)
  have y3 := ho.cells (g := g) rfl (k * 4 + 3) (.bool p.sp) (by rw [pk_get L k p hp 3 (by decide)]; rfl)
  rw [add_plain] at y0 y1 y2 y3
  rw [Nat.add_zero] at y0
  have a1 : ∀ o, (w.alloc o).cell? ⟨r, 1, none⟩ = _ := fun o => pw_cell_below (alloc_back o) u1
  have b0 : ∀ o, (w.alloc o).cell? ⟨g, k * 4, none⟩ = _ := fun o => pw_cell_below (alloc_back o) y0
  have b1 : ∀ o, (w.alloc o).cell? ⟨g, k * 4 + 1, none⟩ = _ := fun o => pw_cell_below (alloc_back o) y1
  have b2 : ∀ o, (w.alloc o).cell? ⟨g, k * 4 + 2, none⟩ = _ := fun o => pw_cell_below (alloc_back o) y2
  have b3 : ∀ o, (w.alloc o).cell? ⟨g, k * 4 + 3, none⟩ = _ := fun o => pw_cell_below (alloc_back o) y3
  have g1 : ¬ ((k : Int) < 0) := by omega
  have g2 : ¬ ((L.length : Int) ≤ (k : Int)) := by omega
  have g3 : (k : Int) < (L.length : Int) := by omega
  have HS := Lib.hid hS; have HC := Lib.hid hc; have HO := Lib.hid ho; have HP := Lib.hid hp
  clear hS hc ho hp e2
  go_enter Try.func19, Try.ntmps19
  go_wp2_with fail
  obtain ⟨w1, hw1⟩ : ∃ w1, w1 = (w.alloc (.cells #[.int .i64 0, .int .i64 0, .slice none 0 0, .bool false] 52)).alloc (.cells #[.int .i64 p.f, .int .i64 p.t, .slice p.A p.b.length p.c, .bool p.sp] 52) := ⟨_, rfl⟩
  have hb1 : Below w.heap.size w w1 := by rw [hw1]; exact alloc_back2 _ _
  have hs1 : w1.heap.size = w.heap.size + 2 := by rw [hw1]; simp
  have q0 : w1.heap[w.heap.size]? = some (.cells #[.int .i64 0, .int .i64 0, .slice none 0 0, .bool false] 52 (0, 0)) := by rw [hw1]; simp only [hal]; exact hpush3 _ _ _
  have q1 : w1.heap[w.heap.size + 1]? = some (.cells #[.int .i64 p.f, .int .i64 p.t, .slice p.A p.b.length p.c, .bool p.sp] 52 (0, 0)) := by rw [hw1]; simp only [hal]; exact hpush2 _ _ _
  rw [← hw1]
  have x1 := pw_cell_below hb1 u1
  have B1 := Lib.hid hb1; have Q0 := Lib.hid q0; have Q1 := Lib.hid q1; have HS1 := Lib.hid hs1
  have O1 := Lib.hid (ReadsC.ofOwn (pw_own_below HO.out hb1) (Go.Proofs.Ytenbjmgmgdkapaa.pk_one L))
  have hle := own_le HO.out
  have hle2 : L.length ≤ cl := hle
  obtain ⟨i0, z0', hi, hz0, hz1, hz2, hz3⟩ := refInfo
  have HI := Lib.hid (And.intro hi (And.intro hz0 (And.intro hz1 (And.intro hz2 hz3))))
  obtain ⟨A3, hrun3, hrd3, _⟩ := cut_to' (P := Try.prog) 43 52 .i64 (size := 4) Try.underlying43 hi hz1 (some ⟨g, 0, none⟩) L.length cl k (by omega)
  obtain ⟨A5, hrun5, hrd5, _⟩ := cut_from' (P := Try.prog) 43 52 .i64 (size := 4) Try.underlying43 hi hz1 (some ⟨g, 0, none⟩) L.length cl (k + 1) (by omega)
  have R3 := Lib.hid (hrd3 w1 _ (by omega) O1.out)
  have R5 := Lib.hid (hrd5 w1 _ hle2 O1.out)
  have ek : IntKind.i64.wrap ((k : Int) + 1) = (((k + 1 : Nat)) : Int) := by rw [IntKind.wrap_i64]; omega
  have EK := Lib.hid ek
  have HKP := Lib.hid ((fun W h => pw_cell_below h x1) : ∀ W : World, Below w1.heap.size w1 W → W.cell? ⟨r, 1, none⟩ = some (.slice (some ⟨g, 0, none⟩) L.length cl))
  have HFZ := Lib.hid ((fun W h => froz (heap_keep h (heap_keep hb1 HC.out)) 1) : ∀ W : World, Below w1.heap.size w1 W → W.frozen? ⟨r, 1, none⟩ = false)
  have hq : Below w1.heap.size w1 w1.drew := below_drew (Below.refl _ _)
  have hrun6 : ∀ W : World, (Instr.slice 43 (.slice (some ⟨g, 0, none⟩) L.length cl) (some (.int .i64 ((k : Int) + 1))) none none).run Try.prog W = .ok (.slice A5 (L.length - (k + 1)) (cl - (k + 1))) W := fun W => hrun5 W
  have ek2 : IntKind.i64.wrap ((k : Int) + 1) = (k : Int) + 1 := ek
  clear hrun5 hle2
  clear hw1 hi hz0 hz1 hz2 hz3 hrd3 hrd5 u0 u1 y0 y1 y2 y3 a1 b0 b1 b2 b3 hb1 hs1 q0 q1 hle ek
  refine start_ (n := 20) (S := fun w' => w'.cell? ⟨r, 1, none⟩ = some (.slice (some ⟨g, 0, none⟩) L.length cl)) (ds := [19]) #[false, false, false, false, false, false, false, false, false, false, false, false, false, false, false, false, false, false, false, false] (by kernel_rfl) rfl rfl (x1) (fun hHeld => ?_)
  refine pure_ (i := 0) (N := some 26) (v := ?_) (a' := ?_) #[true, false, false, false, false, false, false, false, false, false, false, false, false, false, false, false, false, false, false, false] rfl rfl (by kernel_rfl) (fun _ _ _ h => h) (Or.inl ⟨by rfl, ?_⟩) ?_ ?_
  rotate_left
  · intro w'
    go_simp
    (try with_reducible rfl)
  rotate_left
  · simp only [Act.put, List.setIfInBounds_toArray, List.set_cons_zero, List.set_cons_succ]
    rfl
  refine pure_ (i := 2) (N := some 28) (v := ?_) (a' := ?_) #[true, false, true, false, false, false, false, false, false, false, false, false, false, false, false, false, false, false, false, false] rfl rfl (by kernel_rfl) (fun _ _ _ h => h) (Or.inl ⟨by rfl, ?_⟩) ?_ ?_
  rotate_left
  · intro w'
    go_simp
    (try with_reducible rfl)
  rotate_left
  · simp only [Act.put, List.setIfInBounds_toArray, List.set_cons_zero, List.set_cons_succ]
    rfl
  refine pure_ (i := 3) (N := some 29) (v := ?_) (a' := ?_) #[true, false, true, true, false, false, false, false, false, false, false, false, false, false, false, false, false, false, false, false] rfl rfl (by kernel_rfl) (fun _ _ _ h => h) (Or.inl ⟨by rfl, ?_⟩) ?_ ?_
  rotate_left
  · intro w'
    go_simp
    (try with_reducible rfl)
  rotate_left
  · simp only [Act.put, List.setIfInBounds_toArray, List.set_cons_zero, List.set_cons_succ]
    rfl
  refine pure_ (i := 4) (N := some 30) (v := ?_) (a' := ?_) #[true, false, true, true, true, false, false, false, false, false, false, false, false, false, false, false, false, false, false, false] rfl rfl (by kernel_rfl) (fun _ _ _ h => h) (Or.inl ⟨by rfl, ?_⟩) ?_ ?_
  rotate_left
  · intro w'
    go_simp
    (try with_reducible rfl)
  rotate_left
  · simp only [Act.put, List.setIfInBounds_toArray, List.set_cons_zero, List.set_cons_succ]
    rfl
  refine take_ (i := 5) (N := some 31) (v := ?_) (a' := ?_) #[true, false, true, true, true, true, false, false, false, false, false, false, false, false, false, false, false, false, false, false] rfl rfl (by kernel_rfl) (fun _ _ _ h => h) (Or.inl ⟨by rfl, ?_⟩) hHeld ?_ ?_
  rotate_left
  · intro w' s0
    go_simp
    (try with_reducible rfl)
  rotate_left
  · simp only [Act.put, List.setIfInBounds_toArray, List.set_cons_zero, List.set_cons_succ]
    rfl
  refine pure_ (i := 6) (N := some 32) (v := ?_) (a' := ?_) #[true, false, true, true, true, true, true, false, false, false, false, false, false, false, false, false, false, false, false, false] rfl rfl (by kernel_rfl) (fun _ _ _ h => h) (Or.inl ⟨by rfl, ?_⟩) ?_ ?_
  rotate_left
  · intro w'
    go_simp
    (try with_reducible rfl)
  rotate_left
  · simp only [Act.put, List.setIfInBounds_toArray, List.set_cons_zero, List.set_cons_succ]
    rfl
  refine pure_ (i := 7) (N := some 33) (v := ?_) (a' := ?_) #[true, false, true, true, true, true, true, true, false, false, false, false, false, false, false, false, false, false, false, false] rfl rfl (by kernel_rfl) (fun _ _ _ h => h) (Or.inl ⟨by rfl, ?_⟩) ?_ ?_
  rotate_left
  · intro w'
    go_simp
    (try with_reducible rfl)
  rotate_left
  · simp only [Act.put, List.setIfInBounds_toArray, List.set_cons_zero, List.set_cons_succ]
    rfl
  refine pure_ (i := 9) (N := some 35) (v := ?_) (a' := ?_) #[true, false, true, true, true, true, true, true, false, true, false, false, false, false, false, false, false, false, false, false] rfl rfl (by kernel_rfl) (fun _ _ _ h => h) (Or.inl ⟨by rfl, ?_⟩) ?_ ?_
  rotate_left
  · intro w'
    go_simp
    (try with_reducible rfl)
  rotate_left
  · simp only [Act.put, List.setIfInBounds_toArray, List.set_cons_zero, List.set_cons_succ]
    rfl
  refine pure_ (i := 10) (N := some 36) (v := ?_) (a' := ?_) #[true, false, true, true, true, true, true, true, false, true, true, false, false, false, false, false, false, false, false, false] rfl rfl (by kernel_rfl) (fun _ _ _ h => h) (Or.inl ⟨by rfl, ?_⟩) ?_ ?_
  rotate_left
  · intro w'
    go_simp
    (try with_reducible rfl)
  rotate_left
  · simp only [Act.put, List.setIfInBounds_toArray, List.set_cons_zero, List.set_cons_succ]
    rfl
  refine pure_ (i := 11) (N := some 37) (v := ?_) (a' := ?_) #[true, false, true, true, true, true, true, true, false, true, true, true, false, false, false, false, false, false, false, false] rfl rfl (by kernel_rfl) (fun _ _ _ h => h) (Or.inl ⟨by rfl, ?_⟩) ?_ ?_
  rotate_left
  · intro w'
    go_simp
    (try with_reducible rfl)
  rotate_left
  · simp only [Act.put, List.setIfInBounds_toArray, List.set_cons_zero, List.set_cons_succ]
    rfl
  refine take_ (i := 12) (N := some 38) (v := ?_) (a' := ?_) #[true, false, true, true, true, true, true, true, false, true, true, true, true, false, false, false, false, false, false, false] rfl rfl (by kernel_rfl) (fun _ _ _ h => h) (Or.inl ⟨by rfl, ?_⟩) hHeld ?_ ?_
  rotate_left
  · intro w' s0
    go_simp
    (try with_reducible rfl)
  rotate_left
  · simp only [Act.put, List.setIfInBounds_toArray, List.set_cons_zero, List.set_cons_succ]
    rfl
  refine pure_ (i := 13) (N := some 39) (v := ?_) (a' := ?_) #[true, false, true, true, true, true, true, true, false, true, true, true, true, true, false, false, false, false, false, false] rfl rfl (by kernel_rfl) (fun _ _ _ h => h) (Or.inl ⟨by rfl, ?_⟩) ?_ ?_
  rotate_left
  · intro w'
    go_simp
    (try with_reducible rfl)
  rotate_left
  · simp only [Act.put, List.setIfInBounds_toArray, List.set_cons_zero, List.set_cons_succ]
    rfl
  refine pure_ (i := 14) (N := some 40) (v := ?_) (a' := ?_) #[true, false, true, true, true, true, true, true, false, true, true, true, true, true, true, false, false, false, false, false] rfl rfl (by kernel_rfl) (fun _ _ _ h => h) (Or.inl ⟨by rfl, ?_⟩) ?_ ?_
  rotate_left
  · intro w'
    go_simp
    (try with_reducible rfl)
  rotate_left
  · simp only [Act.put, List.setIfInBounds_toArray, List.set_cons_zero, List.set_cons_succ]
    rfl
  refine pure_ (i := 15) (N := some 41) (v := ?_) (a' := ?_) #[true, false, true, true, true, true, true, true, false, true, true, true, true, true, true, true, false, false, false, false] rfl rfl (by kernel_rfl) (fun _ _ _ h => h) (Or.inl ⟨by rfl, ?_⟩) ?_ ?_
  rotate_left
  · intro w'
    go_simp
    (try with_reducible rfl)
  rotate_left
  · simp only [Act.put, List.setIfInBounds_toArray, List.set_cons_zero, List.set_cons_succ]
    rfl
  refine one_ (i := 1) (N := some 27) #[true, true, true, true, true, true, true, true, false, true, true, true, true, true, true, true, false, false, false, false] rfl rfl (by kernel_rfl) (by decide) (fun K hK => ?_)
  go_simp
  have hqn := alloc_below hq hq.size (.cells #[] 52)
  have hn := lit0_of hq w1.heap.size 52 4 hq.size
  (try simp only [World.size_alloc, hdr] at hn)
  have hl1 := Lib.hid hn
  clear hn
  clear hq
  have hq := hqn
  clear hqn
  refine hK.out _ _ ?_ (fun hHeld2 => ?_)
  · (try dsimp only)
    exact HKP.out _ hq
  clear hHeld hK K
  have hHeld := hHeld2
  clear hHeld2
  try simp only [Act.put, List.setIfInBounds_toArray, List.set_cons_zero, List.set_cons_succ]
  refine one_ (i := 8) (N := some 34) #[true, true, true, true, true, true, true, true, true, true, true, true, true, true, true, true, false, false, false, false] rfl rfl (by kernel_rfl) (by decide) (fun K hK => ?_)
  refine step_app_cells (w0 := w1) w1.heap.size (by rfl) _ _ 43 52 i0 z0' 4 48 (by rfl) Try.underlying43 HI.out.1 HI.out.2.1 HI.out.2.2.1 HI.out.2.2.2.1 HI.out.2.2.2.2 (by decide) (by decide) _ 0 [] ((pkCells L).take (k * 4)) A3 k cl (by rfl) (by rfl) hl1.out (R3.out.below hq) hq hq.size (by omega) k (Nat.zero_add _) ?_
  intro A8 c8 w8 ho8 hB8 hg8 ha8
  clear hl1
  have hl8 := Lib.hid ho8
  clear hq
  have hq := hB8
  clear hB8 ho8 hg8 ha8
  refine hK.out _ _ ?_ (fun hHeld2 => ?_)
  · (try dsimp only)
    exact HKP.out _ hq
  clear hHeld hK K
  have hHeld := hHeld2
  clear hHeld2
  try simp only [Act.put, List.setIfInBounds_toArray, List.set_cons_zero, List.set_cons_succ]
  refine one_ (i := 16) (N := some 42) #[true, true, true, true, true, true, true, true, true, true, true, true, true, true, true, true, true, false, false, false] rfl rfl (by kernel_rfl) (by decide) (fun K hK => ?_)
  refine step_app_cells (w0 := w1) w1.heap.size (by rfl) _ _ 43 52 i0 z0' 4 48 (by rfl) Try.underlying43 HI.out.1 HI.out.2.1 HI.out.2.2.1 HI.out.2.2.2.1 HI.out.2.2.2.2 (by decide) (by decide) _ k ([] ++ (pkCells L).take (k * 4)) ((pkCells L).drop ((k + 1) * 4)) A5 (L.length - (k + 1)) (cl - (k + 1)) (by rfl) (by rfl) hl8.out (R5.out.below hq) hq hq.size (by omega) (L.eraseIdx k).length (by rw [List.length_eraseIdx_of_lt hk]; omega) ?_
  intro A16 c16 w16 ho16 hB16 hg16 ha16
  clear hl8
  have hl16 := Lib.hid ho16
  clear hq
  have hq := hB16
  clear hB16 ho16 hg16 ha16
  have fz := HFZ.out _ hq
  have cz := HKP.out _ hq
  clear ek2
  refine hK.out _ _ ?_ (fun hHeld2 => ?_)
  · (try dsimp only)
    exact HKP.out _ hq
  clear hHeld hK K
  have hHeld := hHeld2
  clear hHeld2
  try simp only [Act.put, List.setIfInBounds_toArray, List.set_cons_zero, List.set_cons_succ]
  refine pure_ (i := 17) (N := some 43) (v := ?_) (a' := ?_) #[true, true, true, true, true, true, true, true, true, true, true, true, true, true, true, true, true, true, false, false] rfl rfl (by kernel_rfl) (fun _ _ _ h => h) (Or.inl ⟨by rfl, ?_⟩) ?_ ?_
  rotate_left
  · intro w'
    go_simp
    (try with_reducible rfl)
  rotate_left
  · simp only [Act.put, List.setIfInBounds_toArray, List.set_cons_zero, List.set_cons_succ]
    rfl
  refine pure_ (i := 18) (N := some 44) (v := ?_) (a' := ?_) #[true, true, true, true, true, true, true, true, true, true, true, true, true, true, true, true, true, true, true, false] rfl rfl (by kernel_rfl) (fun _ _ _ h => h) (Or.inl ⟨by rfl, ?_⟩) ?_ ?_
  rotate_left
  · intro w'
    go_simp
    (try with_reducible rfl)
  rotate_left
  · simp only [Act.put, List.setIfInBounds_toArray, List.set_cons_zero, List.set_cons_succ]
    rfl
  refine last_ (i := 19) (N := none) #[true, true, true, true, true, true, true, true, true, true, true, true, true, true, true, true, true, true, true, true] rfl rfl (by kernel_rfl) (by decide) (fun K hK => ?_)
  go_simp
  refine hK.out _ _ ?_
  (try clear hHeld)
  clear hK K
  try simp only [Act.put, List.setIfInBounds_toArray, List.set_cons_zero, List.set_cons_succ]
  refine wpAnyLast_done (by kernel_rfl) ?_ _
  obtain ⟨w5, hw5⟩ : ∃ w5, w5 = w16.setCell ⟨r, 1, none⟩ (.slice A16 (L.eraseIdx k).length c16) := ⟨_, rfl⟩
  rw [← hw5]
  have hg5 : w16.grownBy w5 (some r) := by rw [hw5]; exact grown_set _
  have hr5 : w5.heap[r]? = some (.cells (refC room (.slice A16 (L.eraseIdx k).length c16) f) 47 (0, 0)) := by rw [hw5]; exact ref_put (heap_keep hq (heap_keep B1.out HC.out)) _
  have hrw := lt_of_heap HC.out
  have p0 := (hg5.block w.heap.size (lt_of_heap (heap_keep hq Q0.out)) (fun e => by injection e with e; omega)).trans (heap_keep hq Q0.out)
  have p1 := (hg5.block (w.heap.size + 1) (lt_of_heap (heap_keep hq Q1.out)) (fun e => by injection e with e; omega)).trans (heap_keep hq Q1.out)
  obtain ⟨m0, m1, m2, m3⟩ := box4 p1
  obtain ⟨n0, n1, n2, n3⟩ := box4 p0
  have f0 := froz p0 0; have f1 := froz p0 1; have f2 := froz p0 2; have f3 := froz p0 3
  have HP0 := Lib.hid p0; have HG5 := Lib.hid hg5; have HR5 := Lib.hid hr5; have HQ := Lib.hid hq
  clear hw5 p0 p1 hg5 hr5 hq fz cz
  go_wp2_with fail
  (try simp only [Exit.inBlock, Exit.then])
  refine bodyPost_ret (results_ct rfl _ _ w.heap.size 52 #[.int .i64 p.f, .int .i64 p.t, .slice p.A p.b.length p.c, .bool p.sp] (0, 0) _ rfl (set4 HP0.out) Try.underlying52 rfl (by kernel_rfl)) rfl ?_
  have hG := grown4 w5 w.heap.size (.int .i64 p.f) (.int .i64 p.t) (.slice p.A p.b.length p.c) (.bool p.sp)
  have hF := ref_fin (L' := L.eraseIdx k) HS.out B1.out HQ.out rfl (by rw [Go.Proofs.Ytenbjmgmgdkapaa.pk_del]; simpa using hl16.out) (fun q hq => .inl (List.mem_of_mem_eraseIdx hq)) ((hG.block r (lt_of_heap HR5.out) (fun e => by injection e with e; omega)).trans HR5.out) ((Chg.ofGrown HG5.out (fun j e => by injection e with e; exact .inl e.symm)).trans (Chg.ofGrown (S := fun b => b = w.heap.size) hG (fun j e => by injection e with e; exact e.symm)) (fun j _ e => .inr ⟨Nat.le_of_eq e.symm, by have := HS1.out; omega⟩))
  exact ⟨rfl, hF.2.2.1 p (List.mem_of_getElem? HP.out), hF.1, hF.2.1⟩
end Go.Proofs.Ytenbjmgmgdkapaa
