/- The reference's Wide, Plus, WAdd. -/
import Derived.Test.YtjidjbjbngbhpaaRingX
import Derived.Deep.RegionHeld3
set_option linter.unusedVariables false
set_option linter.unusedSimpArgs false
namespace Go.Proofs.Ytjidjbjbngbhpaa
open Go.RowKit Go.Proofs.YtjidjbjbngbhpaaW.PrintWords Go.Proofs.Ytjidjbjbngbhpaa.K

def WideP (w : World) (v : Int) (e : Ending) (w' : World) : Prop := ∃ p : Int × Int, e = .returned (.agg #[.int .i64 p.1, .int .u64 p.2]) ∧ WwfP p ∧ (p.1 * 18446744073709551616 + p.2 - v) % 340282366920938463463374607431768211456 = 0 ∧ Below w.heap.size w w'
theorem wrapw (x : Int) : ∃ T : Int, wrap64 x = x - 18446744073709551616 * T ∧ -9223372036854775808 ≤ wrap64 x ∧ wrap64 x < 9223372036854775808 := by
  unfold wrap64
  exact ⟨(x + 9223372036854775808) / 18446744073709551616, by omega, by omega, by omega⟩
theorem wideP_mk {w w' : World} {x y v : Int} (hy : 0 ≤ y ∧ y < 18446744073709551616) (hv : (x * 18446744073709551616 + y - v) % 340282366920938463463374607431768211456 = 0) (hb : Below w.heap.size w w') : WideP w v (.returned (.agg #[.int .i64 (wrap64 x), .int .u64 y])) w' := by
  obtain ⟨T, h1, h2, h3⟩ := wrapw x
  refine ⟨(wrap64 x, y), rfl, (wwf_iff _).2 ⟨⟨h2, h3⟩, hy⟩, ?_, hb⟩
  simp only []
  rw [h1]
  omega
set_option maxHeartbeats 4000000 in
theorem wide_any (neg : Bool) (m : Nat → Int) (hm : In4 m) (w : World) : Calls Try.prog 18 #[.agg (nC neg m)] w (WideP w (nV neg m)) := by
  obtain ⟨a, ha⟩ : ∃ a, a = m 0 := ⟨_, rfl⟩
  obtain ⟨b, hb⟩ : ∃ b, b = m 1 := ⟨_, rfl⟩
  obtain ⟨c, hc⟩ : ∃ c, c = m 2 := ⟨_, rfl⟩
  obtain ⟨d, hd⟩ : ∃ d, d = m 3 := ⟨_, rfl⟩
  have h0 := hm 0
  have h1 := hm 1
  unfold nC nV
  rw [← ha, ← hb, ← hc, ← hd]
  rw [← ha] at h0
  rw [← hb] at h1
  clear ha hb hc hd hm
  cases neg with
  | false =>
    go_enter Try.func18, Try.ntmps18
    go_wp2_with fail
    go_quiet (fail)
    go_wp2_with fail
    (try simp only [Exit.inBlock, Exit.then])
    refine bodyPost_ret (results_cell_row rfl _ _ (w.heap.size + 1) 33 #[.int .i64 (wrap64 b), .int .u64 a] (0, 0) _ rfl (by rw [heap_set _ (heap_set _ (two_cell w _ rfl nq))]; rfl) Try.underlying33 rfl (by kernel_rfl)) rfl ?_
    exact wideP_mk h0 (by simp) (((two_below w _ _ _).setCell (Nat.le_succ _) _).setCell (Nat.le_succ _) _)
  | true =>
    obtain ⟨nl, hnl⟩ : ∃ nl, nl = 18446744073709551615 - a := ⟨_, rfl⟩
    obtain ⟨nh, hnh⟩ : ∃ nh, nh = 18446744073709551615 - b := ⟨_, rfl⟩
    have e1 : bits .xor .u64 IntKind.u64.max a = nl := by rw [bits_not a h0.1 h0.2, hnl]
    have e2 : bits .xor .u64 IntKind.u64.max b = nh := by rw [bits_not b h1.1 h1.2, hnh]
    have hsg : IntKind.u64.signed = false := rfl
    by_cases hl : a = 0
    · have e3 : IntKind.u64.wrap (nl + 1) = 0 := by rw [IntKind.wrap_u64, hnl, hl]; rfl
      obtain ⟨hi, hhi⟩ : ∃ hi, hi = (18446744073709551616 - b) % 18446744073709551616 := ⟨_, rfl⟩
      have e4 : IntKind.u64.wrap (nh + 1) = hi := by rw [IntKind.wrap_u64, hnh, hhi]; congr 1; omega
      have HF := Lib.hid (show (hi * 18446744073709551616 + 0 - -(b * 18446744073709551616 + a)) % 340282366920938463463374607431768211456 = 0 by rw [hl, hhi]; omega)
      clear hnl hnh hl hhi
      go_enter Try.func18, Try.ntmps18
      go_wp2_with fail
      go_quiet (fail)
      go_wp2_with fail
      (try simp only [Exit.inBlock, Exit.then])
      refine bodyPost_ret (results_cell_row rfl _ _ (w.heap.size + 1) 33 #[.int .i64 (wrap64 hi), .int .u64 0] (0, 0) _ rfl (by rw [heap_set _ (heap_set _ (two_cell w _ rfl nq))]; rfl) Try.underlying33 rfl (by kernel_rfl)) rfl ?_
      exact wideP_mk ⟨Int.le_refl 0, (by decide : (0 : Int) < 18446744073709551616)⟩ HF.out (((two_below w _ _ _).setCell (Nat.le_succ _) _).setCell (Nat.le_succ _) _)
    · obtain ⟨lo, hlo⟩ : ∃ lo, lo = 18446744073709551616 - a := ⟨_, rfl⟩
      have e3 : IntKind.u64.wrap (nl + 1) = lo := by rw [IntKind.wrap_u64, hnl, hlo]; omega
      have g0 : ¬ lo = 0 := by rw [hlo]; omega
      have g1 : (lo == 0) = false := by rw [beq_eq_false_iff_ne]; exact g0
      have HF := Lib.hid (show (0 ≤ lo ∧ lo < 18446744073709551616) ∧ (nh * 18446744073709551616 + lo - -(b * 18446744073709551616 + a)) % 340282366920938463463374607431768211456 = 0 by rw [hlo, hnh]; omega)
      clear hnl hnh hl hlo
      go_enter Try.func18, Try.ntmps18
      go_wp2_with fail
      go_quiet (fail)
      go_wp2_with fail
      (try simp only [Exit.inBlock, Exit.then])
      refine bodyPost_ret (results_cell_row rfl _ _ (w.heap.size + 1) 33 #[.int .i64 (wrap64 nh), .int .u64 lo] (0, 0) _ rfl (by rw [heap_set _ (heap_set _ (two_cell w _ rfl nq))]; rfl) Try.underlying33 rfl (by kernel_rfl)) rfl ?_
      exact wideP_mk HF.out.1 HF.out.2 (((two_below w _ _ _).setCell (Nat.le_succ _) _).setCell (Nat.le_succ _) _)
theorem box5 {w : World} {r : Nat} {n : Bool} {m : Nat → Int} {t : TypeId} (h : w.heap[r]? = some (.cells (nC n m) t (0, 0))) :
    w.cell? ⟨r, 0, none⟩ = some (.bool n) ∧ w.cell? ⟨r, 1, none⟩ = some (.int .u64 (m 0)) ∧ w.cell? ⟨r, 2, none⟩ = some (.int .u64 (m 1)) ∧ w.cell? ⟨r, 3, none⟩ = some (.int .u64 (m 2)) ∧ w.cell? ⟨r, 4, none⟩ = some (.int .u64 (m 3)) := by
  simp [World.cell?, h, nC]
theorem box5_froz {w : World} {r : Nat} {cs : Array Value} {t : TypeId} (h : w.heap[r]? = some (.cells cs t (0, 0))) : w.frozen? ⟨r, 0, none⟩ = false ∧ w.frozen? ⟨r, 1, none⟩ = false ∧ w.frozen? ⟨r, 2, none⟩ = false ∧ w.frozen? ⟨r, 3, none⟩ = false ∧ w.frozen? ⟨r, 4, none⟩ = false := ⟨frozr h 0, frozr h 1, frozr h 2, frozr h 3, frozr h 4⟩
theorem three_all (w : World) (a b c : Obj) : ((((w.alloc a).alloc b).alloc c).heap[w.heap.size]? = some a) ∧ ((((w.alloc a).alloc b).alloc c).heap[w.heap.size + 1]? = some b) ∧ ((((w.alloc a).alloc b).alloc c).heap[w.heap.size + 1 + 1]? = some c) ∧ Below w.heap.size w (((w.alloc a).alloc b).alloc c) := by
  have s1 : (w.alloc a).heap.size = w.heap.size + 1 := by simp
  have s2 : ((w.alloc a).alloc b).heap.size = w.heap.size + 1 + 1 := by simp
  have e1 := heap_alloc_new w a
  have e2 := heap_alloc_new (w.alloc a) b
  have e3 := heap_alloc_new ((w.alloc a).alloc b) c
  rw [s1] at e2
  rw [s2] at e3
  have keep := fun (w : World) (o : Obj) {k : Nat} {x : Obj} (h : w.heap[k]? = some x) => rheap_keep ((Below.refl w.heap.size w).alloc (Nat.le_refl _) o) h
  exact ⟨keep _ _ (keep _ _ e1), keep _ _ e2, e3, (((Below.refl _ _).alloc (Nat.le_refl _) _).alloc (by simp) _).alloc (by simp <;> omega) _⟩
/-- The sum's number. -/
theorem nV_plus {n : Bool} {a b : Nat → Int} (ha : In4 a) (hb : In4 b) : (nV n (wdP a b) - (nV n a + nV n b)) % 340282366920938463463374607431768211456 = 0 := by
  have e0 : wdP a b 0 = (a 0 + b 0 + 0) % 18446744073709551616 := rfl
  have e1 : wdP a b 1 = (a 1 + b 1 + if a 0 + b 0 + 0 < 18446744073709551616 then 0 else 1) % 18446744073709551616 := rfl
  have a0 := ha 0; have b0 := hb 0; have a1 := ha 1; have b1 := hb 1
  unfold nV
  rw [e0, e1]
  clear e0 e1 ha hb
  generalize a 0 = x0 at *
  generalize b 0 = y0 at *
  generalize a 1 = x1 at *
  generalize b 1 = y1 at *
  cases n <;> simp only [Bool.false_eq_true, if_false, if_true] <;> split <;> omega
theorem nV_minus {n n' : Bool} (hn : n ≠ n') {a b : Nat → Int} (ha : In4 a) (hb : In4 b) : (nV n (wdM a b) - (nV n a + nV n' b)) % 340282366920938463463374607431768211456 = 0 := by
  have e0 : wdM a b 0 = (a 0 - b 0 - 0) % 18446744073709551616 := rfl
  have e1 : wdM a b 1 = (a 1 - b 1 - if a 0 - b 0 - 0 < 0 then 1 else 0) % 18446744073709551616 := rfl
  have a0 := ha 0; have b0 := hb 0; have a1 := ha 1; have b1 := hb 1
  unfold nV
  rw [e0, e1]
  clear e0 e1 ha hb
  generalize a 0 = x0 at *
  generalize b 0 = y0 at *
  generalize a 1 = x1 at *
  generalize b 1 = y1 at *
  cases n <;> cases n' <;> first | exact absurd rfl hn | (simp only [Bool.false_eq_true, if_false, if_true]; split <;> omega)
theorem wdP_in (a b : Nat → Int) : In4 (wdP a b) := fun k => ⟨Int.emod_nonneg _ (by decide), Int.emod_lt_of_pos _ (by decide)⟩
theorem wdM_in (a b : Nat → Int) : In4 (wdM a b) := fun k => ⟨Int.emod_nonneg _ (by decide), Int.emod_lt_of_pos _ (by decide)⟩
set_option maxHeartbeats 4000000 in
theorem Plus_walk (n n' : Bool) (a b : Nat → Int) (ha : In4 a) (hb : In4 b) (w : World) : Calls Try.prog 19 #[.agg (nC n a), .agg (nC n' b)] w (NumP w (nV n a + nV n' b)) := by
  have HA := Lib.hid ha; have HB := Lib.hid hb
  have CP := Lib.hid (fun w => (show Calls Try.prog 25 #[.agg #[.int .u64 (a 0), .int .u64 (a 1), .int .u64 (a 2), .int .u64 (a 3)], .agg #[.int .u64 (b 0), .int .u64 (b 1), .int .u64 (b 2), .int .u64 (b 3)]] w fun e w' => e = .returned (.agg #[.int .u64 (wdP a b 0), .int .u64 (wdP a b 1), .int .u64 (wdP a b 2), .int .u64 (wdP a b 3)]) ∧ Below w.heap.size w w' from plus_walk a b ha hb w))
  have CL := Lib.hid (fun w => (show Calls Try.prog 26 #[.agg #[.int .u64 (a 0), .int .u64 (a 1), .int .u64 (a 2), .int .u64 (a 3)], .agg #[.int .u64 (b 0), .int .u64 (b 1), .int .u64 (b 2), .int .u64 (b 3)]] w (SomeB w) from less_walk a b w))
  have CM := Lib.hid (fun w => (show Calls Try.prog 27 #[.agg #[.int .u64 (a 0), .int .u64 (a 1), .int .u64 (a 2), .int .u64 (a 3)], .agg #[.int .u64 (b 0), .int .u64 (b 1), .int .u64 (b 2), .int .u64 (b 3)]] w fun e w' => e = .returned (.agg #[.int .u64 (wdM a b 0), .int .u64 (wdM a b 1), .int .u64 (wdM a b 2), .int .u64 (wdM a b 3)]) ∧ Below w.heap.size w w' from minus_walk a b ha hb w))
  have CN := Lib.hid (fun w => (show Calls Try.prog 27 #[.agg #[.int .u64 (b 0), .int .u64 (b 1), .int .u64 (b 2), .int .u64 (b 3)], .agg #[.int .u64 (a 0), .int .u64 (a 1), .int .u64 (a 2), .int .u64 (a 3)]] w fun e w' => e = .returned (.agg #[.int .u64 (wdM b a 0), .int .u64 (wdM b a 1), .int .u64 (wdM b a 2), .int .u64 (wdM b a 3)]) ∧ Below w.heap.size w w' from minus_walk b a hb ha w))
  clear ha hb
  obtain ⟨h1, h2, h3, hb3⟩ := three_all w (.cells (nC n a) 58) (.cells (nC n' b) 58) (.cells #[.bool false, .int .u64 0, .int .u64 0, .int .u64 0, .int .u64 0] 58)
  obtain ⟨w3, hw3⟩ : ∃ w3, w3 = ((w.alloc (.cells (nC n a) 58)).alloc (.cells (nC n' b) 58)).alloc (.cells #[.bool false, .int .u64 0, .int .u64 0, .int .u64 0, .int .u64 0] 58) := ⟨_, rfl⟩
  rw [← hw3] at h1 h2 h3 hb3
  have H1 := Lib.hid h1; have H2 := Lib.hid h2; have H3 := Lib.hid h3; have B3 := Lib.hid hb3
  obtain ⟨x0, x1, x2, x3, x4⟩ := box5 h1
  obtain ⟨y0, y1, y2, y3, y4⟩ := box5 h2
  have C' := And.intro (And.intro x0 (And.intro x1 (And.intro x2 (And.intro x3 x4)))) (And.intro y0 (And.intro y1 (And.intro y2 (And.intro y3 y4))))
  rw [hw3] at C'
  obtain ⟨⟨x0', x1', x2', x3', x4'⟩, y0', y1', y2', y3', y4'⟩ := C'
  clear h1 h2 h3 hb3
  by_cases hn : n = n'
  · subst hn
    have e1 : (n == n) = true := by simp
    go_enter Try.func19, Try.ntmps19
    go_wp2_with fail
    have FIN := Lib.hid (And.intro (wdP_in a b) (nV_plus (n := n) HA.out HB.out))
    rw [← hw3]
    clear hw3 x0' y0' x1' x2' x3' x4' y1' y2' y3' y4'
    go_region_with ((go_at_call 25; (with_reducible refine (CP.out _).mono ?_); rintro e w5 ⟨rfl, hb5⟩; have hq5 : Below w3.heap.size w3 w5 := below_then (below_drew (Below.refl w3.heap.size w3)) (Nat.le_refl _) hb5; have g1 := rheap_keep hq5 H1.out; have g2 := rheap_keep hq5 H2.out; have g3 := rheap_keep hq5 H3.out; obtain ⟨p0, p1, p2, p3, p4⟩ := box5 g1; obtain ⟨q0, q1, q2, q3, q4⟩ := box5 g2; obtain ⟨z0, z1, z2, z3, z4⟩ := box5 (n := false) (m := fun _ => 0) g3; obtain ⟨f0, f1, f2, f3, f4⟩ := box5_froz g3; have G3 := Lib.hid g3; have Q5 := Lib.hid hq5; clear g1 g2 g3 hq5 hb5))
    all_goals (go_wp2_with fail)
    all_goals (try simp only [Exit.inBlock, Exit.then])
    all_goals refine bodyPost_ret (results_cell_row rfl _ _ (w.heap.size + 1 + 1) 58 (nC n (wdP a b)) (0, 0) _ rfl (by first | exact set5 G3.out rfl _ _ _ _ _ | exact (set5 G3.out rfl _ _ _ _ _ : _)) Try.underlying58 rfl (by kernel_rfl)) rfl ?_
    all_goals exact ⟨n, _, rfl, FIN.out.1, FIN.out.2, by first | exact set5_below (below_then B3.out B3.out.size Q5.out) (by omega) | exact below_drew (set5_below (below_then B3.out B3.out.size Q5.out) (by omega))⟩
  · have e1 : (n == n') = false := by rw [beq_eq_false_iff_ne]; exact hn
    have HN := Lib.hid hn
    clear hn
    go_enter Try.func19, Try.ntmps19
    go_wp2_with fail
    rw [← hw3]
    clear hw3 x0' y0' x1' x2' x3' x4' y1' y2' y3' y4'
    refine (CL.out w3).mono ?_
    rintro e w6 ⟨bb, rfl, hb6⟩
    have h1 := rheap_keep hb6 H1.out; have h2 := rheap_keep hb6 H2.out; have h3 := rheap_keep hb6 H3.out
    have B6 := Lib.hid (below_then B3.out B3.out.size hb6)
    obtain ⟨x0, x1, x2, x3, x4⟩ := box5 h1
    obtain ⟨y0, y1, y2, y3, y4⟩ := box5 h2
    have H1 := Lib.hid h1; have H2 := Lib.hid h2; have H3 := Lib.hid h3
    clear h1 h2 h3 hb6 CL CP
    obtain ⟨w3, rfl⟩ : ∃ w3, w3 = w6 := ⟨_, rfl⟩
    have B3 := B6
    cases bb with
    | true =>
      have FIN := Lib.hid (show In4 (wdM b a) ∧ (nV n' (wdM b a) - (nV n a + nV n' b)) % 340282366920938463463374607431768211456 = 0 from ⟨wdM_in b a, by have := nV_minus (n := n') (n' := n) (fun e => HN.out e.symm) HB.out HA.out; rw [Int.add_comm]; exact this⟩)
      go_wp2_with fail
      go_region_with ((go_at_call 27; (with_reducible refine (CN.out _).mono ?_); rintro e w5 ⟨rfl, hb5⟩; have hq5 : Below w3.heap.size w3 w5 := below_then (below_drew (Below.refl w3.heap.size w3)) (Nat.le_refl _) hb5; have g1 := rheap_keep hq5 H1.out; have g2 := rheap_keep hq5 H2.out; have g3 := rheap_keep hq5 H3.out; obtain ⟨p0, p1, p2, p3, p4⟩ := box5 g1; obtain ⟨q0, q1, q2, q3, q4⟩ := box5 g2; obtain ⟨z0, z1, z2, z3, z4⟩ := box5 (n := false) (m := fun _ => 0) g3; obtain ⟨f0, f1, f2, f3, f4⟩ := box5_froz g3; have G3 := Lib.hid g3; have Q5 := Lib.hid hq5; clear g1 g2 g3 hq5 hb5))
      all_goals (go_wp2_with fail)
      all_goals (try simp only [Exit.inBlock, Exit.then])
      all_goals refine bodyPost_ret (results_cell_row rfl _ _ (w.heap.size + 1 + 1) 58 (nC n' (wdM b a)) (0, 0) _ rfl (set5 G3.out rfl _ _ _ _ _) Try.underlying58 rfl (by kernel_rfl)) rfl ?_
      all_goals exact ⟨n', _, rfl, FIN.out.1, FIN.out.2, by first | exact set5_below (below_then B3.out B3.out.size Q5.out) (by omega) | exact below_drew (set5_below (below_then B3.out B3.out.size Q5.out) (by omega))⟩
    | false =>
      have FIN := Lib.hid (And.intro (wdM_in a b) (nV_minus HN.out HA.out HB.out))
      go_wp2_with fail
      go_region_with ((go_at_call 27; (with_reducible refine (CM.out _).mono ?_); rintro e w5 ⟨rfl, hb5⟩; have hq5 : Below w3.heap.size w3 w5 := below_then (below_drew (Below.refl w3.heap.size w3)) (Nat.le_refl _) hb5; have g1 := rheap_keep hq5 H1.out; have g2 := rheap_keep hq5 H2.out; have g3 := rheap_keep hq5 H3.out; obtain ⟨p0, p1, p2, p3, p4⟩ := box5 g1; obtain ⟨q0, q1, q2, q3, q4⟩ := box5 g2; obtain ⟨z0, z1, z2, z3, z4⟩ := box5 (n := false) (m := fun _ => 0) g3; obtain ⟨f0, f1, f2, f3, f4⟩ := box5_froz g3; have G3 := Lib.hid g3; have Q5 := Lib.hid hq5; clear g1 g2 g3 hq5 hb5))
      all_goals (go_wp2_with fail)
      all_goals (try simp only [Exit.inBlock, Exit.then])
      all_goals refine bodyPost_ret (results_cell_row rfl _ _ (w.heap.size + 1 + 1) 58 (nC n (wdM a b)) (0, 0) _ rfl (set5 G3.out rfl _ _ _ _ _) Try.underlying58 rfl (by kernel_rfl)) rfl ?_
      all_goals exact ⟨n, _, rfl, FIN.out.1, FIN.out.2, by first | exact set5_below (below_then B3.out B3.out.size Q5.out) (by omega) | exact below_drew (set5_below (below_then B3.out B3.out.size Q5.out) (by omega))⟩
end Go.Proofs.Ytjidjbjbngbhpaa
