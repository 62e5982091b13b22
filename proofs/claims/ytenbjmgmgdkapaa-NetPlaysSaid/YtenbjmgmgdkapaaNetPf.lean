/- The program's net: Spoil, Take, Cut, with what they leave alone (printed by a program of mine, mkpops.py). -/
import Derived.Test.YtenbjmgmgdkapaaNetPe
import Derived.Test.YtenbjmgmgdkapaaNetJ
set_option linter.unusedVariables false
set_option linter.unusedSimpArgs false
namespace Go.Proofs.Ytenbjmgmgdkapaa
open Go.RowKit Go.Proofs.YtenbjmgmgdkapaaW.PrintWords Go.Proofs.Ytenbjmgmgdkapaa.K Go.Proofs.Ytenbjmgmgdkapaa.Row

set_option maxRecDepth 100000 in
set_option maxHeartbeats 4000000 in
theorem spoil_own (base r mb : Nat) (room : Int) (m : Nat) (f : Nat → Nat → Bool) (L : List Pk) (k i : Nat) (by_ : Int) (p : Pk) (w : World) (hS : NetS w base r mb room m f L) (hp : L[k]? = some p) (hL : L.length ≤ 100000) (hb : p.b.length ≤ 32768) (hi : i < p.b.length) (hby : by_ ≠ 0) (hsp : p.sp = false) :
    Calls Try.prog 16 #[.pointer (some ⟨r, 0, none⟩), .int .i64 (k : Int), .int .i64 (i : Int), .int .u8 by_] w fun e w' => e = .returned (.bool true) ∧ NetS w' base r mb room m f (L.set k (p.spoil i (bits .xor .u8 (p.b.getD i 0) by_))) ∧ (∀ W, Below base W w → Below base W w') ∧ Chg (fun b => p.val.ownBlock = some b ∨ TyS w [63] b) w w' := by
  obtain ⟨Al, cl, hc, ho⟩ := hS.cl
  have hk : k < L.length := (List.getElem?_eq_some_iff.1 hp).1
  obtain ⟨g, cap, e, hgb, hgl⟩ := ho.form (by omega)
  injection e with e1 e2 e3
  subst e1 e3
  have hpo := hS.bd p (List.mem_of_getElem? hp)
  obtain ⟨gp, cp, hv, hpb, hpl⟩ := hpo.form (by omega)
  have g2 := ho.cells (g := g) rfl (k * 4 + 2) p.val (by rw [pk_get L k p hp 2 (by decide)]; rfl)
  have g3 := ho.cells (g := g) rfl (k * 4 + 3) (.bool p.sp) (by rw [pk_get L k p hp 3 (by decide)]; rfl)
  rw [add_plain] at g2 g3
  rw [hv] at g2 hpo
  rw [hsp] at g3
  obtain ⟨f1, f2⟩ := own_at hpo (i : Int) (by omega) (by omega)
  simp only [Int.toNat_natCast] at f1 f2
  rw [show rd p.b (i : Int) = p.b.getD i 0 by unfold rd; rw [Int.toNat_natCast]] at f1
  have hF := spoil_fin (i := i) (x := bits .xor .u8 (p.b.getD i 0) by_) hS hp hv hc ho
  have HF := Lib.hid hF; clear hF
  obtain ⟨csg, hgq⟩ : ∃ cs, w.heap[g]? = some (.cells cs 63 (0, 0)) := own_typed ho g rfl
  have hchg : Chg (fun b => p.val.ownBlock = some b ∨ TyS w [63] b) w ((w.setCell ⟨gp, i, none⟩ (.int .u8 (bits .xor .u8 (p.b.getD i 0) by_))).setCell ⟨g, k * 4 + 3, none⟩ (.bool true)) := (Chg.ofGrown (grown_set _) (fun k e => .inl (by rw [hv]; exact e))).trans (Chg.ofGrown (S := fun b => b = g) (grown_set _) (fun k e => by injection e with e; exact e.symm)) (fun k _ e => by subst e; exact .inr ⟨csg, _, hgq, by simp⟩)
  have HCH := Lib.hid hchg; clear hchg hgq
  have hr := hc; unfold NetC at hr
  have ne1 : g ≠ gp := fun e => by
    rcases hpo.2 with ⟨h, _⟩ | ⟨g', _, cur, h, _, hq, _⟩
    · cases h
    · injection h with h1; injection h1 with h1; injection h1 with h1; subst h1
      rcases ho.2 with ⟨h, _⟩ | ⟨g2', _, cur2, h, _, hq2, _⟩
      · cases h
      · injection h with h1; injection h1 with h1; injection h1 with h1; subst h1
        rw [e, hq] at hq2; injection hq2 with hq2; injection hq2 with _ hq2; exact absurd hq2 (by decide)
  have ne2 : r ≠ gp := fun e => by
    rcases hpo.2 with ⟨h, _⟩ | ⟨g', _, cur, h, _, hq, _⟩
    · cases h
    · injection h with h1; injection h1 with h1; injection h1 with h1; subst h1
      rw [e, hq] at hr; injection hr with hr; injection hr with _ hr; exact absurd hr (by decide)
  have fz3 : w.frozen? ⟨g, k * 4 + 3, none⟩ = false := by
    rcases ho.2 with ⟨h, _⟩ | ⟨g2', _, cur2, h, _, hq2, _⟩
    · cases h
    · injection h with h1; injection h1 with h1; injection h1 with h1; subst h1
      exact froz hq2 _
  have HH := Lib.hid (fun u => has_walk u r room (some ⟨g, 0, none⟩) L.length cl mb (k : Int))
  have HC1 := Lib.hid hc
  have hk1 : (0 : Int) ≤ (k : Int) := Int.natCast_nonneg _
  have hk2 : (k : Int) < (L.length : Int) := by omega
  have hi1 : (0 : Int) ≤ (i : Int) := Int.natCast_nonneg _
  have hi2 : (i : Int) < (p.b.length : Int) := by omega
  have hby' : (by_ == 0) = false := by simpa using hby
  obtain ⟨u0, u1, u2⟩ := net_cells hc
  have HDK := Lib.hid (show decide ((0 : Int) ≤ (k : Int) ∧ (k : Int) < (L.length : Int)) = true from decide_eq_true ⟨hk1, hk2⟩)
  have ne1' : gp ≠ g := fun e => ne1 e.symm
  have ne2' : gp ≠ r := fun e => ne2 e.symm
  clear hS hp hc ho e2 hr hpo hv hby hsp
  go_enter Try.func16, Try.ntmps16
  go_wp2_with fail
  refine (HH.out _ HC1.out hL).mono ?_
  rintro e w' ⟨rfl, rfl⟩
  rw [HDK.out]
  go_wp2_with fail
  go_ret
  have hx : p.b[i] = p.b.getD i 0 := by simp [List.getD_eq_getElem?_getD, hi]
  rw [hx]
  exact ⟨rfl, HF.out.1, HF.out.2, HCH.out⟩
set_option maxRecDepth 100000 in
set_option maxHeartbeats 4000000 in
theorem take_own (base r mb : Nat) (room : Int) (m : Nat) (f : Nat → Nat → Bool) (L : List Pk) (k : Nat) (p : Pk) (w : World) (hS : NetS w base r mb room m f L) (hp : L[k]? = some p) (hL : L.length ≤ 100000) (hb : p.b.length ≤ 32768) :
    Calls Try.prog 13 #[.pointer (some ⟨r, 0, none⟩), .int .i64 (k : Int)] w fun e w' => ∃ A1 c1, e = .returned (.tuple #[.agg #[.int .i64 p.f, .int .i64 p.t, .slice A1 p.b.length c1], .bool true]) ∧ w'.ownsRow w.heap.size 5 1 (.slice A1 p.b.length c1) p.b.length (nums .u8 p.b) ∧ NetS w' base r mb room m f (L.eraseIdx k) ∧ (∀ W, Below base W w → Below base W w') ∧ Kept20 w w' := by
  have hk : k < L.length := (List.getElem?_eq_some_iff.1 hp).1
  obtain ⟨w1, hw1⟩ : ∃ w1, w1 = w.alloc (.cells #[.int .i64 0, .int .i64 0, .slice none 0 0] 30) := ⟨_, rfl⟩
  have hb1 : Below w.heap.size w w1 := by rw [hw1]; exact alloc_back _
  have S1 := hS.below hb1
  have q0 : w1.heap[w.heap.size]? = some (.cells #[.int .i64 0, .int .i64 0, .slice none 0 0] 30 (0, 0)) := by rw [hw1]; exact heap_alloc_new _ _
  have HAT := Lib.hid (at_own base r mb room m f L k p w1 S1 hp hL hb)
  have HS := Lib.hid hS; have HS1 := Lib.hid S1; have Q0 := Lib.hid q0; have HB1 := Lib.hid hb1
  clear S1 hS q0 hp
  go_enter Try.func13, Try.ntmps13
  go_wp2_with fail
  rw [← hw1]
  clear hw1
  refine HAT.out.mono ?_
  rintro e w2 ⟨A1, c1, rfl, ho2, hb2⟩
  have HO2 := Lib.hid ho2; have HB2 := Lib.hid hb2; clear ho2 hb2
  go_wp2_with fail
  obtain ⟨w3, hw3⟩ : ∃ w3, w3 = w2.alloc (.cells #[.int .i64 p.f, .int .i64 p.t, .slice A1 p.b.length c1] 30) := ⟨_, rfl⟩
  have hm3 : w3.heap[w2.heap.size]? = some (.cells #[.int .i64 p.f, .int .i64 p.t, .slice A1 p.b.length c1] 30 (0, 0)) := by rw [hw3]; exact heap_alloc_new _ _
  have hb3 : Below w2.heap.size w2 w3 := by rw [hw3]; exact alloc_back _
  rw [← hw3]
  clear hw3
  have S3 := Lib.hid ((HS1.out.below HB2.out).below hb3)
  have HM := Lib.hid hm3; have HB3 := Lib.hid hb3
  have HN := Lib.hid (heap_keep hb3 (heap_keep HB2.out Q0.out))
  obtain ⟨d0, d1, d2⟩ := box3 hm3
  clear hm3 hb3
  have hs1 := lt_of_heap Q0.out
  have hs2 := HB2.out.size
  have hMN : w2.heap.size ≠ w.heap.size := by omega
  go_region_held3 (fun w' => w'.cell? ⟨w2.heap.size, 0, none⟩ = some (.int .i64 p.f) ∧ w'.cell? ⟨w2.heap.size, 1, none⟩ = some (.int .i64 p.t) ∧ w'.cell? ⟨w2.heap.size, 2, none⟩ = some (.slice A1 p.b.length c1))
    (first | exact ⟨d0, d1, d2⟩ | exact ⟨e0, e1, e2⟩ | exact ⟨far3 e0 hMN, far3 e1 hMN, far3 e2 hMN⟩ | go_keep)
    ((go_at_call 17; with_reducible refine (lose_ok base r mb room m f L k _ (S3.out.below (below_drew (Below.refl _ _))) hk hL).mono ?_; rintro e w5 ⟨rfl, hS5, hB5, hF5⟩; have hm5 := hF5 _ _ _ HM.out (by decide) (by decide); have hn5 := hF5 _ _ _ HN.out (by decide) (by decide); obtain ⟨e0, e1, e2⟩ := box3 hm5; obtain ⟨n0, n1, n2⟩ := box3 hn5; have v0 := froz hn5 0; have v1 := froz hn5 1; have v2 := froz hn5 2; have HN5 := Lib.hid hn5; have S5 := Lib.hid hS5; have F5 := Lib.hid hF5; have B5 := Lib.hid hB5; clear hm5 hn5 hS5 hB5 hF5))
  go_wp2_with fail
  (try simp only [Exit.inBlock, Exit.then])
  refine bodyPost_ret (results_ct rfl _ _ w.heap.size 30 #[.int .i64 p.f, .int .i64 p.t, .slice A1 p.b.length c1] (0, 0) _ rfl (set3 HN5.out) Try.underlying30 rfl (by kernel_rfl)) rfl ?_
  have G3 : w5.grownBy (((w5.setCell ⟨w.heap.size, 0, none⟩ (.int .i64 p.f)).setCell ⟨w.heap.size, 1, none⟩ (.int .i64 p.t)).setCell ⟨w.heap.size, 2, none⟩ (.slice A1 p.b.length c1)) (some w.heap.size) := World.grownBy.trans (World.grownBy.trans (grown_set _) (grown_set _)) (grown_set _)
  have hO5 := own_far (pw_own_below (pw_own_below HO2.out HB3.out) (below_drew (Below.refl _ _))) F5.out
  refine ⟨A1, c1, rfl, own_base_le (own_set (own_set (own_set hO5 (by omega)) (by omega)) (by omega)) (by omega), S5.out.other HN5.out G3, fun W hW => ?_, fun q cs ty h h1 h2 => ?_⟩
  · have hbw : base ≤ w.heap.size := HS.out.bw
    have b3 : Below base W w3.drew := below_drew (below_then (below_then (below_then hW HS.out.bw HB1.out) HS1.out.bw HB2.out) (Nat.le_trans HS1.out.bw HB2.out.size) HB3.out)
    exact pw_below_grown (B5.out W b3) (some w.heap.size) S5.out.bw G3 (fun k e => by cases e; exact hbw)
  · have hl := lt_of_heap h
    have h5 := F5.out q cs ty (heap_keep (below_drew (Below.refl _ _)) (heap_keep HB3.out (heap_keep HB2.out (heap_keep HB1.out h)))) h1 h2
    exact (G3.block q (lt_of_heap h5) (fun e => by injection e with e; omega)).trans h5
theorem cut_own (base r mb : Nat) (room : Int) (m : Nat) (f : Nat → Nat → Bool) (L : List Pk) (a b : Nat) (v : Bool) (w : World) (ha : a < 16) (hb : b < 16) (hm : m < 100000) (hS : NetS w base r mb room m f L) :
    Calls Try.prog 11 #[.pointer (some ⟨r, 0, none⟩), .int .i64 (a : Int), .int .i64 (b : Int), .bool v] w fun e w' => e = .returned (.tuple #[]) ∧ NetS w' base r mb room (m + 1) (upd f a b v) L ∧ (∀ W, Below base W w → Below base W w') ∧ Chg (fun b => b = mb) w w' := by
  obtain ⟨A, c, hc, ho⟩ := hS.cl
  refine (cut_walk w r room A L.length c mb m f hc hS.cu hm hS.ne a b ha hb v).mono ?_
  rintro e w' ⟨rfl, h1, h2, h3⟩
  refine ⟨rfl, ⟨⟨A, c, h1, own_other ho h3 (hS.cu.ne (u := w) ho)⟩, fun p hp => own_other (hS.bd p hp) h3 (hS.cu.ne (u := w) (hS.bd p hp)), hS.ap, h2, hS.br, hS.bm, hS.ne, Nat.le_trans hS.bw h3.size⟩, fun W hW => ?_, Chg.ofGrown h3 (fun k e => by injection e with e; exact e.symm)⟩
  exact pw_below_grown hW (some mb) hS.bw h3 (fun k hk => by cases hk; exact hS.bm)
end Go.Proofs.Ytenbjmgmgdkapaa
