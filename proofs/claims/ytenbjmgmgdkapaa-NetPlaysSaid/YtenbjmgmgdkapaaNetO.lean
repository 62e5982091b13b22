/- Net: Take. -/
import Derived.Test.YtenbjmgmgdkapaaNetN
set_option linter.unusedVariables false
set_option linter.unusedSimpArgs false
namespace Go.Proofs.Ytenbjmgmgdkapaa
open Go.RowKit Go.Proofs.YtenbjmgmgdkapaaW.PrintWords Go.Proofs.Ytenbjmgmgdkapaa.K

set_option maxRecDepth 100000 in
set_option maxHeartbeats 4000000 in
theorem at_own (base r mb : Nat) (room : Int) (m : Nat) (f : Nat → Nat → Bool) (L : List Pk) (k : Nat) (p : Pk) (w : World) (hS : NetS w base r mb room m f L) (hp : L[k]? = some p) (hL : L.length ≤ 100000) (hb : p.b.length ≤ 32768) :
    Calls Try.prog 15 #[.pointer (some ⟨r, 0, none⟩), .int .i64 (k : Int)] w fun e w' => ∃ A1 c1, e = .returned (.tuple #[.agg #[.int .i64 p.f, .int .i64 p.t, .slice A1 p.b.length c1], .bool true]) ∧ w'.ownsRow (w.heap.size + 1) 5 1 (.slice A1 p.b.length c1) p.b.length (nums .u8 p.b) ∧ Below w.heap.size w w' := by
  obtain ⟨Al, cl, hc, ho⟩ := hS.cl
  have hk : k < L.length := (List.getElem?_eq_some_iff.1 hp).1
  obtain ⟨g, cap, e, hgb, hgl⟩ := ho.form (by omega)
  injection e with e1 e2 e3
  subst e1 e3
  have g0 := ho.cells (g := g) rfl (k * 4 + 0) (.int .i64 p.f) (by rw [pk_get L k p hp 0 (by decide)]; rfl)
  have g1 := ho.cells (g := g) rfl (k * 4 + 1) (.int .i64 p.t) (by rw [pk_get L k p hp 1 (by decide)]; rfl)
  have g2 := ho.cells (g := g) rfl (k * 4 + 2) p.val (by rw [pk_get L k p hp 2 (by decide)]; rfl)
  rw [add_plain] at g0 g1 g2
  obtain ⟨w1, hw1⟩ : ∃ w1, w1 = w.alloc (.cells #[.int .i64 0, .int .i64 0, .slice none 0 0] 30) := ⟨_, rfl⟩
  have hb1 : Below w.heap.size w w1 := by rw [hw1]; exact alloc_back _
  have hc1 : NetC w1 r room (some ⟨g, 0, none⟩) L.length cl mb := by unfold NetC at hc ⊢; exact heap_keep hb1 hc
  have q0 : w1.heap[w.heap.size]? = some (.cells #[.int .i64 0, .int .i64 0, .slice none 0 0] 30 (0, 0)) := by rw [hw1]; exact heap_alloc_new _ _
  have hrd : ReadsInt w1 .u8 p.A p.b.length p.b := (own_info (pw_own_below (hS.bd p (List.mem_of_getElem? hp)) hb1)).2.2.2.1
  have hpA : p.A = none → p.c = 0 := fun h => by
    rcases (hS.bd p (List.mem_of_getElem? hp)).2 with ⟨h1, _⟩ | ⟨_, _, _, h1, _⟩
    · unfold Pk.val at h1; injection h1
    · unfold Pk.val at h1; rw [h] at h1; injection h1 with h1; cases h1
  have z0 := pw_cell_below hb1 g0
  have z1 := pw_cell_below hb1 g1
  have z2 := pw_cell_below hb1 g2
  rw [Nat.add_zero] at z0
  have HH := Lib.hid (fun u => has_walk u r room (some ⟨g, 0, none⟩) L.length cl mb (k : Int))
  have HC1 := Lib.hid hc1; have Q0 := Lib.hid q0; have HRD := Lib.hid hrd; have HPA := Lib.hid hpA; have HB1 := Lib.hid hb1
  have hk1 : (0 : Int) ≤ (k : Int) := Int.natCast_nonneg _
  have hk2 : (k : Int) < (L.length : Int) := by omega
  obtain ⟨u0, u1, u2⟩ := net_cells hc1
  have hdk : decide ((0 : Int) ≤ (k : Int) ∧ (k : Int) < (L.length : Int)) = true := decide_eq_true ⟨hk1, hk2⟩
  have HDK := Lib.hid hdk
  clear hS hp hc ho g0 g1 g2 hc1 q0 hrd hpA hb1 e2 hdk
  go_enter Try.func15, Try.ntmps15
  go_wp2_with fail
  rw [← hw1]
  clear hw1
  refine (HH.out _ HC1.out hL).mono ?_
  rintro e w' ⟨rfl, rfl⟩
  rw [HDK.out]
  go_wp2_with fail
  refine (copied_walk p.f p.t p.A p.b.length p.c p.b _ HRD.out (by omega) HPA.out).mono ?_
  rintro e w3 ⟨A1, c1, rfl, ho1, hb3⟩
  have HO1 := Lib.hid ho1
  have hz := heap_keep hb3 Q0.out
  have hs1 := lt_of_heap Q0.out
  obtain ⟨y0, y1, y2⟩ := box3 hz
  have v0 := froz hz 0
  have v1 := froz hz 1
  have v2 := froz hz 2
  have HZ := Lib.hid hz
  have HB3 := Lib.hid (below_then HB1.out HB1.out.size hb3)
  clear ho1 hb3 hz z0 z1 z2
  go_wp2_with fail
  (try simp only [Exit.inBlock, Exit.then])
  refine bodyPost_ret (results_ct rfl _ _ w.heap.size 30 #[.int .i64 p.f, .int .i64 p.t, .slice A1 p.b.length c1] (0, 0) _ rfl (set3 HZ.out) Try.underlying30 rfl (by kernel_rfl)) rfl ?_
  have h1 := HB3.out.size
  have gg : ∀ (u : World) (j : Nat) (v : Value), (u.setCell ⟨w.heap.size, j, none⟩ v).heap.size = u.heap.size := fun u j v => by simp [World.setCell]
  refine ⟨A1, c1, rfl, own_base_le (own_set (own_set (own_set HO1.out (by omega)) (by omega)) (by omega)) (by omega), bset' (bset' (bset' HB3.out (Nat.le_refl _) h1) (Nat.le_refl _) (by rw [gg]; exact h1)) (Nat.le_refl _) (by rw [gg, gg]; exact h1)⟩
end Go.Proofs.Ytenbjmgmgdkapaa
