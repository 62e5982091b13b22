/- Net: Take. -/
import Derived.Test.YtenbjmgmgdkapaaNetO
set_option linter.unusedVariables false
set_option linter.unusedSimpArgs false
namespace Go.Proofs.Ytenbjmgmgdkapaa
open Go.RowKit Go.Proofs.YtenbjmgmgdkapaaW.PrintWords Go.Proofs.Ytenbjmgmgdkapaa.K

theorem own_far {w w' : World} {base n : Nat} {v : Value} {xs : List Value} (h : w.ownsRow base 5 1 v n xs) (hf : ∀ (q : Nat) (cs : Array Value) (ty : TypeId), w.heap[q]? = some (.cells cs ty (0, 0)) → ty ≠ 63 → ty ≠ 59 → w'.heap[q]? = some (.cells cs ty (0, 0))) : w'.ownsRow base 5 1 v n xs := by
  refine ⟨h.1, ?_⟩
  rcases h.2 with h | ⟨g, cap, cur, h1, h2, h3, h4⟩
  · exact .inl h
  · exact .inr ⟨g, cap, cur, h1, h2, hf _ _ _ h3 (by decide) (by decide), h4⟩
theorem box_ne {u : World} {N bs sz k : Nat} {e ty : TypeId} {V : Value} {M : List Value} {cs : Array Value} (hu : u.heap[N]? = some (.cells cs ty (0, 0))) (hV : u.ownsRow bs e sz V k M) (he : e ≠ ty) : V.ownBlock = none ∨ V.ownBlock ≠ some N := by
  rcases hV.2 with ⟨h, _⟩ | ⟨g', _, _, h, _, hh, _⟩
  · left; rw [h]; rfl
  · right; rw [h]; intro e2
    have e3 : g' = N := by simpa [Value.ownBlock] using e2
    rw [e3, hu] at hh; injection hh with hh; injection hh with _ hh; exact he hh.symm
theorem NetS.other {w w' : World} {base r mb N : Nat} {room : Int} {n : Nat} {f : Nat → Nat → Bool} {L : List Pk} {cs : Array Value} (h : NetS w base r mb room n f L) (hN : w.heap[N]? = some (.cells cs 30 (0, 0))) (hg : w.grownBy w' (some N)) : NetS w' base r mb room n f L := by
  obtain ⟨A, c, h1, h2⟩ := h.cl
  refine ⟨⟨A, c, ?_, own_other h2 hg (box_ne hN h2 (by decide))⟩, fun p hp => own_other (h.bd p hp) hg (box_ne hN (h.bd p hp) (by decide)), h.ap, ?_, h.br, h.bm, h.ne, Nat.le_trans h.bw hg.size⟩
  · have hr : r ≠ N := by
      intro e
      unfold NetC at h1
      rw [e, hN] at h1; injection h1 with h1; injection h1 with _ h1; exact absurd h1 (by decide)
    unfold NetC at h1 ⊢
    exact (hg.block r (lt_of_heap h1) (fun e => hr (by injection e))).trans h1
  · refine h.cu.kept hg (fun e => ?_)
    injection e with e
    obtain ⟨D, ⟨es, clock, e1, _⟩, _⟩ := h.cu
    rw [e, hN] at e1; cases e1
theorem far3 {u : World} {N M j : Nat} {v x y z : Value} (hc : u.cell? ⟨M, j, none⟩ = some v) (h : M ≠ N) : (((u.setCell ⟨N, 0, none⟩ x).setCell ⟨N, 1, none⟩ y).setCell ⟨N, 2, none⟩ z).cell? ⟨M, j, none⟩ = some v := by
  rw [cell_far (by exact h), cell_far (by exact h), cell_far (by exact h)]; exact hc
set_option maxRecDepth 100000 in
set_option maxHeartbeats 4000000 in
theorem take_ok (base r mb : Nat) (room : Int) (m : Nat) (f : Nat → Nat → Bool) (L : List Pk) (k : Nat) (p : Pk) (w : World) (hS : NetS w base r mb room m f L) (hp : L[k]? = some p) (hL : L.length ≤ 100000) (hb : p.b.length ≤ 32768) :
    Calls Try.prog 13 #[.pointer (some ⟨r, 0, none⟩), .int .i64 (k : Int)] w fun e w' => ∃ A1 c1, e = .returned (.tuple #[.agg #[.int .i64 p.f, .int .i64 p.t, .slice A1 p.b.length c1], .bool true]) ∧ ReadsInt w' .u8 A1 p.b.length p.b ∧ NetS w' base r mb room m f (L.eraseIdx k) ∧ ∀ W, Below base W w → Below base W w' := by
  have hk : k < L.length := (List.getElem?_eq_some_iff.1 hp).1
  obtain ⟨w1, hw1⟩ : ∃ w1, w1 = w.alloc (.cells #[.int .i64 0, .int .i64 0, .slice none 0 0] 30) := ⟨_, rfl⟩
  have hb1 : Below w.heap.size w w1 := by rw [hw1]; exact alloc_back _
  have S1 := hS.below hb1
  have q0 : w1.heap[w.heap.size]? = some (.cells #[.int .i64 0, .int .i64 0, .slice none 0 0] 30 (0, 0)) := by rw [hw1]; exact heap_alloc_new _ _
  have HAT := Lib.hid (at_own base r mb room m f L k p w1 S1 hp hL hb)
  have HS := Lib.hid hS; have HS1 := Lib.hid S1; have Q0 := Lib.hid q0; have HB1 := Lib.hid hb1
  clear S1 hS q0 hp
  go_enter Try.func13, Try.ntmps13
  go_wp2_with fail
  rw [← hw1]
  clear hw1
  refine HAT.out.mono ?_
  rintro e w2 ⟨A1, c1, rfl, ho2, hb2⟩
  have HO2 := Lib.hid ho2; have HB2 := Lib.hid hb2; clear ho2 hb2
  go_wp2_with fail
  obtain ⟨w3, hw3⟩ : ∃ w3, w3 = w2.alloc (.cells #[.int .i64 p.f, .int .i64 p.t, .slice A1 p.b.length c1] 30) := ⟨_, rfl⟩
  have hm3 : w3.heap[w2.heap.size]? = some (.cells #[.int .i64 p.f, .int .i64 p.t, .slice A1 p.b.length c1] 30 (0, 0)) := by rw [hw3]; exact heap_alloc_new _ _
  have hb3 : Below w2.heap.size w2 w3 := by rw [hw3]; exact alloc_back _
  rw [← hw3]
  clear hw3
  have S3 := Lib.hid ((HS1.out.below HB2.out).below hb3)
  have HM := Lib.hid hm3; have HB3 := Lib.hid hb3
  have HN := Lib.hid (heap_keep hb3 (heap_keep HB2.out Q0.out))
  obtain ⟨d0, d1, d2⟩ := box3 hm3
  clear hm3 hb3
  have hs1 := lt_of_heap Q0.out
  have hs2 := HB2.out.size
  have hMN : w2.heap.size ≠ w.heap.size := by omega
  go_region_held3 (fun w' => w'.cell? ⟨w2.heap.size, 0, none⟩ = some (.int .i64 p.f) ∧ w'.cell? ⟨w2.heap.size, 1, none⟩ = some (.int .i64 p.t) ∧ w'.cell? ⟨w2.heap.size, 2, none⟩ = some (.slice A1 p.b.length c1))
    (first | exact ⟨d0, d1, d2⟩ | exact ⟨e0, e1, e2⟩ | exact ⟨far3 e0 hMN, far3 e1 hMN, far3 e2 hMN⟩ | go_keep)
    ((go_at_call 17; with_reducible refine (lose_ok base r mb room m f L k _ (S3.out.below (below_drew (Below.refl _ _))) hk hL).mono ?_; rintro e w5 ⟨rfl, hS5, hB5, hF5⟩; have hm5 := hF5 _ _ _ HM.out (by decide) (by decide); have hn5 := hF5 _ _ _ HN.out (by decide) (by decide); obtain ⟨e0, e1, e2⟩ := box3 hm5; obtain ⟨n0, n1, n2⟩ := box3 hn5; have v0 := froz hn5 0; have v1 := froz hn5 1; have v2 := froz hn5 2; have HN5 := Lib.hid hn5; have S5 := Lib.hid hS5; have F5 := Lib.hid hF5; have B5 := Lib.hid hB5; clear hm5 hn5 hS5 hB5 hF5))
  go_wp2_with fail
  (try simp only [Exit.inBlock, Exit.then])
  refine bodyPost_ret (results_ct rfl _ _ w.heap.size 30 #[.int .i64 p.f, .int .i64 p.t, .slice A1 p.b.length c1] (0, 0) _ rfl (set3 HN5.out) Try.underlying30 rfl (by kernel_rfl)) rfl ?_
  have G3 : w5.grownBy (((w5.setCell ⟨w.heap.size, 0, none⟩ (.int .i64 p.f)).setCell ⟨w.heap.size, 1, none⟩ (.int .i64 p.t)).setCell ⟨w.heap.size, 2, none⟩ (.slice A1 p.b.length c1)) (some w.heap.size) := World.grownBy.trans (World.grownBy.trans (grown_set _) (grown_set _)) (grown_set _)
  have hO5 := own_far (pw_own_below (pw_own_below HO2.out HB3.out) (below_drew (Below.refl _ _))) F5.out
  refine ⟨A1, c1, rfl, (own_info (own_set (own_set (own_set hO5 (by omega)) (by omega)) (by omega))).2.2.2.1, S5.out.other HN5.out G3, fun W hW => ?_⟩
  have hbw : base ≤ w.heap.size := HS.out.bw
  have b3 : Below base W w3.drew := below_drew (below_then (below_then (below_then hW HS.out.bw HB1.out) HS1.out.bw HB2.out) (Nat.le_trans HS1.out.bw HB2.out.size) HB3.out)
  exact pw_below_grown (B5.out W b3) (some w.heap.size) S5.out.bw G3 (fun k e => by cases e; exact hbw)
end Go.Proofs.Ytenbjmgmgdkapaa
