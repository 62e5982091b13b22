/- Send and Copy with what they leave alone (printed by a program of mine, mknet2.py, out of XNetF). -/
import Derived.Test.YtenbjmgmgdkapaaNetQ
import Derived.Test.YtenbjmgmgdkapaaWLast
import Derived.Deep.QuietTactic
import Derived.BigQuiet
set_option linter.unusedVariables false
set_option linter.unusedSimpArgs false
namespace Go.Proofs.Ytenbjmgmgdkapaa
open Go.RowKit Go.Proofs.YtenbjmgmgdkapaaW.PrintWords Go.Proofs.YtenbjmgmgdkapaaW.PrintLast Go.Proofs.Ytenbjmgmgdkapaa.K

section
variable {P : Program} {w : World}
/-- append to a row of one's own: in place, or into a new block with nothing else changed. -/
theorem run_append_keeps (t ty : TypeId) (base : Nat) (e : TypeId) (i : TypeInfo) (z : Value) (size bytes : Nat) (ht : P.underlying t = some (.slice e)) (hi : P.info? e = some i) (hz : i.zero = some z)
    (hsize : i.size = size) (hby : i.bytes = bytes) (hzs : z.cells.size = size) (hsz : 0 < size)
    (g n cap : Nat) (xs : List Value) (hown : w.ownsRow base e size (.slice (some ⟨g, 0, none⟩) n cap) n xs)
    (ad : Addr) (m c : Nat) (news : List Value) (hl : news.length = m * size) (hnews : ∀ j u, news[j]? = some u → w.cell? (ad.add j) = some u) (h1 : ∀ u ∈ news, u.oneCell' = true)
    (hm : 0 < m) (h63 : n + m ≤ maxLen) (hbytes : (n + m) * bytes ≤ 140737488355328) (hbase : base ≤ w.heap.size) :
    ∃ g' cap' w', (Builtin.append_ #[t, t] ty #[.slice (some ⟨g, 0, none⟩) n cap, .slice (some ad) m c]).run P w = .ok (.slice (some ⟨g', 0, none⟩) (n + m) cap') w' ∧
      w'.ownsRow base e size (.slice (some ⟨g', 0, none⟩) (n + m) cap') (n + m) (xs ++ news) ∧ w.grownBy w' (some g) ∧ (g' = g ∨ w.grownBy w' none) := by
  obtain ⟨g', cap', w', hr, h2, h3, h4, _⟩ := run_append_lies (P := P) w t ty base e i z size bytes ht hi hz hsize hby hzs hsz _ n xs hown ad m c news hl hnews h1 hm h63 hbytes hbase w.heap.size rfl
  refine ⟨g', cap', w', hr, h2, h3, ?_⟩
  by_cases hroom : n + m ≤ cap
  · left
    rcases hown.2 with ⟨h, _⟩ | ⟨g0, cap0, cur, h, _, hg, _, _, hcs, _⟩
    · cases h
    · injection h with h5 h6 h7
      injection h5 with h5; injection h5 with h5
      subst h5 h7 hsize
      have hr2 := run_append_room (P := P) w t ty e i ht hi g n cap cur hg ad m c news hl hnews h1 hroom (by rw [hl, hcs, ← Nat.add_mul]; exact Nat.mul_le_mul_right _ hroom)
      rw [hr] at hr2
      injection hr2 with hr2 _
      injection hr2 with hr2
      injection hr2 with hr2
      injection hr2
  · right
    subst hsize hby
    have hsmall : n + m ≤ 9223372036854775807 := by simp only [maxLen] at h63; omega
    have hr2 := run_append_grow (P := P) w t ty e i z ht hi hz ⟨g, 0, none⟩ n cap xs hown.1 (hown.cells (g := g) rfl) ad m c news hl hnews (by omega) (by omega) (growslice_fits (by omega) hbytes)
    rw [hr] at hr2
    injection hr2 with _ hr2
    rw [hr2]
    exact ⟨rfl, rfl, rfl, by simp, fun k hk _ => heap_alloc_old _ _ hk⟩
theorem step_append_keeps {ops : Array Oper} {o : Oper} {a : Act} {K : Act → World → Prop} {Q : Exit → Act → World → Prop} {E : Prop} (hgd : o.guard = none) (s x : Operand) (t : TypeId)
    (ho : o.op = .call { callee := .builtin .append, args := #[s, x], argTypes := #[t, t] })
    (base : Nat) (e : TypeId) (i : TypeInfo) (z : Value) (size bytes : Nat) (ht : P.underlying t = some (.slice e)) (hi : P.info? e = some i) (hz : i.zero = some z)
    (hsize : i.size = size) (hby : i.bytes = bytes) (hzs : z.cells.size = size) (hsz : 0 < size)
    (g n cap : Nat) (xs : List Value) (hs : a.eval s = .slice (some ⟨g, 0, none⟩) n cap) (hown : w.ownsRow base e size (.slice (some ⟨g, 0, none⟩) n cap) n xs)
    (ad : Addr) (m c : Nat) (news : List Value) (hx : a.eval x = .slice (some ad) m c) (hl : news.length = m * size) (hnews : ∀ j u, news[j]? = some u → w.cell? (ad.add j) = some u) (h1 : ∀ u ∈ news, u.oneCell' = true)
    (hm : 0 < m) (h63 : n + m ≤ maxLen) (hbytes : (n + m) * bytes ≤ 140737488355328) (hbase : base ≤ w.heap.size)
    (h : ∀ g' cap' w', w'.ownsRow base e size (.slice (some ⟨g', 0, none⟩) (n + m) cap') (n + m) (xs ++ news) → w.grownBy w' (some g) → (g' = g ∨ w.grownBy w' none) → K (a.put o.dst (.slice (some ⟨g', 0, none⟩) (n + m) cap')) w') :
    if Region.wanted o (yielded ops a.tmps) = true then Oper.wp P o a w K Q else E := by
  have hw : Region.wanted o (yielded ops a.tmps) = true := by simp [Region.wanted, hgd]
  rw [if_pos hw]
  obtain ⟨g', cap', w', hr, h2, h3, h4⟩ := run_append_keeps (P := P) (w := w) t o.type base e i z size bytes ht hi hz hsize hby hzs hsz g n cap xs hown ad m c news hl hnews h1 hm h63 hbytes hbase
  unfold Oper.wp execOp
  simp only [ho, resolve, invoke, builtin, Sem.run_bind, Sem.run_pure, Result.andThen_ok, List.map_toArray, List.map_cons, List.map_nil, hs, hx, hr]
  exact h g' cap' w' h2 h3 h4
/-- The old elements read as before behind such an append. -/
theorem keeps_cell {w' : World} {base : Nat} {e : TypeId} {size g g' n m cap' : Nat} {xs news : List Value} (h : w'.ownsRow base e size (.slice (some ⟨g', 0, none⟩) (n + m) cap') (n + m) (xs ++ news)) (hk : g' = g ∨ w.grownBy w' none) {j : Nat} {v : Value} (hj : j < xs.length) (hx : xs[j]? = some v) (hc : w.cell? ⟨g, j, none⟩ = some v) : w'.cell? ⟨g, j, none⟩ = some v := by
  rcases hk with rfl | hg
  · have := h.cells (g := g') rfl j v (by rw [List.getElem?_append_left hj]; exact hx)
    rwa [add_plain] at this
  · rw [World.cell?_of_block (hg.block g (World.block_lt_of_cell? w _ hc) (by simp))]; exact hc
end
/-- Blocks that are neither rows of packets nor nets stay. -/
def Kept20 (w w' : World) : Prop := ∀ (q : Nat) (cs : Array Value) (ty : TypeId), w.heap[q]? = some (.cells cs ty (0, 0)) → ty ≠ 63 → ty ≠ 59 → w'.heap[q]? = some (.cells cs ty (0, 0))
/-- What a packet more leaves. -/
theorem add_fin {w w1 w3 w4 : World} {base r mb N0 : Nat} {room : Int} {m : Nat} {f : Nat → Nat → Bool} {L : List Pk} {Al A1 : Option Addr} {cl c1 g cap n : Nat} {ft tt : Int} {sp : Bool} {xs : List Int} {o : Obj} (hS : NetS w base r mb room m f L) (hc : NetC w r room Al L.length cl mb) (ho : w.ownsRow base 63 4 (.slice Al L.length cl) L.length (pkCells L))
    (hb1 : Below w.heap.size w w1) (hq : Below w1.heap.size w1 w3) (hN : w.heap.size ≤ N0) (hn : xs.length = n) (ho1 : w3.ownsRow N0 5 1 (.slice A1 n c1) n (nums .u8 xs))
    (hn4 : w4.ownsRow base 63 4 (.slice (some ⟨g, 0, none⟩) (L.length + 1) cap) (L.length + 1) (pkCells L ++ [.int .i64 ft, .int .i64 tt, .slice A1 n c1, .bool sp])) (hgrow : (w3.alloc o).grownBy w4 (Value.slice Al L.length cl).ownBlock) (hnr : (Value.slice Al L.length cl).ownBlock ≠ some r) :
    NetS (w4.setCell ⟨r, 1, none⟩ (.slice (some ⟨g, 0, none⟩) (L.length + 1) cap)) base r mb room m f (L ++ [⟨ft, tt, A1, c1, xs, sp⟩]) ∧ (∀ W, Below base W w → Below base W (w4.setCell ⟨r, 1, none⟩ (.slice (some ⟨g, 0, none⟩) (L.length + 1) cap))) ∧ Kept20 w (w4.setCell ⟨r, 1, none⟩ (.slice (some ⟨g, 0, none⟩) (L.length + 1) cap)) ∧ (w4.setCell ⟨r, 1, none⟩ (.slice (some ⟨g, 0, none⟩) (L.length + 1) cap)).ownsRow w.heap.size 5 1 (.slice A1 n c1) n (nums .u8 xs) := by
  have B3 := bel_trans hb1 hq o
  have hrow3 := pw_own_below ho B3
  have hr3 : (w3.alloc o).heap[r]? = some (.cells #[.int .i64 room, .slice Al L.length cl, .map (some mb)] 59 (0, 0)) := heap_keep B3 hc
  have hr4 : w4.heap[r]? = some (.cells #[.int .i64 room, .slice Al L.length cl, .map (some mb)] 59 (0, 0)) := (hgrow.block r (lt_of_heap hr3) (fun e => hnr e.symm)).trans hr3
  have nr : ∀ {u : World} {bs sz k : Nat} {e : TypeId} {V : Value} {M : List Value} {cs : Array Value}, u.heap[r]? = some (.cells cs 59 (0, 0)) → u.ownsRow bs e sz V k M → e ≠ 59 → V.ownBlock = none ∨ V.ownBlock ≠ some r := by
    intro u bs sz k e V M cs hu hV he
    rcases hV.2 with ⟨h, _⟩ | ⟨g', _, _, h, _, hh, _⟩
    · left; rw [h]; rfl
    · right; rw [h]; intro e2
      have e3 : g' = r := by simpa [Value.ownBlock] using e2
      rw [e3, hu] at hh; injection hh with hh; injection hh with _ hh; exact he hh.symm
  have up : ∀ {bs k : Nat} {V : Value} {M : List Value}, (w3.alloc o).ownsRow bs 5 1 V k M → (w4.setCell ⟨r, 1, none⟩ (.slice (some ⟨g, 0, none⟩) (L.length + 1) cap)).ownsRow bs 5 1 V k M := by
    intro bs k V M h
    have h4 := own_other h hgrow (own_type_ne h hrow3 (by decide))
    exact own_other h4 (grown_set _) (nr hr4 h4 (by decide))
  have h1s := hb1.size
  have h3s := hq.size
  have h4s := hgrow.size
  have hmb3 : mb < (w3.alloc o).heap.size := Nat.lt_of_lt_of_le hS.cu.lt B3.size
  have bs3 : base ≤ (w3.alloc o).heap.size := Nat.le_trans hS.bw B3.size
  refine ⟨⟨⟨some ⟨g, 0, none⟩, cap, ?_, ?_⟩, ?_, ?_, ?_, hS.br, hS.bm, hS.ne, ?_⟩, ?_, ?_, own_base_le (up (pw_own_below ho1 (alloc_back o))) hN⟩
  · unfold NetC
    rw [heap_set _ hr4, List.length_append]
    rfl
  · have := own_other hn4 (grown_set (w := w4) (r := r) (j := 1) (.slice (some ⟨g, 0, none⟩) (L.length + 1) cap)) (nr hr4 hn4 (by decide))
    rw [List.length_append]
    have e : pkCells (L ++ [⟨ft, tt, A1, c1, xs, sp⟩]) = pkCells L ++ [.int .i64 ft, .int .i64 tt, .slice A1 n c1, .bool sp] := by
      simp [pkCells, Pk.cells, Pk.val, hn]
    rw [e]
    exact this
  · intro p hp
    rcases List.mem_append.1 hp with hp | hp
    · exact up (pw_own_below (hS.bd p hp) B3)
    · obtain rfl := List.mem_singleton.1 hp
      refine up (pw_own_below (own_base_le ?_ (Nat.le_trans hS.bw hN)) (alloc_back o))
      show w3.ownsRow N0 _ 1 (.slice A1 xs.length c1) xs.length _
      rw [hn]; exact ho1
  · rw [List.pairwise_append]
    refine ⟨hS.ap, List.pairwise_singleton _ _, fun p hp q hq' => ?_⟩
    obtain rfl := List.mem_singleton.1 hq'
    have h1 := hS.bd p hp
    rcases h1.2 with ⟨h, _⟩ | ⟨g1, _, _, h, _, hh, _⟩
    · left; rw [h]; rfl
    · right
      rcases ho1.2 with ⟨h', _⟩ | ⟨g2, _, _, h', hb', _⟩
      · rw [h]; show _ ≠ (Value.slice A1 xs.length c1).ownBlock; rw [hn, h']; simp [Value.ownBlock]
      · rw [h]; show _ ≠ (Value.slice A1 xs.length c1).ownBlock; rw [hn, h']
        intro e
        have e2 : g1 = g2 := by simpa [Value.ownBlock] using e
        have := lt_of_heap hh
        omega
  · have hmr : some mb ≠ (Value.slice Al L.length cl).ownBlock := by
      intro e
      obtain ⟨D, ⟨es, clock, e1, _⟩, _⟩ := hS.cu
      rcases ho.2 with ⟨h, _⟩ | ⟨g', _, _, h, _, hh, _⟩
      · rw [h] at e; simp [Value.ownBlock] at e
      · rw [h] at e
        have e3 : mb = g' := by simpa [Value.ownBlock] using e
        rw [← e3, e1] at hh; cases hh
    exact ((hS.cu.below B3).kept hgrow hmr).kept (grown_set _) (fun e => hS.ne (by injection e with e; exact e.symm))
  · have : (w4.setCell ⟨r, 1, none⟩ (.slice (some ⟨g, 0, none⟩) (L.length + 1) cap)).heap.size = w4.heap.size := by simp [World.setCell]
    rw [this]; omega
  · intro W hW
    have h3 := below_then hW hS.bw B3
    have h4 := pw_below_grown h3 (Value.slice Al L.length cl).ownBlock bs3 hgrow (own_base hrow3)
    exact bset' h4 hS.br (by omega)
  · intro q cs ty hq1 h1 h2
    have k3 := heap_keep B3 hq1
    have k4 : w4.heap[q]? = some (.cells cs ty (0, 0)) := (hgrow.block q (lt_of_heap k3) (fun e => by
      rcases hrow3.2 with ⟨h, _⟩ | ⟨g', _, _, h, _, hh, _⟩
      · rw [h] at e; simp [Value.ownBlock] at e
      · rw [h] at e
        have e3 : q = g' := by simpa [Value.ownBlock] using e
        rw [← e3, k3] at hh; injection hh with hh; injection hh with _ hh; exact h1 hh)).trans k3
    exact ((grown_set (w := w4) (r := r) (j := 1) (.slice (some ⟨g, 0, none⟩) (L.length + 1) cap)).block q (lt_of_heap k4) (fun e => by
      injection e with e
      rw [e, hr4] at k4; injection k4 with k4; injection k4 with _ k4; exact h2 k4.symm)).trans k4
set_option maxRecDepth 100000 in
set_option maxHeartbeats 4000000 in
theorem send_own (base r mb : Nat) (room : Int) (m : Nat) (f : Nat → Nat → Bool) (L : List Pk) (a b : Nat) (A : Option Addr) (n c : Nat) (xs : List Int) (w : World) (ha : a < 16) (hb : b < 16) (hn : n ≤ 32768) (hS : NetS w base r mb room m f L) (hr : ReadsInt w .u8 A n xs) (hA : A = none → c = 0)
    (hf : f a b = false) (hl : (L.length : Int) < room) (hroom : room ≤ 65536) :
    Calls Try.prog 10 #[.pointer (some ⟨r, 0, none⟩), .agg #[.int .i64 (a : Int), .int .i64 (b : Int), .slice A n c]] w fun e w' => ∃ A1 c1, e = .returned (.int .i64 0) ∧ NetS w' base r mb room m f (L ++ [⟨a, b, A1, c1, xs, false⟩]) ∧ (∀ W, Below base W w → Below base W w') ∧ Kept20 w w' ∧ w'.ownsRow w.heap.size 5 1 (.slice A1 n c1) n (nums .u8 xs) := by
  obtain ⟨Al, cl, hc, ho⟩ := hS.cl
  have hbx : ∀ o : Obj, Below w.heap.size w (w.alloc o) := fun o => alloc_back o
  obtain ⟨w1, hw1⟩ : ∃ w1, w1 = w.alloc (.cells #[.int .i64 (a : Int), .int .i64 (b : Int), .slice A n c] 30) := ⟨_, rfl⟩
  have hb1 : Below w.heap.size w w1 := by rw [hw1]; exact hbx _
  have S1 := hS.below hb1
  obtain ⟨u0, u1, u2⟩ := net_cells (show NetC w1 r room Al L.length cl mb by unfold NetC at hc ⊢; exact heap_keep hb1 hc)
  have q0 : w1.heap[w.heap.size]? = some (.cells #[.int .i64 (a : Int), .int .i64 (b : Int), .slice A n c] 30 (0, 0)) := by rw [hw1]; exact heap_alloc_new _ _
  have hlk : ∀ m', (Instr.lookup 56 (.map (some mb)) (.agg #[.int .i64 (a : Int), .int .i64 (b : Int)]) false).run Try.prog (w1.drewN m') = .ok (.bool false) (w1.drewN m') := fun m' => by
    have := (S1.cu.below (pw_below_drewN (Below.refl _ _) m')).look a b ha hb
    rw [hf] at this
    exact this
  have HWA := Lib.hid (fun w => worker_yes a ha w)
  have HWB := Lib.hid (fun w => worker_yes b hb w)
  have HS := Lib.hid hS; have HC := Lib.hid hc; have HO := Lib.hid ho; have HR := Lib.hid hr; have HA := Lib.hid hA; have HB1 := Lib.hid hb1; have Q0 := Lib.hid q0; have HLK := Lib.hid hlk
  have HU := Lib.hid (And.intro u0 (And.intro u1 u2))
  have hge : ¬ (room ≤ (L.length : Int)) := by omega
  have HN := Lib.hid hl
  clear hS hc ho hr hA hb1 q0 hlk hf ha hb S1 hbx u0 u1 u2
  go_enter Try.func10, Try.ntmps10
  go_wp2_with (first
    | (go_at_call 23; with_reducible refine (HWA.out _).mono ?_; rintro e w' ⟨rfl, rfl⟩)
    | (go_at_call 23; with_reducible refine (HWB.out _).mono ?_; rintro e w' ⟨rfl, rfl⟩))
  rw [← hw1]
  clear hw1
  obtain ⟨u0, u1, u2⟩ := HU.out
  obtain ⟨d0, d1, d2⟩ := box3 Q0.out
  have hlk : (Instr.lookup 56 (.map (some mb)) (.agg #[.int .i64 (a : Int), .int .i64 (b : Int)]) false).run Try.prog w1.drew = .ok (.bool false) w1.drew := HLK.out 1
  go_region_held3 (fun w' => w'.cell? ⟨r, 2, none⟩ = some (.map (some mb)) ∧ w'.cell? ⟨w.heap.size, 0, none⟩ = some (.int .i64 (a : Int)) ∧ w'.cell? ⟨w.heap.size, 1, none⟩ = some (.int .i64 (b : Int)) ∧ (Instr.lookup 56 (.map (some mb)) (.agg #[.int .i64 (a : Int), .int .i64 (b : Int)]) false).run Try.prog w' = .ok (.bool false) w')
    (first | exact ⟨u2, d0, d1, hlk⟩ | go_keep) (fail)
  clear hlk
  go_wp2_with fail
  go_quiet (fail)
  go_wp2_with fail
  clear hge
  obtain ⟨i0, z0, hi, hz0, hz1, hz2, hz3⟩ := heldInfo
  have HI := Lib.hid (And.intro hi (And.intro hz0 (And.intro hz1 (And.intro hz2 hz3))))
  clear hi hz0 hz1 hz2 hz3
  have hnr : (Value.slice Al L.length cl).ownBlock ≠ some r := by
    rcases HO.out.2 with ⟨h, _⟩ | ⟨g, cap, cur, h, _, hh, _⟩
    · rw [h]; simp [Value.ownBlock]
    · rw [h]; intro e
      have e2 : g = r := by simpa [Value.ownBlock] using e
      have := HC.out; unfold NetC at this
      rw [e2, this] at hh; injection hh with hh; injection hh with _ hh; exact absurd hh (by decide)
  have hnb : (Value.slice Al L.length cl).ownBlock ≠ some w.heap.size := by
    rcases HO.out.2 with ⟨h, _⟩ | ⟨g, cap, cur, h, _, hh, _⟩
    · rw [h]; simp [Value.ownBlock]
    · rw [h]; intro e
      have e2 : g = w.heap.size := by simpa [Value.ownBlock] using e
      have := lt_of_heap hh; omega
  have HNR := Lib.hid hnr; have HNB := Lib.hid hnb; clear hnr hnb
  have hfz : r < w1.heap.size ∧ w1.frozen? ⟨r, 1, none⟩ = false := by
    have := HC.out; unfold NetC at this
    have h2 := heap_keep HB1.out this
    exact ⟨lt_of_heap h2, froz h2 1⟩
  have HFZ := Lib.hid hfz; clear hfz
  refine start_ (n := 13) (S := fun w' => w'.cell? ⟨r, 1, none⟩ = some (.slice Al L.length cl) ∧ w'.cell? ⟨w.heap.size, 0, none⟩ = some (.int .i64 (a : Int)) ∧ w'.cell? ⟨w.heap.size, 1, none⟩ = some (.int .i64 (b : Int)) ∧ w'.cell? ⟨w.heap.size, 2, none⟩ = some (.slice A n c)) (ds := [12]) #[false, false, false, false, false, false, false, false, false, false, false, false, false] (by kernel_rfl) rfl rfl (⟨u1, d0, d1, d2⟩) (fun hHeld => ?_)
  refine pure_ (i := 0) (N := some 44) (v := ?_) (a' := ?_) #[true, false, false, false, false, false, false, false, false, false, false, false, false] rfl rfl (by kernel_rfl) (fun _ _ _ h => h) (Or.inl ⟨by rfl, ?_⟩) ?_ ?_
  rotate_left
  · intro w'
    go_simp
    (try with_reducible rfl)
  rotate_left
  · simp only [Act.put, List.setIfInBounds_toArray, List.set_cons_zero, List.set_cons_succ]
    rfl
  refine pure_ (i := 1) (N := some 45) (v := ?_) (a' := ?_) #[true, true, false, false, false, false, false, false, false, false, false, false, false] rfl rfl (by kernel_rfl) (fun _ _ _ h => h) (Or.inl ⟨by rfl, ?_⟩) ?_ ?_
  rotate_left
  · intro w'
    go_simp
    (try with_reducible rfl)
  rotate_left
  · simp only [Act.put, List.setIfInBounds_toArray, List.set_cons_zero, List.set_cons_succ]
    rfl
  refine pure_ (i := 2) (N := some 46) (v := ?_) (a' := ?_) #[true, true, true, false, false, false, false, false, false, false, false, false, false] rfl rfl (by kernel_rfl) (fun _ _ _ h => h) (Or.inl ⟨by rfl, ?_⟩) ?_ ?_
  rotate_left
  · intro w'
    go_simp
    (try with_reducible rfl)
  rotate_left
  · simp only [Act.put, List.setIfInBounds_toArray, List.set_cons_zero, List.set_cons_succ]
    rfl
  refine pure_ (i := 3) (N := some 47) (v := ?_) (a' := ?_) #[true, true, true, true, false, false, false, false, false, false, false, false, false] rfl rfl (by kernel_rfl) (fun _ _ _ h => h) (Or.inl ⟨by rfl, ?_⟩) ?_ ?_
  rotate_left
  · intro w'
    go_simp
    (try with_reducible rfl)
  rotate_left
  · simp only [Act.put, List.setIfInBounds_toArray, List.set_cons_zero, List.set_cons_succ]
    rfl
  refine take_ (i := 4) (N := some 48) (v := ?_) (a' := ?_) #[true, true, true, true, true, false, false, false, false, false, false, false, false] rfl rfl (by kernel_rfl) (fun _ _ _ h => h) (Or.inl ⟨by rfl, ?_⟩) hHeld ?_ ?_
  rotate_left
  · rintro w' ⟨s0, s1, s2, s3⟩
    go_simp
    (try with_reducible rfl)
  rotate_left
  · simp only [Act.put, List.setIfInBounds_toArray, List.set_cons_zero, List.set_cons_succ]
    rfl
  refine take_ (i := 5) (N := some 49) (v := ?_) (a' := ?_) #[true, true, true, true, true, true, false, false, false, false, false, false, false] rfl rfl (by kernel_rfl) (fun _ _ _ h => h) (Or.inl ⟨by rfl, ?_⟩) hHeld ?_ ?_
  rotate_left
  · rintro w' ⟨s0, s1, s2, s3⟩
    go_simp
    (try with_reducible rfl)
  rotate_left
  · simp only [Act.put, List.setIfInBounds_toArray, List.set_cons_zero, List.set_cons_succ]
    rfl
  refine one_ (i := 6) (N := some 50) #[true, true, true, true, true, true, true, false, false, false, false, false, false] rfl rfl (by kernel_rfl) (by decide) (fun K hK => ?_)
  go_simp
  refine (copied_walk (a : Int) (b : Int) A n c xs _ (HR.out.below (pw_below_drewN HB1.out _)) (by omega) HA.out).mono ?_
  rintro e w3 ⟨A1, c1, rfl, ho1, hb3⟩
  have hq : Below w1.heap.size w1 w3 := below_then (pw_below_drewN (Below.refl _ _) _) (Nat.le_refl _) hb3
  have HO1 := Lib.hid ho1
  clear ho1
  try go_wp2_with fail
  refine hK.out _ _ ?_ (fun hHeld2 => ?_)
  · (try dsimp only)
    first | with_reducible exact hHeld | with_reducible exact ⟨pw_cell_below hq u1, pw_cell_below hq d0, pw_cell_below hq d1, pw_cell_below hq d2⟩
  clear hHeld hK K
  have hHeld := hHeld2
  clear hHeld2
  try simp only [Act.put, List.setIfInBounds_toArray, List.set_cons_zero, List.set_cons_succ]
  refine pure_ (i := 7) (N := some 51) (v := ?_) (a' := ?_) #[true, true, true, true, true, true, true, true, false, false, false, false, false] rfl rfl (by kernel_rfl) (fun _ _ _ h => h) (Or.inl ⟨by rfl, ?_⟩) ?_ ?_
  rotate_left
  · intro w'
    go_simp
    (try with_reducible rfl)
  rotate_left
  · simp only [Act.put, List.setIfInBounds_toArray, List.set_cons_zero, List.set_cons_succ]
    rfl
  refine one_ (i := 8) (N := some 52) #[true, true, true, true, true, true, true, true, true, false, false, false, false] rfl rfl (by kernel_rfl) (by decide) (fun K hK => ?_)
  go_simp
  refine hK.out _ _ ?_ (fun hHeld2 => ?_)
  · (try dsimp only)
    exact ⟨pw_cell_below (bel_trans0 hq _) u1, pw_cell_below (bel_trans0 hq _) d0, pw_cell_below (bel_trans0 hq _) d1, pw_cell_below (bel_trans0 hq _) d2⟩
  clear hHeld hK K
  have hHeld := hHeld2
  clear hHeld2
  try simp only [Act.put, List.setIfInBounds_toArray, List.set_cons_zero, List.set_cons_succ]
  refine one_ (i := 9) (N := some 53) #[true, true, true, true, true, true, true, true, true, true, false, false, false] rfl rfl (by kernel_rfl) (by decide) (fun K hK => ?_)
  refine step_append_lies _ (by rfl) _ _ _ (by rfl) base 63 i0 z0 4 48 Try.underlying57 HI.out.1 HI.out.2.1 HI.out.2.2.1 HI.out.2.2.2.1 HI.out.2.2.2.2 (by decide) (.slice Al L.length cl) L.length (pkCells L) (by rfl) (pw_own_below HO.out (bel_trans HB1.out hq _)) ⟨w3.heap.size, 0, none⟩ 1 1 [.int .i64 (a : Int), .int .i64 (b : Int), .slice A1 n c1, .bool false] (by rfl) rfl (World.news_of_block (heap_alloc_new w3 _)) (by simp [Value.oneCell']) (by decide) (by unfold maxLen; omega) (by omega) (by have := hq.size; have := HB1.out.size; have := HS.out.bw; simp; omega) (w3.heap.size + 1) (by simp) ?_
  intro g cap w4 hown hgrow hat hlt
  have HN4 := Lib.hid hown
  clear hown
  have uu := far_of hq hgrow u1 HNR.out
  have e0 := far_of hq hgrow d0 HNB.out
  have e1 := far_of hq hgrow d1 HNB.out
  have e2 := far_of hq hgrow d2 HNB.out
  have fz := far_fz hq hgrow HFZ.out HNR.out
  refine hK.out _ _ ?_ (fun hHeld2 => ?_)
  · (try dsimp only)
    exact ⟨uu, e0, e1, e2⟩
  clear hHeld hK K
  have hHeld := hHeld2
  clear hHeld2
  try simp only [Act.put, List.setIfInBounds_toArray, List.set_cons_zero, List.set_cons_succ]
  refine pure_ (i := 10) (N := some 54) (v := ?_) (a' := ?_) #[true, true, true, true, true, true, true, true, true, true, true, false, false] rfl rfl (by kernel_rfl) (fun _ _ _ h => h) (Or.inl ⟨by rfl, ?_⟩) ?_ ?_
  rotate_left
  · intro w'
    go_simp
    (try with_reducible rfl)
  rotate_left
  · simp only [Act.put, List.setIfInBounds_toArray, List.set_cons_zero, List.set_cons_succ]
    rfl
  refine pure_ (i := 11) (N := some 55) (v := ?_) (a' := ?_) #[true, true, true, true, true, true, true, true, true, true, true, true, false] rfl rfl (by kernel_rfl) (fun _ _ _ h => h) (Or.inl ⟨by rfl, ?_⟩) ?_ ?_
  rotate_left
  · intro w'
    go_simp
    (try with_reducible rfl)
  rotate_left
  · simp only [Act.put, List.setIfInBounds_toArray, List.set_cons_zero, List.set_cons_succ]
    rfl
  refine last_ (i := 12) (N := none) #[true, true, true, true, true, true, true, true, true, true, true, true, true] rfl rfl (by kernel_rfl) (by decide) (fun K hK => ?_)
  go_simp
  refine hK.out _ _ ?_
  clear hHeld hK K
  try simp only [Act.put, List.setIfInBounds_toArray, List.set_cons_zero, List.set_cons_succ]
  refine wpAnyLast_done (by kernel_rfl) ?_ _
  go_wp2_with fail
  go_ret
  have hF := add_fin HS.out HC.out HO.out HB1.out hq (show w.heap.size ≤ (w1.drewN _).heap.size + 2 from Nat.le_trans HB1.out.size (Nat.le_add_right _ 2)) HR.out.1 HO1.out HN4.out hgrow HNR.out
  exact ⟨A1, c1, rfl, hF⟩
theorem pk_get' (L : List Pk) (k : Nat) (p : Pk) (h : L[k]? = some p) (j : Nat) (hj : j < 4 := by decide) : (pkCells L)[k * 4 + j]? = p.cells[j]? := pk_get L k p h j hj
theorem p_val_eta (p : Pk) : p.val = .slice p.A p.b.length p.c := rfl
set_option maxRecDepth 100000 in
set_option maxHeartbeats 4000000 in
theorem copy_ok (base r mb : Nat) (room : Int) (m : Nat) (f : Nat → Nat → Bool) (L : List Pk) (k : Nat) (p : Pk) (w : World) (hS : NetS w base r mb room m f L) (hp : L[k]? = some p) (hb : p.b.length ≤ 32768) (hl : (L.length : Int) < room) (hroom : room ≤ 65536) :
    Calls Try.prog 14 #[.pointer (some ⟨r, 0, none⟩), .int .i64 (k : Int)] w fun e w' => ∃ A1 c1, e = .returned (.bool true) ∧ NetS w' base r mb room m f (L ++ [⟨p.f, p.t, A1, c1, p.b, p.sp⟩]) ∧ (∀ W, Below base W w → Below base W w') ∧ Kept20 w w' ∧ w'.ownsRow w.heap.size 5 1 (.slice A1 p.b.length c1) p.b.length (nums .u8 p.b) := by
  obtain ⟨Al, cl, hc, ho⟩ := hS.cl
  have hk : k < L.length := (List.getElem?_eq_some_iff.1 hp).1
  obtain ⟨g, cap, e, hgb, hgl⟩ := ho.form (by omega)
  injection e with e1 e2 e3
  subst e1 e3
  have z0 := ho.cells (g := g) rfl (k * 4 + 0) (.int .i64 p.f) (by rw [pk_get L k p hp 0 (by decide)]; rfl)
  have z1 := ho.cells (g := g) rfl (k * 4 + 1) (.int .i64 p.t) (by rw [pk_get L k p hp 1 (by decide)]; rfl)
  have z2 := ho.cells (g := g) rfl (k * 4 + 2) (.slice p.A p.b.length p.c) (by rw [pk_get L k p hp 2 (by decide)]; rfl)
  have z3 := ho.cells (g := g) rfl (k * 4 + 3) (.bool p.sp) (by rw [pk_get L k p hp 3 (by decide)]; rfl)
  rw [add_plain] at z0 z1 z2 z3
  rw [Nat.add_zero] at z0
  have hrd : ReadsInt w .u8 p.A p.b.length p.b := (own_info (hS.bd p (List.mem_of_getElem? hp))).2.2.2.1
  have hpA : p.A = none → p.c = 0 := fun h => by
    rcases (hS.bd p (List.mem_of_getElem? hp)).2 with ⟨h1, _⟩ | ⟨_, _, _, h1, _⟩
    · unfold Pk.val at h1; injection h1
    · unfold Pk.val at h1; rw [h] at h1; injection h1 with h1; cases h1
  obtain ⟨u0, u1, u2⟩ := net_cells hc
  have hk1 : (0 : Int) ≤ (k : Int) := Int.natCast_nonneg _
  have hk2 : (k : Int) < (L.length : Int) := by omega
  have hdk : decide ((0 : Int) ≤ (k : Int) ∧ (k : Int) < (L.length : Int)) = true := decide_eq_true ⟨hk1, hk2⟩
  have hge : ¬ (room ≤ (L.length : Int)) := by omega
  have HH := Lib.hid (fun u hu => (has_walk u r room (some ⟨g, 0, none⟩) L.length cl mb (k : Int) hu (by omega)) : ∀ u, NetC u r room (some ⟨g, 0, none⟩) L.length cl mb → _)
  have hnr : (Value.slice (some ⟨g, 0, none⟩) L.length cl).ownBlock ≠ some r := by
    rcases ho.2 with ⟨h, _⟩ | ⟨g', cap, cur, h, _, hh, _⟩
    · rw [h]; simp [Value.ownBlock]
    · rw [h]; intro e
      have e2 : g' = r := by simpa [Value.ownBlock] using e
      have := hc; unfold NetC at this
      rw [e2, this] at hh; injection hh with hh; injection hh with _ hh; exact absurd hh (by decide)
  have HNR := Lib.hid hnr
  have HCD := Lib.hid (fun x => (by unfold NetC at hc ⊢; exact heap_keep (pw_below_drewN (Below.refl _ _) x) hc) : ∀ x, NetC (w.drewN x) r room (some ⟨g, 0, none⟩) L.length cl mb)
  have HS := Lib.hid hS; have HC := Lib.hid hc; have HO := Lib.hid ho; have HR := Lib.hid hrd; have HA := Lib.hid hpA; have HDK := Lib.hid hdk
  have HP := Lib.hid hp
  clear hS hp hc ho hrd hpA hnr hdk e2
  go_enter Try.func14, Try.ntmps14
  go_wp2_with fail
  go_quiet ((go_at_call 25; exact Calls.quiet_of_same ((HH.out _ (HCD.out _)).mono fun e w' he => ⟨he.1.trans (by rw [HDK.out]), he.2.symm⟩)))
  obtain ⟨w1, hw1⟩ : ∃ w1, w1 = w.drewN nq := ⟨_, rfl⟩
  have hb1 : Below w.heap.size w w1 := by rw [hw1]; exact pw_below_drewN (Below.refl _ _) _
  go_wp2_with fail
  rw [← hw1]
  clear hw1 hge
  have v1 := pw_cell_below hb1 u1
  have v0 := pw_cell_below hb1 z0; have y1 := pw_cell_below hb1 z1; have y2 := pw_cell_below hb1 z2; have y3 := pw_cell_below hb1 z3
  clear u0 u1 u2 z0 z1 z2 z3
  have u1 := v1; have z0 := v0; have z1 := y1; have z2 := y2; have z3 := y3
  clear v1 v0 y1 y2 y3
  have hfz : r < w1.heap.size ∧ w1.frozen? ⟨r, 1, none⟩ = false := by
    have := HC.out; unfold NetC at this
    have h2 := heap_keep hb1 this
    exact ⟨lt_of_heap h2, froz h2 1⟩
  have HFZ := Lib.hid hfz; have HB1 := Lib.hid hb1
  have HR1 := Lib.hid (HR.out.below hb1)
  obtain ⟨i0, z0', hi, hz0, hz1, hz2, hz3⟩ := heldInfo
  have HI := Lib.hid (And.intro hi (And.intro hz0 (And.intro hz1 (And.intro hz2 hz3))))
  clear hi hz0 hz1 hz2 hz3 hfz hb1
  refine start_ (n := 28) (S := fun w' => w'.cell? ⟨r, 1, none⟩ = some (.slice (some ⟨g, 0, none⟩) L.length cl) ∧ w'.cell? ⟨g, k * 4, none⟩ = some (.int .i64 p.f) ∧ w'.cell? ⟨g, k * 4 + 1, none⟩ = some (.int .i64 p.t) ∧ w'.cell? ⟨g, k * 4 + 2, none⟩ = some (.slice p.A p.b.length p.c) ∧ w'.cell? ⟨g, k * 4 + 3, none⟩ = some (.bool p.sp)) (ds := [27]) #[false, false, false, false, false, false, false, false, false, false, false, false, false, false, false, false, false, false, false, false, false, false, false, false, false, false, false, false] (by kernel_rfl) rfl rfl (⟨u1, z0, z1, z2, z3⟩) (fun hHeld => ?_)
  refine pure_ (i := 0) (N := some 21) (v := ?_) (a' := ?_) #[true, false, false, false, false, false, false, false, false, false, false, false, false, false, false, false, false, false, false, false, false, false, false, false, false, false, false, false] rfl rfl (by kernel_rfl) (fun _ _ _ h => h) (Or.inl ⟨by rfl, ?_⟩) ?_ ?_
  rotate_left
  · intro w'
    go_simp
    (try with_reducible rfl)
  rotate_left
  · simp only [Act.put, List.setIfInBounds_toArray, List.set_cons_zero, List.set_cons_succ]
    rfl
  refine pure_ (i := 1) (N := some 22) (v := ?_) (a' := ?_) #[true, true, false, false, false, false, false, false, false, false, false, false, false, false, false, false, false, false, false, false, false, false, false, false, false, false, false, false] rfl rfl (by kernel_rfl) (fun _ _ _ h => h) (Or.inl ⟨by rfl, ?_⟩) ?_ ?_
  rotate_left
  · intro w'
    go_simp
    (try with_reducible rfl)
  rotate_left
  · simp only [Act.put, List.setIfInBounds_toArray, List.set_cons_zero, List.set_cons_succ]
    rfl
  refine pure_ (i := 2) (N := some 23) (v := ?_) (a' := ?_) #[true, true, true, false, false, false, false, false, false, false, false, false, false, false, false, false, false, false, false, false, false, false, false, false, false, false, false, false] rfl rfl (by kernel_rfl) (fun _ _ _ h => h) (Or.inl ⟨by rfl, ?_⟩) ?_ ?_
  rotate_left
  · intro w'
    go_simp
    (try with_reducible rfl)
  rotate_left
  · simp only [Act.put, List.setIfInBounds_toArray, List.set_cons_zero, List.set_cons_succ]
    rfl
  refine pure_ (i := 3) (N := some 24) (v := ?_) (a' := ?_) #[true, true, true, true, false, false, false, false, false, false, false, false, false, false, false, false, false, false, false, false, false, false, false, false, false, false, false, false] rfl rfl (by kernel_rfl) (fun _ _ _ h => h) (Or.inl ⟨by rfl, ?_⟩) ?_ ?_
  rotate_left
  · intro w'
    go_simp
    (try with_reducible rfl)
  rotate_left
  · simp only [Act.put, List.setIfInBounds_toArray, List.set_cons_zero, List.set_cons_succ]
    rfl
  refine take_ (i := 4) (N := some 25) (v := ?_) (a' := ?_) #[true, true, true, true, true, false, false, false, false, false, false, false, false, false, false, false, false, false, false, false, false, false, false, false, false, false, false, false] rfl rfl (by kernel_rfl) (fun _ _ _ h => h) (Or.inl ⟨by rfl, ?_⟩) hHeld ?_ ?_
  rotate_left
  · rintro w' ⟨s0, s1, s2, s3, s4⟩
    go_simp
    (try with_reducible rfl)
  rotate_left
  · simp only [Act.put, List.setIfInBounds_toArray, List.set_cons_zero, List.set_cons_succ]
    rfl
  refine pure_ (i := 5) (N := some 26) (v := ?_) (a' := ?_) #[true, true, true, true, true, true, false, false, false, false, false, false, false, false, false, false, false, false, false, false, false, false, false, false, false, false, false, false] rfl rfl (by kernel_rfl) (fun _ _ _ h => h) (Or.inl ⟨by rfl, ?_⟩) ?_ ?_
  rotate_left
  · intro w'
    go_simp
    (try with_reducible rfl)
  rotate_left
  · simp only [Act.put, List.setIfInBounds_toArray, List.set_cons_zero, List.set_cons_succ]
    rfl
  refine pure_ (i := 6) (N := some 27) (v := ?_) (a' := ?_) #[true, true, true, true, true, true, true, false, false, false, false, false, false, false, false, false, false, false, false, false, false, false, false, false, false, false, false, false] rfl rfl (by kernel_rfl) (fun _ _ _ h => h) (Or.inl ⟨by rfl, ?_⟩) ?_ ?_
  rotate_left
  · intro w'
    go_simp
    (try with_reducible rfl)
  rotate_left
  · simp only [Act.put, List.setIfInBounds_toArray, List.set_cons_zero, List.set_cons_succ]
    rfl
  refine pure_ (i := 7) (N := some 28) (v := ?_) (a' := ?_) #[true, true, true, true, true, true, true, true, false, false, false, false, false, false, false, false, false, false, false, false, false, false, false, false, false, false, false, false] rfl rfl (by kernel_rfl) (fun _ _ _ h => h) (Or.inl ⟨by rfl, ?_⟩) ?_ ?_
  rotate_left
  · intro w'
    go_simp
    (try with_reducible rfl)
  rotate_left
  · simp only [Act.put, List.setIfInBounds_toArray, List.set_cons_zero, List.set_cons_succ]
    rfl
  refine take_ (i := 8) (N := some 29) (v := ?_) (a' := ?_) #[true, true, true, true, true, true, true, true, true, false, false, false, false, false, false, false, false, false, false, false, false, false, false, false, false, false, false, false] rfl rfl (by kernel_rfl) (fun _ _ _ h => h) (Or.inl ⟨by rfl, ?_⟩) hHeld ?_ ?_
  rotate_left
  · rintro w' ⟨s0, s1, s2, s3, s4⟩
    go_simp
    (try with_reducible rfl)
  rotate_left
  · simp only [Act.put, List.setIfInBounds_toArray, List.set_cons_zero, List.set_cons_succ]
    rfl
  refine pure_ (i := 9) (N := some 30) (v := ?_) (a' := ?_) #[true, true, true, true, true, true, true, true, true, true, false, false, false, false, false, false, false, false, false, false, false, false, false, false, false, false, false, false] rfl rfl (by kernel_rfl) (fun _ _ _ h => h) (Or.inl ⟨by rfl, ?_⟩) ?_ ?_
  rotate_left
  · intro w'
    go_simp
    (try with_reducible rfl)
  rotate_left
  · simp only [Act.put, List.setIfInBounds_toArray, List.set_cons_zero, List.set_cons_succ]
    rfl
  refine pure_ (i := 10) (N := some 31) (v := ?_) (a' := ?_) #[true, true, true, true, true, true, true, true, true, true, true, false, false, false, false, false, false, false, false, false, false, false, false, false, false, false, false, false] rfl rfl (by kernel_rfl) (fun _ _ _ h => h) (Or.inl ⟨by rfl, ?_⟩) ?_ ?_
  rotate_left
  · intro w'
    go_simp
    (try with_reducible rfl)
  rotate_left
  · simp only [Act.put, List.setIfInBounds_toArray, List.set_cons_zero, List.set_cons_succ]
    rfl
  refine pure_ (i := 11) (N := some 32) (v := ?_) (a' := ?_) #[true, true, true, true, true, true, true, true, true, true, true, true, false, false, false, false, false, false, false, false, false, false, false, false, false, false, false, false] rfl rfl (by kernel_rfl) (fun _ _ _ h => h) (Or.inl ⟨by rfl, ?_⟩) ?_ ?_
  rotate_left
  · intro w'
    go_simp
    (try with_reducible rfl)
  rotate_left
  · simp only [Act.put, List.setIfInBounds_toArray, List.set_cons_zero, List.set_cons_succ]
    rfl
  refine take_ (i := 12) (N := some 33) (v := ?_) (a' := ?_) #[true, true, true, true, true, true, true, true, true, true, true, true, true, false, false, false, false, false, false, false, false, false, false, false, false, false, false, false] rfl rfl (by kernel_rfl) (fun _ _ _ h => h) (Or.inl ⟨by rfl, ?_⟩) hHeld ?_ ?_
  rotate_left
  · rintro w' ⟨s0, s1, s2, s3, s4⟩
    go_simp
    (try with_reducible rfl)
  rotate_left
  · simp only [Act.put, List.setIfInBounds_toArray, List.set_cons_zero, List.set_cons_succ]
    rfl
  refine pure_ (i := 14) (N := some 35) (v := ?_) (a' := ?_) #[true, true, true, true, true, true, true, true, true, true, true, true, true, false, true, false, false, false, false, false, false, false, false, false, false, false, false, false] rfl rfl (by kernel_rfl) (fun _ _ _ h => h) (Or.inl ⟨by rfl, ?_⟩) ?_ ?_
  rotate_left
  · intro w'
    go_simp
    (try with_reducible rfl)
  rotate_left
  · simp only [Act.put, List.setIfInBounds_toArray, List.set_cons_zero, List.set_cons_succ]
    rfl
  refine pure_ (i := 15) (N := some 36) (v := ?_) (a' := ?_) #[true, true, true, true, true, true, true, true, true, true, true, true, true, false, true, true, false, false, false, false, false, false, false, false, false, false, false, false] rfl rfl (by kernel_rfl) (fun _ _ _ h => h) (Or.inl ⟨by rfl, ?_⟩) ?_ ?_
  rotate_left
  · intro w'
    go_simp
    (try with_reducible rfl)
  rotate_left
  · simp only [Act.put, List.setIfInBounds_toArray, List.set_cons_zero, List.set_cons_succ]
    rfl
  refine pure_ (i := 16) (N := some 37) (v := ?_) (a' := ?_) #[true, true, true, true, true, true, true, true, true, true, true, true, true, false, true, true, true, false, false, false, false, false, false, false, false, false, false, false] rfl rfl (by kernel_rfl) (fun _ _ _ h => h) (Or.inl ⟨by rfl, ?_⟩) ?_ ?_
  rotate_left
  · intro w'
    go_simp
    (try with_reducible rfl)
  rotate_left
  · simp only [Act.put, List.setIfInBounds_toArray, List.set_cons_zero, List.set_cons_succ]
    rfl
  refine take_ (i := 17) (N := some 38) (v := ?_) (a' := ?_) #[true, true, true, true, true, true, true, true, true, true, true, true, true, false, true, true, true, true, false, false, false, false, false, false, false, false, false, false] rfl rfl (by kernel_rfl) (fun _ _ _ h => h) (Or.inl ⟨by rfl, ?_⟩) hHeld ?_ ?_
  rotate_left
  · rintro w' ⟨s0, s1, s2, s3, s4⟩
    go_simp
    (try with_reducible rfl)
  rotate_left
  · simp only [Act.put, List.setIfInBounds_toArray, List.set_cons_zero, List.set_cons_succ]
    rfl
  refine pure_ (i := 18) (N := some 39) (v := ?_) (a' := ?_) #[true, true, true, true, true, true, true, true, true, true, true, true, true, false, true, true, true, true, true, false, false, false, false, false, false, false, false, false] rfl rfl (by kernel_rfl) (fun _ _ _ h => h) (Or.inl ⟨by rfl, ?_⟩) ?_ ?_
  rotate_left
  · intro w'
    go_simp
    (try with_reducible rfl)
  rotate_left
  · simp only [Act.put, List.setIfInBounds_toArray, List.set_cons_zero, List.set_cons_succ]
    rfl
  refine pure_ (i := 19) (N := some 40) (v := ?_) (a' := ?_) #[true, true, true, true, true, true, true, true, true, true, true, true, true, false, true, true, true, true, true, true, false, false, false, false, false, false, false, false] rfl rfl (by kernel_rfl) (fun _ _ _ h => h) (Or.inl ⟨by rfl, ?_⟩) ?_ ?_
  rotate_left
  · intro w'
    go_simp
    (try with_reducible rfl)
  rotate_left
  · simp only [Act.put, List.setIfInBounds_toArray, List.set_cons_zero, List.set_cons_succ]
    rfl
  refine pure_ (i := 20) (N := some 41) (v := ?_) (a' := ?_) #[true, true, true, true, true, true, true, true, true, true, true, true, true, false, true, true, true, true, true, true, true, false, false, false, false, false, false, false] rfl rfl (by kernel_rfl) (fun _ _ _ h => h) (Or.inl ⟨by rfl, ?_⟩) ?_ ?_
  rotate_left
  · intro w'
    go_simp
    (try with_reducible rfl)
  rotate_left
  · simp only [Act.put, List.setIfInBounds_toArray, List.set_cons_zero, List.set_cons_succ]
    rfl
  refine take_ (i := 21) (N := some 42) (v := ?_) (a' := ?_) #[true, true, true, true, true, true, true, true, true, true, true, true, true, false, true, true, true, true, true, true, true, true, false, false, false, false, false, false] rfl rfl (by kernel_rfl) (fun _ _ _ h => h) (Or.inl ⟨by rfl, ?_⟩) hHeld ?_ ?_
  rotate_left
  · rintro w' ⟨s0, s1, s2, s3, s4⟩
    go_simp
    (try with_reducible rfl)
  rotate_left
  · simp only [Act.put, List.setIfInBounds_toArray, List.set_cons_zero, List.set_cons_succ]
    rfl
  refine one_ (i := 13) (N := some 34) #[true, true, true, true, true, true, true, true, true, true, true, true, true, true, true, true, true, true, true, true, true, true, false, false, false, false, false, false] rfl rfl (by kernel_rfl) (by decide) (fun K hK => ?_)
  go_simp
  refine (copied_walk p.f p.t p.A p.b.length p.c p.b _ (HR1.out.below (pw_below_drewN (Below.refl _ _) _)) (by omega) HA.out).mono ?_
  rintro e w3 ⟨A1, c1, rfl, ho1, hb3⟩
  have hq : Below w1.heap.size w1 w3 := below_then (pw_below_drewN (Below.refl _ _) _) (Nat.le_refl _) hb3
  have HO1 := Lib.hid ho1
  clear ho1
  try go_wp2_with fail
  refine hK.out _ _ ?_ (fun hHeld2 => ?_)
  · (try dsimp only)
    first | with_reducible exact hHeld | exact ⟨pw_cell_below hq u1, pw_cell_below hq z0, pw_cell_below hq z1, pw_cell_below hq z2, pw_cell_below hq z3⟩
  clear hHeld hK K
  have hHeld := hHeld2
  clear hHeld2
  try simp only [Act.put, List.setIfInBounds_toArray, List.set_cons_zero, List.set_cons_succ]
  refine pure_ (i := 22) (N := some 43) (v := ?_) (a' := ?_) #[true, true, true, true, true, true, true, true, true, true, true, true, true, true, true, true, true, true, true, true, true, true, true, false, false, false, false, false] rfl rfl (by kernel_rfl) (fun _ _ _ h => h) (Or.inl ⟨by rfl, ?_⟩) ?_ ?_
  rotate_left
  · intro w'
    go_simp
    (try with_reducible rfl)
  rotate_left
  · simp only [Act.put, List.setIfInBounds_toArray, List.set_cons_zero, List.set_cons_succ]
    rfl
  refine one_ (i := 23) (N := some 44) #[true, true, true, true, true, true, true, true, true, true, true, true, true, true, true, true, true, true, true, true, true, true, true, true, false, false, false, false] rfl rfl (by kernel_rfl) (by decide) (fun K hK => ?_)
  go_simp
  refine hK.out _ _ ?_ (fun hHeld2 => ?_)
  · (try dsimp only)
    exact ⟨pw_cell_below (bel_trans0 hq _) u1, pw_cell_below (bel_trans0 hq _) z0, pw_cell_below (bel_trans0 hq _) z1, pw_cell_below (bel_trans0 hq _) z2, pw_cell_below (bel_trans0 hq _) z3⟩
  clear hHeld hK K
  have hHeld := hHeld2
  clear hHeld2
  try simp only [Act.put, List.setIfInBounds_toArray, List.set_cons_zero, List.set_cons_succ]
  refine one_ (i := 24) (N := some 45) #[true, true, true, true, true, true, true, true, true, true, true, true, true, true, true, true, true, true, true, true, true, true, true, true, true, false, false, false] rfl rfl (by kernel_rfl) (by decide) (fun K hK => ?_)
  refine step_append_keeps (by rfl) _ _ _ (by rfl) base 63 i0 z0' 4 48 Try.underlying57 HI.out.1 HI.out.2.1 HI.out.2.2.1 HI.out.2.2.2.1 HI.out.2.2.2.2 (by decide) g L.length cl (pkCells L) (by rfl) (pw_own_below HO.out (bel_trans HB1.out hq _)) ⟨w3.heap.size, 0, none⟩ 1 1 [.int .i64 p.f, .int .i64 p.t, .slice A1 p.b.length c1, .bool p.sp] (by rfl) rfl (World.news_of_block (heap_alloc_new w3 _)) (by simp [Value.oneCell']) (by decide) (by unfold maxLen; omega) (by omega) (by have := hq.size; have := HB1.out.size; have := HS.out.bw; simp; omega) ?_
  intro g4 cap w4 hown hgrow hat
  have HN4 := Lib.hid hown
  have t0 := keeps_cell hown hat (by rw [pkCells_len]; omega) (pk_get' L k p HP.out 0) (pw_cell_below (bel_trans0 hq _) z0)
  have t1 := keeps_cell hown hat (by rw [pkCells_len]; omega) (pk_get' L k p HP.out 1) (pw_cell_below (bel_trans0 hq _) z1)
  have t2 := keeps_cell hown hat (by rw [pkCells_len]; omega) (pk_get' L k p HP.out 2) (pw_cell_below (bel_trans0 hq _) z2)
  have t3 := keeps_cell hown hat (by rw [pkCells_len]; omega) (pk_get' L k p HP.out 3) (pw_cell_below (bel_trans0 hq _) z3)
  clear hown hat
  have uu := far_of hq hgrow u1 HNR.out
  have fz := far_fz hq hgrow HFZ.out HNR.out
  refine hK.out _ _ ?_ (fun hHeld2 => ?_)
  · (try dsimp only)
    exact ⟨uu, t0, t1, t2, t3⟩
  clear hHeld hK K
  have hHeld := hHeld2
  clear hHeld2
  try simp only [Act.put, List.setIfInBounds_toArray, List.set_cons_zero, List.set_cons_succ]
  refine pure_ (i := 25) (N := some 46) (v := ?_) (a' := ?_) #[true, true, true, true, true, true, true, true, true, true, true, true, true, true, true, true, true, true, true, true, true, true, true, true, true, true, false, false] rfl rfl (by kernel_rfl) (fun _ _ _ h => h) (Or.inl ⟨by rfl, ?_⟩) ?_ ?_
  rotate_left
  · intro w'
    go_simp
    (try with_reducible rfl)
  rotate_left
  · simp only [Act.put, List.setIfInBounds_toArray, List.set_cons_zero, List.set_cons_succ]
    rfl
  refine pure_ (i := 26) (N := some 47) (v := ?_) (a' := ?_) #[true, true, true, true, true, true, true, true, true, true, true, true, true, true, true, true, true, true, true, true, true, true, true, true, true, true, true, false] rfl rfl (by kernel_rfl) (fun _ _ _ h => h) (Or.inl ⟨by rfl, ?_⟩) ?_ ?_
  rotate_left
  · intro w'
    go_simp
    (try with_reducible rfl)
  rotate_left
  · simp only [Act.put, List.setIfInBounds_toArray, List.set_cons_zero, List.set_cons_succ]
    rfl
  refine last_ (i := 27) (N := none) #[true, true, true, true, true, true, true, true, true, true, true, true, true, true, true, true, true, true, true, true, true, true, true, true, true, true, true, true] rfl rfl (by kernel_rfl) (by decide) (fun K hK => ?_)
  go_simp
  refine hK.out _ _ ?_
  clear hHeld hK K
  try simp only [Act.put, List.setIfInBounds_toArray, List.set_cons_zero, List.set_cons_succ]
  refine wpAnyLast_done (by kernel_rfl) ?_ _
  go_wp2_with fail
  go_ret
  have hF := add_fin HS.out HC.out HO.out HB1.out hq (show w.heap.size ≤ (w1.drewN _).heap.size + 2 from Nat.le_trans HB1.out.size (Nat.le_add_right _ 2)) rfl HO1.out HN4.out hgrow HNR.out
  exact ⟨A1, c1, rfl, hF⟩
end Go.Proofs.Ytenbjmgmgdkapaa
