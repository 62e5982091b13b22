/- The reference's net: Spoil. -/
import Derived.Test.YtenbjmgmgdkapaaNetPd
set_option linter.unusedVariables false
set_option linter.unusedSimpArgs false
namespace Go.Proofs.Ytenbjmgmgdkapaa
open Go.RowKit Go.Proofs.YtenbjmgmgdkapaaW.PrintWords Go.Proofs.YtenbjmgmgdkapaaW.PrintLast Go.Proofs.Ytenbjmgmgdkapaa.K Go.Proofs.Ytenbjmgmgdkapaa.Row

theorem pk_set2 (L : List Pk) (k : Nat) (p q : Pk) (h : L[k]? = some p) (hq : q.cells = (p.cells.set 2 q.val).set 3 (.bool true)) : pkCells (L.set k q) = ((pkCells L).set (k * 4 + 2) q.val).set (k * 4 + 3) (.bool true) := by
  induction L generalizing k with
  | nil => simp at h
  | cons a l ih =>
    have ha : a.cells.length = 4 := rfl
    cases k with
    | zero =>
      simp at h; subst h
      show q.cells ++ pkCells l = ((a.cells ++ pkCells l).set (0 * 4 + 2) _).set (0 * 4 + 3) _
      rw [List.set_append_left _ _ (by rw [ha]; decide), List.set_append_left _ _ (by rw [List.length_set, ha]; decide), hq]
    | succ k =>
      show a.cells ++ pkCells (l.set k q) = ((a.cells ++ pkCells l).set ((k + 1) * 4 + 2) _).set ((k + 1) * 4 + 3) _
      rw [List.set_append_right _ _ (by rw [ha]; omega), List.set_append_right _ _ (by rw [ha]; omega), ha, show (k + 1) * 4 + 2 - 4 = k * 4 + 2 by omega, show (k + 1) * 4 + 3 - 4 = k * 4 + 3 by omega, ih k (by simpa using h)]
section
variable (r : Nat) (room : Int) (f : Nat → Nat → Bool)
set_option maxHeartbeats 2000000 in
theorem rspoil_miss (A : Option Addr) (L c : Nat) (k i by_ : Int) (w : World) (hc : w.heap[r]? = some (.cells (refC room (.slice A L c) f) 47 (0, 0))) (hk : ¬ (0 ≤ k ∧ k < (L : Int))) :
    Calls Try.prog 21 #[.pointer (some ⟨r, 0, none⟩), .int .i64 k, .int .i64 i, .int .u8 by_] w fun e w' => e = .returned (.bool false) ∧ w = w' := by
  obtain ⟨u0, u1⟩ := ref_cells hc
  by_cases h1 : k < 0
  all_goals
    (try have h2 : (L : Int) ≤ k := by omega)
    clear hk hc
    go_enter Try.func21, Try.ntmps21
    go_wp2_with fail
    go_ret
    exact ⟨rfl, rfl⟩
set_option maxRecDepth 100000 in
set_option maxHeartbeats 4000000 in
theorem rspoil_ng (base : Nat) (L : List Pk) (k : Nat) (i by_ : Int) (p : Pk) (w : World) (hS : RefS w base r room f L) (hp : L[k]? = some p) (hL : L.length ≤ 100000) (hb : p.b.length ≤ 32768) (hno : ¬ ((0 ≤ i ∧ i < (p.b.length : Int)) ∧ by_ ≠ 0 ∧ p.sp = false)) :
    Calls Try.prog 21 #[.pointer (some ⟨r, 0, none⟩), .int .i64 (k : Int), .int .i64 i, .int .u8 by_] w fun e w' => e = .returned (.bool false) ∧ w = w' := by
  obtain ⟨Al, cl, hc, ho⟩ := hS.cl
  have hk : k < L.length := (List.getElem?_eq_some_iff.1 hp).1
  obtain ⟨g, cap, e, hgb, hgl⟩ := ho.form (by omega)
  injection e with e1 e2 e3
  subst e1 e3
  have g2 := ho.cells (g := g) rfl (k * 4 + 2) p.val (by rw [pk_get L k p hp 2 (by decide)]; rfl)
  have g3 := ho.cells (g := g) rfl (k * 4 + 3) (.bool p.sp) (by rw [pk_get L k p hp 3 (by decide)]; rfl)
  rw [add_plain] at g2 g3
  unfold Pk.val at g2
  obtain ⟨u0, u1⟩ := ref_cells hc
  have k1 : ¬ ((k : Int) < 0) := by omega
  have k2 : ¬ ((L.length : Int) ≤ (k : Int)) := by omega
  have k3 : (k : Int) < (L.length : Int) := by omega
  have HNO := Lib.hid hno
  clear hS hp hc ho e2 hno
  by_cases c3 : by_ = 0
  · subst c3
    go_enter Try.func21, Try.ntmps21
    go_wp2_with fail
    go_ret
    exact ⟨rfl, rfl⟩
  have hby' : (by_ == 0) = false := by simpa using c3
  by_cases c1 : i < 0
  · go_enter Try.func21, Try.ntmps21
    go_wp2_with fail
    go_ret
    exact ⟨rfl, rfl⟩
  by_cases c2 : (p.b.length : Int) ≤ i
  · go_enter Try.func21, Try.ntmps21
    go_wp2_with fail
    go_ret
    exact ⟨rfl, rfl⟩
  have hsp : p.sp = true := by
    cases hs : p.sp with
    | true => rfl
    | false => exact absurd ⟨⟨by omega, by omega⟩, c3, hs⟩ HNO.out
  rw [hsp] at g3
  clear hsp c3
  go_enter Try.func21, Try.ntmps21
  go_wp2_with fail
  go_ret
  exact ⟨rfl, rfl⟩
end
def TyS (w : World) (tys : List TypeId) (b : Nat) : Prop := ∃ cs ty, w.heap[b]? = some (.cells cs ty (0, 0)) ∧ ty ∈ tys
theorem TyS.not {w : World} {tys : List TypeId} {b : Nat} {cs : Array Value} {ty : TypeId} (h : w.heap[b]? = some (.cells cs ty (0, 0))) (hn : ty ∉ tys) : ¬ TyS w tys b := fun ⟨cs', ty', h1, h2⟩ => by
  rw [h] at h1; injection h1 with h1; injection h1 with _ h1; subst h1; exact hn h2
theorem rspoil_fin {w w2 : World} {base r : Nat} {room : Int} {f : Nat → Nat → Bool} {L : List Pk} {k i n1 c1 g cl : Nat} {p : Pk} {x : Int} (hS : RefS w base r room f L) (hp : L[k]? = some p) (hi : i < p.b.length)
    (hc : w.heap[r]? = some (.cells (refC room (.slice (some ⟨g, 0, none⟩) L.length cl) f) 47 (0, 0))) (ho : w.ownsRow base 52 4 (.slice (some ⟨g, 0, none⟩) L.length cl) L.length (pkCells L))
    (hb : Below w.heap.size w w2) (hw : w2.ownsRow w.heap.size 5 1 (.slice (some ⟨n1, 0, none⟩) p.b.length c1) p.b.length (nums .u8 p.b)) {W : World}
    (hW : W = ((w2.setCell ⟨n1, i, none⟩ (.int .u8 x)).setCell ⟨g, k * 4 + 2, none⟩ (.slice (some ⟨n1, 0, none⟩) p.b.length c1)).setCell ⟨g, k * 4 + 3, none⟩ (.bool true)) :
    RefS W base r room f (L.set k ⟨p.f, p.t, some ⟨n1, 0, none⟩, c1, p.b.set i x, true⟩) ∧ Chg (TyS w [52]) w W ∧ (∀ U, Below base U w → Below base U W) ∧ W.ownsRow w.heap.size 5 1 (.slice (some ⟨n1, 0, none⟩) p.b.length c1) p.b.length (nums .u8 (p.b.set i x)) := by
  subst hW
  obtain ⟨cs, hgq⟩ : ∃ cs, w.heap[g]? = some (.cells cs 52 (0, 0)) := own_typed ho g rfl
  have hgl := lt_of_heap hgq
  have hrl := lt_of_heap hc
  have hn1 : w.heap.size ≤ n1 := own_base hw n1 rfl
  have hg2 := heap_keep hb hgq
  have gs1 := grown_set (w := w2) (r := n1) (j := i) (.int .u8 x)
  have o1 := own_store hw (i : Int) x
  simp only [Int.toNat_natCast] at o1
  have gs2 : (w2.setCell ⟨n1, i, none⟩ (.int .u8 x)).grownBy (((w2.setCell ⟨n1, i, none⟩ (.int .u8 x)).setCell ⟨g, k * 4 + 2, none⟩ (.slice (some ⟨n1, 0, none⟩) p.b.length c1)).setCell ⟨g, k * 4 + 3, none⟩ (.bool true)) (some g) := World.grownBy.trans (grown_set _) (grown_set _)
  have q := own_other (pw_own_below ho hb) gs1 (.inr (by simp [Value.ownBlock]; omega))
  have q2 := ((q.stored (k * 4 + 2) (.slice (some ⟨n1, 0, none⟩) p.b.length c1)).1.stored (k * 4 + 3) (.bool true)).1
  have C1 : Chg (TyS w [52]) w (w2.setCell ⟨n1, i, none⟩ (.int .u8 x)) := (Chg.ofBelow hb).trans (Chg.ofGrown (S := fun b => b = n1) gs1 (fun k e => by injection e with e; exact e.symm)) (fun k hk e => by omega)
  have C2 : Chg (TyS w [52]) w _ := C1.trans (Chg.ofGrown (S := fun b => b = g) gs2 (fun k e => by injection e with e; exact e.symm)) (fun k hk e => by subst e; exact ⟨cs, _, hgq, by simp⟩)
  have C3 : Chg (fun b => b = g) w _ := ((Chg.ofBelow hb).trans (Chg.ofGrown (S := fun b => b = n1) gs1 (fun k e => by injection e with e; exact e.symm)) (fun k hk e => by omega)).trans (Chg.ofGrown (S := fun b => b = g) gs2 (fun k e => by injection e with e; exact e.symm)) (fun k hk e => e)
  have hro := own_other o1.1 gs2 (.inr (by simp [Value.ownBlock]; omega))
  refine ⟨⟨⟨some ⟨g, 0, none⟩, cl, ?_, ?_⟩, fun s hs => ?_, hS.br, Nat.le_trans hS.bw C2.size⟩, C2, fun U hU => C3.on hU hS.bw (fun k e => by rw [e]; exact own_base ho g rfl), hro⟩
  · rw [List.length_set]
    exact C2.keep hc (TyS.not hc (by decide))
  · rw [List.length_set, pk_set2 L k p ⟨p.f, p.t, some ⟨n1, 0, none⟩, c1, p.b.set i x, true⟩ hp (by simp [Pk.cells, Pk.val])]
    simpa [Pk.val] using q2
  · obtain ⟨j, hj⟩ := List.mem_iff_getElem?.1 hs
    by_cases hjk : j = k
    · subst hjk
      rw [List.getElem?_set_self (List.getElem?_eq_some_iff.1 hp).1] at hj
      injection hj with hj
      subst hj
      have := own_base_le hro hS.bw
      simpa [Pk.val] using this
    · rw [List.getElem?_set_ne (fun e => hjk e.symm)] at hj
      have hm := List.mem_of_getElem? hj
      exact C2.own (hS.bd s hm) (fun g' hg' => by
        obtain ⟨cs', h'⟩ := own_typed (hS.bd s hm) g' hg'
        exact TyS.not h' (by decide))
set_option maxRecDepth 100000 in
set_option maxHeartbeats 4000000 in
theorem rspoil_ok (base r : Nat) (room : Int) (f : Nat → Nat → Bool) (L : List Pk) (k i : Nat) (by_ : Int) (p : Pk) (w : World) (hS : RefS w base r room f L) (hp : L[k]? = some p) (hL : L.length ≤ 100000) (hb : p.b.length ≤ 32768) (hi : i < p.b.length) (hby : by_ ≠ 0) (hsp : p.sp = false) :
    Calls Try.prog 21 #[.pointer (some ⟨r, 0, none⟩), .int .i64 (k : Int), .int .i64 (i : Int), .int .u8 by_] w fun e w' => ∃ A1 c1, e = .returned (.bool true) ∧ RefS w' base r room f (L.set k ⟨p.f, p.t, A1, c1, p.b.set i (bits .xor .u8 (p.b.getD i 0) by_), true⟩) ∧ Chg (TyS w [52]) w w' ∧ (∀ U, Below base U w → Below base U w') ∧ w'.ownsRow w.heap.size 5 1 (.slice A1 p.b.length c1) p.b.length (nums .u8 (p.b.set i (bits .xor .u8 (p.b.getD i 0) by_))) := by
  obtain ⟨Al, cl, hc, ho⟩ := hS.cl
  have hk : k < L.length := (List.getElem?_eq_some_iff.1 hp).1
  obtain ⟨g, cap, e, hgb, hgl⟩ := ho.form (by omega)
  injection e with e1 e2 e3
  subst e1 e3
  have hpo := hS.bd p (List.mem_of_getElem? hp)
  have hrd : ReadsInt w .u8 p.A p.b.length p.b := (own_info hpo).2.2.2.1
  have g2 := ho.cells (g := g) rfl (k * 4 + 2) p.val (by rw [pk_get L k p hp 2 (by decide)]; rfl)
  have g3 := ho.cells (g := g) rfl (k * 4 + 3) (.bool p.sp) (by rw [pk_get L k p hp 3 (by decide)]; rfl)
  rw [add_plain] at g2 g3
  unfold Pk.val at g2
  rw [hsp] at g3
  obtain ⟨u0, u1⟩ := ref_cells hc
  have k1 : ¬ ((k : Int) < 0) := by omega
  have k2 : ¬ ((L.length : Int) ≤ (k : Int)) := by omega
  have k3 : (k : Int) < (L.length : Int) := by omega
  have i1 : ¬ ((i : Int) < 0) := by omega
  have i2 : ¬ ((p.b.length : Int) ≤ (i : Int)) := by omega
  have i3 : (i : Int) < (p.b.length : Int) := by omega
  have hby' : (by_ == 0) = false := by simpa using hby
  obtain ⟨cs, hgq⟩ : ∃ cs, w.heap[g]? = some (.cells cs 52 (0, 0)) := own_typed ho g rfl
  have hgr : g ≠ r := fun e => by rw [e, hc] at hgq; injection hgq with hgq; injection hgq with _ hgq; exact absurd hgq (by decide)
  have HS := Lib.hid hS; have HC := Lib.hid hc; have HO := Lib.hid ho; have HP := Lib.hid hp; have HR := Lib.hid hrd; have HGQ := Lib.hid hgq
  have ea : ∀ o, (w.alloc o).cell? ⟨r, 1, none⟩ = some (.slice (some ⟨g, 0, none⟩) L.length cl) := fun o => pw_cell_below (alloc_back o) u1
  have eb : ∀ o, (w.alloc o).cell? ⟨g, k * 4 + 2, none⟩ = some (.slice p.A p.b.length p.c) := fun o => pw_cell_below (alloc_back o) g2
  clear hS hc ho hp e2 hrd hgq hpo hby hsp
  go_enter Try.func21, Try.ntmps21
  go_wp2_with (first | (at_builtin; refine K.app_row (w0 := w) w.heap.size rfl (.tmp 52) (.tmp 60) 28 5 .u8 1 rfl Try.underlying28 (by kernel_rfl) (by decide) _ [] p.b _ _ _ rfl rfl (own_lit w w.heap.size 5 .u8 [] (Nat.le_refl _) (by decide)) (HR.out.below (alloc_back _)) (alloc_back _) (by simp) (by simp; omega) p.b.length rfl ?_; intro A1 c1 w2 hown hB1 _; simp only [List.nil_append] at hown; obtain ⟨n1, cp1, hf1, hn1, hn2⟩ := hown.form (by omega); injection hf1 with hf1 _ hf2; subst hf1 hf2; obtain ⟨f1, f2⟩ := own_at hown (i : Int) (by omega) (by omega); simp only [Int.toNat_natCast] at f1 f2; rw [show rd p.b (i : Int) = p.b.getD i 0 from (by unfold rd; rw [Int.toNat_natCast])] at f1; have m1 := pw_cell_below hB1 u1; have m2 := pw_cell_below hB1 g2; have m3 := pw_cell_below hB1 g3; have hq2 := heap_keep hB1 HGQ.out; have z2 := froz hq2 (k * 4 + 2); have z3 := froz hq2 (k * 4 + 3); have ne1 : n1 ≠ g := (by omega); have hrl := lt_of_heap HC.out; have ne2 : n1 ≠ r := (by omega); have ne3 : g ≠ n1 := (by omega); have ne4 : r ≠ n1 := (by omega); have hgr' : r ≠ g := fun e => hgr e.symm; have HOW := Lib.hid hown; have HB1 := Lib.hid hB1; have HQ2 := Lib.hid hq2; clear hown hB1 hq2 u0 u1 g2 g3 ea eb))
  go_ret
  have hx : p.b[i] = p.b.getD i 0 := by simp [List.getD_eq_getElem?_getD, hi]
  rw [hx]
  have hF := rspoil_fin (x := bits .xor .u8 (p.b.getD i 0) by_) HS.out HP.out hi HC.out HO.out HB1.out HOW.out rfl
  refine ⟨rfl, _, _, hF⟩
end Go.Proofs.Ytenbjmgmgdkapaa
