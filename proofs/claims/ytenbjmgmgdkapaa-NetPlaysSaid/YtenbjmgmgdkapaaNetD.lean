/- Walks of package net: a net's state; copied, has. -/
import Derived.Test.YtenbjmgmgdkapaaNetC
import Derived.Deep.RegionHeld3
import Derived.Deep.AppendLies
import Derived.Deep.DrawnRows
set_option linter.unusedVariables false
set_option linter.unusedSimpArgs false
namespace Go.Proofs.Ytenbjmgmgdkapaa
open Go.RowKit Go.Proofs.YtenbjmgmgdkapaaW.PrintWords Go.Proofs.Ytenbjmgmgdkapaa.K

/-- A packet that waits. -/
structure Pk where
  f : Int
  t : Int
  A : Option Addr
  c : Nat
  b : List Int
  sp : Bool
def Pk.val (p : Pk) : Value := .slice p.A p.b.length p.c
def Pk.cells (p : Pk) : List Value := [.int .i64 p.f, .int .i64 p.t, p.val, .bool p.sp]
def pkCells (L : List Pk) : List Value := L.flatMap Pk.cells
theorem pkCells_len (L : List Pk) : (pkCells L).length = L.length * 4 := by
  induction L with
  | nil => rfl
  | cons p r ih => simp only [pkCells, List.flatMap_cons, List.length_append] at ih ⊢; rw [ih]; simp [Pk.cells]; omega
theorem rd_drew {w : World} {k : IntKind} {A : Option Addr} {n : Nat} {xs : List Int} (h : ReadsInt w k A n xs) : ReadsInt w.drew k A n xs := h.below (below_drew (Below.refl _ _))
theorem alloc_back {W : World} (o : Obj) : Below W.heap.size W (W.alloc o) := (Below.refl _ _).alloc (Nat.le_refl _) o
theorem alloc_back2 {W : World} (o o' : Obj) : Below W.heap.size W ((W.alloc o).alloc o') := (alloc_back o).alloc (alloc_back o).size _
set_option maxHeartbeats 1000000 in
/-- slices.Clone of bytes: a row of its own. -/
theorem clone_walk (A : Option Addr) (n c : Nat) (xs : List Int) (w : World) (h : ReadsInt w .u8 A n xs) (hn : n ≤ 1000000) (hA : A = none → c = 0) :
    Calls Try.prog 28 #[.slice A n c] w fun e w' => ∃ A1 c1, e = .returned (.slice A1 n c1) ∧ w'.ownsRow w.heap.size 5 1 (.slice A1 n c1) n (nums .u8 xs) ∧ Below w.heap.size w w' := by
  have HL := Lib.hid h
  rcases A with _ | ad
  · obtain rfl := hA rfl
    have h0 : n = 0 := by
      rcases Nat.eq_zero_or_pos n with h0 | h0
      · exact h0
      · obtain ⟨ad, h, _⟩ := h.2.2 h0; cases h
    subst h0
    have hx : xs = [] := List.eq_nil_of_length_eq_zero h.1
    subst hx
    clear h hA
    have e1 : ∀ W : World, (binOp .eql 28 (.slice none 0 0) (.slice none 0 0)).run Try.prog W = .ok (.bool true) W := fun W => by kernel_rfl
    go_enter Try.func28, Try.ntmps28
    go_wp2_with fail
    go_ret
    exact ⟨none, 0, rfl, ⟨rfl, .inl ⟨rfl, rfl⟩⟩, Below.refl _ _⟩
  · clear h hA
    have e1 : ∀ W : World, (binOp .eql 28 (.slice (some ad) n c) (.slice none 0 0)).run Try.prog W = .ok (.bool false) W := fun W => by kernel_rfl
    go_enter Try.func28, Try.ntmps28
    go_wp2_with (first | (at_builtin; refine K.app_row (w0 := w) w.heap.size rfl (.tmp 5) (.tmp 6) 28 5 .u8 1 rfl Try.underlying28 (by kernel_rfl) (by decide) _ [] xs _ _ _ rfl rfl (own_lit _ _ 5 .u8 [] (Nat.le_refl _) (by decide)) (HL.out.below ((Below.refl _ _).alloc (Nat.le_refl _) _)) ((Below.refl _ _).alloc (Nat.le_refl _) _) (by simp) (by simp; omega) n HL.out.1 ?_; intro A1 c1 w2 hown hB1 _; have HO := Lib.hid hown; clear hown))
    go_ret
    exact ⟨A1, c1, rfl, HO.out, hB1⟩
theorem box3 {w : World} {r : Nat} {f t : Int} {B : Value} {ty : TypeId} (h : w.heap[r]? = some (.cells #[.int .i64 f, .int .i64 t, B] ty (0, 0))) :
    w.cell? ⟨r, 0, none⟩ = some (.int .i64 f) ∧ w.cell? ⟨r, 1, none⟩ = some (.int .i64 t) ∧ w.cell? ⟨r, 2, none⟩ = some B := by
  simp [World.cell?, h]
theorem froz {w : World} {r : Nat} {cs : Array Value} {ty : TypeId} (h : w.heap[r]? = some (.cells cs ty (0, 0))) (j : Nat) : w.frozen? ⟨r, j, none⟩ = false := by simp [World.frozen?, h]
theorem hdr (w : World) : w.drew.heap = w.heap := rfl
theorem hal (w : World) (o : Obj) : (w.alloc o).heap = w.heap.push o := rfl
theorem hpush1 (H : Array Obj) (a : Obj) : (H.push a)[H.size]? = some a := by simp
theorem hpush2 (H : Array Obj) (a b : Obj) : ((H.push a).push b)[H.size + 1]? = some b := by
  have := hpush1 (H.push a) b
  rwa [Array.size_push] at this
theorem hpush3 (H : Array Obj) (a b : Obj) : ((H.push a).push b)[H.size]? = some a := by
  rw [Array.getElem?_push, if_neg (by rw [Array.size_push]; omega)]
  exact hpush1 H a
theorem heap_keep {w w' : World} {k : Nat} {o : Obj} (hb : Below w.heap.size w w') (h : w.heap[k]? = some o) : w'.heap[k]? = some o := (hb.block k (lt_of_heap h)).trans h
theorem bset' {N : Nat} {W w : World} {r j : Nat} {v : Value} (h : Below N W w) (hr : N ≤ r) (hw : N ≤ w.heap.size) : Below N W (w.setCell ⟨r, j, none⟩ v) :=
  pw_below_grown h (some r) hw (grown_set v) (fun k e => by cases e; exact hr)
theorem set3 {w : World} {r : Nat} {f t f' t' : Int} {B B' : Value} {ty : TypeId} (h : w.heap[r]? = some (.cells #[.int .i64 f, .int .i64 t, B] ty (0, 0))) :
    (((w.setCell ⟨r, 0, none⟩ (.int .i64 f')).setCell ⟨r, 1, none⟩ (.int .i64 t')).setCell ⟨r, 2, none⟩ B').heap[r]? = some (.cells #[.int .i64 f', .int .i64 t', B'] ty (0, 0)) := by
  rw [heap_set _ (heap_set _ (heap_set _ h))]; rfl
theorem own_set {w : World} {r j : Nat} {v : Value} {base m : Nat} {e : TypeId} {size : Nat} {V : Value} {L : List Value} (h : w.ownsRow base e size V m L) (hr : r < base) : (w.setCell ⟨r, j, none⟩ v).ownsRow base e size V m L :=
  own_other h (grown_set (w := w) (r := r) (j := j) v) (by
    rcases h.2 with ⟨h, _⟩ | ⟨g, cap, cur, h, hb, _⟩
    · left; rw [h]; rfl
    · right; rw [h]; intro e; have e2 : g = r := by simpa [Value.ownBlock] using e
      omega)
set_option maxHeartbeats 2000000 in
theorem copied_walk (f t : Int) (A : Option Addr) (n c : Nat) (xs : List Int) (w : World) (h : ReadsInt w .u8 A n xs) (hn : n ≤ 1000000) (hA : A = none → c = 0) :
    Calls Try.prog 24 #[.agg #[.int .i64 f, .int .i64 t, .slice A n c]] w fun e w' => ∃ A1 c1, e = .returned (.agg #[.int .i64 f, .int .i64 t, .slice A1 n c1]) ∧ w'.ownsRow (w.heap.size + 2) 5 1 (.slice A1 n c1) n (nums .u8 xs) ∧ Below w.heap.size w w' := by
  have HL := Lib.hid h; clear h
  have HA := Lib.hid hA; clear hA
  go_enter Try.func24, Try.ntmps24
  go_wp2_with fail
  generalize hw1 : (w.alloc (.cells #[.int .i64 f, .int .i64 t, .slice A n c] 30)).alloc (.cells #[.int .i64 0, .int .i64 0, .slice none 0 0] 30) = w1
  have hb1 : Below w.heap.size w w1 := by rw [← hw1]; exact alloc_back2 _ _
  have hs1 : w1.heap.size = w.heap.size + 2 := by rw [← hw1]; simp
  have q1 : w1.heap[w.heap.size]? = some (.cells #[.int .i64 f, .int .i64 t, .slice A n c] 30 (0, 0)) := by rw [← hw1]; simp only [hal]; exact hpush3 _ _ _
  have q2 : w1.heap[w.heap.size + 1]? = some (.cells #[.int .i64 0, .int .i64 0, .slice none 0 0] 30 (0, 0)) := by rw [← hw1]; simp only [hal]; exact hpush2 _ _ _
  obtain ⟨c0, c1, c2⟩ := box3 q1
  have HS1 := Lib.hid hs1; have Q1 := Lib.hid q1; have Q2 := Lib.hid q2
  clear hw1 hs1 q1 q2
  go_region_held3 (fun w' => w'.cell? ⟨w.heap.size, 0, none⟩ = some (.int .i64 f) ∧ w'.cell? ⟨w.heap.size, 1, none⟩ = some (.int .i64 t) ∧ w'.cell? ⟨w.heap.size, 2, none⟩ = some (.slice A n c))
    (first | with_reducible exact ⟨pw_cell_below hb2 c0, pw_cell_below hb2 c1, pw_cell_below hb2 c2⟩ | exact ⟨c0, c1, c2⟩ | go_keep)
    ((go_at_call 28; refine (clone_walk A n c xs _ (HL.out.below (below_drew hb1)) hn HA.out).mono ?_; rintro e w2 ⟨A1, c1', rfl, ho, hb⟩; have hb2 : Below w1.heap.size w1 w2 := below_then (below_drew (Below.refl _ _)) (Nat.le_refl _) hb; have hz := heap_keep hb2 Q2.out; obtain ⟨z0, z1, z2⟩ := box3 hz; have y0 := froz hz 0; have y1 := froz hz 1; have y2 := froz hz 2; have HZ := Lib.hid hz; clear hz; have HO := Lib.hid ho; clear ho))
  go_wp2_with fail
  (try simp only [Exit.inBlock, Exit.then])
  refine bodyPost_ret (results_cell_row rfl _ _ (w.heap.size + 1) 30 #[.int .i64 f, .int .i64 t, .slice A1 n c1'] (0, 0) _ rfl (set3 HZ.out) Try.underlying30 rfl (by kernel_rfl)) rfl ?_
  have hb3 := below_then hb1 hb1.size hb2
  have hs2 := hb2.size
  have ho := HO.out
  rw [show w1.drew.heap.size = w.heap.size + 2 from HS1.out] at ho
  have h1 := hb3.size
  have g : ∀ (u : World) (j : Nat) (v : Value), (u.setCell ⟨w.heap.size + 1, j, none⟩ v).heap.size = u.heap.size := fun u j v => by simp [World.setCell]
  exact ⟨A1, c1', rfl, own_set (own_set (own_set ho (by omega)) (by omega)) (by omega), bset' (bset' (bset' hb3 (by omega) h1) (by omega) (by rw [g]; exact h1)) (by omega) (by rw [g, g]; exact h1)⟩
end Go.Proofs.Ytenbjmgmgdkapaa
