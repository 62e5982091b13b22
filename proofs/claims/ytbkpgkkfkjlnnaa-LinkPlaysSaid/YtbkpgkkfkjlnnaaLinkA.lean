/- Walks of package link: words; frame.Good, msg.Good; New, Waiting, Next; slices.Clone; copied (printed by a program of mine, mklinka.py). -/
import Derived.Test.YtbkpgkkfkjlnnaaRows
import Derived.Test.YtbkpgkkfkjlnnaaK
import Derived.Test.YtbkpgkkfkjlnnaaMsgW
import Derived.Test.YtbkpgkkfkjlnnaaWLast
import Derived.Outline
import Derived.Maps.Own
import Derived.Carry
import Derived.Deep.RegionHeld3
import Derived.Deep.AppendLies
import Derived.Deep.DrawnRows
set_option linter.unusedVariables false
set_option linter.unusedSimpArgs false
namespace Go.Proofs.Ytbkpgkkfkjlnnaa
open Go.RowKit Go.Proofs.YtbkpgkkfkjlnnaaW.PrintWords Go.Proofs.YtbkpgkkfkjlnnaaW.PrintLast Go.Proofs.Ytbkpgkkfkjlnnaa.K

abbrev frC (k f t v s : Int) (B : Value) : Array Value := #[.int .i64 k, .int .i64 f, .int .i64 t, .int .u32 v, .int .u32 s, B]
theorem worker_walk (n : Int) (w : World) : Calls Try.prog 47 #[.int .i64 n] w fun e w' => e = .returned (.bool (decide (0 ≤ n ∧ n < 16))) ∧ w = w' := by
  by_cases h0 : 0 ≤ n
  · go_enter Try.func47, Try.ntmps47
    go_wp2
    go_ret
    exact ⟨by simp [h0], rfl⟩
  · go_enter Try.func47, Try.ntmps47
    go_wp2
    go_ret
    exact ⟨by rw [decide_eq_false (show ¬ 0 ≤ n by omega)]; rfl, rfl⟩
def goodB (k f t : Int) (n : Nat) : Prop := (1 ≤ k ∧ k ≤ 20) ∧ (0 ≤ f ∧ f < 16) ∧ (0 ≤ t ∧ t < 16) ∧ n ≤ 16384
instance (k f t : Int) (n : Nat) : Decidable (goodB k f t n) := by unfold goodB; infer_instance
set_option maxHeartbeats 400000 in
theorem good_walk (k f t v s : Int) (A : Option Addr) (n c : Nat) (hn : n ≤ 140737488351232) (w : World) :
    Calls Try.prog 39 #[.agg (frC k f t v s (.slice A n c))] w fun e w' => e = .returned (.bool (decide (goodB k f t n))) ∧ w.alloc (.cells (frC k f t v s (.slice A n c)) 83) = w' := by
  by_cases h1 : 1 ≤ k
  · by_cases h2 : k ≤ 20
    · by_cases h3 : 0 ≤ f ∧ f < 16
      · by_cases h4 : 0 ≤ t ∧ t < 16
        · go_enter Try.func39, Try.ntmps39
          go_wp2_with (go_at_call 47; refine (worker_walk _ _).mono ?_; rintro e w' ⟨rfl, rfl⟩)
          go_ret
          exact ⟨by simp [goodB, h1, h2, h3, h4]; omega, rfl⟩
        · go_enter Try.func39, Try.ntmps39
          go_wp2_with (go_at_call 47; refine (worker_walk _ _).mono ?_; rintro e w' ⟨rfl, rfl⟩)
          go_ret
          exact ⟨by simp [goodB, h1, h2, h3, h4], rfl⟩
      · go_enter Try.func39, Try.ntmps39
        go_wp2_with (go_at_call 47; refine (worker_walk _ _).mono ?_; rintro e w' ⟨rfl, rfl⟩)
        go_ret
        exact ⟨by simp [goodB, h1, h2, h3], rfl⟩
    · go_enter Try.func39, Try.ntmps39
      go_wp2
      go_ret
      exact ⟨by rw [decide_eq_false (show ¬ goodB k f t n by unfold goodB; omega)]; rfl, rfl⟩
  · go_enter Try.func39, Try.ntmps39
    go_wp2
    go_ret
    exact ⟨by rw [decide_eq_false (show ¬ goodB k f t n by unfold goodB; omega)]; rfl, rfl⟩
theorem alloc_back {W : World} (o : Obj) : Below W.heap.size W (W.alloc o) := (Below.refl _ _).alloc (Nat.le_refl _) o
theorem alloc_back2 {W : World} (o o' : Obj) : Below W.heap.size W ((W.alloc o).alloc o') := (alloc_back o).alloc (alloc_back o).size _
abbrev msC (k f t v s : Int) (A B : Value) : Array Value := #[.int .i64 k, .int .i64 f, .int .i64 t, .int .u32 v, .int .u32 s, A, B]
def msB (k f t : Int) (n m : Nat) : Bool := decide (goodB k f t 0) && (decide (n ≤ 500) && decide (m ≤ 500))
theorem msC_cells {w : World} {r : Nat} {k f t v s : Int} {A B : Value} {ty : TypeId} (h : w.heap[r]? = some (.cells (msC k f t v s A B) ty (0, 0))) :
    w.cell? ⟨r, 0, none⟩ = some (.int .i64 k) ∧ w.cell? ⟨r, 1, none⟩ = some (.int .i64 f) ∧ w.cell? ⟨r, 2, none⟩ = some (.int .i64 t) ∧ w.cell? ⟨r, 3, none⟩ = some (.int .u32 v) ∧ w.cell? ⟨r, 4, none⟩ = some (.int .u32 s) ∧ w.cell? ⟨r, 5, none⟩ = some A ∧ w.cell? ⟨r, 6, none⟩ = some B := by
  simp [World.cell?, h]
theorem rd_drew {w : World} {k : IntKind} {A : Option Addr} {n : Nat} {xs : List Int} (h : ReadsInt w k A n xs) : ReadsInt w.drew k A n xs := h.below (below_drew (Below.refl _ _))
theorem froz {w : World} {r : Nat} {cs : Array Value} {ty : TypeId} (h : w.heap[r]? = some (.cells cs ty (0, 0))) (j : Nat) : w.frozen? ⟨r, j, none⟩ = false := by simp [World.frozen?, h]
theorem hdr (w : World) : w.drew.heap = w.heap := rfl
theorem hal (w : World) (o : Obj) : (w.alloc o).heap = w.heap.push o := rfl
theorem hpush1 (H : Array Obj) (a : Obj) : (H.push a)[H.size]? = some a := by simp
theorem hpush2 (H : Array Obj) (a b : Obj) : ((H.push a).push b)[H.size + 1]? = some b := by
  have := hpush1 (H.push a) b
  rwa [Array.size_push] at this
theorem hpush3 (H : Array Obj) (a b : Obj) : ((H.push a).push b)[H.size]? = some a := by
  rw [Array.getElem?_push, if_neg (by rw [Array.size_push]; omega)]
  exact hpush1 H a
theorem heap_keep {w w' : World} {k : Nat} {o : Obj} (hb : Below w.heap.size w w') (h : w.heap[k]? = some o) : w'.heap[k]? = some o := (hb.block k (lt_of_heap h)).trans h
theorem bset' {N : Nat} {W w : World} {r j : Nat} {v : Value} (h : Below N W w) (hr : N ≤ r) (hw : N ≤ w.heap.size) : Below N W (w.setCell ⟨r, j, none⟩ v) :=
  pw_below_grown h (some r) hw (grown_set v) (fun k e => by cases e; exact hr)
theorem heap_keep' {w w' : World} {k : Nat} {o : Obj} (hb : Below w.heap.size w w') (h : w.heap[k]? = some o) : w'.heap[k]? = some o := (hb.block k (lt_of_heap h)).trans h
theorem two_old (W : World) (o o' : Obj) : ((W.alloc o).alloc o').heap[W.heap.size]? = some o := by simp only [hal]; exact hpush3 _ _ _
set_option maxHeartbeats 400000 in
theorem frameOf_walk (k f t v s : Int) (A B C : Option Addr) (n c m d n' c' : Nat) (W : World) : Calls Try.prog 40 #[.agg (msC k f t v s (.slice A n c) (.slice B m d)), .slice C n' c'] W fun e w' => e = .returned (.agg (frC k f t v s (.slice C n' c'))) ∧ Below W.heap.size W w' := by
  have hb : ∀ o o' : Obj, Below W.heap.size W ((W.alloc o).alloc o') := fun o o' => alloc_back2 o o'
  have HB := Lib.hid hb; clear hb
  go_enter Try.func40, Try.ntmps40
  go_wp2_with fail
  (try simp only [Exit.inBlock, Exit.then])
  refine bodyPost_ret (results_cell_row rfl _ _ (W.heap.size + 1) 83 (frC k f t v s (.slice C n' c')) (0, 0) _ rfl (by simp only [hal]; exact hpush2 _ _ _) Try.underlying83 rfl (by kernel_rfl)) rfl ?_
  exact ⟨rfl, HB.out _ _⟩
set_option maxHeartbeats 800000 in
theorem mgood_walk (k f t v s : Int) (A B : Option Addr) (n c m d : Nat) (hn : n ≤ 140737488351232) (hm : m ≤ 140737488351232) (W : World) :
    Calls Try.prog 27 #[.agg (msC k f t v s (.slice A n c) (.slice B m d))] W fun e w' => e = .returned (.bool (msB k f t n m)) ∧ Below W.heap.size W w' := by
  by_cases h0 : goodB k f t 0
  · have E0 := Lib.hid (decide_eq_true h0)
    clear h0
    by_cases h1 : n ≤ 500
    · by_cases h2 : m ≤ 500
      · have MB := Lib.hid (show msB k f t n m = true by unfold msB; rw [E0.out, decide_eq_true h1, decide_eq_true h2]; rfl)
        go_enter Try.func27, Try.ntmps27
        go_wp2_with fail
        obtain ⟨w0, hw0⟩ : ∃ w0, w0 = W.alloc (.cells (msC k f t v s (.slice A n c) (.slice B m d)) 32) := ⟨_, rfl⟩
        have hb0 : Below W.heap.size W w0 := by rw [hw0]; exact alloc_back _
        have q0 : w0.heap[W.heap.size]? = some (.cells (msC k f t v s (.slice A n c) (.slice B m d)) 32 (0, 0)) := by rw [hw0]; exact heap_alloc_new _ _
        rw [← hw0]
        clear hw0
        refine (frameOf_walk k f t v s A B none n c m d 0 0 w0).mono ?_
        rintro e w1 ⟨rfl, hb1⟩
        go_wp2_with fail
        refine (good_walk k f t v s none 0 0 (by decide) w1).mono ?_
        rintro e w2 ⟨rfl, hw2⟩
        have hb2 : Below W.heap.size W w2 := by rw [← hw2]; exact (below_then hb0 hb0.size hb1).alloc (below_then hb0 hb0.size hb1).size _
        obtain ⟨c0, c1, c2, c3, c4, c5, c6⟩ := msC_cells (show w2.heap[W.heap.size]? = some (.cells (msC k f t v s (.slice A n c) (.slice B m d)) 32 (0, 0)) by
          rw [← hw2, heap_alloc_old _ _ (Nat.lt_of_lt_of_le (lt_of_heap q0) hb1.size), hb1.block _ (lt_of_heap q0)]; exact q0)
        rw [E0.out]
        clear hw2 q0
        go_wp2_with fail
        go_ret
        exact ⟨by rw [MB.out]; first | rfl | (simp; omega), hb2⟩
      · have MB := Lib.hid (show msB k f t n m = false by unfold msB; rw [decide_eq_false h2]; simp)
        go_enter Try.func27, Try.ntmps27
        go_wp2_with fail
        obtain ⟨w0, hw0⟩ : ∃ w0, w0 = W.alloc (.cells (msC k f t v s (.slice A n c) (.slice B m d)) 32) := ⟨_, rfl⟩
        have hb0 : Below W.heap.size W w0 := by rw [hw0]; exact alloc_back _
        have q0 : w0.heap[W.heap.size]? = some (.cells (msC k f t v s (.slice A n c) (.slice B m d)) 32 (0, 0)) := by rw [hw0]; exact heap_alloc_new _ _
        rw [← hw0]
        clear hw0
        refine (frameOf_walk k f t v s A B none n c m d 0 0 w0).mono ?_
        rintro e w1 ⟨rfl, hb1⟩
        go_wp2_with fail
        refine (good_walk k f t v s none 0 0 (by decide) w1).mono ?_
        rintro e w2 ⟨rfl, hw2⟩
        have hb2 : Below W.heap.size W w2 := by rw [← hw2]; exact (below_then hb0 hb0.size hb1).alloc (below_then hb0 hb0.size hb1).size _
        obtain ⟨c0, c1, c2, c3, c4, c5, c6⟩ := msC_cells (show w2.heap[W.heap.size]? = some (.cells (msC k f t v s (.slice A n c) (.slice B m d)) 32 (0, 0)) by
          rw [← hw2, heap_alloc_old _ _ (Nat.lt_of_lt_of_le (lt_of_heap q0) hb1.size), hb1.block _ (lt_of_heap q0)]; exact q0)
        rw [E0.out]
        clear hw2 q0
        go_wp2_with fail
        go_ret
        exact ⟨by rw [MB.out]; first | rfl | (simp; omega), hb2⟩
    · have MB := Lib.hid (show msB k f t n m = false by unfold msB; rw [decide_eq_false h1]; simp)
      go_enter Try.func27, Try.ntmps27
      go_wp2_with fail
      obtain ⟨w0, hw0⟩ : ∃ w0, w0 = W.alloc (.cells (msC k f t v s (.slice A n c) (.slice B m d)) 32) := ⟨_, rfl⟩
      have hb0 : Below W.heap.size W w0 := by rw [hw0]; exact alloc_back _
      have q0 : w0.heap[W.heap.size]? = some (.cells (msC k f t v s (.slice A n c) (.slice B m d)) 32 (0, 0)) := by rw [hw0]; exact heap_alloc_new _ _
      rw [← hw0]
      clear hw0
      refine (frameOf_walk k f t v s A B none n c m d 0 0 w0).mono ?_
      rintro e w1 ⟨rfl, hb1⟩
      go_wp2_with fail
      refine (good_walk k f t v s none 0 0 (by decide) w1).mono ?_
      rintro e w2 ⟨rfl, hw2⟩
      have hb2 : Below W.heap.size W w2 := by rw [← hw2]; exact (below_then hb0 hb0.size hb1).alloc (below_then hb0 hb0.size hb1).size _
      obtain ⟨c0, c1, c2, c3, c4, c5, c6⟩ := msC_cells (show w2.heap[W.heap.size]? = some (.cells (msC k f t v s (.slice A n c) (.slice B m d)) 32 (0, 0)) by
        rw [← hw2, heap_alloc_old _ _ (Nat.lt_of_lt_of_le (lt_of_heap q0) hb1.size), hb1.block _ (lt_of_heap q0)]; exact q0)
      rw [E0.out]
      clear hw2 q0
      go_wp2_with fail
      go_ret
      exact ⟨by rw [MB.out]; first | rfl | (simp; omega), hb2⟩
  · have E0 := Lib.hid (decide_eq_false h0)
    have MB := Lib.hid (show msB k f t n m = false by unfold msB; rw [E0.out]; rfl)
    clear h0
    go_enter Try.func27, Try.ntmps27
    go_wp2_with fail
    obtain ⟨w0, hw0⟩ : ∃ w0, w0 = W.alloc (.cells (msC k f t v s (.slice A n c) (.slice B m d)) 32) := ⟨_, rfl⟩
    have hb0 : Below W.heap.size W w0 := by rw [hw0]; exact alloc_back _
    have q0 : w0.heap[W.heap.size]? = some (.cells (msC k f t v s (.slice A n c) (.slice B m d)) 32 (0, 0)) := by rw [hw0]; exact heap_alloc_new _ _
    rw [← hw0]
    clear hw0
    refine (frameOf_walk k f t v s A B none n c m d 0 0 w0).mono ?_
    rintro e w1 ⟨rfl, hb1⟩
    go_wp2_with fail
    refine (good_walk k f t v s none 0 0 (by decide) w1).mono ?_
    rintro e w2 ⟨rfl, hw2⟩
    have hb2 : Below W.heap.size W w2 := by rw [← hw2]; exact (below_then hb0 hb0.size hb1).alloc (below_then hb0 hb0.size hb1).size _
    obtain ⟨c0, c1, c2, c3, c4, c5, c6⟩ := msC_cells (show w2.heap[W.heap.size]? = some (.cells (msC k f t v s (.slice A n c) (.slice B m d)) 32 (0, 0)) by
      rw [← hw2, heap_alloc_old _ _ (Nat.lt_of_lt_of_le (lt_of_heap q0) hb1.size), hb1.block _ (lt_of_heap q0)]; exact q0)
    rw [E0.out]
    clear hw2 q0
    go_wp2_with fail
    go_ret
    exact ⟨by rw [MB.out]; first | rfl | (simp; omega), hb2⟩
set_option maxHeartbeats 1000000 in
/-- slices.Clone of ints: a row of its own. -/
theorem clone_walk (A : Option Addr) (n c : Nat) (xs : List Int) (w : World) (h : ReadsInt w .i64 A n xs) (hn : n ≤ 1000000) (hA : A = none → c = 0) :
    Calls Try.prog 37 #[.slice A n c] w fun e w' => ∃ A1 c1, e = .returned (.slice A1 n c1) ∧ w'.ownsRow w.heap.size 2 1 (.slice A1 n c1) n (nums .i64 xs) ∧ Below w.heap.size w w' := by
  have HL := Lib.hid h
  rcases A with _ | ad
  · obtain rfl := hA rfl
    have h0 : n = 0 := by
      rcases Nat.eq_zero_or_pos n with h0 | h0
      · exact h0
      · obtain ⟨ad, h, _⟩ := h.2.2 h0; cases h
    subst h0
    have hx : xs = [] := List.eq_nil_of_length_eq_zero h.1
    subst hx
    clear h hA
    have e1 : ∀ W : World, (binOp .eql 29 (.slice none 0 0) (.slice none 0 0)).run Try.prog W = .ok (.bool true) W := fun W => by kernel_rfl
    go_enter Try.func37, Try.ntmps37
    go_wp2_with fail
    go_ret
    exact ⟨none, 0, rfl, ⟨rfl, .inl ⟨rfl, rfl⟩⟩, Below.refl _ _⟩
  · clear h hA
    have e1 : ∀ W : World, (binOp .eql 29 (.slice (some ad) n c) (.slice none 0 0)).run Try.prog W = .ok (.bool false) W := fun W => by kernel_rfl
    go_enter Try.func37, Try.ntmps37
    go_wp2_with (first | (at_builtin; refine K.app_row (w0 := w) w.heap.size rfl (.tmp 5) (.tmp 6) 29 2 .i64 8 rfl Try.underlying29 (by kernel_rfl) (by decide) _ [] xs _ _ _ rfl rfl (own_lit _ _ 2 .i64 [] (Nat.le_refl _) (by decide)) (HL.out.below ((Below.refl _ _).alloc (Nat.le_refl _) _)) ((Below.refl _ _).alloc (Nat.le_refl _) _) (by simp) (by simp; omega) n HL.out.1 ?_; intro A1 c1 w2 hown hB1 _; have HO := Lib.hid hown; clear hown))
    go_ret
    exact ⟨A1, c1, rfl, HO.out, hB1⟩
theorem wclone_nil (w : World) : Calls Try.prog 38 #[.slice none 0 0] w fun e w' => e = .returned (.slice none 0 0) ∧ w = w' := by
  have e1 : ∀ W : World, (binOp .eql 30 (.slice none 0 0) (.slice none 0 0)).run Try.prog W = .ok (.bool true) W := fun W => by kernel_rfl
  go_enter Try.func38, Try.ntmps38
  go_wp2_with fail
  go_ret
  exact ⟨rfl, rfl⟩
theorem lworker_walk (n : Int) (w : World) : Calls Try.prog 25 #[.int .i64 n] w fun e w' => e = .returned (.bool (decide (0 ≤ n ∧ n < 16))) ∧ w = w' := by
  by_cases h0 : 0 ≤ n
  · go_enter Try.func25, Try.ntmps25
    go_wp2
    go_ret
    exact ⟨by simp [h0], rfl⟩
  · go_enter Try.func25, Try.ntmps25
    go_wp2
    go_ret
    exact ⟨by rw [decide_eq_false (show ¬ 0 ≤ n by omega)]; rfl, rfl⟩
abbrev lkC (own peer view now : Int) (O : Value) (pushed told next : Int) (H : Value) : Array Value := #[.int .i64 own, .int .i64 peer, .int .u32 view, .int .i64 now, O, .int .u32 pushed, .int .u32 told, .int .u32 next, H]
theorem lkC_cells {w : World} {r : Nat} {own peer view now : Int} {O : Value} {pushed told next : Int} {H : Value} {ty : TypeId} (h : w.heap[r]? = some (.cells (lkC own peer view now O pushed told next H) ty (0, 0))) :
    w.cell? ⟨r, 0, none⟩ = some (.int .i64 own) ∧ w.cell? ⟨r, 1, none⟩ = some (.int .i64 peer) ∧ w.cell? ⟨r, 2, none⟩ = some (.int .u32 view) ∧ w.cell? ⟨r, 3, none⟩ = some (.int .i64 now) ∧ w.cell? ⟨r, 4, none⟩ = some O ∧ w.cell? ⟨r, 5, none⟩ = some (.int .u32 pushed) ∧ w.cell? ⟨r, 6, none⟩ = some (.int .u32 told) ∧ w.cell? ⟨r, 7, none⟩ = some (.int .u32 next) ∧ w.cell? ⟨r, 8, none⟩ = some H := by
  simp [World.cell?, h]
set_option maxHeartbeats 1000000 in
theorem new_ok (own peer view : Int) (w : World) (h1 : 0 ≤ own ∧ own < 16) (h2 : 0 ≤ peer ∧ peer < 16) (h3 : own ≠ peer) : Calls Try.prog 9 #[.int .i64 own, .int .i64 peer, .int .u32 view] w fun e w' => e = .returned (.tuple #[.pointer (some ⟨w.heap.size, 0, none⟩), .int .i64 0]) ∧ w' = w.alloc (.cells (lkC own peer view 0 (.slice none 0 0) 0 0 1 (.slice none 0 0)) 61) := by
  have HA := Lib.hid (lworker_walk own w); have HB := Lib.hid (lworker_walk peer w)
  rw [decide_eq_true h1] at HA
  rw [decide_eq_true h2] at HB
  clear h1 h2
  go_enter Try.func9, Try.ntmps9
  go_wp2_with fail
  refine HA.out.mono ?_
  rintro e w' ⟨rfl, rfl⟩
  go_wp2_with fail
  refine HB.out.mono ?_
  rintro e w' ⟨rfl, rfl⟩
  go_wp2_with fail
  go_ret2
  exact ⟨rfl, rfl⟩
set_option maxHeartbeats 1000000 in
theorem waiting_walk (w : World) (r : Nat) (own peer view now : Int) (A : Option Addr) (k c : Nat) (pushed told next : Int) (H : Value) (h : w.heap[r]? = some (.cells (lkC own peer view now (.slice A k c) pushed told next H) 61 (0, 0))) : Calls Try.prog 12 #[.pointer (some ⟨r, 0, none⟩)] w fun e w' => e = .returned (.int .i64 k) ∧ w = w' := by
  obtain ⟨c0, c1, c2, c3, c4, c5, c6, c7, c8⟩ := lkC_cells h
  clear h
  go_enter Try.func12, Try.ntmps12
  go_wp2
  go_ret
  exact ⟨rfl, rfl⟩
theorem next_walk (w : World) (r : Nat) (own peer view now : Int) (O : Value) (pushed told next : Int) (H : Value) (h : w.heap[r]? = some (.cells (lkC own peer view now O pushed told next H) 61 (0, 0))) : Calls Try.prog 15 #[.pointer (some ⟨r, 0, none⟩)] w fun e w' => e = .returned (.int .u32 next) ∧ w = w' := by
  obtain ⟨c0, c1, c2, c3, c4, c5, c6, c7, c8⟩ := lkC_cells h
  clear h
  go_enter Try.func15, Try.ntmps15
  go_wp2
  go_ret
  exact ⟨rfl, rfl⟩
theorem mset2 {w : World} {r : Nat} {k f t v s : Int} {A B A' B' : Value} {ty : TypeId} (h : w.heap[r]? = some (.cells (msC k f t v s A B) ty (0, 0))) :
    ((w.setCell ⟨r, 5, none⟩ A').setCell ⟨r, 6, none⟩ B').heap[r]? = some (.cells (msC k f t v s A' B') ty (0, 0)) := by
  rw [heap_set _ (heap_set _ h)]; rfl
theorem mset7 {w : World} {r : Nat} {k f t v s k' f' t' v' s' : Int} {A B A' B' : Value} {ty : TypeId} (h : w.heap[r]? = some (.cells (msC k f t v s A B) ty (0, 0))) :
    (((((((w.setCell ⟨r, 0, none⟩ (.int .i64 k')).setCell ⟨r, 1, none⟩ (.int .i64 f')).setCell ⟨r, 2, none⟩ (.int .i64 t')).setCell ⟨r, 3, none⟩ (.int .u32 v')).setCell ⟨r, 4, none⟩ (.int .u32 s')).setCell ⟨r, 5, none⟩ A').setCell ⟨r, 6, none⟩ B').heap[r]? = some (.cells (msC k' f' t' v' s' A' B') ty (0, 0)) := by
  rw [heap_set _ (heap_set _ (heap_set _ (heap_set _ (heap_set _ (heap_set _ (heap_set _ h))))))]; rfl
theorem mgrown7 (w : World) (r : Nat) (a b c d e f g : Value) : w.grownBy (((((((w.setCell ⟨r, 0, none⟩ a).setCell ⟨r, 1, none⟩ b).setCell ⟨r, 2, none⟩ c).setCell ⟨r, 3, none⟩ d).setCell ⟨r, 4, none⟩ e).setCell ⟨r, 5, none⟩ f).setCell ⟨r, 6, none⟩ g) (some r) :=
  World.grownBy.trans (World.grownBy.trans (World.grownBy.trans (World.grownBy.trans (World.grownBy.trans (World.grownBy.trans (grown_set _) (grown_set _)) (grown_set _)) (grown_set _)) (grown_set _)) (grown_set _)) (grown_set _)
theorem own_ne {u : World} {N bs sz k : Nat} {e ty : TypeId} {V : Value} {M : List Value} {cs : Array Value} (hu : u.heap[N]? = some (.cells cs ty (0, 0))) (hV : u.ownsRow bs e sz V k M) (he : e ≠ ty) : V.ownBlock = none ∨ V.ownBlock ≠ some N := by
  rcases hV.2 with ⟨h, _⟩ | ⟨g', _, _, h, _, hh, _⟩
  · left; rw [h]; rfl
  · right; rw [h]; intro e2
    have e3 : g' = N := by simpa [Value.ownBlock] using e2
    rw [e3, hu] at hh; injection hh with hh; injection hh with _ hh; exact he hh.symm
set_option maxRecDepth 100000 in
set_option maxHeartbeats 4000000 in
/-- A message's copy: with a row of its own. -/
theorem copied_walk (k f t v s : Int) (A : Option Addr) (n c : Nat) (xs : List Int) (W : World) (h : ReadsInt W .i64 A n xs) (hn : n ≤ 1000000) (hA : A = none → c = 0) :
    Calls Try.prog 26 #[.agg (msC k f t v s (.slice A n c) (.slice none 0 0))] W fun e w' => ∃ A1 c1, e = .returned (.agg (msC k f t v s (.slice A1 n c1) (.slice none 0 0))) ∧ w'.ownsRow W.heap.size 2 1 (.slice A1 n c1) n (nums .i64 xs) ∧ Below W.heap.size W w' := by
  obtain ⟨w0, hw0⟩ : ∃ w0, w0 = (W.alloc (.cells (msC k f t v s (.slice A n c) (.slice none 0 0)) 32)).alloc (.cells (msC 0 0 0 0 0 (.slice none 0 0) (.slice none 0 0)) 32) := ⟨_, rfl⟩
  have hb0 : Below W.heap.size W w0 := by rw [hw0]; exact alloc_back2 _ _
  have q0 : w0.heap[W.heap.size]? = some (.cells (msC k f t v s (.slice A n c) (.slice none 0 0)) 32 (0, 0)) := by rw [hw0]; exact two_old _ _ _
  have p0 : w0.heap[W.heap.size + 1]? = some (.cells (msC 0 0 0 0 0 (.slice none 0 0) (.slice none 0 0)) 32 (0, 0)) := by rw [hw0]; simp only [hal]; exact hpush2 _ _ _
  have HL := Lib.hid h; have HB := Lib.hid hb0; have HW0 := Lib.hid hw0
  have QD := Lib.hid (show w0.drew.heap[W.heap.size]? = some (.cells (msC k f t v s (.slice A n c) (.slice none 0 0)) 32 (0, 0)) from q0)
  have PD := Lib.hid (show w0.drew.heap[W.heap.size + 1]? = some (.cells (msC 0 0 0 0 0 (.slice none 0 0) (.slice none 0 0)) 32 (0, 0)) from p0)
  obtain ⟨d0, d1, d2, d3, d4, d5, d6⟩ := msC_cells q0
  clear h hb0 hw0 q0 p0 d0 d1 d2 d3 d4
  go_enter Try.func26, Try.ntmps26
  go_wp2_with fail
  rw [← HW0.out]
  refine start_ (n := 10) (S := fun w' => w'.cell? ⟨W.heap.size, 5, none⟩ = some (.slice A n c) ∧ w'.cell? ⟨W.heap.size, 6, none⟩ = some (.slice none 0 0)) (ds := [7, 9]) #[false, false, false, false, false, false, false, false, false, false] (by kernel_rfl) rfl rfl (⟨d5, d6⟩) (fun hHeld => ?_)
  refine pure_ (i := 0) (N := some 3) (v := ?_) (a' := ?_) #[true, false, false, false, false, false, false, false, false, false] rfl rfl (by kernel_rfl) (fun _ _ _ h => h) (Or.inl ⟨by rfl, ?_⟩) ?_ ?_
  rotate_left
  · intro w'
    go_simp
    (try with_reducible rfl)
  rotate_left
  · simp only [Act.put, List.setIfInBounds_toArray, List.set_cons_zero, List.set_cons_succ]
    rfl
  refine take_ (i := 1) (N := some 4) (v := ?_) (a' := ?_) #[true, true, false, false, false, false, false, false, false, false] rfl rfl (by kernel_rfl) (fun _ _ _ h => h) (Or.inl ⟨by rfl, ?_⟩) hHeld ?_ ?_
  rotate_left
  · rintro w' ⟨s0, s1⟩
    go_simp
    (try with_reducible rfl)
  rotate_left
  · simp only [Act.put, List.setIfInBounds_toArray, List.set_cons_zero, List.set_cons_succ]
    rfl
  refine pure_ (i := 3) (N := some 6) (v := ?_) (a' := ?_) #[true, true, false, true, false, false, false, false, false, false] rfl rfl (by kernel_rfl) (fun _ _ _ h => h) (Or.inl ⟨by rfl, ?_⟩) ?_ ?_
  rotate_left
  · intro w'
    go_simp
    (try with_reducible rfl)
  rotate_left
  · simp only [Act.put, List.setIfInBounds_toArray, List.set_cons_zero, List.set_cons_succ]
    rfl
  refine take_ (i := 4) (N := some 7) (v := ?_) (a' := ?_) #[true, true, false, true, true, false, false, false, false, false] rfl rfl (by kernel_rfl) (fun _ _ _ h => h) (Or.inl ⟨by rfl, ?_⟩) hHeld ?_ ?_
  rotate_left
  · rintro w' ⟨s0, s1⟩
    go_simp
    (try with_reducible rfl)
  rotate_left
  · simp only [Act.put, List.setIfInBounds_toArray, List.set_cons_zero, List.set_cons_succ]
    rfl
  refine one_ (i := 2) (N := some 5) #[true, true, true, true, true, false, false, false, false, false] rfl rfl (by kernel_rfl) (by decide) (fun K hK => ?_)
  go_simp
  refine (clone_walk A n c xs _ (HL.out.below (by first | exact below_drew HB.out | exact HB.out)) (by omega) hA).mono ?_
  rintro e w1 ⟨A1, c1, rfl, ho1, hb1⟩
  have HB1 := Lib.hid (below_then (below_drew HB.out) HB.out.size hb1)
  have Q1 := Lib.hid (heap_keep' hb1 QD.out)
  have P1 := Lib.hid (heap_keep' hb1 PD.out)
  have HO1 := Lib.hid ho1
  obtain ⟨z0, z1, z2, z3, z4, z5, z6⟩ := msC_cells Q1.out
  have f5 := froz Q1.out 5
  have f6 := froz Q1.out 6
  clear ho1 hb1 z0 z1 z2 z3 z4
  try go_wp2_with fail
  refine hK.out _ _ ?_ (fun hHeld2 => ?_)
  · (try dsimp only)
    exact ⟨z5, z6⟩
  clear hHeld hK K
  have hHeld := hHeld2
  clear hHeld2
  try simp only [Act.put, List.setIfInBounds_toArray, List.set_cons_zero, List.set_cons_succ]
  refine pure_ (i := 6) (N := some 9) (v := ?_) (a' := ?_) #[true, true, true, true, true, false, true, false, false, false] rfl rfl (by kernel_rfl) (fun _ _ _ h => h) (Or.inl ⟨by rfl, ?_⟩) ?_ ?_
  rotate_left
  · intro w'
    go_simp
    (try with_reducible rfl)
  rotate_left
  · simp only [Act.put, List.setIfInBounds_toArray, List.set_cons_zero, List.set_cons_succ]
    rfl
  refine one_ (i := 5) (N := some 8) #[true, true, true, true, true, true, true, false, false, false] rfl rfl (by kernel_rfl) (by decide) (fun K hK => ?_)
  go_simp
  refine (wclone_nil _).mono ?_
  rintro e w2 ⟨rfl, hw2⟩
  subst hw2
  try go_wp2_with fail
  refine hK.out _ _ ?_ (fun hHeld2 => ?_)
  · (try dsimp only)
    exact ⟨z5, z6⟩
  clear hHeld hK K
  have hHeld := hHeld2
  clear hHeld2
  try simp only [Act.put, List.setIfInBounds_toArray, List.set_cons_zero, List.set_cons_succ]
  refine last_ (i := 7) (N := none) #[true, true, true, true, true, true, true, true, false, false] rfl rfl (by kernel_rfl) (by decide) (fun K hK => ?_)
  go_simp
  refine hK.out _ _ ?_
  (try clear hHeld)
  clear hK K
  try simp only [Act.put, List.setIfInBounds_toArray, List.set_cons_zero, List.set_cons_succ]
  refine pure_ (i := 8) (N := some 10) (v := ?_) (a' := ?_) #[true, true, true, true, true, true, true, true, true, false] rfl rfl (by kernel_rfl) (fun _ _ _ h => h) (Or.inl ⟨by rfl, ?_⟩) ?_ ?_
  rotate_left
  · intro w'
    go_simp
    (try with_reducible rfl)
  rotate_left
  · simp only [Act.put, List.setIfInBounds_toArray, List.set_cons_zero, List.set_cons_succ]
    rfl
  refine last_ (i := 9) (N := none) #[true, true, true, true, true, true, true, true, true, true] rfl rfl (by kernel_rfl) (by decide) (fun K hK => ?_)
  go_simp
  refine hK.out _ _ ?_
  (try clear hHeld)
  clear hK K
  try simp only [Act.put, List.setIfInBounds_toArray, List.set_cons_zero, List.set_cons_succ]
  refine wpAnyLast_done (by kernel_rfl) ?_ _
  obtain ⟨w3, hw3⟩ : ∃ w3, w3 = (w1.setCell ⟨W.heap.size, 5, none⟩ (.slice A1 n c1)).setCell ⟨W.heap.size, 6, none⟩ (.slice none 0 0) := ⟨_, rfl⟩
  have hg3 : w1.grownBy w3 (some W.heap.size) := by rw [hw3]; exact World.grownBy.trans (grown_set _) (grown_set _)
  have Q3 := Lib.hid (show w3.heap[W.heap.size]? = some (.cells (msC k f t v s (.slice A1 n c1) (.slice none 0 0)) 32 (0, 0)) by rw [hw3]; exact mset2 Q1.out)
  have P3 := Lib.hid ((hg3.block _ (lt_of_heap P1.out) (by intro e; injection e with e; omega)).trans P1.out)
  have HO3 := Lib.hid (own_other HO1.out hg3 (own_ne Q1.out HO1.out (by decide)))
  have B3 := Lib.hid (show Below W.heap.size W w3 from pw_below_grown HB1.out (some W.heap.size) HB1.out.size hg3 (fun k e => by cases e; exact Nat.le_refl _))
  rw [← hw3]
  clear hw3 hg3 z5 z6 f5 f6
  obtain ⟨z0, z1, z2, z3, z4, z5, z6⟩ := msC_cells Q3.out
  obtain ⟨y0, y1, y2, y3, y4, y5, y6⟩ := msC_cells P3.out
  have f0 := froz P3.out 0
  have f1 := froz P3.out 1
  have f2 := froz P3.out 2
  have f3 := froz P3.out 3
  have f4 := froz P3.out 4
  have f5 := froz P3.out 5
  have f6 := froz P3.out 6
  go_wp2_with fail
  (try simp only [Exit.inBlock, Exit.then])
  refine bodyPost_ret (results_cell_row rfl _ _ (W.heap.size + 1) 32 (msC k f t v s (.slice A1 n c1) (.slice none 0 0)) (0, 0) _ rfl (mset7 P3.out) Try.underlying32 rfl (by kernel_rfl)) rfl ?_
  have hg7 := mgrown7 w3 (W.heap.size + 1) (.int .i64 k) (.int .i64 f) (.int .i64 t) (.int .u32 v) (.int .u32 s) (.slice A1 n c1) (.slice none 0 0)
  exact ⟨A1, c1, rfl, own_base_le (own_other HO3.out hg7 (own_ne P3.out HO3.out (by decide))) (Nat.le_trans HB.out.size (Nat.le_refl _)), pw_below_grown B3.out (some (W.heap.size + 1)) B3.out.size hg7 (fun k e => by cases e; exact Nat.le_succ _)⟩
end Go.Proofs.Ytbkpgkkfkjlnnaa
