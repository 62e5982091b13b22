/- Walks of frames: Decode at any length; the reference's Decode. -/
import Derived.Test.YtbjjfgfepbklnaaFrameD
import Derived.Deep.DeepCutAuto
set_option linter.unusedVariables false
set_option linter.unusedSimpArgs false
namespace Go.Proofs.Ytbjjfgfepbklnaa
open Go.RowKit Go.Proofs.YtbjjfgfepbklnaaW.PrintWords Go.Proofs.Ytbjjfgfepbklnaa.K

set_option maxHeartbeats 400000 in
theorem decode_short (A : Option Addr) (n c : Nat) (xs : List Int) (W : World) (h : ReadsInt W .u8 A n xs) (hn : n < 19 ∨ 16403 < n) :
    Calls Try.prog 19 #[.slice A n c] W (Decd W xs) := by
  have HN := Lib.hid (no_frame_len (xs := xs) (by rw [h.1]; exact hn))
  have hm := h.2.1
  clear h
  by_cases h19 : n < 19
  · clear hn
    go_enter Try.func19, Try.ntmps19
    go_wp2_with fail
    (try simp only [Exit.inBlock, Exit.then])
    refine bodyPost_ret (results_ct rfl _ _ W.heap.size 49 (frC 0 0 0 0 0 (.slice none 0 0)) (0, 0) _ rfl (heap_alloc_new _ _) Try.underlying49 rfl (by kernel_rfl)) rfl ?_
    exact ⟨.inr ⟨HN.out, rfl⟩, (Below.refl _ _).alloc (Nat.le_refl _) _⟩
  · have h16 : 16403 < n := by omega
    clear hn
    go_enter Try.func19, Try.ntmps19
    go_wp2_with fail
    (try simp only [Exit.inBlock, Exit.then])
    refine bodyPost_ret (results_ct rfl _ _ W.heap.size 49 (frC 0 0 0 0 0 (.slice none 0 0)) (0, 0) _ rfl (heap_alloc_new _ _) Try.underlying49 rfl (by kernel_rfl)) rfl ?_
    exact ⟨.inr ⟨HN.out, rfl⟩, (Below.refl _ _).alloc (Nat.le_refl _) _⟩
theorem decode_any (A : Option Addr) (n c : Nat) (xs : List Int) (W : World) (h : ReadsInt W .u8 A n xs) (hw : ∀ y ∈ xs, (Lit.int .u8 y).wf = true) :
    Calls Try.prog 19 #[.slice A n c] W (Decd W xs) := by
  by_cases h1 : 19 ≤ n ∧ n ≤ 16403
  · exact decode_walk A n c xs W h hw h1.1 h1.2
  · exact decode_short A n c xs W h (by omega)

/-- What the reference makes of bytes. -/
def frR (xs : List Int) : Fr := ⟨xs.getD 2 0, xs.getD 3 0, xs.getD 4 0, atU xs 5 4, atU xs 9 4, (xs.drop 15).take (xs.length - 19)⟩
theorem getD_atU (xs : List Int) (a : Nat) (h : a < xs.length) (hw : ∀ y ∈ xs, (Lit.int .u8 y).wf = true) : xs.getD a 0 = atU xs a 1 := by
  have hy := wf_u8.1 (hw _ (List.getElem_mem h))
  have e : xs = xs.take a ++ (xs[a] :: xs.drop (a + 1)) := by simp
  rw [List.getD_eq_getElem?_getD, List.getElem?_eq_getElem h]
  conv => rhs; rw [e]
  rw [atU_one _ _ _ a hy (by rw [List.length_take]; omega)]
  rfl
theorem getD_rng {xs : List Int} (hw : ∀ y ∈ xs, (Lit.int .u8 y).wf = true) (i : Nat) : 0 ≤ xs.getD i 0 ∧ xs.getD i 0 < 256 := by
  rw [List.getD_eq_getElem?_getD]
  by_cases h : i < xs.length
  · rw [List.getElem?_eq_getElem h]; exact wf_u8.1 (hw _ (List.getElem_mem h))
  · rw [List.getElem?_eq_none (by omega)]; decide
theorem frR_wf (xs : List Int) (hw : ∀ y ∈ xs, (Lit.int .u8 y).wf = true) : (frR xs).wf :=
  ⟨atU_rng xs 5 4 (by decide) hw, atU_rng xs 9 4 (by decide) hw, fun y hy => hw y (List.mem_of_mem_drop (List.mem_of_mem_take hy))⟩
theorem frR_enc {x : Fr} (hg : x.good) (hw : x.wf) : frR (enc x) = x := by
  have h := enc_wf hg hw
  have hl := enc_len x
  unfold frR
  rw [getD_atU _ 2 (by omega) h, getD_atU _ 3 (by omega) h, getD_atU _ 4 (by omega) h, read_k hg, read_f hg, read_t hg, read_v hw, read_s hw, read_b2]
theorem no_frameR {xs : List Int} (h : ¬ ((frR xs).good ∧ enc (frR xs) = xs)) : ¬ ∃ x : Fr, Is xs x := by
  rintro ⟨x, hg, hw, rfl⟩
  rw [frR_enc hg hw] at h
  exact h ⟨hg, rfl⟩
/-- What the reference's Decode answers. -/
def Recd (W : World) (xs : List Int) (e : Ending) (w' : World) : Prop :=
  ((∃ x : Fr, Is xs x ∧ ∃ A c, e = .returned (.tuple #[.agg (frC x.k x.f x.t x.v x.s (.slice A x.b.length c)), .bool true]) ∧ ReadsInt w' .u8 A x.b.length x.b) ∨
    ((¬ ∃ x : Fr, Is xs x) ∧ e = .returned (.tuple #[.agg (frC 0 0 0 0 0 (.slice none 0 0)), .bool false]))) ∧ Below W.heap.size W w'
set_option maxHeartbeats 400000 in
theorem rdecode_short (A : Option Addr) (n c : Nat) (xs : List Int) (W : World) (h : ReadsInt W .u8 A n xs) (h19 : n < 19) :
    Calls Try.prog 35 #[.slice A n c] W (Recd W xs) := by
  have HN := Lib.hid (no_frame_len (xs := xs) (by rw [h.1]; exact .inl h19))
  have hm := h.2.1
  clear h
  go_enter Try.func35, Try.ntmps35
  go_wp2_with fail
  (try simp only [Exit.inBlock, Exit.then])
  refine bodyPost_ret (results_ct rfl _ _ W.heap.size 68 (frC 0 0 0 0 0 (.slice none 0 0)) (0, 0) _ rfl (heap_alloc_new _ _) Try.underlying68 rfl (by kernel_rfl)) rfl ?_
  exact ⟨.inr ⟨HN.out, rfl⟩, (Below.refl _ _).alloc (Nat.le_refl _) _⟩
theorem rd_alloc {w : World} {k : IntKind} {A : Option Addr} {n : Nat} {xs : List Int} (h : ReadsInt w k A n xs) (o : Obj) : ReadsInt (w.alloc o) k A n xs := h.below ((Below.refl _ _).alloc (Nat.le_refl _) _)
theorem hdr (w : World) : w.drew.heap = w.heap := rfl
theorem hal (w : World) (o : Obj) : (w.alloc o).heap = w.heap.push o := rfl
theorem froz {w : World} {r : Nat} {cs : Array Value} {ty : TypeId} (h : w.heap[r]? = some (.cells cs ty (0, 0))) (j : Nat) : w.frozen? ⟨r, j, none⟩ = false := by simp [World.frozen?, h]
theorem str_of {w : World} {A : Option Addr} {n c : Nat} {xs : List Int} (h : ReadsInt w .u8 A n xs) : (convert 31 9 (.slice A n c)).run Try.prog w = .ok (.string (strOfNums xs)) w :=
  string_of_reads Try.underlying31 Try.underlying5 Try.underlying9 h
theorem strOf_inj {xs ys : List Int} (hx : ∀ y ∈ xs, (Lit.int .u8 y).wf = true) (hy : ∀ y ∈ ys, (Lit.int .u8 y).wf = true) (h : strOfNums xs = strOfNums ys) : xs = ys := by
  have h1 : (xs.map fun n => UInt8.ofNat n.toNat) = ys.map fun n => UInt8.ofNat n.toNat := by rw [← strOfNums_data, ← strOfNums_data, h]
  have hl : xs.length = ys.length := by simpa using congrArg List.length h1
  apply List.ext_getElem hl
  intro i h2 h3
  have h4 : (xs.map fun n => UInt8.ofNat n.toNat)[i]? = (ys.map fun n => UInt8.ofNat n.toNat)[i]? := by rw [h1]
  rw [List.getElem?_map, List.getElem?_map, List.getElem?_eq_getElem h2, List.getElem?_eq_getElem h3] at h4
  simp only [Option.map_some, Option.some.injEq] at h4
  have a1 := wf_u8.1 (hx _ (List.getElem_mem h2))
  have a2 := wf_u8.1 (hy _ (List.getElem_mem h3))
  have h5 := congrArg UInt8.toNat h4
  rw [UInt8.toNat_ofNat', UInt8.toNat_ofNat'] at h5
  omega
theorem strOf_ne {xs ys : List Int} (hx : ∀ y ∈ xs, (Lit.int .u8 y).wf = true) (hy : ∀ y ∈ ys, (Lit.int .u8 y).wf = true) (h : xs ≠ ys) : strOfNums xs ≠ strOfNums ys := fun e => h (strOf_inj hx hy e)
theorem strOf_eqb {xs ys : List Int} (hx : ∀ y ∈ xs, (Lit.int .u8 y).wf = true) (hy : ∀ y ∈ ys, (Lit.int .u8 y).wf = true) : ((strOfNums xs).toList == (strOfNums ys).toList) = decide (xs = ys) := by
  rw [ByteArray.toList_eq, ByteArray.toList_eq, Bool.eq_iff_iff, beq_iff_eq, decide_eq_true_iff]
  exact ⟨fun h => strOf_inj hx hy (WideShapes.bytes_inj h), fun h => by rw [h]⟩
theorem hpush1 (H : Array Obj) (a : Obj) : (H.push a)[H.size]? = some a := by simp
theorem hpush2 (H : Array Obj) (a b : Obj) : ((H.push a).push b)[H.size + 1]? = some b := by
  have := hpush1 (H.push a) b
  rwa [Array.size_push] at this
theorem hpush3 (H : Array Obj) (a b : Obj) : ((H.push a).push b)[H.size]? = some a := by
  rw [Array.getElem?_push, if_neg (by rw [Array.size_push]; omega)]
  exact hpush1 H a
theorem far6 {w : World} {r k : Nat} {a b c d e f : Value} (h : k ≠ r) : ((((((w.setCell ⟨r, 0, none⟩ a).setCell ⟨r, 1, none⟩ b).setCell ⟨r, 2, none⟩ c).setCell ⟨r, 3, none⟩ d).setCell ⟨r, 4, none⟩ e).setCell ⟨r, 5, none⟩ f).heap[k]? = w.heap[k]? := by
  have h' : r ≠ k := fun e => h e.symm
  simp only [World.setCell, Array.getElem?_modify, if_neg h']
theorem as_some {w w' : World} {R n c : Nat} (h : w.grownBy w' (Value.slice (some ⟨R, 0, none⟩) n c).ownBlock) : w.grownBy w' (some R) := h
theorem far_cell {w w' : World} {R : Nat} (h : w.grownBy w' (some R)) (k i : Nat) (hk : k ≠ R) (hl : k < w.heap.size) : w'.cell? ⟨k, i, none⟩ = w.cell? ⟨k, i, none⟩ :=
  World.cell?_of_block (h.block k hl (fun e => hk (by injection e)))
theorem far_froz {w w' : World} {R : Nat} (h : w.grownBy w' (some R)) (k i : Nat) (hk : k ≠ R) (hl : k < w.heap.size) : w'.frozen? ⟨k, i, none⟩ = w.frozen? ⟨k, i, none⟩ :=
  World.frozen?_of_block (h.block k hl (fun e => hk (by injection e)))
theorem own_empty {w : World} {base R : Nat} (h : w.heap[R]? = some (.cells #[] 5 (0, 0))) (hb : base ≤ R) : w.ownsRow base 5 1 (.slice (some ⟨R, 0, none⟩) 0 0) ([] : List Int).length (nums .u8 []) :=
  ⟨rfl, .inr ⟨R, 0, #[], rfl, hb, h, Nat.le_refl _, by decide, rfl, rfl⟩⟩
theorem bset6 {N : Nat} {W w : World} {r : Nat} {a b c d e f : Value} (h : Below N W w) (hr : N ≤ r) (hw : N ≤ w.heap.size) : Below N W ((((((w.setCell ⟨r, 0, none⟩ a).setCell ⟨r, 1, none⟩ b).setCell ⟨r, 2, none⟩ c).setCell ⟨r, 3, none⟩ d).setCell ⟨r, 4, none⟩ e).setCell ⟨r, 5, none⟩ f) :=
  have g : ∀ (u : World) (j : Nat) (v : Value), (u.setCell ⟨r, j, none⟩ v).heap.size = u.heap.size := fun u j v => by simp [World.setCell]
  bset' (bset' (bset' (bset' (bset' (bset' h hr hw) hr (by rw [g]; exact hw)) hr (by rw [g, g]; exact hw)) hr (by rw [g, g, g]; exact hw)) hr (by rw [g, g, g, g]; exact hw)) hr (by rw [g, g, g, g, g]; exact hw)
/-- Behind the reference's struct literal: the frame lies in block fb, its body is a row of its own. -/
structure FinR (W : World) (fb : Nat) (k f t v s : Int) (A : Option Addr) (m c : Nat) (ys : List Int) (w : World) : Prop where
  bel : Below W.heap.size W w
  hf : W.heap.size ≤ fb
  fr : w.heap[fb]? = some (.cells (frC k f t v s (.slice A m c)) 68 (0, 0))
  re : w.heap[W.heap.size]? = some (.cells (frC 0 0 0 0 0 (.slice none 0 0)) 68 (0, 0))
  own : w.ownsRow (W.heap.size + 1) 5 1 (.slice A m c) m (nums .u8 ys)
theorem FinR.drew {W w : World} {fb : Nat} {k f t v s : Int} {A : Option Addr} {m c : Nat} {ys : List Int} (h : FinR W fb k f t v s A m c ys w) : FinR W fb k f t v s A m c ys w.drew :=
  ⟨below_drew h.bel, h.hf, h.fr, h.re, pw_own_below h.own (below_drew (Below.refl _ _))⟩
section
variable {W W1 w3 : World} {k f t v s : Int} {A : Option Addr} {m c : Nat} {ys : List Int}
theorem finA (hW : Below W.heap.size W W1) (hs : W1.heap.size = W.heap.size + 1) (hz : W1.heap[W.heap.size]? = some (.cells (frC 0 0 0 0 0 (.slice none 0 0)) 68 (0, 0))) (hb3 : Below W1.heap.size W1 w3) (ho : w3.ownsRow W1.heap.size 5 1 (.slice A m c) m (nums .u8 ([] ++ ys))) :
    FinR W w3.heap.size k f t v s A m c ys (w3.alloc (.cells (frC k f t v s (.slice A m c)) 68)) := by
  have h3 := hb3.size
  have hb := below_then hW hW.size hb3
  refine ⟨hb.alloc hb.size _, by omega, heap_alloc_new _ _, ?_, ?_⟩
  · rw [heap_alloc_old _ _ (by omega), hb3.block _ (by omega)]; exact hz
  · rw [hs, List.nil_append] at ho
    exact pw_own_below ho ((Below.refl _ _).alloc (Nat.le_refl _) _)
theorem finB {fb : Nat} {w' : World} {R : Nat} (hW : Below W.heap.size W W1) (hs : W1.heap.size = W.heap.size + 1) (hz : W1.heap[W.heap.size]? = some (.cells (frC 0 0 0 0 0 (.slice none 0 0)) 68 (0, 0))) (hb3 : Below W1.heap.size W1 w3) (ho : w3.ownsRow W1.heap.size 5 1 (.slice A m c) m (nums .u8 ([] ++ ys)))
    (hg : w'.grownBy w3 (some R)) (hf : w'.heap[fb]? = some (.cells (frC 0 0 0 0 0 (.slice none 0 0)) 68 (0, 0))) (hne : fb ≠ R) (hle : W1.heap.size ≤ fb) :
    FinR W fb k f t v s A m c ys ((((((w3.setCell ⟨fb, 0, none⟩ (.int .i64 k)).setCell ⟨fb, 1, none⟩ (.int .i64 f)).setCell ⟨fb, 2, none⟩ (.int .i64 t)).setCell ⟨fb, 3, none⟩ (.int .u32 v)).setCell ⟨fb, 4, none⟩ (.int .u32 s)).setCell ⟨fb, 5, none⟩ (.slice A m c)) := by
  have h3 := hb3.size
  have hb := below_then hW hW.size hb3
  have hf3 : w3.heap[fb]? = some (.cells (frC 0 0 0 0 0 (.slice none 0 0)) 68 (0, 0)) := by rw [hg.block fb (lt_of_heap hf) (fun e => hne (by injection e))]; exact hf
  have hr : w3.heap[W.heap.size]? = some (.cells (frC 0 0 0 0 0 (.slice none 0 0)) 68 (0, 0)) := by rw [hb3.block _ (by omega)]; exact hz
  refine ⟨bset6 hb (by omega) hb.size, by omega, set6 hf3, ?_, ?_⟩
  · rw [far6 (by omega)]; exact hr
  · rw [hs, List.nil_append] at ho
    have hne2 : (Value.slice A m c).ownBlock = none ∨ (Value.slice A m c).ownBlock ≠ some fb := by
      rcases ho.2 with ⟨h, _⟩ | ⟨g, cap, cur, h, hb, hh, _⟩
      · left; rw [h]; rfl
      · right
        rw [h]
        intro e
        have e2 : g = fb := by simpa [Value.ownBlock] using e
        rw [e2, hf3] at hh
        injection hh with hh
        injection hh with _ hh
        exact absurd hh (by decide)
    exact own_other (own_other (own_other (own_other (own_other (own_other ho (grown_set _) hne2) (grown_set _) hne2) (grown_set _) hne2) (grown_set _) hne2) (grown_set _) hne2) (grown_set _) hne2
end
end Go.Proofs.Ytbjjfgfepbklnaa
