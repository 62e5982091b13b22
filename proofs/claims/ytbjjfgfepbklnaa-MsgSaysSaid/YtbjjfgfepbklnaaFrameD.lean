/- Walks of package frame: Decode. -/
import Derived.Test.YtbjjfgfepbklnaaFrameC
set_option linter.unusedVariables false
set_option linter.unusedSimpArgs false
namespace Go.Proofs.Ytbjjfgfepbklnaa
open Go.RowKit Go.Proofs.YtbjjfgfepbklnaaW.PrintWords Go.Proofs.Ytbjjfgfepbklnaa.K

theorem numU_rng : ∀ (ys : List Int) (v k : Nat), v < 256 ^ k → k + ys.length ≤ 7 → (∀ y ∈ ys, (Lit.int .u8 y).wf = true) → ∃ m : Nat, numU (v : Int) ys = (m : Int) ∧ m < 256 ^ (k + ys.length)
  | [], v, k, hv, _, _ => ⟨v, rfl, by rw [List.length_nil, Nat.add_zero]; exact hv⟩
  | y :: r, v, k, hv, hk, hw => by
    have hy := wf_u8.1 (hw y (by simp))
    obtain ⟨x, rfl⟩ := Int.eq_ofNat_of_zero_le hy.1
    have hk7 : k ≤ 6 := by rw [List.length_cons] at hk; omega
    have h6 : v < 256 ^ 6 := Nat.lt_of_lt_of_le hv (Nat.pow_le_pow_right (by decide) hk7)
    have hv2 : v * 256 + x < 256 ^ (k + 1) := by rw [Nat.pow_succ]; omega
    obtain ⟨m, h1, h2⟩ := numU_rng r (v * 256 + x) (k + 1) hv2 (by rw [List.length_cons] at hk; omega) (fun z hz => hw z (by simp [hz]))
    refine ⟨m, ?_, by rw [List.length_cons, show k + (r.length + 1) = k + 1 + r.length by omega]; exact h2⟩
    have e : numStep (v : Int) ((x : Nat) : Int) = ((v * 256 + x : Nat) : Int) := numStep_nat v x (by omega) (by omega)
    show numU (numStep (v : Int) ((x : Nat) : Int)) r = _
    rw [e, h1]
theorem atU_rng (xs : List Int) (a n : Nat) (hn : n ≤ 7) (hw : ∀ y ∈ xs, (Lit.int .u8 y).wf = true) : 0 ≤ atU xs a n ∧ atU xs a n < 256 ^ n := by
  have hl : ((xs.drop a).take n).length ≤ n := by rw [List.length_take]; omega
  obtain ⟨m, h1, h2⟩ := numU_rng ((xs.drop a).take n) 0 0 (by decide) (by omega) (fun y hy => hw y (List.mem_of_mem_drop (List.mem_of_mem_take hy)))
  unfold atU
  have h3 : m < 256 ^ n := Nat.lt_of_lt_of_le h2 (Nat.pow_le_pow_right (by decide) (by omega))
  rw [show (0 : Int) = ((0 : Nat) : Int) from rfl, h1]
  have h4 : ((m : Nat) : Int) < ((256 ^ n : Nat) : Int) := Int.ofNat_lt.2 h3
  rw [Int.natCast_pow] at h4
  exact ⟨by omega, h4⟩

/-- What the reader makes of bytes. -/
def qOf (xs : List Int) : Nat := (atU xs 13 2).toNat
def bodyP (xs : List Int) : List Int := if qOf xs ≤ xs.length - 15 then (xs.drop 15).take (qOf xs) else []
def frP (xs : List Int) : Fr := ⟨atU xs 2 1, atU xs 3 1, atU xs 4 1, atU xs 5 4, atU xs 9 4, bodyP xs⟩
theorem frP_wf (xs : List Int) (hw : ∀ y ∈ xs, (Lit.int .u8 y).wf = true) : (frP xs).wf := by
  refine ⟨atU_rng xs 5 4 (by decide) hw, atU_rng xs 9 4 (by decide) hw, fun y hy => ?_⟩
  simp only [frP, bodyP] at hy
  split at hy
  · exact hw y (List.mem_of_mem_drop (List.mem_of_mem_take hy))
  · cases hy
theorem frP_enc {x : Fr} (hg : x.good) (hw : x.wf) : frP (enc x) = x := by
  have hq : qOf (enc x) = x.b.length := by unfold qOf; rw [read_n hg]; simp
  have hb : bodyP (enc x) = x.b := by
    unfold bodyP
    rw [hq, if_pos (by rw [enc_len]; omega), read_b]
  unfold frP
  rw [read_k hg, read_f hg, read_t hg, read_v hw, read_s hw, hb]
/-- Are these bytes a frame's? -/
def Is (xs : List Int) (x : Fr) : Prop := x.good ∧ x.wf ∧ enc x = xs
theorem no_frame {xs : List Int} (h : ¬ ((frP xs).good ∧ enc (frP xs) = xs)) : ¬ ∃ x : Fr, Is xs x := by
  rintro ⟨x, hg, hw, rfl⟩
  rw [frP_enc hg hw] at h
  exact h ⟨hg, rfl⟩
theorem no_frame_len {xs : List Int} (h : xs.length < 19 ∨ 16403 < xs.length) : ¬ ∃ x : Fr, Is xs x := by
  rintro ⟨x, hg, hw, rfl⟩
  rw [enc_len] at h
  have := hg.2.2.2
  omega
/-- What Decode answers. -/
def Decd (W : World) (xs : List Int) (e : Ending) (w' : World) : Prop :=
  ((∃ x : Fr, Is xs x ∧ ∃ A c, e = .returned (.tuple #[.agg (frC x.k x.f x.t x.v x.s (.slice A x.b.length c)), .int .i64 0]) ∧ ReadsInt w' .u8 A x.b.length x.b) ∨
    ((¬ ∃ x : Fr, Is xs x) ∧ e = .returned (.tuple #[.agg (frC 0 0 0 0 0 (.slice none 0 0)), .int .i64 3]))) ∧ Below W.heap.size W w'

theorem Rdr.ne {w : World} {r fb : Nat} {xs : List Int} {sp : Bool} {cs : Array Value} {fr : Nat × Nat} (h : Rdr w r xs sp) (hf : w.heap[fb]? = some (.cells cs 49 fr)) : fb ≠ r := by
  rintro rfl
  obtain ⟨_, _, _, h1, _⟩ := h
  rw [hf] at h1
  injection h1 with h1
  injection h1 with _ h1
  exact absurd h1 (by decide)
theorem Rdr.set {w : World} {r fb j : Nat} {xs : List Int} {sp : Bool} {cs : Array Value} {fr : Nat × Nat} {v : Value} (h : Rdr w r xs sp) (hf : w.heap[fb]? = some (.cells cs 49 fr)) : Rdr (w.setCell ⟨fb, j, none⟩ v) r xs sp :=
  h.kept fun k ⟨cs', t, fr', hk, ht⟩ => (grown_set v).block k (lt_of_heap hk) (fun e => by
    injection e with e
    subst e
    rcases ht with rfl | rfl
    · rw [hk] at hf
      injection hf with hf
      injection hf with _ hf
      exact absurd hf (by decide)
    · exact h.ne hf rfl)
/-- A stage of Decode: the reader, the frame that is filled, the result's box. -/
structure Stg (W : World) (r fb : Nat) (ys : List Int) (k f t v s : Int) (B : Value) (w : World) : Prop where
  bel : Below W.heap.size W w
  hr : W.heap.size ≤ r
  hf : W.heap.size ≤ fb
  rd : Rdr w r ys false
  fr : w.heap[fb]? = some (.cells (frC k f t v s B) 49 (0, 0))
  re : w.heap[W.heap.size]? = some (.cells (frC 0 0 0 0 0 (.slice none 0 0)) 49 (0, 0))
  ne : fb ≠ W.heap.size
structure Fin (W : World) (fb : Nat) (k f t v s : Int) (B : Value) (w : World) : Prop where
  bel : Below W.heap.size W w
  hf : W.heap.size ≤ fb
  fr : w.heap[fb]? = some (.cells (frC k f t v s B) 49 (0, 0))
  re : w.heap[W.heap.size]? = some (.cells (frC 0 0 0 0 0 (.slice none 0 0)) 49 (0, 0))
  ne : fb ≠ W.heap.size
section
variable {W w w' : World} {r fb : Nat} {ys ys' : List Int} {k f t v s : Int} {B : Value}
theorem Stg.grown (h : Stg W r fb ys k f t v s B w) (h2 : Rdr w' r ys' false) (hg : w.grownBy w' (some r)) : Stg W r fb ys' k f t v s B w' :=
  ⟨pw_below_grown h.bel (some r) h.bel.size hg (fun k e => by cases e; exact h.hr), h.hr, h.hf, h2,
    by rw [hg.block fb (lt_of_heap h.fr) (fun e => by injection e with e; exact h.rd.ne h.fr e)]; exact h.fr,
    by rw [hg.block _ (lt_of_heap h.re) (fun e => by injection e with e; exact h.rd.ne h.re e)]; exact h.re, h.ne⟩
theorem Stg.put (h : Stg W r fb ys k f t v s B w) (j : Nat) (V : Value) {k' f' t' v' s' : Int} {B' : Value} (e : (frC k f t v s B).setIfInBounds j V = frC k' f' t' v' s' B') : Stg W r fb ys k' f' t' v' s' B' (w.setCell ⟨fb, j, none⟩ V) :=
  ⟨pw_below_grown h.bel (some fb) h.bel.size (grown_set V) (fun k e => by cases e; exact h.hf), h.hr, h.hf, h.rd.set h.fr,
    by rw [heap_set V h.fr, e], by rw [(grown_set V).block _ (lt_of_heap h.re) (fun e => by injection e with e; exact h.ne e.symm)]; exact h.re, h.ne⟩
theorem Stg.cells (h : Stg W r fb ys k f t v s B w) : w.cell? ⟨fb, 0, none⟩ = some (.int .i64 k) ∧ w.cell? ⟨fb, 1, none⟩ = some (.int .i64 f) ∧ w.cell? ⟨fb, 2, none⟩ = some (.int .i64 t) ∧ w.cell? ⟨fb, 3, none⟩ = some (.int .u32 v) ∧ w.cell? ⟨fb, 4, none⟩ = some (.int .u32 s) ∧ w.cell? ⟨fb, 5, none⟩ = some B := box_cells h.fr
theorem Stg.free (h : Stg W r fb ys k f t v s B w) (j : Nat) : w.frozen? ⟨fb, j, none⟩ = false := by simp [World.frozen?, h.fr]
theorem Stg.fin (h : Stg W r fb ys k f t v s B w) (hg : w.grownBy w' (some r)) : Fin W fb k f t v s B w' :=
  ⟨pw_below_grown h.bel (some r) h.bel.size hg (fun k e => by cases e; exact h.hr), h.hf,
    by rw [hg.block fb (lt_of_heap h.fr) (fun e => by injection e with e; exact h.rd.ne h.fr e)]; exact h.fr,
    by rw [hg.block _ (lt_of_heap h.re) (fun e => by injection e with e; exact h.rd.ne h.re e)]; exact h.re, h.ne⟩
theorem Fin.put (h : Fin W fb k f t v s B w) (j : Nat) (V : Value) {k' f' t' v' s' : Int} {B' : Value} (e : (frC k f t v s B).setIfInBounds j V = frC k' f' t' v' s' B') : Fin W fb k' f' t' v' s' B' (w.setCell ⟨fb, j, none⟩ V) :=
  ⟨pw_below_grown h.bel (some fb) h.bel.size (grown_set V) (fun k e => by cases e; exact h.hf), h.hf,
    by rw [heap_set V h.fr, e], by rw [(grown_set V).block _ (lt_of_heap h.re) (fun e => by injection e with e; exact h.ne e.symm)]; exact h.re, h.ne⟩
theorem Fin.below (h : Fin W fb k f t v s B w) (hb : Below w.heap.size w w') : Fin W fb k f t v s B w' :=
  ⟨below_then h.bel h.bel.size hb, h.hf, by rw [hb.block _ (lt_of_heap h.fr)]; exact h.fr, by rw [hb.block _ (lt_of_heap h.re)]; exact h.re, h.ne⟩
theorem U8_x {xs : List Int} {a : Nat} (h : Rdr w r (xs.drop a) false) (hl : a + 1 ≤ xs.length) (hx : xs.length ≤ 1000000) (hw : ∀ y ∈ xs, (Lit.int .u8 y).wf = true) : Calls Try.prog 43 #[.pointer (some ⟨r, 0, none⟩)] w fun e w' => e = .returned (.int .i64 (atU xs a 1)) ∧ Rdr w' r (xs.drop (a + 1)) false ∧ w.grownBy w' (some r) := by
  have C := u8_of r w _ _ (number_ok r 1 _ w h (by rw [List.length_drop]; omega) (by rw [List.length_drop]; omega))
  have hr := atU_rng xs a 1 (by decide) hw
  rw [List.drop_drop, show numU 0 ((xs.drop a).take 1) = atU xs a 1 from rfl, w64' (by omega) (by omega)] at C
  exact C
theorem U16_x {xs : List Int} {a : Nat} (h : Rdr w r (xs.drop a) false) (hl : a + 2 ≤ xs.length) (hx : xs.length ≤ 1000000) (hw : ∀ y ∈ xs, (Lit.int .u8 y).wf = true) : Calls Try.prog 21 #[.pointer (some ⟨r, 0, none⟩)] w fun e w' => e = .returned (.int .i64 (atU xs a 2)) ∧ Rdr w' r (xs.drop (a + 2)) false ∧ w.grownBy w' (some r) := by
  have C := u16_of r w _ _ (number_ok r 2 _ w h (by rw [List.length_drop]; omega) (by rw [List.length_drop]; omega))
  have hr := atU_rng xs a 2 (by decide) hw
  rw [List.drop_drop, show numU 0 ((xs.drop a).take 2) = atU xs a 2 from rfl, w64' (by omega) (by omega)] at C
  exact C
theorem U32_x {xs : List Int} {a : Nat} (h : Rdr w r (xs.drop a) false) (hl : a + 4 ≤ xs.length) (hx : xs.length ≤ 1000000) (hw : ∀ y ∈ xs, (Lit.int .u8 y).wf = true) : Calls Try.prog 44 #[.pointer (some ⟨r, 0, none⟩)] w fun e w' => e = .returned (.int .u32 (atU xs a 4)) ∧ Rdr w' r (xs.drop (a + 4)) false ∧ w.grownBy w' (some r) := by
  have C := u32_of r w _ _ (number_ok r 4 _ w h (by rw [List.length_drop]; omega) (by rw [List.length_drop]; omega))
  have hr := atU_rng xs a 4 (by decide) hw
  rw [List.drop_drop, show numU 0 ((xs.drop a).take 4) = atU xs a 4 from rfl, Int.emod_eq_of_lt (by omega) (by omega)] at C
  exact C
theorem bytes_g (h : Rdr w r ys false) (m : Nat) (hx : ys.length ≤ 1000000) : Calls Try.prog 24 #[.pointer (some ⟨r, 0, none⟩), .int .i64 m] w fun e w' => ∃ A c zs, zs = (if m ≤ ys.length then ys.take m else []) ∧ e = .returned (.slice A zs.length c) ∧ w'.ownsRow w.heap.size 5 1 (.slice A zs.length c) zs.length (nums .u8 zs) ∧ w.grownBy w' (some r) := by
  by_cases hm : m ≤ ys.length
  · refine (bytes_ok r m ys w h hm hx).mono ?_
    rintro e w' ⟨A, c, rfl, ho, _, hg⟩
    have hl : (ys.take m).length = m := by rw [List.length_take]; omega
    refine ⟨A, c, ys.take m, by rw [if_pos hm], by rw [hl], by rw [hl]; exact ho, hg⟩
  · refine (bytes_bad r m ys false w h (.inr (.inr (by omega)))).mono ?_
    rintro e w' ⟨rfl, _, hg⟩
    exact ⟨none, 0, [], by rw [if_neg hm], rfl, ⟨rfl, .inl ⟨rfl, rfl⟩⟩, hg⟩
end
theorem bset' {N : Nat} {W w : World} {r j : Nat} {v : Value} (h : Below N W w) (hr : N ≤ r) (hw : N ≤ w.heap.size) : Below N W (w.setCell ⟨r, j, none⟩ v) :=
  pw_below_grown h (some r) hw (grown_set v) (fun k e => by cases e; exact hr)
theorem bset {W w : World} {r j : Nat} {v : Value} (h : Below W.heap.size W w) (hr : W.heap.size ≤ r) : Below W.heap.size W (w.setCell ⟨r, j, none⟩ v) := bset' h hr h.size
/-- Six cells stored one behind another. -/
theorem set6 {w : World} {r : Nat} {k f t v s k' f' t' v' s' : Int} {B B' : Value} {ty : TypeId} (h : w.heap[r]? = some (.cells (frC k f t v s B) ty (0, 0))) :
    ((((((w.setCell ⟨r, 0, none⟩ (.int .i64 k')).setCell ⟨r, 1, none⟩ (.int .i64 f')).setCell ⟨r, 2, none⟩ (.int .i64 t')).setCell ⟨r, 3, none⟩ (.int .u32 v')).setCell ⟨r, 4, none⟩ (.int .u32 s')).setCell ⟨r, 5, none⟩ B').heap[r]? = some (.cells (frC k' f' t' v' s' B') ty (0, 0)) := by
  rw [heap_set _ (heap_set _ (heap_set _ (heap_set _ (heap_set _ (heap_set _ h)))))]; rfl
theorem reads_set {w : World} {r j : Nat} {v : Value} {base : Nat} {A : Option Addr} {n c : Nat} {ys : List Int} (h : w.ownsRow base 5 1 (.slice A n c) n (nums .u8 ys)) (hr : r < base) : (w.setCell ⟨r, j, none⟩ v).ownsRow base 5 1 (.slice A n c) n (nums .u8 ys) :=
  own_other h (grown_set (w := w) (r := r) (j := j) v) (by
    rcases h.2 with ⟨h, _⟩ | ⟨g, cap, cur, h, hb, _⟩
    · left; rw [h]; rfl
    · right; rw [h]; intro e; have e2 : g = r := by simpa [Value.ownBlock] using e
      omega)
set_option maxHeartbeats 2000000 in
theorem decode_walk (A : Option Addr) (n c : Nat) (xs : List Int) (W : World) (h : ReadsInt W .u8 A n xs) (hw : ∀ y ∈ xs, (Lit.int .u8 y).wf = true) (h19 : 19 ≤ n) (hm : n ≤ 16403) :
    Calls Try.prog 19 #[.slice A n c] W (Decd W xs) := by
  have HL := Lib.hid h
  have HW := Lib.hid hw
  have hl := h.1
  clear h hw
  have hbW : Below W.heap.size W (W.alloc (.cells (frC 0 0 0 0 0 (.slice none 0 0)) 49)) := (Below.refl _ _).alloc (Nat.le_refl _) _
  go_enter Try.func19, Try.ntmps19
  go_wp2_with (go_at_call 20; refine (read_walk A xs n c _ (HL.out.below hbW) (by omega)).mono ?_; rintro e w1 ⟨r, hr, rfl, hR1, hb1⟩; have HR1 := Lib.hid (show Rdr w1 r (xs.drop 0) false from hR1); clear hR1)
  have hx6 : xs.length ≤ 1000000 := by omega
  refine (U16_x HR1.out (by omega) hx6 HW.out).mono ?_
  rintro e w2 ⟨rfl, hR2, hg2⟩
  have HR2 := Lib.hid hR2; clear hR2
  have hr0 : W.heap.size < r := by have : (W.alloc (.cells (frC 0 0 0 0 0 (.slice none 0 0)) 49)).heap.size = W.heap.size + 1 := by simp
                                   omega
  have hb2 := pw_below_grown (below_then hbW hbW.size hb1) (some r) (below_then hbW hbW.size hb1).size hg2 (fun k e => by cases e; omega)
  have hre2 : w2.heap[W.heap.size]? = some (.cells (frC 0 0 0 0 0 (.slice none 0 0)) 49 (0, 0)) := by
    have hlt : W.heap.size < (W.alloc (.cells (frC 0 0 0 0 0 (.slice none 0 0)) 49)).heap.size := by simp
    rw [hg2.block _ (Nat.lt_of_lt_of_le hlt hb1.size) (fun e => by injection e with e; omega), hb1.block _ hlt]
    exact heap_alloc_new _ _
  clear hg2 hb1
  go_wp2_with fail
  refine (U8_x HR2.out (by omega) hx6 HW.out).mono ?_
  rintro e w3 ⟨rfl, hR3, hg3⟩
  have hb3 := pw_below_grown hb2 (some r) hb2.size hg3 (fun k e => by cases e; omega)
  have hre3 : w3.heap[W.heap.size]? = some (.cells (frC 0 0 0 0 0 (.slice none 0 0)) 49 (0, 0)) := by
    rw [hg3.block _ (lt_of_heap hre2) (fun e => by injection e with e; omega)]; exact hre2
  have hS : Stg W r w3.heap.size (xs.drop 3) (atU xs 2 1) 0 0 0 0 (.slice none 0 0) (w3.alloc (.cells (frC (atU xs 2 1) 0 0 0 0 (.slice none 0 0)) 49)) :=
    ⟨hb3.alloc hb3.size _, by omega, hb3.size, hR3.below ((Below.refl _ _).alloc (Nat.le_refl _) _), heap_alloc_new _ _, by rw [heap_alloc_old _ _ (lt_of_heap hre3)]; exact hre3, by have := lt_of_heap hre3; omega⟩
  have HS3 := Lib.hid hS; clear hS hR3 hg3 hb3 hre2 hre3 hb2
  go_wp2_with fail
  refine (U8_x HS3.out.rd (by omega) hx6 HW.out).mono ?_
  rintro e w4 ⟨rfl, hR, hg⟩
  have S4 := Lib.hid (HS3.out.grown hR hg); clear hR hg HS3
  have c4 := S4.out.cells
  obtain ⟨c0, c1, c2, c3, c4, c5⟩ := c4
  have f0 := S4.out.free 1
  have T4 := Lib.hid (S4.out.put 1 (.int .i64 (atU xs 3 1)) rfl)
  go_wp2_with fail
  clear c0 c1 c2 c3 c4 c5 f0 S4
  refine (U8_x T4.out.rd (by omega) hx6 HW.out).mono ?_
  rintro e w5 ⟨rfl, hR, hg⟩
  have S5 := Lib.hid (T4.out.grown hR hg); clear hR hg T4
  have c5 := S5.out.cells
  obtain ⟨c0, c1, c2, c3, c4, c5⟩ := c5
  have f0 := S5.out.free 2
  have T5 := Lib.hid (S5.out.put 2 (.int .i64 (atU xs 4 1)) rfl)
  go_wp2_with fail
  clear c0 c1 c2 c3 c4 c5 f0 S5
  refine (U32_x T5.out.rd (by omega) hx6 HW.out).mono ?_
  rintro e w6 ⟨rfl, hR, hg⟩
  have S6 := Lib.hid (T5.out.grown hR hg); clear hR hg T5
  have c6 := S6.out.cells
  obtain ⟨c0, c1, c2, c3, c4, c5⟩ := c6
  have f0 := S6.out.free 3
  have T6 := Lib.hid (S6.out.put 3 (.int .u32 (atU xs 5 4)) rfl)
  go_wp2_with fail
  clear c0 c1 c2 c3 c4 c5 f0 S6
  refine (U32_x T6.out.rd (by omega) hx6 HW.out).mono ?_
  rintro e w7 ⟨rfl, hR, hg⟩
  have S7 := Lib.hid (T6.out.grown hR hg); clear hR hg T6
  have c7 := S7.out.cells
  obtain ⟨c0, c1, c2, c3, c4, c5⟩ := c7
  have f0 := S7.out.free 4
  have T7 := Lib.hid (S7.out.put 4 (.int .u32 (atU xs 9 4)) rfl)
  go_wp2_with fail
  clear c0 c1 c2 c3 c4 c5 f0 S7
  have hq := atU_rng xs 13 2 (by decide) HW.out
  have hqq : atU xs 13 2 = (qOf xs : Int) := by unfold qOf; omega
  refine (U16_x T7.out.rd (by omega) hx6 HW.out).mono ?_
  rintro e w8 ⟨rfl, hR, hg⟩
  rw [show (9 + 4 : Nat) = 13 from rfl, hqq]
  have S8 := Lib.hid (T7.out.grown hR hg); clear hR hg T7
  have hmm : ∀ m : Nat, (m = qOf xs ∨ (m = n ∧ n < qOf xs)) → (if m ≤ (xs.drop (13 + 2)).length then (xs.drop (13 + 2)).take m else []) = bodyP xs := by
    intro m h
    unfold bodyP
    rw [List.length_drop, show 13 + 2 = 15 from rfl]
    rcases h with rfl | ⟨rfl, h⟩
    · rfl
    · rw [if_neg (by omega), if_neg (by omega)]
  have HM := Lib.hid hmm; clear hmm
  go_wp2_with fail
  case' inl => (refine (bytes_g S8.out.rd n (by rw [List.length_drop]; omega)).mono ?_; rintro e w9 ⟨A1, d1, zs, hzs, rfl, ho, hg⟩; rw [HM.out _ (.inr ⟨rfl, by omega⟩)] at hzs)
  case' inr => (refine (bytes_g S8.out.rd (qOf xs) (by rw [List.length_drop]; omega)).mono ?_; rintro e w9 ⟨A1, d1, zs, hzs, rfl, ho, hg⟩; rw [HM.out _ (.inl rfl)] at hzs)
  all_goals subst hzs
  all_goals
    have hbl : (bodyP xs).length ≤ 16403 := by
      unfold bodyP
      split
      · rw [List.length_take, List.length_drop]; omega
      · simp
    have hlt8 := lt_of_heap S8.out.fr
    have F9 := S8.out.fin hg
    obtain ⟨c0, c1, c2, c3, c4, c5⟩ := box_cells F9.fr
    have f0 : w9.frozen? ⟨w3.heap.size, 5, none⟩ = false := by simp [World.frozen?, F9.fr]
    have T9 := Lib.hid (F9.put 5 (.slice A1 (bodyP xs).length d1) rfl)
    have HO := Lib.hid (own_other ho (grown_set (w := w9) (r := w3.heap.size) (j := 5) (.slice A1 (bodyP xs).length d1)) (by
      rcases ho.2 with ⟨h, _⟩ | ⟨g, cap, cur, h, hb, _⟩
      · left; rw [h]; rfl
      · right; rw [h]; intro e; have e2 : g = w3.heap.size := by simpa [Value.ownBlock] using e
        omega))
    clear ho hg F9 S8
    have hpf : (frP xs).wf := frP_wf xs HW.out
    have HP := Lib.hid hpf; clear hpf
    have gdef : goodB (atU xs 2 1) (atU xs 3 1) (atU xs 4 1) (bodyP xs).length ↔ (frP xs).good := Iff.rfl
    by_cases hgd : goodB (atU xs 2 1) (atU xs 3 1) (atU xs 4 1) (bodyP xs).length
    · have hN : enc (frP xs) ≠ xs → ¬ ∃ x : Fr, Is xs x := fun he => no_frame (xs := xs) (fun h => he h.2)
      have HN := Lib.hid hN; clear hN
      have HG := Lib.hid (gdef.1 hgd); clear gdef
      go_wp2_with fail
      refine (good_walk _ _ _ _ _ A1 (bodyP xs).length d1 (by omega) _).mono ?_
      rintro e w11 ⟨rfl, hw11⟩
      rw [decide_eq_true hgd]
      have hb11 : Below (w9.setCell ⟨w3.heap.size, 5, none⟩ (.slice A1 (bodyP xs).length d1)).heap.size (w9.setCell ⟨w3.heap.size, 5, none⟩ (.slice A1 (bodyP xs).length d1)) w11 := by rw [← hw11]; exact (Below.refl _ _).alloc (Nat.le_refl _) _
      have T11 := Lib.hid (T9.out.below hb11)
      have O11 := Lib.hid (pw_own_below HO.out hb11)
      clear c0 c1 c2 c3 c4 c5 f0 hw11 hb11 HO T9
      obtain ⟨c0, c1, c2, c3, c4, c5⟩ := box_cells T11.out.fr
      go_wp2_with fail
      refine (encode_walk (frP xs) HG.out HP.out A1 (bodyP xs).length d1 _ (own_info O11.out).2.2.2.1).mono ?_
      rintro e w12 ⟨A2, d2, rfl, ho2, hb12⟩
      have T12 := Lib.hid (T11.out.below hb12)
      have O12 := Lib.hid (pw_own_below O11.out hb12)
      have HE := Lib.hid (own_info ho2).2.2.2.1
      have HL12 := Lib.hid (HL.out.below T12.out.bel)
      clear c0 c1 c2 c3 c4 c5 ho2 hb12 T11 O11
      go_wp2_with fail
      refine (equal_walk _ _ _ _ _ _ (enc (frP xs)) xs _ HE.out HL12.out).mono ?_
      rintro e w13 ⟨rfl, hb13⟩
      have T13 := Lib.hid (T12.out.below hb13)
      have O13 := Lib.hid (pw_own_below O12.out hb13)
      clear hb13 HE T12 O12 HL12
      obtain ⟨c0, c1, c2, c3, c4, c5⟩ := box_cells T13.out.re
      have f0 : ∀ j, w13.frozen? ⟨W.heap.size, j, none⟩ = false := fun j => by simp [World.frozen?, T13.out.re]
      have f1 := f0 0; have f2 := f0 1; have f3 := f0 2; have f4 := f0 3; have f5 := f0 4; have f6 := f0 5
      clear f0 hgd
      by_cases he : enc (frP xs) = xs
      · rw [decide_eq_true he]
        obtain ⟨d0, d1', d2', d3, d4, d5⟩ := box_cells T13.out.fr
        have HI := Lib.hid he; clear he
        go_wp2_with fail
        (try simp only [Exit.inBlock, Exit.then])
        refine bodyPost_ret (results_ct rfl _ _ W.heap.size 49 (frC (frP xs).k (frP xs).f (frP xs).t (frP xs).v (frP xs).s (.slice A1 (bodyP xs).length d1)) (0, 0) _ rfl (set6 T13.out.re) Try.underlying49 rfl (by kernel_rfl)) rfl ?_
        refine ⟨.inl ⟨frP xs, ⟨HG.out, HP.out, HI.out⟩, A1, d1, rfl, ?_⟩, bset (bset (bset (bset (bset (bset T13.out.bel (Nat.le_refl _)) (Nat.le_refl _)) (Nat.le_refl _)) (Nat.le_refl _)) (Nat.le_refl _)) (Nat.le_refl _)⟩
        have hlt : W.heap.size < w8.heap.size := by have := T13.out.hf; have := T13.out.ne; omega
        exact (own_info (reads_set (reads_set (reads_set (reads_set (reads_set (reads_set O13.out hlt) hlt) hlt) hlt) hlt) hlt)).2.2.2.1
      · rw [decide_eq_false he]
        have HI := Lib.hid (HN.out he); clear he
        go_wp2_with fail
        (try simp only [Exit.inBlock, Exit.then])
        refine bodyPost_ret (results_ct rfl _ _ W.heap.size 49 (frC 0 0 0 0 0 (.slice none 0 0)) (0, 0) _ rfl (set6 T13.out.re) Try.underlying49 rfl (by kernel_rfl)) rfl ?_
        exact ⟨.inr ⟨HI.out, rfl⟩, bset (bset (bset (bset (bset (bset T13.out.bel (Nat.le_refl _)) (Nat.le_refl _)) (Nat.le_refl _)) (Nat.le_refl _)) (Nat.le_refl _)) (Nat.le_refl _)⟩
    · have HN := Lib.hid (no_frame (xs := xs) (fun h => hgd (gdef.2 h.1)))
      clear gdef
      go_wp2_with fail
      refine (good_walk _ _ _ _ _ A1 (bodyP xs).length d1 (by omega) _).mono ?_
      rintro e w11 ⟨rfl, hw11⟩
      rw [decide_eq_false hgd]
      have T11 := Lib.hid (T9.out.below (w' := w11) (by rw [← hw11]; exact (Below.refl _ _).alloc (Nat.le_refl _) _))
      clear c0 c1 c2 c3 c4 c5 f0 hw11
      obtain ⟨c0, c1, c2, c3, c4, c5⟩ := box_cells T11.out.re
      have f0 : ∀ j, w11.frozen? ⟨W.heap.size, j, none⟩ = false := fun j => by simp [World.frozen?, T11.out.re]
      have f1 := f0 0; have f2 := f0 1; have f3 := f0 2; have f4 := f0 3; have f5 := f0 4; have f6 := f0 5
      clear f0 hgd
      go_wp2_with fail
      (try simp only [Exit.inBlock, Exit.then])
      refine bodyPost_ret (results_ct rfl _ _ W.heap.size 49 (frC 0 0 0 0 0 (.slice none 0 0)) (0, 0) _ rfl (set6 T11.out.re) Try.underlying49 rfl (by kernel_rfl)) rfl ?_
      exact ⟨.inr ⟨HN.out, rfl⟩, bset (bset (bset (bset (bset (bset T11.out.bel (Nat.le_refl _)) (Nat.le_refl _)) (Nat.le_refl _)) (Nat.le_refl _)) (Nat.le_refl _)) (Nat.le_refl _)⟩
end Go.Proofs.Ytbjjfgfepbklnaa
