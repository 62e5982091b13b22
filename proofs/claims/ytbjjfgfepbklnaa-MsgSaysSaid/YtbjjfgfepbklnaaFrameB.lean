/- Walks of package frame and of the reference: Encode. -/
import Derived.Test.YtbjjfgfepbklnaaFrameA
import Derived.Deep.RegionHeld3
import Derived.Deep.AppendLies
import Derived.Deep.DrawnRows
set_option linter.unusedVariables false
set_option linter.unusedSimpArgs false
namespace Go.Proofs.Ytbjjfgfepbklnaa
open Go.RowKit Go.Proofs.YtbjjfgfepbklnaaW.PrintWords Go.Proofs.Ytbjjfgfepbklnaa.K

/-- append(v, ys...) at a step of a region that draws. -/
theorem step_app_row {P : Program} {ops : Array Oper} {o : Oper} {a : Act} {K : Act → World → Prop} {Q : Exit → Act → World → Prop} {E : Prop} {w0 W : World} (base : Nat) (hgd : o.guard = none) (s x : Operand) (t e : TypeId) (k : IntKind) (bytes : Nat)
    (ho : o.op = .call { callee := .builtin .append, args := #[s, x], argTypes := #[t, t] })
    (ht : P.underlying t = some (.slice e)) (hinfo : (P.info? e).map (fun i => (i.zero, i.size, i.bytes)) = some (some (.int k 0), 1, bytes)) (hb0 : 0 < bytes)
    (v : Value) (xs ys : List Int) (A : Option Addr) (m c : Nat) (hs : a.eval s = v) (hx : a.eval x = .slice A m c)
    (HO : W.ownsRow base e 1 v xs.length (nums k xs)) (HR : ReadsInt W k A m ys) (HB : Below base w0 W) (hbase : base ≤ W.heap.size) (hl : (xs.length + m) * bytes ≤ 140737488355328) (N : Nat) (hN : (xs ++ ys).length = N)
    (h : ∀ A1 c1 w1, w1.ownsRow base e 1 (.slice A1 N c1) N (nums k (xs ++ ys)) → Below base w0 w1 → W.grownBy w1 v.ownBlock → K (a.put o.dst (.slice A1 N c1)) w1) :
    if Region.wanted o (yielded ops a.tmps) = true then Oper.wp P o a W K Q else E := by
  have hw : Region.wanted o (yielded ops a.tmps) = true := by simp [Region.wanted, hgd]
  rw [if_pos hw]
  obtain ⟨i0, hi, hzz⟩ := Option.map_eq_some_iff.1 hinfo
  simp only [Prod.mk.injEq] at hzz
  obtain ⟨hz0, hz1, hz2⟩ := hzz
  have hm : ys.length = m := HR.1
  have hlen : xs.length + m ≤ 140737488355328 := Nat.le_trans (Nat.le_mul_of_pos_right _ hb0) hl
  have hrun : ∃ v1 w1, (Builtin.append_ #[t, t] o.type #[v, .slice A m c]).run P W = .ok v1 w1 ∧ w1.ownsRow base e 1 v1 (xs ++ ys).length (nums k (xs ++ ys)) ∧ W.grownBy w1 v.ownBlock ∧ (v1.ownBlock = v.ownBlock ∨ v1.ownBlock = some W.heap.size) := by
    rcases A with _ | ad
    · have h0 : m = 0 := by
        rcases Nat.eq_zero_or_pos m with h0 | h0
        · exact h0
        · obtain ⟨ad, h, _⟩ := HR.2.2 h0
          cases h
      subst h0
      obtain rfl : ys = [] := List.eq_nil_of_length_eq_zero hm
      refine ⟨v, W, ?_, by simpa using HO, World.grownBy.refl W _, .inl rfl⟩
      rcases HO.2 with ⟨rfl, hn⟩ | ⟨g, cap, cur, rfl, _, _, hnc, _⟩
      · simp [Builtin.append_, run_underlying ht, sizeOf, typeInfo, hi, Builtin.lenOf, Builtin.firstCells]
      · simp [Builtin.append_, run_underlying ht, sizeOf, typeInfo, hi, Builtin.lenOf, Builtin.firstCells, hnc, storeCells]
    · have hcells : ∀ j u, (nums k ys)[j]? = some u → W.cell? (ad.add j) = some u := by
        intro j u hu
        have hj : j < ys.length := by
          rcases Nat.lt_or_ge j ys.length with h | h
          · exact h
          · simp [nums, List.getElem?_eq_none h] at hu
        obtain ⟨ad', h', hc⟩ := HR.2.2 (by omega)
        injection h' with h'
        subst h'
        have := hc j (by omega)
        simp [nums, List.getElem?_eq_getElem hj] at hu
        subst hu
        rw [this]
        simp [List.getD_eq_getElem?_getD, List.getElem?_eq_getElem hj]
      obtain ⟨v1, w1, hr, h2, h3, _, h5⟩ := run_append_own_at (P := P) W base t o.type e i0 (.int k 0) 1 bytes ht hi hz0 hz1 hz2 rfl (by omega) v xs.length (nums k xs) HO ad m c (nums k ys) (by simp [nums, hm]) hcells
        (by intro u hu; simp only [nums, List.mem_map] at hu; obtain ⟨q, _, rfl⟩ := hu; rfl) (by simp only [maxLen]; omega) hl hbase
      exact ⟨v1, w1, hr, by simpa [nums, hm] using h2, h3, h5⟩
  obtain ⟨v1, w1, hr, hown, hg, hat⟩ := hrun
  unfold Oper.wp execOp
  simp only [ho, resolve, invoke, builtin, Sem.run_bind, Sem.run_pure, Result.andThen_ok, List.map_toArray, List.map_cons, List.map_nil, hs, hx, hr]
  obtain ⟨A1, c1, rfl⟩ := own_slice hown
  subst hN
  exact h A1 c1 w1 hown (HB.grown hg hbase (own_base HO)) hg
theorem rd_drew {w : World} {k : IntKind} {A : Option Addr} {n : Nat} {xs : List Int} (h : ReadsInt w k A n xs) : ReadsInt w.drew k A n xs := h.below (below_drew (Below.refl _ _))
theorem byte_good (k : Int) (h : 0 ≤ k ∧ k < 256) : k % 256 = k := by omega
theorem box_cells {w : World} {r : Nat} {k f t v s : Int} {B : Value} {ty : TypeId} (h : w.heap[r]? = some (.cells (frC k f t v s B) ty (0, 0))) :
    w.cell? ⟨r, 0, none⟩ = some (.int .i64 k) ∧ w.cell? ⟨r, 1, none⟩ = some (.int .i64 f) ∧ w.cell? ⟨r, 2, none⟩ = some (.int .i64 t) ∧ w.cell? ⟨r, 3, none⟩ = some (.int .u32 v) ∧ w.cell? ⟨r, 4, none⟩ = some (.int .u32 s) ∧ w.cell? ⟨r, 5, none⟩ = some B := by
  simp [World.cell?, h]
set_option maxHeartbeats 800000 in
theorem encode_walk (x : Fr) (hg : x.good) (hw : x.wf) (A : Option Addr) (n c : Nat) (W : World) (h : ReadsInt W .u8 A n x.b) :
    Calls Try.prog 30 #[.agg (frC x.k x.f x.t x.v x.s (.slice A n c))] W (Wrote W (19 + n) (enc x)) := by
  have hn : n ≤ 16384 := by rw [← h.1]; exact hg.2.2.2
  have HG := Lib.hid hg
  have hwx : ∀ W1, W1 = W.alloc (.cells (frC x.k x.f x.t x.v x.s (.slice A n c)) 49) → Below W.heap.size W W1 ∧ W1.heap[W.heap.size]? = some (.cells (frC x.k x.f x.t x.v x.s (.slice A n c)) 49 (0, 0)) ∧ W1.heap.size = W.heap.size + 1 := by
    rintro _ rfl
    exact ⟨(Below.refl _ _).alloc (Nat.le_refl _) _, heap_alloc_new _ _, by simp⟩
  have HX := Lib.hid hwx; clear hwx
  have HL := Lib.hid h
  have hB : goodB x.k x.f x.t n := by rw [← h.1]; exact hg
  have HB := Lib.hid hB
  obtain ⟨⟨g1, g2⟩, ⟨g3, g4⟩, ⟨g5, g6⟩, g7⟩ := hB
  have e1 := byte_good x.k (by omega)
  have e2 := byte_good x.f (by omega)
  have e3 := byte_good x.t (by omega)
  obtain ⟨⟨v1, v2⟩, ⟨s1, s2⟩, -⟩ := hw
  clear hg h
  go_enter Try.func30, Try.ntmps30
  go_wp2_with (go_at_call 32; refine (good_walk _ _ _ _ _ _ _ _ (by omega) _).mono ?_; rintro e w1 ⟨rfl, hw1⟩; rw [decide_eq_true HB.out]; have hb1 := (by rw [← hw1]; exact (HX.out _ rfl).1.alloc (HX.out _ rfl).1.size _ : Below W.heap.size W w1); have h1 := (by rw [← hw1, heap_alloc_old _ _ (by simp)]; exact (HX.out _ rfl).2.1 : w1.heap[W.heap.size]? = some (.cells (frC x.k x.f x.t x.v x.s (.slice A n c)) 49 (0, 0))); clear hw1; obtain ⟨b0, b1, b2, b3, b4, b5⟩ := box_cells h1; have H1 := Lib.hid h1; clear h1)
  have HR0 := Lib.hid (reads_lit w1 .u8 [82, 1, x.k, x.f, x.t] 5 (0, 0) 5 rfl (by decide))
  have hb0 : Below W.heap.size W (w1.alloc (.cells (nums .u8 [82, 1, x.k, x.f, x.t]).toArray 5)) := hb1.alloc hb1.size _
  have c3 := pw_cell_below ((Below.refl w1.heap.size w1).alloc (Nat.le_refl _) (.cells (nums .u8 [82, 1, x.k, x.f, x.t]).toArray 5)) b3
  have c4 := pw_cell_below ((Below.refl w1.heap.size w1).alloc (Nat.le_refl _) (.cells (nums .u8 [82, 1, x.k, x.f, x.t]).toArray 5)) b4
  have c5 := pw_cell_below ((Below.refl w1.heap.size w1).alloc (Nat.le_refl _) (.cells (nums .u8 [82, 1, x.k, x.f, x.t]).toArray 5)) b5
  clear b0 b1 b2 b3 b4 b5
  change Code.wp _ _ _ _ (w1.alloc (.cells (nums .u8 [82, 1, x.k, x.f, x.t]).toArray 5))
  generalize hw2 : w1.alloc (.cells (nums .u8 [82, 1, x.k, x.f, x.t]).toArray 5) = w2 at *
  go_region_held3 (fun w' => w'.cell? ⟨W.heap.size, 3, none⟩ = some (.int .u32 x.v) ∧ w'.cell? ⟨W.heap.size, 4, none⟩ = some (.int .u32 x.s))
    (first | go_keep | (go_split_ands; exact ⟨pw_cell_below hd (by assumption), pw_cell_below hd (by assumption)⟩) | (go_split_ands; exact ⟨pw_cell_below hc (by assumption), pw_cell_below hc (by assumption)⟩))
    (first
      | (go_at_call 47; (with_reducible refine (wU32_walk _ [82, 1, x.k, x.f, x.t] 5 5 x.v _ (rd_drew HR0.out) (by decide) ⟨v1, v2⟩).mono ?_); rintro e w3 ⟨A1, c1, rfl, ho1, hc⟩; have HO1 := Lib.hid ho1; clear ho1; have hb3 := below_then (below_drew hb0) hb0.size hc)
      | (go_at_call 47; refine (wU32_walk _ ([82, 1, x.k, x.f, x.t] ++ bes x.v 4 4) 9 c1 x.s _ (own_info HO1.out).2.2.2.1 (by decide) ⟨s1, s2⟩).mono ?_; rintro e w4 ⟨A2, c2, rfl, ho2, hd⟩; have HO2 := Lib.hid ho2; clear ho2; have hb4 := below_then hb3 hb3.size hd; have d5 := pw_cell_below hd (pw_cell_below hc (pw_cell_below (below_drew (Below.refl _ _)) c5))))
  go_wp2
  clear c3 c4 c5
  have hl : (x.b.length : Int) = (n : Int) := by have := HL.out.1; omega
  go_region_held3 (fun w' => w'.cell? ⟨W.heap.size, 5, none⟩ = some (.slice A n c))
    (first | go_keep | (exact pw_cell_below hb6 (pw_cell_below (below_drew (Below.refl _ _)) d5)) | (exact pw_cell_below hf (pw_cell_below (below_drew (Below.refl _ _)) d5)))
    (first
      | (go_at_call 27; refine (wU16_walk _ ([82, 1, x.k, x.f, x.t] ++ bes x.v 4 4 ++ bes x.s 4 4) 13 c2 n _ (rd_drew (own_info HO2.out).2.2.2.1) (by decide)).mono ?_; rintro e w5 ⟨A3, c3, rfl, ho3, hf⟩; have HO3 := Lib.hid ho3; clear ho3; have hb5 := below_then (below_drew hb4) hb4.size hf)
      | (refine step_app_row (w0 := w4.drew) w4.drew.heap.size (by rfl) _ _ 31 5 .u8 1 (by rfl) Try.underlying31 (by kernel_rfl) (by decide) (.slice A3 15 c3) ([82, 1, x.k, x.f, x.t] ++ bes x.v 4 4 ++ bes x.s 4 4 ++ bes ((n : Int) % 18446744073709551616) 2 2) x.b A n c (by rfl) (by rfl) HO3.out (HL.out.below hb5) hf hf.size (by simp [bes_len]; omega) (15 + n) (by have := HL.out.1; simp [bes_len]; omega) ?_; intro A4 c4 w6 hown4 hb6 _; have HO4 := Lib.hid hown4; clear hown4))
  have hb6' := below_then (below_drew hb4) hb4.size hb6
  have hB2 : [82, 1, x.k, x.f, x.t] ++ bes x.v 4 4 ++ bes x.s 4 4 ++ bes ((n : Int) % 18446744073709551616) 2 2 ++ x.b = frB x := by
    rw [show ((n : Int) % 18446744073709551616) = (n : Int) by omega, ← hl]; rfl
  have HR6 := Lib.hid (show ReadsInt w6 .u8 A4 (15 + n) (frB x) by rw [← hB2]; exact (own_info HO4.out).2.2.2.1)
  have hfin : (frB x ++ bes (moreI 0 (frB x)) 4 4) = enc x := rfl
  have HF := Lib.hid hfin; clear hfin hB2
  have hmr := moreI_rng 0 (frB x)
  go_wp2_with (first
    | (go_at_call 48; refine (of_walk _ (frB x) _ _ _ HR6.out).mono ?_; rintro e w7 ⟨rfl, rfl⟩)
    | (go_at_call 47; refine (wU32_walk _ (frB x) (15 + n) _ (moreI 0 (frB x)) _ HR6.out (by omega) hmr).mono ?_; rintro e w7 ⟨A5, c5, rfl, ho5, hi⟩; have HO5 := Lib.hid ho5; clear ho5))
  go_ret
  refine ⟨A5, c5, by rw [show 19 + n = 15 + n + 4 by omega]; rfl, ?_, below_then hb6' hb6'.size hi⟩
  have := HO5.out
  rw [HF.out, show 15 + n + 4 = 19 + n by omega] at this
  exact own_base_le this hb6'.size
set_option maxHeartbeats 400000 in
theorem encode_bad (k f t v s : Int) (A : Option Addr) (n c : Nat) (hn : n ≤ 140737488351232) (hg : ¬ goodB k f t n) (W : World) :
    Calls Try.prog 30 #[.agg (frC k f t v s (.slice A n c))] W fun e w' => e = .returned (.slice none 0 0) ∧ Below W.heap.size W w' := by
  have hb : ∀ o o' : Obj, Below W.heap.size W ((W.alloc o).alloc o') := fun o o' => ((Below.refl _ _).alloc (Nat.le_refl _) _).alloc ((Below.refl _ _).alloc (Nat.le_refl _) _).size _
  go_enter Try.func30, Try.ntmps30
  go_wp2_with (go_at_call 32; refine (good_walk _ _ _ _ _ _ _ _ hn _).mono ?_; rintro e w1 ⟨rfl, hw1⟩; rw [decide_eq_false hg])
  go_ret
  subst hw1
  exact ⟨rfl, hb _ _⟩
end Go.Proofs.Ytbjjfgfepbklnaa
