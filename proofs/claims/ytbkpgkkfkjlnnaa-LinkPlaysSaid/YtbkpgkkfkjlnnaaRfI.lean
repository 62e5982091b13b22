/- LinkPlays: the program's link and the reference's, side by side. -/
import Derived.Test.YtbkpgkkfkjlnnaaRfH
import Derived.Test.YtbkpgkkfkjlnnaaLinkF
set_option linter.unusedVariables false
set_option linter.unusedSimpArgs false
namespace Go.Proofs.Ytbkpgkkfkjlnnaa.G
open Go.RowKit Go.Proofs.YtbkpgkkfkjlnnaaW.PrintWords Go.Proofs.YtbkpgkkfkjlnnaaW.PrintLast Go.Proofs.Ytbkpgkkfkjlnnaa.K Go.Proofs.Ytbkpgkkfkjlnnaa.Row Go.Proofs.Ytbkpgkkfkjlnnaa

/-- What is held: each number once, all behind the next one, within a window. -/
structure HInv (d : DS) : Prop where
  nd : (d.held.map Dt.s).Nodup
  win : ∀ h ∈ d.held, d.next < h.s ∧ h.s < d.next + 32
theorem nodup_le : ∀ (n : Nat) (L : List Nat), L.Nodup → (∀ x ∈ L, x < n) → L.length ≤ n
  | 0, L, _, h => by
    cases L with
    | nil => exact Nat.le_refl _
    | cons a l => exact absurd (h a (List.mem_cons_self ..)) (Nat.not_lt_zero _)
  | n + 1, L, hn, h => by
    have h1 := nodup_le n (L.erase n) (hn.erase n) (fun x hx => by
      have h2 := (hn.mem_erase_iff).1 hx
      have h3 := h x h2.2
      omega)
    have h4 : L.length ≤ (L.erase n).length + 1 := by
      rw [List.length_erase]; split <;> omega
    omega
theorem HInv.len {d : DS} (h : HInv d) : d.held.length ≤ 31 := by
  have h1 : ((d.held.map Dt.s).map (fun s => (s - d.next - 1).toNat)).Nodup := by
    rw [List.nodup_iff_pairwise_ne, List.pairwise_map]
    have h2 := h.nd
    rw [List.nodup_iff_pairwise_ne] at h2
    refine List.Pairwise.imp_of_mem (fun {a b} ha hb hab e => hab ?_) h2
    obtain ⟨x, hx, rfl⟩ := List.mem_map.1 ha
    obtain ⟨y, hy, rfl⟩ := List.mem_map.1 hb
    have := h.win x hx; have := h.win y hy
    omega
  have h3 := nodup_le 31 _ h1 (fun x hx => by
    obtain ⟨s, hs, rfl⟩ := List.mem_map.1 hx
    obtain ⟨y, hy, rfl⟩ := List.mem_map.1 hs
    have := h.win y hy
    omega)
  simpa using h3
theorem rdyD_inv (m : Nat) (nx B : Int) (held out : List Dt) (hm : held.length ≤ m) (hn : (held.map Dt.s).Nodup) (hw : ∀ h ∈ held, nx ≤ h.s ∧ h.s < B) :
    nx ≤ (rdyD m nx held out).2.1 ∧ ((rdyD m nx held out).2.2.map Dt.s).Nodup ∧ ∀ h ∈ (rdyD m nx held out).2.2, (rdyD m nx held out).2.1 < h.s ∧ h.s < B := by
  induction m generalizing nx held out with
  | zero =>
    obtain rfl : held = [] := List.eq_nil_of_length_eq_zero (by omega)
    exact ⟨Int.le_refl _, hn, fun h hh => by cases hh⟩
  | succ m ih =>
    rw [rdyD]
    cases hx : held[held.findIdx (fun h => h.s == nx)]? with
    | none =>
      refine ⟨Int.le_refl _, hn, fun h hh => ?_⟩
      have h1 := hw h hh
      have h2 : h.s ≠ nx := fun e => by
        have h3 : held.findIdx (fun h => h.s == nx) < held.length := List.findIdx_lt_length_of_exists ⟨h, hh, by simpa using e⟩
        rw [List.getElem?_eq_getElem h3] at hx; cases hx
      exact ⟨show nx < h.s by omega, h1.2⟩
    | some x =>
      have hlt := (List.getElem?_eq_some_iff.1 hx).1
      have hxs : x.s = nx := by
        have h1 := List.findIdx_getElem (xs := held) (p := fun h => h.s == nx) (w := hlt)
        have h2 := (List.getElem?_eq_some_iff.1 hx).2
        rw [h2] at h1; simpa using h1
      have hsub : (held.eraseIdx (held.findIdx (fun h => h.s == nx))).map Dt.s = (held.map Dt.s).eraseIdx (held.findIdx (fun h => h.s == nx)) := erase_map _ _ _
      have hn2 : ((held.eraseIdx (held.findIdx (fun h => h.s == nx))).map Dt.s).Nodup := by rw [hsub]; exact hn.sublist (List.eraseIdx_sublist _ _)
      have hw2 : ∀ h ∈ held.eraseIdx (held.findIdx (fun h => h.s == nx)), nx + 1 ≤ h.s ∧ h.s < B := fun h hh => by
        obtain ⟨j, hj, hje⟩ := List.mem_eraseIdx_iff_getElem.1 hh
        obtain ⟨hj1, hj2⟩ := hje
        have h1 := hw h (List.mem_of_mem_eraseIdx hh)
        have h2 : h.s ≠ nx := fun e => by
          have h3 := (List.pairwise_iff_getElem.1 (List.nodup_iff_pairwise_ne.1 hn))
          rcases Nat.lt_or_gt_of_ne hj1 with h4 | h4
          · have h5 := h3 j (held.findIdx (fun h => h.s == nx)) (by simpa using hj) (by simpa using hlt) h4
            simp only [List.getElem_map] at h5
            rw [(List.getElem?_eq_some_iff.1 hx).2, hj2, e, hxs] at h5
            exact h5 rfl
          · have h5 := h3 (held.findIdx (fun h => h.s == nx)) j (by simpa using hlt) (by simpa using hj) h4
            simp only [List.getElem_map] at h5
            rw [(List.getElem?_eq_some_iff.1 hx).2, hj2, e, hxs] at h5
            exact h5 rfl
        exact ⟨by omega, h1.2⟩
      have h6 := ih (nx + 1) (held.eraseIdx (held.findIdx (fun h => h.s == nx))) (out ++ [x]) (by rw [List.length_eraseIdx_of_lt hlt]; omega) hn2 hw2
      exact ⟨Int.le_trans (by omega) h6.1, h6.2⟩
theorem HInv.get {d : DS} (h : HInv d) (m : Dt) : HInv (dGet d m).2 := by
  unfold dGet
  repeat' split
  all_goals first
    | exact h
    | skip
  · exact ⟨h.nd, h.win⟩
  · rename_i h1 h2 h3 h4 h5 h6
    have hno : ∀ x ∈ d.held, x.s ≠ m.s := fun x hx e => h5 (.inr (by unfold hasD; rw [List.any_eq_true]; exact ⟨x, hx, by simpa using e⟩))
    have hlt : ¬ m.s < d.next := fun h' => h5 (.inl h')
    have h7 := rdyD_inv (d.held.length + 1) d.next (d.next + 32) (d.held ++ [m]) [] (by simp) (by
      rw [List.map_append, List.nodup_append]
      refine ⟨h.nd, by simp, fun a ha b hb e => ?_⟩
      obtain ⟨x, hx, rfl⟩ := List.mem_map.1 ha
      simp at hb
      exact hno x hx (e.trans hb)) (fun x hx => by
      rcases List.mem_append.1 hx with hx | hx
      · have := h.win x hx; omega
      · obtain rfl := List.mem_singleton.1 hx; omega)
    refine ⟨h7.2.1, fun x hx => ?_⟩
    have h8 := h7.2.2 x hx
    have h9 := h7.1
    exact ⟨h8.1, by dsimp only; omega⟩
theorem HInv.push {d : DS} (h : HInv d) (m : Dt) : HInv (dPush d m).2 := by
  unfold dPush; split
  · exact h
  · exact ⟨h.nd, h.win⟩
theorem HInv.tick {d : DS} (h : HInv d) (t : Int) : HInv (dTick d t).2 := ⟨h.nd, h.win⟩
theorem reads_lt {W : World} {A : Option Addr} {n : Nat} {xs : List Int} (hr : ReadsInt W .i64 A n xs) (h0 : 0 < n) {ad : Addr} (hA : A = some ad) : ad.block < W.heap.size := by
  obtain ⟨_, _, h3⟩ := hr
  obtain ⟨ad', e, hc⟩ := h3 h0
  rw [hA] at e; injection e with e
  subst e
  have := World.block_lt_of_cell? W _ (hc 0 h0)
  rw [add_block] at this; exact this
theorem wides_lt {W : World} {A : Option Addr} {n : Nat} {ys : List (Int × Int)} (hr : WidesAt W A n ys) (h0 : 0 < n) {ad : Addr} (hA : A = some ad) : ad.block < W.heap.size := by
  obtain ⟨ad', e, hc, _⟩ := hr.2.2 0 h0
  rw [hA] at e; injection e with e
  subst e
  have := World.block_lt_of_cell? W _ hc
  rw [add_block] at this; exact this
/-- The reference's Get, whatever the message. -/
theorem rget_any (w : World) (S U : Nat → Prop) (r : Nat) (x : DS) (k f t v s : Int) (A B : Option Addr) (n c m d : Nat) (xs : List Int) (ys : List (Int × Int)) (h : RefG w S U r x) {N : Nat} (hi : Inv x N) (hN : N ≤ 800) (hsr : 0 ≤ s ∧ s < 4294967296) (hr : ∀ wx, Chg S w wx → MsR wx A n c xs B m d ys) (hua : 0 < n → ∀ ad, A = some ad → U ad.block) (hub : 0 < m → ∀ ad, B = some ad → U ad.block) :
    Calls Try.prog 21 #[.pointer (some ⟨r, 0, none⟩), .agg (msC k f t v s (.slice A n c) (.slice B m d))] w fun e w' => RGetR w w' S U r x ⟨k, f, t, v, s, xs, ys⟩ e := by
  have hpu := hi.pushed
  have hto := hi.told
  have hnx := hi.next
  have hr0 := hr w (Chg.refl _ _)
  by_cases h1 : ¬ (f = x.peer ∧ t = x.own)
  · exact rget_arg w S U r x k f t v s A B n c m d xs ys h h1
  obtain ⟨hf, ht⟩ := Classical.not_not.1 h1
  by_cases h2 : v = x.view
  · by_cases h3 : k = 1
    · by_cases h4 : cfB s x.told xs m = true
      · exact rget_ack w S U r x k f t v s A B n c m d xs ys h hi (by omega) hr hr0.wd.1 hf ht h2 h3 h4
      · exact rget_ack_no w S U r x k f t v s A B n c m d xs ys h hr0.rd hr0.wd.1 ⟨hto.1, by omega⟩ hf ht h2 h3 (by simpa using h4)
    by_cases h4 : s = 0
    · exact rget_zero w S U r x k f t v s A B n c m d xs ys h hf ht h2 h3 h4
    by_cases h5 : s < x.next
    · exact rget_low w S U r x k f t v s A B n c m d xs ys h ⟨hnx.1, by omega⟩ hf ht h2 h3 h4 h5
    by_cases h6 : hasD x.held s = true
    · exact rget_seen w S U r x k f t v s A B n c m d xs ys h ⟨hnx.1, by omega⟩ hf ht h2 h3 h4 (by omega) h5 h6
    by_cases h7 : 32 ≤ s - x.next
    · exact rget_far w S U r x k f t v s A B n c m d xs ys h ⟨hnx.1, by omega⟩ hf ht h2 h3 h4 hsr (by omega) h5 h6 h7
    · exact rget_take w S U r x k f t v s A B n c m d xs ys h ⟨hnx.1, by omega⟩ hf ht h2 h3 h4 hsr (by omega) (by omega) hr hua hub h5 h6 h7
  · exact rget_old w S U r x k f t v s A B n c m d xs ys h hf ht h2
/-- A told row of the program's that lies in T. -/
def RowT (w : World) (T : Nat → Prop) (V : Value) (D : List Dt) : Prop := ∃ A c L, V = .slice A D.length c ∧ Rws w T A c L ∧ L.map Hd.dt = D
theorem RowT.cap {w : World} {T : Nat → Prop} {V : Value} {D : List Dt} (h : RowT w T V D) : RowT w (fun b => T b ∧ b < w.heap.size) V D := by
  obtain ⟨A, c, L, h0, h1, h2⟩ := h
  exact ⟨A, c, L, h0, ⟨⟨h1.o.1, fun b hb => ⟨h1.o.2 b hb, h1.o.lt b hb⟩⟩, fun x hx => ⟨⟨(h1.b x hx).n.1, fun b hb => ⟨(h1.b x hx).n.2 b hb, (h1.b x hx).n.lt b hb⟩⟩, ⟨(h1.b x hx).w.1, fun b hb => ⟨(h1.b x hx).w.2 b hb, (h1.b x hx).w.lt b hb⟩⟩⟩⟩, h2⟩
theorem RowT.chg {w w' : World} {T X : Nat → Prop} {V : Value} {D : List Dt} (h : RowT w T V D) (hc : Chg X w w') (hn : ∀ b, T b → ¬ X b) : RowT w' T V D := by
  obtain ⟨A, c, L, h0, h1, h2⟩ := h
  exact ⟨A, c, L, h0, h1.chg hc hn, h2⟩
theorem RowT.rowC {w : World} {T : Nat → Prop} {V : Value} {D : List Dt} (h : RowT w T V D) : RowC w V D := by
  obtain ⟨A, c, L, rfl, h1, rfl⟩ := h
  have ho := h1.o.1
  rw [List.length_map]
  exact ⟨A, c, L, by rw [List.length_map], rfl, fun i x hx => ⟨row7' ho hx, own_ints (h1.b x (List.mem_of_getElem? hx)).n.1, (own_wides (h1.b x (List.mem_of_getElem? hx)).w.1).1⟩⟩
/-- Both links behind W, apart; blocks Qs beside them; rows Rs that the program's has told. -/
structure PlyX (W w : World) (rk rr : Nat) (dk dr : DS) (N : Nat) (Qs : List (Nat × Obj)) (Rs : List (Value × List Dt)) : Prop where
  ex : ∃ xk Sk S U, LkG w Sk rk xk ∧ xk.ds = dk ∧ RefG w S U rr dr ∧ (∀ b, Sk b → ¬ S b ∧ ¬ U b ∧ W.heap.size ≤ b) ∧ (∀ b, S b → W.heap.size ≤ b) ∧ (∀ b, b < W.heap.size → U b) ∧ (∀ p ∈ Qs, ¬ Sk p.1 ∧ ¬ S p.1 ∧ ¬ U p.1 ∧ W.heap.size ≤ p.1) ∧ (∀ p ∈ Rs, ∃ T, RowT w T p.1 p.2 ∧ ∀ b, T b → ¬ S b ∧ b < w.heap.size)
  ik : Inv dk N
  ir : Inv dr N
  hq : ∀ p ∈ Qs, w.heap[p.1]? = some p.2
  B : Below W.heap.size W w
theorem PlyX.below {W w w' : World} {rk rr N : Nat} {dk dr : DS} {Qs : List (Nat × Obj)} {Rs : List (Value × List Dt)} (h : PlyX W w rk rr dk dr N Qs Rs) (hb : Below w.heap.size w w') : PlyX W w' rk rr dk dr N Qs Rs := by
  obtain ⟨xk, Sk, S, U, h1, h2, h3, h4, h5, h6, h7, h8⟩ := h.ex
  exact ⟨⟨xk, Sk, S, U, h1.below hb, h2, h3.below hb, h4, h5, h6, h7, fun p hp => by
    obtain ⟨T, g1, g2⟩ := h8 p hp
    exact ⟨T, g1.chg (X := fun _ => False) (Chg.ofBelow hb) (fun _ _ h => h), fun b hb' => ⟨(g2 b hb').1, Nat.lt_of_lt_of_le (g2 b hb').2 hb.size⟩⟩⟩, h.ik, h.ir, fun p hp => heap_keep hb (h.hq p hp), below_then h.B h.B.size hb⟩
theorem PlyX.more {W w : World} {rk rr N M : Nat} {dk dr : DS} {Qs : List (Nat × Obj)} {Rs : List (Value × List Dt)} (h : PlyX W w rk rr dk dr N Qs Rs) (hm : N ≤ M) : PlyX W w rk rr dk dr M Qs Rs := ⟨h.ex, h.ik.more hm, h.ir.more hm, h.hq, h.B⟩
theorem PlyX.drop {W w : World} {rk rr N : Nat} {dk dr : DS} {Qs : List (Nat × Obj)} {Rs : List (Value × List Dt)} (h : PlyX W w rk rr dk dr N Qs Rs) : PlyX W w rk rr dk dr N [] [] := by
  obtain ⟨xk, Sk, S, U, h1, h2, h3, h4, h5, h6, h7, h8⟩ := h.ex
  exact ⟨⟨xk, Sk, S, U, h1, h2, h3, h4, h5, h6, (fun p hp => by cases hp), (fun p hp => by cases hp)⟩, h.ik, h.ir, (fun p hp => by cases hp), h.B⟩
theorem PlyX.box {W w : World} {rk rr N : Nat} {dk dr : DS} {Qs : List (Nat × Obj)} {o : Obj} (h : PlyX W w rk rr dk dr N Qs []) : PlyX W (w.alloc o) rk rr dk dr N ((w.heap.size, o) :: Qs) [] := by
  have hb := alloc_back (W := w) o
  have hw := h.below hb
  obtain ⟨xk, Sk, S, U, h1, h2, h3, h4, h5, h6, h7, h8⟩ := h.ex
  refine ⟨⟨xk, Sk, S, U, h1.below hb, h2, h3.below hb, h4, h5, h6, fun p hp => ?_, (fun p hp => by cases hp)⟩, h.ik, h.ir, fun p hp => ?_, hw.B⟩
  · rcases List.mem_cons.1 hp with e | hp
    · subst e; exact ⟨fun hs => by have := h1.inn _ hs; simp at this, fun hs => by have := h3.inn _ hs; simp at this, fun hs => by have := h3.inU _ hs; simp at this, h.B.size⟩
    · exact h7 p hp
  · rcases List.mem_cons.1 hp with e | hp
    · subst e; exact heap_alloc_new _ _
    · exact heap_keep hb (h.hq p hp)
/-- A store to the first of the blocks beside them. -/
theorem PlyX.set {W w w' : World} {rk rr N q : Nat} {dk dr : DS} {o o' : Obj} {Qs : List (Nat × Obj)} (h : PlyX W w rk rr dk dr N ((q, o) :: Qs) []) (hne : ∀ p ∈ Qs, p.1 ≠ q) (hg : w.grownBy w' (some q)) (ho : w'.heap[q]? = some o') : PlyX W w' rk rr dk dr N ((q, o') :: Qs) [] := by
  obtain ⟨xk, Sk, S, U, h1, h2, h3, h4, h5, h6, h7, h8⟩ := h.ex
  have hc : Chg (fun b => b = q) w w' := Chg.ofGrown hg (fun k e => by injection e with e; exact e.symm)
  have hq7 := h7 _ (List.mem_cons_self ..)
  refine ⟨⟨xk, Sk, S, U, h1.chg hc (fun b hb e => hq7.1 (e ▸ hb)), h2, h3.chg hc (fun b hb e => hq7.2.1 (e ▸ hb)) (fun b hb e => hq7.2.2.1 (e ▸ hb)), h4, h5, h6, fun p hp => ?_, (fun p hp => by cases hp)⟩, h.ik, h.ir, fun p hp => ?_, hc.on h.B h.B.size (fun k e => by rw [e]; exact hq7.2.2.2)⟩
  · rcases List.mem_cons.1 hp with e | hp
    · subst e; exact hq7
    · exact h7 p (List.mem_cons_of_mem _ hp)
  · rcases List.mem_cons.1 hp with e | hp
    · subst e; exact ho
    · exact hc.keep (h.hq p (List.mem_cons_of_mem _ hp)) (hne p hp)
theorem ply_k {W w w' : World} {rk rr N M : Nat} {dk' dr : DS} {Qs : List (Nat × Obj)} {Rs' : List (Value × List Dt)} {xk xk' : LSt} {Sk Sk' S U : Nat → Prop} (h1 : LkG w Sk rk xk) (h3 : RefG w S U rr dr) (h4 : ∀ b, Sk b → ¬ S b ∧ ¬ U b ∧ W.heap.size ≤ b) (h5 : ∀ b, S b → W.heap.size ≤ b) (h6 : ∀ b, b < W.heap.size → U b) (h7 : ∀ p ∈ Qs, ¬ Sk p.1 ∧ ¬ S p.1 ∧ ¬ U p.1 ∧ W.heap.size ≤ p.1)
    (hG : LkG w' Sk' rk xk') (hd : xk'.ds = dk') (hs : Stp w w' Sk Sk') (hi : Inv dk' M) (hm : N ≤ M) (ir : Inv dr N) (hq : ∀ p ∈ Qs, w.heap[p.1]? = some p.2) (B : Below W.heap.size W w) (hR : ∀ p ∈ Rs', RowT w' (fun b => Sk' b ∨ w.heap.size ≤ b) p.1 p.2) : PlyX W w' rk rr dk' dr M Qs Rs' := by
  have hSk : ∀ b, Sk' b → ¬ S b ∧ ¬ U b ∧ W.heap.size ≤ b := fun b hb => by
    rcases hs.inc b hb with h | h
    · exact h4 b h
    · exact ⟨fun h' => by have := h3.inn b h'; omega, fun h' => by have := h3.inU b h'; omega, Nat.le_trans B.size h⟩
  refine ⟨⟨xk', Sk', S, U, hG, hd, h3.chg hs.chg (fun b hb hk => (h4 b hk).1 hb) (fun b hb hk => (h4 b hk).2.1 hb), hSk, h5, h6, fun p hp => ⟨fun hk => ?_, (h7 p hp).2⟩, fun p hp => ⟨_, (hR p hp).cap, fun b hb => ⟨?_, hb.2⟩⟩⟩, hi, ir.more hm, fun p hp => hs.chg.keep (hq p hp) (h7 p hp).1, hs.chg.on B B.size (fun k hk => (h4 k hk).2.2)⟩
  · rcases hs.inc _ hk with h | h
    · exact (h7 p hp).1 h
    · have := lt_of_heap (hq p hp); omega
  · rcases hb.1 with h | h
    · exact (hSk b h).1
    · exact fun h' => by have := h3.inn b h'; omega
theorem ply_r {W w w' : World} {rk rr N M : Nat} {dk dr' : DS} {Qs : List (Nat × Obj)} {Rs : List (Value × List Dt)} {xk : LSt} {Sk S U S' U' : Nat → Prop} (h1 : LkG w Sk rk xk) (h2 : xk.ds = dk) (h4 : ∀ b, Sk b → ¬ S b ∧ ¬ U b ∧ W.heap.size ≤ b) (h5 : ∀ b, S b → W.heap.size ≤ b) (h7 : ∀ p ∈ Qs, ¬ Sk p.1 ∧ ¬ S p.1 ∧ ¬ U p.1 ∧ W.heap.size ≤ p.1) (h8 : ∀ p ∈ Rs, ∃ T, RowT w T p.1 p.2 ∧ ∀ b, T b → ¬ S b ∧ b < w.heap.size)
    (hG : RefG w' S' U' rr dr') (hs : StpU w w' S U S' U') (hi : Inv dr' M) (hm : N ≤ M) (ik : Inv dk N) (hq : ∀ p ∈ Qs, w.heap[p.1]? = some p.2) (B : Below W.heap.size W w) : PlyX W w' rk rr dk dr' M Qs [] ∧ ∀ p ∈ Rs, RowC w' p.1 p.2 := by
  have hS' : ∀ b, S' b → W.heap.size ≤ b := fun b hb => (hs.inc b hb).elim (h5 b) (fun h => Nat.le_trans B.size h)
  have hG2 : RefG w' S' (fun b => U' b ∨ b < W.heap.size) rr dr' := by
    obtain ⟨V, B', c, O, H, hc⟩ := hG.cl
    exact ⟨hG.inn, fun b hb => hb.elim (hG.inU b) (fun h => Nat.lt_of_lt_of_le h (Nat.le_trans B.size hs.chg.size)), fun b hb hu => hu.elim (hG.sep b hb) (fun h => by have := hS' b hb; omega), hG.hr, ⟨V, B', c, O, H, ⟨hc.blk, hc.q, hc.qs, hc.h, hc.eo, hc.eh, fun p hp => (hc.bo p hp).mono (fun b hb => .inl hb), fun p hp => (hc.bh p hp).mono (fun b hb => .inl hb)⟩⟩⟩
  refine ⟨⟨⟨xk, Sk, S', _, h1.chg hs.chg (fun b hb hk => (h4 b hb).1 hk), h2, hG2, fun b hb => ⟨fun h => ?_, fun h => ?_, (h4 b hb).2.2⟩, hS', fun b hb => .inr hb, fun p hp => ⟨(h7 p hp).1, fun hk => ?_, fun hk => ?_, (h7 p hp).2.2.2⟩, (fun p hp => by cases hp)⟩, ik.more hm, hi, fun p hp => hs.chg.keep (hq p hp) (h7 p hp).2.1, hs.chg.on B B.size h5⟩, fun p hp => ?_⟩
  · rcases hs.inc b h with h | h
    · exact (h4 b hb).1 h
    · have := h1.inn b hb; omega
  · rcases h with h | h
    · rcases hs.incU b h with h | h
      · exact (h4 b hb).2.1 h
      · have := h1.inn b hb; omega
    · have := (h4 b hb).2.2; omega
  · rcases hs.inc _ hk with h | h
    · exact (h7 p hp).2.1 h
    · have := lt_of_heap (hq p hp); omega
  · rcases hk with hk | hk
    · rcases hs.incU _ hk with h | h
      · exact (h7 p hp).2.2.1 h
      · have := lt_of_heap (hq p hp); omega
    · have := (h7 p hp).2.2.2; omega
  · obtain ⟨T, g1, g2⟩ := h8 p hp
    exact (g1.chg hs.chg (fun b hb => (g2 b hb).1)).rowC
section
variable {W w : World} {rk rr N : Nat} {dk dr : DS} {Qs : List (Nat × Obj)} {Rs : List (Value × List Dt)}
theorem PlyX.kpush (h : PlyX W w rk rr dk dr N Qs []) (k f t v s : Int) (A B : Option Addr) (n c m d : Nat) (xs : List Int) (ys : List (Int × Int)) (hN : N ≤ 700) (hr : MsR W A n c xs B m d ys) (hn : n ≤ 10) (hm : m ≤ 10) :
    Calls Try.prog 10 #[.pointer (some ⟨rk, 0, none⟩), .agg (msC k f t v s (.slice A n c) (.slice B m d))] w fun e w' => e = .returned (.int .i64 (dPush dk ⟨k, f, t, v, s, xs, ys⟩).1) ∧ PlyX W w' rk rr (dPush dk ⟨k, f, t, v, s, xs, ys⟩).2 dr (N + 1) Qs [] := by
  obtain ⟨xk, Sk, S, U, h1, rfl, h3, h4, h5, h6, h7, h8⟩ := h.ex
  have hb := hr.below h.B
  refine (push_any w Sk rk xk k f t v s A B n c m d xs ys h1 h.ik (by omega) hb.rd hb.wd hr.az hr.bz (by omega) (by omega)).mono ?_
  rintro e w' ⟨Sk', xk', rfl, hd, hG, hs⟩
  exact ⟨rfl, ply_k h1 h3 h4 h5 h6 h7 hG hd hs (h.ik.push _ (by rw [hr.rd.1]; omega) (by rw [hr.wd.1]; omega)) (Nat.le_succ _) h.ir h.hq h.B (fun p hp => by cases hp)⟩
theorem PlyX.ktick (h : PlyX W w rk rr dk dr N Qs []) (t : Int) (hN : N ≤ 700) (ht : -9223372036854775808 ≤ t ∧ t ≤ 9223372036854775807) :
    Calls Try.prog 11 #[.pointer (some ⟨rk, 0, none⟩), .int .i64 t] w fun e w' => ∃ V, e = .returned V ∧ PlyX W w' rk rr (dTick dk t).2 dr (N + 1) Qs [(V, (dTick dk t).1)] := by
  obtain ⟨xk, Sk, S, U, h1, rfl, h3, h4, h5, h6, h7, h8⟩ := h.ex
  refine (tick_all w Sk rk xk h1 h.ik (by omega) t ht).mono ?_
  rintro e w' ⟨Sk', xk', V, rfl, hV, hd, hG, hs⟩
  exact ⟨V, rfl, ply_k h1 h3 h4 h5 h6 h7 hG hd hs (h.ik.tick t ht.2) (Nat.le_succ _) h.ir h.hq h.B (fun p hp => by obtain rfl := List.mem_singleton.1 hp; exact hV.row)⟩
theorem PlyX.kget (h : PlyX W w rk rr dk dr N Qs []) (k f t v s : Int) (A B : Option Addr) (n c m d : Nat) (xs : List Int) (ys : List (Int × Int)) (hN : N ≤ 700) (hr : MsR W A n c xs B m d ys) (hn : n ≤ 10) (hm : m ≤ 10) (hs0 : 0 ≤ s ∧ s < 4294967296) :
    Calls Try.prog 13 #[.pointer (some ⟨rk, 0, none⟩), .agg (msC k f t v s (.slice A n c) (.slice B m d))] w fun e w' => ∃ V1 V2, e = .returned (.tuple #[V1, V2, .int .i64 (dGet dk ⟨k, f, t, v, s, xs, ys⟩).1.2.2]) ∧ PlyX W w' rk rr (dGet dk ⟨k, f, t, v, s, xs, ys⟩).2 dr (N + 1) Qs [(V1, (dGet dk ⟨k, f, t, v, s, xs, ys⟩).1.1), (V2, (dGet dk ⟨k, f, t, v, s, xs, ys⟩).1.2.1)] := by
  obtain ⟨xk, Sk, S, U, h1, rfl, h3, h4, h5, h6, h7, h8⟩ := h.ex
  have hb := hr.below h.B
  refine (get_any w Sk rk xk k f t v s A B n c m d xs ys h1 h.ik (by omega) hb.rd hb.wd hr.az hr.bz (by omega) (by omega) hs0 (fun ad hA hn1 hS => by have := reads_lt hr.rd (by omega) hA; have := (h4 _ hS).2.2; omega)).mono ?_
  rintro e w' ⟨Sk', xk', V1, V2, rfl, g1, g2, hd, hG, hs⟩
  exact ⟨V1, V2, rfl, ply_k h1 h3 h4 h5 h6 h7 hG hd hs (h.ik.get _) (Nat.le_succ _) h.ir h.hq h.B (fun p hp => by
    rcases List.mem_cons.1 hp with e | hp
    · subst e; exact g1
    · obtain rfl := List.mem_singleton.1 hp; exact g2.row)⟩
theorem PlyX.rpush (h : PlyX W w rk rr dk dr N Qs []) (k f t v s : Int) (A B : Option Addr) (n c m d : Nat) (xs : List Int) (ys : List (Int × Int)) (hN : N ≤ 700) (hr : MsR W A n c xs B m d ys) (hn : n ≤ 10) (hm : m ≤ 10) :
    Calls Try.prog 17 #[.pointer (some ⟨rr, 0, none⟩), .agg (msC k f t v s (.slice A n c) (.slice B m d))] w fun e w' => e = .returned (.int .i64 (dPush dr ⟨k, f, t, v, s, xs, ys⟩).1) ∧ PlyX W w' rk rr dk (dPush dr ⟨k, f, t, v, s, xs, ys⟩).2 (N + 1) Qs [] := by
  obtain ⟨xk, Sk, S, U, h1, h2, h3, h4, h5, h6, h7, h8⟩ := h.ex
  refine (G.rpush w S U rr dr k f t v s A B n c m d xs ys h3 h.ir (by omega) (fun wx hc => hr.below (hc.on h.B h.B.size h5)) (by omega) (by omega)).mono ?_
  rintro e w' ⟨S', U', rfl, hG, hs⟩
  exact ⟨rfl, (ply_r h1 h2 h4 h5 h7 h8 hG hs (h.ir.push _ (by rw [hr.rd.1]; omega) (by rw [hr.wd.1]; omega)) (Nat.le_succ _) h.ik h.hq h.B).1⟩
theorem PlyX.rtick (h : PlyX W w rk rr dk dr N Qs Rs) (t : Int) (hN : N ≤ 700) (ht : -9223372036854775808 ≤ t ∧ t ≤ 9223372036854775807) :
    Calls Try.prog 20 #[.pointer (some ⟨rr, 0, none⟩), .int .i64 t] w fun e w' => ∃ V, e = .returned V ∧ RowC w' V (dTick dr t).1 ∧ PlyX W w' rk rr dk (dTick dr t).2 (N + 1) Qs [] ∧ ∀ p ∈ Rs, RowC w' p.1 p.2 := by
  obtain ⟨xk, Sk, S, U, h1, h2, h3, h4, h5, h6, h7, h8⟩ := h.ex
  refine (G.rtick w S U rr dr t h3 h.ir (by omega) ht).mono ?_
  rintro e w' ⟨V, S', U', rfl, hV, hG, hs⟩
  exact ⟨V, rfl, hV, ply_r h1 h2 h4 h5 h7 h8 hG hs (h.ir.tick t ht.2) (Nat.le_succ _) h.ik h.hq h.B⟩
theorem PlyX.rget (h : PlyX W w rk rr dk dr N Qs Rs) (k f t v s : Int) (A B : Option Addr) (n c m d : Nat) (xs : List Int) (ys : List (Int × Int)) (hN : N ≤ 700) (hr : MsR W A n c xs B m d ys) (hs0 : 0 ≤ s ∧ s < 4294967296) :
    Calls Try.prog 21 #[.pointer (some ⟨rr, 0, none⟩), .agg (msC k f t v s (.slice A n c) (.slice B m d))] w fun e w' => ∃ V1 V2, e = .returned (.tuple #[V1, V2, .int .i64 (dGet dr ⟨k, f, t, v, s, xs, ys⟩).1.2.2]) ∧ RowC w' V1 (dGet dr ⟨k, f, t, v, s, xs, ys⟩).1.1 ∧ RowC w' V2 (dGet dr ⟨k, f, t, v, s, xs, ys⟩).1.2.1 ∧ PlyX W w' rk rr dk (dGet dr ⟨k, f, t, v, s, xs, ys⟩).2 (N + 1) Qs [] ∧ ∀ p ∈ Rs, RowC w' p.1 p.2 := by
  obtain ⟨xk, Sk, S, U, h1, h2, h3, h4, h5, h6, h7, h8⟩ := h.ex
  refine (rget_any w S U rr dr k f t v s A B n c m d xs ys h3 h.ir (by omega) hs0 (fun wx hc => hr.below (hc.on h.B h.B.size h5)) (fun h0 ad hA => h6 _ (reads_lt hr.rd h0 hA)) (fun h0 ad hA => h6 _ (wides_lt hr.wd h0 hA))).mono ?_
  rintro e w' ⟨V1, V2, S', U', rfl, g1, g2, hG, hs⟩
  exact ⟨V1, V2, rfl, g1, g2, ply_r h1 h2 h4 h5 h7 h8 hG hs (h.ir.get _) (Nat.le_succ _) h.ik h.hq h.B⟩
theorem PlyX.counts (h : PlyX W w rk rr dk dr N Qs Rs) (hN : N ≤ 700) :
    Calls Try.prog 12 #[.pointer (some ⟨rk, 0, none⟩)] w (fun e w' => e = .returned (.int .i64 (dk.out.length : Int)) ∧ w = w') ∧ Calls Try.prog 14 #[.pointer (some ⟨rk, 0, none⟩)] w (fun e w' => e = .returned (.int .i64 (dk.held.length : Int)) ∧ w = w') ∧ Calls Try.prog 15 #[.pointer (some ⟨rk, 0, none⟩)] w (fun e w' => e = .returned (.int .u32 dk.next) ∧ w = w') ∧
    Calls Try.prog 22 #[.pointer (some ⟨rr, 0, none⟩)] w (fun e w' => e = .returned (.int .i64 (dr.out.length : Int)) ∧ w = w') ∧ Calls Try.prog 23 #[.pointer (some ⟨rr, 0, none⟩)] w (fun e w' => e = .returned (.int .i64 (dr.held.length : Int)) ∧ w = w') ∧ Calls Try.prog 24 #[.pointer (some ⟨rr, 0, none⟩)] w (fun e w' => e = .returned (.int .u32 dr.next) ∧ w = w') := by
  obtain ⟨xk, Sk, S, U, h1, rfl, h3, h4, h5, h6, h7, h8⟩ := h.ex
  have a1 := waiting_any h1
  have a2 := ahead_any h1
  have hn := h.ir.next
  exact ⟨by simpa [LSt.ds] using a1, by simpa [LSt.ds] using a2, next_any h1, rwaiting h3, rahead h3, rnext h3 ⟨hn.1, by omega⟩⟩
end
end Go.Proofs.Ytbkpgkkfkjlnnaa.G
