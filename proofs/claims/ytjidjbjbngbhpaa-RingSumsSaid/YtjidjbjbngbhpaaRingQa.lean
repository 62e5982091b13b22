/- A row that is appended to at its end and cut at its front: where it lies, append, a cut. -/
import Derived.Test.YtjidjbjbngbhpaaRingU
import Derived.Deep.AppendSrc
set_option linter.unusedVariables false
set_option linter.unusedSimpArgs false
namespace Go.Proofs.Ytjidjbjbngbhpaa
open Go.RowKit Go.Proofs.YtjidjbjbngbhpaaW.PrintWords Go.Proofs.Ytjidjbjbngbhpaa.K

/-- A row of n elements of three cells, somewhere in a block of one's own. -/
def QRow (w : World) (base : Nat) (e : TypeId) (v : Value) (n : Nat) (xs : List Value) : Prop :=
  xs.length = n * 3 ∧ ((v = .slice none 0 0 ∧ n = 0) ∨ ∃ g off cap cur, v = .slice (some ⟨g, off, none⟩) n cap ∧ base ≤ g ∧ w.heap[g]? = some (.cells cur e (0, 0)) ∧ n ≤ cap ∧ cap ≤ maxLen ∧ off + cap * 3 ≤ cur.size ∧ (cur.toList.drop off).take (n * 3) = xs)
theorem QRow.nil (w : World) (base : Nat) (e : TypeId) : QRow w base e (.slice none 0 0) 0 [] := ⟨rfl, .inl ⟨rfl, rfl⟩⟩
theorem QRow.shape {w : World} {base n : Nat} {e : TypeId} {v : Value} {xs : List Value} (h : QRow w base e v n xs) : ∃ A c, v = .slice A n c := by
  rcases h.2 with ⟨h1, h2⟩ | ⟨g, off, cap, cur, h1, _⟩
  · exact ⟨none, 0, by rw [h1, h2]⟩
  · exact ⟨_, _, h1⟩
theorem QRow.move {w w' : World} {base n : Nat} {e : TypeId} {v : Value} {xs : List Value} (h : QRow w base e v n xs) (hm : ∀ k, v.ownBlock = some k → w'.heap[k]? = w.heap[k]?) : QRow w' base e v n xs := by
  refine ⟨h.1, ?_⟩
  rcases h.2 with h1 | ⟨g, off, cap, cur, h1, h2, h3, h4⟩
  · exact .inl h1
  · exact .inr ⟨g, off, cap, cur, h1, h2, (hm g (by rw [h1]; rfl)).trans h3, h4⟩
theorem QRow.block {w : World} {base n : Nat} {e : TypeId} {v : Value} {xs : List Value} (h : QRow w base e v n xs) {k : Nat} (hk : v.ownBlock = some k) : base ≤ k ∧ k < w.heap.size ∧ ∃ cur, w.heap[k]? = some (.cells cur e (0, 0)) := by
  rcases h.2 with ⟨h1, _⟩ | ⟨g, off, cap, cur, h1, h2, h3, _⟩
  · rw [h1] at hk; cases hk
  · rw [h1] at hk
    injection hk with hk
    subst hk
    exact ⟨h2, lt_of_heap h3, cur, h3⟩
theorem QRow.below {w w' : World} {base n : Nat} {e : TypeId} {v : Value} {xs : List Value} (h : QRow w base e v n xs) (hb : Below w.heap.size w w') : QRow w' base e v n xs :=
  h.move fun k hk => hb.block k (h.block hk).2.1
theorem QRow.at {w : World} {base n : Nat} {e : TypeId} {v : Value} {xs : List Value} (h : QRow w base e v n xs) {j : Nat} {u : Value} (hu : xs[j]? = some u) : ∃ g off cap, v = .slice (some ⟨g, off, none⟩) n cap ∧ w.cell? ⟨g, off + j, none⟩ = some u := by
  rcases h.2 with ⟨h1, h2⟩ | ⟨g, off, cap, cur, h1, h2, h3, h4, h5, h6, h7⟩
  · have := h.1
    rw [h2] at this
    have hx : xs = [] := List.eq_nil_of_length_eq_zero (by omega)
    rw [hx] at hu
    cases hu
  · refine ⟨g, off, cap, h1, ?_⟩
    rw [blk_cell h3]
    rw [← h7, List.getElem?_take] at hu
    split at hu
    · rw [List.getElem?_drop] at hu
      simpa using hu
    · cases hu
/-- v[1:] -/
theorem QRow.cut {P : Program} {w : World} {base n : Nat} {e t : TypeId} {v : Value} {x y z : Value} {xs : List Value} (h : QRow w base e v (n + 1) (x :: y :: z :: xs)) (ht : P.underlying t = some (.slice e)) {i : TypeInfo} (hi : P.info? e = some i) (hsz : i.size = 3) :
    ∃ v', (∀ W : World, (Instr.slice t v (some (.int .i64 1)) none none).run P W = .ok v' W) ∧ QRow w base e v' n xs ∧ v'.ownBlock = v.ownBlock := by
  rcases h.2 with ⟨h1, h2⟩ | ⟨g, off, cap, cur, h1, h2, h3, h4, h5, h6, h7⟩
  · omega
  · subst h1
    have hel : P.elem t = e := by simp [Program.elem, ht]
    have hu : P.underlying t = some (.slice (P.elem t)) := by rw [hel]; exact ht
    have hrun : ∀ W : World, (Instr.slice t (.slice (some ⟨g, off, none⟩) (n + 1) cap) (some (.int .i64 1)) none none).run P W = .ok (.slice (if cap = 1 then some ⟨g, off, none⟩ else some (Addr.add ⟨g, off, none⟩ 3)) n (cap - 1)) W := fun W => by
      rw [run_slice_l W t (some ⟨g, off, none⟩) (n + 1) cap hu .i64 1 (by decide) (by omega), hel]
      simp [sizeOf, typeInfo, hi, hsz, sliced, Result.andThen]
    have hl := h.1
    simp only [List.length_cons] at hl
    refine ⟨_, hrun, ⟨by omega, ?_⟩, ?_⟩
    · by_cases hc : cap = 1
      · subst hc
        have hn : n = 0 := by omega
        subst hn
        have hx : xs = [] := List.eq_nil_of_length_eq_zero (by omega)
        subst hx
        exact .inr ⟨g, off, 0, cur, by simp, h2, h3, Nat.le_refl _, by decide, by omega, by simp⟩
      · refine .inr ⟨g, off + 3, cap - 1, cur, by rw [if_neg hc]; rfl, h2, h3, by omega, by omega, by omega, ?_⟩
        have e1 : (cur.toList.drop off).take ((n + 1) * 3) = x :: y :: z :: xs := h7
        have e2 := congrArg (List.drop 3) e1
        rw [List.drop_take, List.drop_drop] at e2
        rw [show (n + 1) * 3 - 3 = n * 3 by omega] at e2
        exact e2
    · by_cases hc : cap = 1
      · rw [if_pos hc]; rfl
      · rw [if_neg hc]; rfl
theorem put3 {w : World} {g o : Nat} {cur : Array Value} {t : TypeId} (h : w.heap[g]? = some (.cells cur t (0, 0))) (a b c : Value) : (w.setCells g o [a, b, c]).heap[g]? = some (.cells (((cur.setIfInBounds o a).setIfInBounds (o + 1) b).setIfInBounds (o + 1 + 1) c) t (0, 0)) :=
  heap_set _ (heap_set _ (heap_set _ h))
theorem put3_grown {w : World} {g o : Nat} (a b c : Value) : w.grownBy (w.setCells g o [a, b, c]) (some g) := World.grownBy.trans (World.grownBy.trans (grown_set _) (grown_set _)) (grown_set _)
theorem take_put3 (l : List Value) (off n : Nat) (a b c : Value) (h : off + (n + 1) * 3 ≤ l.length) : ((((l.set (off + n * 3) a).set (off + n * 3 + 1) b).set (off + n * 3 + 1 + 1) c).drop off).take ((n + 1) * 3) = (l.drop off).take (n * 3) ++ [a, b, c] := by
  apply List.ext_getElem?
  intro i
  rw [List.getElem?_take, List.getElem?_append]
  have hl : ((l.drop off).take (n * 3)).length = n * 3 := by rw [List.length_take, List.length_drop]; omega
  rw [hl]
  by_cases h1 : i < n * 3
  · rw [if_pos (by omega), if_pos h1, List.getElem?_drop, List.getElem?_set_ne (by omega), List.getElem?_set_ne (by omega), List.getElem?_set_ne (by omega), List.getElem?_take, if_pos h1, List.getElem?_drop]
  · rw [if_neg h1]
    rcases (by omega : i = n * 3 ∨ i = n * 3 + 1 ∨ i = n * 3 + 2 ∨ n * 3 + 3 ≤ i) with e | e | e | e
    · subst e
      rw [if_pos (by omega), List.getElem?_drop, List.getElem?_set_ne (by omega), List.getElem?_set_ne (by omega), List.getElem?_set_self (by omega), Nat.sub_self]; rfl
    · subst e
      rw [if_pos (by omega), List.getElem?_drop, List.getElem?_set_ne (by omega), ← Nat.add_assoc, List.getElem?_set_self (by rw [List.length_set]; omega), show n * 3 + 1 - n * 3 = 1 by omega]; rfl
    · subst e
      rw [if_pos (by omega), List.getElem?_drop, show off + (n * 3 + 2) = off + n * 3 + 1 + 1 by omega, List.getElem?_set_self (by rw [List.length_set, List.length_set]; omega), show n * 3 + 2 - n * 3 = 2 by omega]; rfl
    · rw [if_neg (by omega), List.getElem?_eq_none (by simp; omega)]
/-- append(v, x): in its place, or in a block that is new. -/
theorem run_qapp {P : Program} (t ty e : TypeId) (i : TypeInfo) (z : Value) (ht : P.underlying t = some (.slice e)) (hi : P.info? e = some i) (hz : i.zero = some z) (hsz : i.size = 3) (hby : i.bytes ≤ 1000) (hzs : z.cells.size = 3) {w : World} {base n : Nat} {v : Value} {xs : List Value} (h : QRow w base e v n xs) (hb : base ≤ w.heap.size) (hn : n ≤ 100000)
    (ad : Addr) (m : Nat) (a b c : Value) (hnews : ∀ j u, [a, b, c][j]? = some u → w.cell? (ad.add j) = some u) (h1 : ∀ u ∈ [a, b, c], u.oneCell' = true) :
    ∃ v' w', (Builtin.append_ #[t, t] ty #[v, .slice (some ad) 1 m]).run P w = .ok v' w' ∧ QRow w' base e v' (n + 1) (xs ++ [a, b, c]) ∧ w.grownBy w' v.ownBlock ∧ (v'.ownBlock = v.ownBlock ∨ v'.ownBlock = some w.heap.size) := by
  have hs : Src P i.size t (.slice (some ad) 1 m) 1 [a, b, c] w := Src.ofSlice w ht ad 1 m [a, b, c] (by rw [hsz]; rfl) hnews h1
  have hlen := h.1
  have grow : ∀ (ao : Option Addr) (cap : Nat), v = .slice ao n cap → cap < n + 1 → ((Builtin.firstCells i.size n (.slice ao n cap)).run P w.drew = .ok xs.toArray w.drew) → ∃ v' w', (Builtin.append_ #[t, t] ty #[v, .slice (some ad) 1 m]).run P w = .ok v' w' ∧ QRow w' base e v' (n + 1) (xs ++ [a, b, c]) ∧ w.grownBy w' v.ownBlock ∧ (v'.ownBlock = v.ownBlock ∨ v'.ownBlock = some w.heap.size) := by
    intro ao cap hv hcap hold
    have hfit : Builtin.nextslicecap (n + 1) cap * i.bytes ≤ 281474976710656 := growslice_fits hcap (Nat.le_trans (Nat.mul_le_mul (Nat.le_refl (n + 1)) hby) (by omega))
    have hr := run_append_grow_src w t t ty e i z ht hi hz ao n cap xs hold (.slice (some ad) 1 m) 1 [a, b, c] hs hcap (by omega) hfit
    rw [hv]
    refine ⟨_, _, hr, ⟨by simp [hlen]; omega, .inr ⟨w.heap.size, 0, grownCap w (n + 1) cap e, _, rfl, hb, heap_alloc_new w.drew _, grownCap_ge w _ _ _, grownCap_le_maxLen w _ _ _ (by simp only [maxLen]; omega), ?_, ?_⟩⟩, ?_, .inr rfl⟩
    · have := grownCap_ge w (n + 1) cap e
      simp [size_zeroCells, hzs, hlen]
      omega
    · simp only [List.drop_zero]
      rw [Array.toList_append, List.take_append_of_le_length (by simp [hlen]; omega), List.take_of_length_le (by simp [hlen]; omega)]
    · exact ⟨rfl, rfl, rfl, by simp [World.alloc], fun k hk _ => Below.heap_alloc w.drew _ k hk⟩
  rcases h.2 with ⟨e1, e2⟩ | ⟨g, off, cap, cur, e1, e2, e3, e4, e5, e6, e7⟩
  · subst e1 e2
    have hx : xs = [] := List.eq_nil_of_length_eq_zero (by omega)
    subst hx
    exact grow none 0 rfl (by omega) (by rw [hsz]; exact run_firstCells_none w.drew 3 0 0 0)
  · by_cases hroom : n + 1 ≤ cap
    · have hfr : ∀ j, w.frozen? ⟨g, j, none⟩ = false := fun j => frozr e3 j
      have hr := run_append_room_src (P := P) w t t ty e i ht hi g off n cap (.slice (some ad) 1 m) 1 [a, b, c] hs hroom (fun j hj => by
        rw [hsz, blk_cell e3, Array.getElem?_eq_getElem (by simp at hj; omega)]; rfl) (fun j hj => hfr _)
      rw [e1]
      rw [hsz] at hr
      refine ⟨_, _, hr, ⟨by simp [hlen]; omega, .inr ⟨g, off, cap, _, rfl, e2, put3 e3 a b c, hroom, e5, by simpa using e6, ?_⟩⟩, put3_grown a b c, .inl rfl⟩
      simp only [Array.toList_setIfInBounds]
      rw [take_put3 _ _ _ _ _ _ (by simp; omega), e7]
    · refine grow (some ⟨g, off, none⟩) cap e1 (by omega) ?_
      rw [hsz]
      refine run_firstCells_some w.drew 3 n ⟨g, off, none⟩ n cap xs hlen (fun j u hu => ?_)
      obtain ⟨g', off', cap', e8, e9⟩ := h.at hu
      rw [e1] at e8
      injection e8 with e8 e10 e11
      injection e8 with e8
      injection e8 with e8 e12
      subst e8 e12
      rw [show (⟨g, off, none⟩ : Addr).add j = ⟨g, off + j, none⟩ by unfold Addr.add; split <;> simp_all]
      exact e9
end Go.Proofs.Ytjidjbjbngbhpaa
