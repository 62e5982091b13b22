/- Rows of any elements that are appended to at their end and cut at their front: where they lie, append, a cut. -/
import Derived.Test.YtbkpgkkfkjlnnaaRow
import Derived.Deep.AppendSrc
set_option linter.unusedVariables false
set_option linter.unusedSimpArgs false
namespace Go.Proofs.Ytbkpgkkfkjlnnaa.Q
open Go.RowKit Go.Proofs.YtbkpgkkfkjlnnaaW.PrintWords Go.Proofs.Ytbkpgkkfkjlnnaa.K Go.Proofs.Ytbkpgkkfkjlnnaa.Row

/-- A row of n elements of z cells, somewhere in a block of one's own. -/
def QRow (w : World) (base : Nat) (e : TypeId) (z : Nat) (v : Value) (n : Nat) (xs : List Value) : Prop :=
  xs.length = n * z ∧ ((v = .slice none 0 0 ∧ n = 0) ∨ ∃ g off cap cur, v = .slice (some ⟨g, off, none⟩) n cap ∧ base ≤ g ∧ w.heap[g]? = some (.cells cur e (0, 0)) ∧ n ≤ cap ∧ cap ≤ maxLen ∧ off + cap * z ≤ cur.size ∧ (cur.toList.drop off).take (n * z) = xs)
section
variable {w w' : World} {base n z : Nat} {e : TypeId} {v : Value} {xs : List Value}
theorem QRow.nil (w : World) (base : Nat) (e : TypeId) (z : Nat) : QRow w base e z (.slice none 0 0) 0 [] := ⟨by simp, .inl ⟨rfl, rfl⟩⟩
theorem QRow.shape (h : QRow w base e z v n xs) : ∃ A c, v = .slice A n c := by
  rcases h.2 with ⟨h1, h2⟩ | ⟨g, off, cap, cur, h1, _⟩
  · exact ⟨none, 0, by rw [h1, h2]⟩
  · exact ⟨_, _, h1⟩
theorem QRow.move (h : QRow w base e z v n xs) (hm : ∀ k, v.ownBlock = some k → w'.heap[k]? = w.heap[k]?) : QRow w' base e z v n xs := by
  refine ⟨h.1, ?_⟩
  rcases h.2 with h1 | ⟨g, off, cap, cur, h1, h2, h3, h4⟩
  · exact .inl h1
  · exact .inr ⟨g, off, cap, cur, h1, h2, (hm g (by rw [h1]; rfl)).trans h3, h4⟩
theorem QRow.block (h : QRow w base e z v n xs) {k : Nat} (hk : v.ownBlock = some k) : base ≤ k ∧ k < w.heap.size ∧ ∃ cur, w.heap[k]? = some (.cells cur e (0, 0)) := by
  rcases h.2 with ⟨h1, _⟩ | ⟨g, off, cap, cur, h1, h2, h3, _⟩
  · rw [h1] at hk; cases hk
  · rw [h1] at hk
    injection hk with hk
    subst hk
    exact ⟨h2, lt_of_heap h3, cur, h3⟩
theorem QRow.below (h : QRow w base e z v n xs) (hb : Below w.heap.size w w') : QRow w' base e z v n xs :=
  h.move fun k hk => hb.block k (h.block hk).2.1
theorem QRow.chg {S : Nat → Prop} (h : QRow w base e z v n xs) (hc : Chg S w w') (hn : ∀ k, v.ownBlock = some k → ¬ S k) : QRow w' base e z v n xs :=
  h.move fun k hk => hc.block k (h.block hk).2.1 (hn k hk)
theorem QRow.at (h : QRow w base e z v n xs) {j : Nat} {u : Value} (hu : xs[j]? = some u) : ∃ g off cap, v = .slice (some ⟨g, off, none⟩) n cap ∧ w.cell? ⟨g, off + j, none⟩ = some u := by
  rcases h.2 with ⟨h1, h2⟩ | ⟨g, off, cap, cur, h1, h2, h3, h4, h5, h6, h7⟩
  · have := h.1
    rw [h2, Nat.zero_mul] at this
    have hx : xs = [] := List.eq_nil_of_length_eq_zero this
    rw [hx] at hu
    cases hu
  · refine ⟨g, off, cap, h1, ?_⟩
    rw [World.cell?]
    simp only [h3]
    rw [← h7, List.getElem?_take] at hu
    split at hu
    · rw [List.getElem?_drop] at hu
      simpa using hu
    · cases hu
/-- A store into the row. -/
theorem QRow.stored (h : QRow w base e z v n xs) {g off cap : Nat} (hv : v = .slice (some ⟨g, off, none⟩) n cap) (j : Nat) (u : Value) : QRow (w.setCell ⟨g, off + j, none⟩ u) base e z v n (xs.set j u) := by
  refine ⟨by rw [List.length_set]; exact h.1, ?_⟩
  rcases h.2 with ⟨h1, h2⟩ | ⟨g', off', cap', cur, h1, h2, h3, h4, h5, h6, h7⟩
  · rw [hv] at h1; cases h1
  · rw [hv] at h1
    injection h1 with e1 e2 e3
    injection e1 with e1
    injection e1 with e1 e4
    subst e1 e3 e4
    refine .inr ⟨g, off, cap, _, hv, h2, heap_set _ h3, h4, h5, by simpa using h6, ?_⟩
    rw [Array.toList_setIfInBounds, ← h7]
    apply List.ext_getElem?
    intro i
    rw [List.getElem?_take, List.getElem?_drop]
    by_cases hi : i < n * z
    · rw [if_pos hi]
      have hl : ((cur.toList.drop off).take (n * z)).length = n * z := by rw [h7]; exact h.1
      have hl2 := hl
      rw [List.length_take, List.length_drop] at hl2
      rw [List.getElem?_set, List.getElem?_set, hl]
      by_cases e : j = i
      · subst e
        rw [if_pos rfl, if_pos rfl, if_pos (by omega), if_pos hi]
      · rw [if_neg (by omega), if_neg e, List.getElem?_take, if_pos hi, List.getElem?_drop]
    · rw [if_neg hi, List.getElem?_eq_none]
      rw [List.length_set, List.length_take]; omega
/-- v[1:] -/
theorem QRow.cut {P : Program} {t : TypeId} {cs : List Value} (hz0 : 0 < z) (h : QRow w base e z v (n + 1) (cs ++ xs)) (hcs : cs.length = z) (ht : P.underlying t = some (.slice e)) {i : TypeInfo} (hi : P.info? e = some i) (hsz : i.size = z) :
    ∃ v', (∀ W : World, (Instr.slice t v (some (.int .i64 1)) none none).run P W = .ok v' W) ∧ QRow w base e z v' n xs ∧ v'.ownBlock = v.ownBlock := by
  rcases h.2 with ⟨h1, h2⟩ | ⟨g, off, cap, cur, h1, h2, h3, h4, h5, h6, h7⟩
  · omega
  · subst h1
    have hel : P.elem t = e := by simp [Program.elem, ht]
    have hu : P.underlying t = some (.slice (P.elem t)) := by rw [hel]; exact ht
    have hrun : ∀ W : World, (Instr.slice t (.slice (some ⟨g, off, none⟩) (n + 1) cap) (some (.int .i64 1)) none none).run P W = .ok (.slice (if cap = 1 then some ⟨g, off, none⟩ else some (Addr.add ⟨g, off, none⟩ z)) n (cap - 1)) W := fun W => by
      rw [run_slice_l W t (some ⟨g, off, none⟩) (n + 1) cap hu .i64 1 (by decide) (by omega), hel]
      simp [sizeOf, typeInfo, hi, hsz, sliced, Result.andThen]
    have hl := h.1
    rw [List.length_append, hcs, Nat.add_mul] at hl
    refine ⟨_, hrun, ⟨by omega, ?_⟩, ?_⟩
    · by_cases hc : cap = 1
      · subst hc
        have hn : n = 0 := by omega
        subst hn
        have hx : xs = [] := List.eq_nil_of_length_eq_zero (by omega)
        subst hx
        exact .inr ⟨g, off, 0, cur, by simp, h2, h3, Nat.le_refl _, by decide, by omega, by simp⟩
      · have hcz : off + z + (cap - 1) * z ≤ cur.size := by
          obtain ⟨k, rfl⟩ : ∃ k, cap = k + 1 := ⟨cap - 1, by omega⟩
          rw [Nat.add_mul] at h6; rw [Nat.add_sub_cancel]; omega
        refine .inr ⟨g, off + z, cap - 1, cur, by rw [if_neg hc]; simp [Addr.add, Nat.ne_of_gt hz0], h2, h3, by omega, by omega, hcz, ?_⟩
        have e2 := congrArg (List.drop z) h7
        rw [List.drop_take, List.drop_drop, Nat.add_mul, Nat.one_mul, Nat.add_sub_cancel] at e2
        rw [e2, List.drop_append_of_le_length (by omega), ← hcs, List.drop_length, List.nil_append]
    · by_cases hc : cap = 1
      · rw [if_pos hc]; rfl
      · rw [if_neg hc]; simp [Addr.add, Value.ownBlock]; split <;> rfl
end
def puts (cur : Array Value) : Nat → List Value → Array Value
  | _, [] => cur
  | o, y :: ys => puts (cur.setIfInBounds o y) (o + 1) ys
theorem puts_size (ys : List Value) (cur : Array Value) (o : Nat) : (puts cur o ys).size = cur.size := by
  induction ys generalizing cur o with
  | nil => rfl
  | cons y ys ih => rw [puts, ih]; simp
theorem puts_get (ys : List Value) (cur : Array Value) (o i : Nat) : (puts cur o ys).toList[i]? = if o ≤ i ∧ i < o + ys.length ∧ i < cur.size then ys[i - o]? else cur.toList[i]? := by
  induction ys generalizing cur o with
  | nil => rw [if_neg (by simp; omega)]; rfl
  | cons y ys ih =>
    rw [puts, ih, Array.size_setIfInBounds, Array.toList_setIfInBounds]
    by_cases h1 : o + 1 ≤ i ∧ i < o + 1 + ys.length ∧ i < cur.size
    · rw [if_pos h1, if_pos (by simp; omega), show i - o = (i - (o + 1)) + 1 by omega, List.getElem?_cons_succ]
    · rw [if_neg h1]
      by_cases h2 : i = o
      · subst h2
        by_cases h3 : i < cur.size
        · rw [if_pos (by simp; omega), List.getElem?_set_self (by simpa using h3), Nat.sub_self]; rfl
        · rw [if_neg (by omega), List.getElem?_eq_none (by simp; omega), List.getElem?_eq_none (by simp; omega)]
      · rw [List.getElem?_set_ne (fun e => h2 e.symm), if_neg (by simp at h1 ⊢; omega)]
theorem setCells_block {w : World} {g : Nat} {cur : Array Value} {t : TypeId} (h : w.heap[g]? = some (.cells cur t (0, 0))) (o : Nat) (ys : List Value) : (w.setCells g o ys).heap[g]? = some (.cells (puts cur o ys) t (0, 0)) ∧ w.grownBy (w.setCells g o ys) (some g) := by
  induction ys generalizing w cur o with
  | nil => exact ⟨h, World.grownBy.refl _ _⟩
  | cons y ys ih =>
    have h1 := ih (w := w.setCell ⟨g, o, none⟩ y) (heap_set _ h) (o + 1)
    exact ⟨h1.1, World.grownBy.trans (grown_set _) h1.2⟩
/-- append(v, x): in its place, or in a block that is new. -/
theorem run_qapp {P : Program} (t ty e : TypeId) (i : TypeInfo) (y : Value) {z : Nat} (ht : P.underlying t = some (.slice e)) (hi : P.info? e = some i) (hz : i.zero = some y) (hsz : i.size = z) (hby : i.bytes ≤ 1000) (hzs : y.cells.size = z) {w : World} {base n : Nat} {v : Value} {xs : List Value} (h : QRow w base e z v n xs) (hb : base ≤ w.heap.size) (hn : n ≤ 100000)
    (ad : Addr) (m : Nat) (cs : List Value) (hcs : cs.length = z) (hnews : ∀ j u, cs[j]? = some u → w.cell? (ad.add j) = some u) (h1 : ∀ u ∈ cs, u.oneCell' = true) :
    ∃ v' w', (Builtin.append_ #[t, t] ty #[v, .slice (some ad) 1 m]).run P w = .ok v' w' ∧ QRow w' base e z v' (n + 1) (xs ++ cs) ∧ w.grownBy w' v.ownBlock ∧ (v'.ownBlock = v.ownBlock ∨ v'.ownBlock = some w.heap.size) := by
  have hs : Src P i.size t (.slice (some ad) 1 m) 1 cs w := Src.ofSlice w ht ad 1 m cs (by rw [hsz, hcs, Nat.one_mul]) hnews h1
  have hlen := h.1
  have hlen2 : (xs ++ cs).length = (n + 1) * z := by rw [List.length_append, hlen, hcs, Nat.add_mul, Nat.one_mul]
  have grow : ∀ (ao : Option Addr) (cap : Nat), v = .slice ao n cap → cap < n + 1 → ((Builtin.firstCells i.size n (.slice ao n cap)).run P w.drew = .ok xs.toArray w.drew) → ∃ v' w', (Builtin.append_ #[t, t] ty #[v, .slice (some ad) 1 m]).run P w = .ok v' w' ∧ QRow w' base e z v' (n + 1) (xs ++ cs) ∧ w.grownBy w' v.ownBlock ∧ (v'.ownBlock = v.ownBlock ∨ v'.ownBlock = some w.heap.size) := by
    intro ao cap hv hcap hold
    have hfit : Builtin.nextslicecap (n + 1) cap * i.bytes ≤ 281474976710656 := growslice_fits hcap (Nat.le_trans (Nat.mul_le_mul (Nat.le_refl (n + 1)) hby) (by omega))
    have hr := run_append_grow_src w t t ty e i y ht hi hz ao n cap xs hold (.slice (some ad) 1 m) 1 cs hs hcap (by omega) hfit
    rw [hv]
    refine ⟨_, _, hr, ⟨hlen2, .inr ⟨w.heap.size, 0, grownCap w (n + 1) cap e, _, rfl, hb, heap_alloc_new w.drew _, grownCap_ge w _ _ _, grownCap_le_maxLen w _ _ _ (by simp only [maxLen]; omega), ?_, ?_⟩⟩, ?_, .inr rfl⟩
    · have := grownCap_ge w (n + 1) cap e
      have e1 : (n + 1) * z + (grownCap w (n + 1) cap e - (n + 1)) * z = grownCap w (n + 1) cap e * z := by rw [← Nat.add_mul]; congr 1; omega
      simp only [Array.size_append, List.size_toArray, size_zeroCells, hzs, hlen2]
      omega
    · simp only [List.drop_zero]
      rw [Array.toList_append, List.take_append_of_le_length (by simp [hlen2]), List.take_of_length_le (by simp [hlen2])]
    · exact ⟨rfl, rfl, rfl, by simp [World.alloc], fun k hk _ => Below.heap_alloc w.drew _ k hk⟩
  rcases h.2 with ⟨e1, e2⟩ | ⟨g, off, cap, cur, e1, e2, e3, e4, e5, e6, e7⟩
  · subst e1 e2
    have hx : xs = [] := List.eq_nil_of_length_eq_zero (by rw [hlen, Nat.zero_mul])
    subst hx
    exact grow none 0 rfl (by omega) (run_firstCells_none w.drew i.size 0 0 0)
  · by_cases hroom : n + 1 ≤ cap
    · have hcz : (n + 1) * z ≤ cap * z := Nat.mul_le_mul_right z hroom
      rw [Nat.add_mul, Nat.one_mul] at hcz
      have hfr : ∀ j, w.frozen? ⟨g, j, none⟩ = false := fun j => by simp [World.frozen?, e3]
      have hr := run_append_room_src (P := P) w t t ty e i ht hi g off n cap (.slice (some ad) 1 m) 1 cs hs hroom (fun j hj => by
        rw [hsz, World.cell?]; simp only [e3]; rw [Array.getElem?_eq_getElem (by rw [hcs] at hj; omega)]; rfl) (fun j hj => hfr _)
      rw [e1]
      rw [hsz] at hr
      obtain ⟨p1, p2⟩ := setCells_block e3 (off + n * z) cs
      refine ⟨_, _, hr, ⟨hlen2, .inr ⟨g, off, cap, _, rfl, e2, p1, hroom, e5, by rw [puts_size]; exact e6, ?_⟩⟩, p2, .inl rfl⟩
      apply List.ext_getElem?
      intro j
      rw [List.getElem?_take, List.getElem?_drop, puts_get, List.getElem?_append, hlen, hcs]
      by_cases hj : j < (n + 1) * z
      · rw [if_pos hj]
        rw [Nat.add_mul, Nat.one_mul] at hj
        by_cases hjn : j < n * z
        · rw [if_neg (by omega), if_pos hjn, ← e7, List.getElem?_take, if_pos hjn, List.getElem?_drop]
        · rw [if_pos (by omega), if_neg hjn, show off + j - (off + n * z) = j - n * z by omega]
      · rw [if_neg hj]
        rw [Nat.add_mul, Nat.one_mul] at hj
        rw [if_neg (by omega), List.getElem?_eq_none (by omega)]
    · refine grow (some ⟨g, off, none⟩) cap e1 (by omega) ?_
      rw [hsz]
      refine run_firstCells_some w.drew z n ⟨g, off, none⟩ n cap xs hlen (fun j u hu => ?_)
      obtain ⟨g', off', cap', e8, e9⟩ := h.at hu
      rw [e1] at e8
      injection e8 with e8 e10 e11
      injection e8 with e8
      injection e8 with e8 e12
      subst e8 e12
      rw [show (⟨g, off, none⟩ : Addr).add j = ⟨g, off + j, none⟩ by unfold Addr.add; split <;> simp_all]
      exact e9
end Go.Proofs.Ytbkpgkkfkjlnnaa.Q
