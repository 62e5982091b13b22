/- Words of mine on readings: what an argument of a shape says of memory. No program. -/
import Derived.Test.YtbkpgkkfkjlnnaaWWords
import Derived.Deep.Slices
import Derived.ProofKit
import Derived.OpenShut
import Derived.Lib.Hide
set_option linter.unusedVariables false
set_option linter.unusedSimpArgs false
namespace Go.Proofs.Ytbkpgkkfkjlnnaa.K
open Go.RowKit Go.Proofs.YtbkpgkkfkjlnnaaW.PrintWords Go.ChangeShapes Go.WideShapes Go.Deep

theorem reads_nil (w : World) (k : IntKind) : ReadsInt w k none 0 [] := ⟨rfl, by decide, fun h => absurd h (by decide)⟩
theorem reads_lit (w : World) (k : IntKind) (xs : List Int) (e : TypeId) (fr : Nat × Nat) (n : Nat) (hn : xs.length = n) (hm : n ≤ 9223372036854775807) :
    ReadsInt (w.alloc (.cells (nums k xs).toArray e fr)) k (some ⟨w.heap.size, 0, none⟩) n xs := by
  refine ⟨hn, hm, fun _ => ⟨_, rfl, fun j hj => ?_⟩⟩
  rw [Go.Proofs.YtbkpgkkfkjlnnaaW.PrintWords.add_plain, World.cell?_alloc_mark]
  simp [nums, List.getElem?_eq_getElem (show j < xs.length by omega), List.getD_eq_getElem?_getD]
theorem reads_at {w : World} {k : IntKind} {A : Option Addr} {n : Nat} {xs : List Int} (h : ReadsInt w k A n xs) (i : Nat) (hi : i < n) : ∃ ad, A = some ad ∧ w.cell? (ad.add i) = some (.int k (xs.getD i 0)) := by
  obtain ⟨ad, e, hc⟩ := h.2.2 (by omega)
  exact ⟨ad, e, hc i hi⟩

theorem below_box {W w1 : World} {o : Obj} (h : Below (W.alloc o).heap.size (W.alloc o) w1) : Below W.heap.size W w1 := below_then ((Below.refl _ _).alloc (Nat.le_refl _) o) (by simp) h
theorem own_base_le {w : World} {b b' : Nat} {e : TypeId} {size n : Nat} {v : Value} {xs : List Value} (h : w.ownsRow b e size v n xs) (hb : b' ≤ b) : w.ownsRow b' e size v n xs := by
  refine ⟨h.1, ?_⟩
  rcases h.2 with h | ⟨g, cap, cur, h1, h2, h3⟩
  · exact .inl h
  · exact .inr ⟨g, cap, cur, h1, Nat.le_trans hb h2, h3⟩
theorem lt_of_heap {w : World} {k : Nat} {o : Obj} (h : w.heap[k]? = some o) : k < w.heap.size := (Array.getElem?_eq_some_iff.1 h).1
theorem heap_set {w : World} {r j : Nat} {cs : Array Value} {t : TypeId} {fr : Nat × Nat} (v : Value) (h : w.heap[r]? = some (.cells cs t fr)) : (w.setCell ⟨r, j, none⟩ v).heap[r]? = some (.cells (cs.setIfInBounds j v) t fr) := by
  unfold World.setCell
  simp only [Array.getElem?_modify]
  simp [h]
theorem grown_set {w : World} {r j : Nat} (v : Value) : w.grownBy (w.setCell ⟨r, j, none⟩ v) (some r) := by
  refine ⟨rfl, rfl, rfl, by simp [World.setCell], fun k hk hne => ?_⟩
  unfold World.setCell
  simp only [Array.getElem?_modify]
  rw [if_neg (fun e => hne (by rw [e]))]
theorem cells_2 {w : World} {r : Nat} {a b : Value} {t : TypeId} (h : w.heap[r]? = some (.cells #[a, b] t (0, 0))) : w.cell? ⟨r, 0, none⟩ = some a ∧ w.cell? ⟨r, 1, none⟩ = some b ∧ w.frozen? ⟨r, 0, none⟩ = false ∧ w.frozen? ⟨r, 1, none⟩ = false := by
  simp [World.cell?, World.frozen?, h]

section
variable {P : Program} {ops : Array Oper} {rest : List Oper} {o : Oper} {a : Act} {Q : Exit → Act → World → Prop}
/-- append(v, ys...): what it leaves, as a slice written out. -/
theorem app_row {w0 W : World} (base : Nat) (hgd : o.guard = none) (s x : Operand) (t e : TypeId) (k : IntKind) (bytes : Nat)
    (ho : o.op = .call { callee := .builtin .append, args := #[s, x], argTypes := #[t, t] })
    (ht : P.underlying t = some (.slice e)) (hinfo : (P.info? e).map (fun i => (i.zero, i.size, i.bytes)) = some (some (.int k 0), 1, bytes)) (hb0 : 0 < bytes)
    (v : Value) (xs ys : List Int) (A : Option Addr) (m c : Nat) (hs : a.eval s = v) (hx : a.eval x = .slice A m c)
    (HO : W.ownsRow base e 1 v xs.length (nums k xs)) (HR : ReadsInt W k A m ys) (HB : Below base w0 W) (hbase : base ≤ W.heap.size) (hl : (xs.length + m) * bytes ≤ 140737488355328) (N : Nat) (hN : (xs ++ ys).length = N)
    (h : ∀ A1 c1 w1, w1.ownsRow base e 1 (.slice A1 N c1) N (nums k (xs ++ ys)) → Below base w0 w1 → W.grownBy w1 v.ownBlock → wpList P ops Q rest (a.put o.dst (.slice A1 N c1)) w1) :
    wpList P ops Q (o :: rest) a W := by
  refine print_append_row base hgd s x t e k bytes ho ht hinfo hb0 v xs ys A m c hs hx HO HR HB hbase hl ?_
  intro v1 w1 hown hB hg _
  obtain ⟨A1, c1, rfl⟩ := own_slice hown
  subst hN
  exact h A1 c1 w1 hown hB hg
theorem app_num {w0 W : World} (base : Nat) (hgd : o.guard = none) (s x : Operand) (t e : TypeId) (k : IntKind) (bytes : Nat)
    (ho : o.op = .call { callee := .builtin .append, args := #[s, x], argTypes := #[t, t] })
    (ht : P.underlying t = some (.slice e)) (hinfo : (P.info? e).map (fun i => (i.zero, i.size, i.bytes)) = some (some (.int k 0), 1, bytes)) (hb0 : 0 < bytes)
    (v : Value) (xs : List Int) (y : Int) (hs : a.eval s = v) (hx : a.eval x = .slice (some ⟨W.heap.size, 0, none⟩) 1 1)
    (HO : W.ownsRow base e 1 v xs.length (nums k xs)) (HB : Below base w0 W) (hbase : base ≤ W.heap.size) (hl : (xs.length + 1) * bytes ≤ 140737488355328) (N : Nat) (hN : (xs ++ [y]).length = N)
    (h : ∀ A1 c1 w1, w1.ownsRow base e 1 (.slice A1 N c1) N (nums k (xs ++ [y])) → Below base w0 w1 → W.grownBy w1 v.ownBlock → wpList P ops Q rest (a.put o.dst (.slice A1 N c1)) w1) :
    wpList P ops Q (o :: rest) a (W.alloc (.cells #[.int k y] e)) := by
  refine print_append_num base hgd s x t e k bytes ho ht hinfo hb0 v xs y hs hx HO HB hbase hl ?_
  intro v1 w1 hown hB hg _
  obtain ⟨A1, c1, rfl⟩ := own_slice hown
  subst hN
  exact h A1 c1 w1 hown hB hg
end
/-- A row of one's own, read: and of which type its block is. -/
theorem own_info {w : World} {base n : Nat} {e : TypeId} {k : IntKind} {A : Option Addr} {m c : Nat} {xs : List Int} (h : w.ownsRow base e 1 (.slice A m c) n (nums k xs)) : m = n ∧ xs.length = n ∧ n ≤ c ∧ ReadsInt w k A n xs ∧ ∀ ad, A = some ad → base ≤ ad.block ∧ ∃ cs, w.heap[ad.block]? = some (.cells cs e (0, 0)) := by
  obtain ⟨A', c', e', hr⟩ := own_reads h
  injection e' with e1 e2 e3
  subst e1 e2 e3
  refine ⟨rfl, hr.1, ?_, hr, fun ad e1 => ?_⟩
  · rcases h.2 with ⟨h1, h2⟩ | ⟨g, cap, cur, h1, _, _, h2, _⟩
    · injection h1 with h3 h4 h5; omega
    · injection h1 with h3 h4 h5; omega
  · subst e1
    rcases h.2 with ⟨h1, h2⟩ | ⟨g, cap, cur, h1, hb, hh, _⟩
    · cases h1
    · injection h1 with h3 h4 h5
      injection h3 with h3
      subst h3
      exact ⟨hb, cur, hh⟩
/-- 'xs[m:]', without a case on the capacity: its block stays. -/
theorem cut_from {P : Program} (t e : TypeId) (kl : IntKind) {i : TypeInfo} (ht : P.underlying t = some (.slice e)) (hi : P.info? e = some i) (hsz : i.size = 1) (A : Option Addr) (n c m : Nat) (hm : m ≤ n) :
    ∃ A' : Option Addr, (∀ W : World, (Instr.slice t (.slice A n c) (some (.int kl (m : Int))) none none).run P W = .ok (.slice A' (n - m) (c - m)) W) ∧
      (∀ (w : World) (k : IntKind) (xs : List Int), n ≤ c → ReadsInt w k A n xs → ReadsInt w k A' (n - m) (xs.drop m)) ∧ ∀ ad, A' = some ad → ∃ ad0, A = some ad0 ∧ ad.block = ad0.block := by
  refine ⟨if c = m then A else A.map (·.add m), fun W => ?_, fun w k xs hc h => h.drop_ m hm hc, fun ad had => ?_⟩
  · have hel : P.elem t = e := by simp [Program.elem, ht]
    have hu : P.underlying t = some (.slice (P.elem t)) := by rw [hel]; exact ht
    rw [run_slice_l W t A n c hu kl (m : Int) (Int.natCast_nonneg _) (by omega), hel]
    simp [sizeOf, typeInfo, hi, hsz, sliced, Result.andThen]
  · split at had
    · exact ⟨ad, had, rfl⟩
    · obtain ⟨a0, h1, h2⟩ := Option.map_eq_some_iff.1 had
      subst h2
      exact ⟨a0, h1, by unfold Addr.add; split <;> rfl⟩

section
variable {H : Type} {enc : TypeId × Value → H} {P : Program} {w : World} {base : Nat} {spare : Nat → Bool} {held : Bool}
/-- A slice of whole numbers, as an element of something. -/
theorem open_nums {e b : TypeId} {k : IntKind} {fuel : Nat} {v : Value} {x : DataW H × List MemPlace} (he : P.underlying e = some (.slice b)) (hb : P.underlying b = some (.int k)) (hc : P.cellsOf b = 1)
    (h : DataW.trod enc P w base spare held fuel e [v] = some x) : ∃ A n c zs, v = .slice A n c ∧ ReadsInt w k A n zs ∧ (∀ y ∈ zs, (Lit.int k y).wf = true) ∧ n ≤ c := by
  rcases open_ints he hb hc h with ⟨hcs, _⟩ | ⟨a, l, c, zs, hcs, _, hl, hm, hz, _, hcell, hwz⟩
  · simp only [List.cons.injEq, and_true] at hcs
    subst hcs
    exact ⟨none, 0, 0, [], rfl, reads_nil _ _, by simp, Nat.le_refl _⟩
  · simp only [List.cons.injEq, and_true] at hcs
    subst hcs
    have hle : l ≤ zs.length := by rw [hz]; split <;> omega
    simp only [maxLen] at hm
    refine ⟨_, _, _, zs.take l, rfl, ⟨by rw [List.length_take]; omega, by omega, fun _ => ⟨a, rfl, fun j hj => ?_⟩⟩, fun y hy => hwz y (List.mem_of_mem_take hy), hl⟩
    rw [hcell j (by omega)]
    simp [List.getD_eq_getElem?_getD, hj]
/-- A slice of such slices: at each index a slice of whole numbers. -/
def Rows (w : World) (k : IntKind) (A : Option Addr) (n : Nat) (R : Nat → List Int) : Prop :=
  n ≤ 9223372036854775807 ∧ ∀ i, i < n → ∃ ad B m c, A = some ad ∧ w.cell? (ad.add i) = some (.slice B m c) ∧ ReadsInt w k B m (R i) ∧ (∀ y ∈ R i, (Lit.int k y).wf = true) ∧ m ≤ c
theorem open_rows {t e b : TypeId} {k : IntKind} {v : Value} {d : DataW H} {ps : List MemPlace} (ht : P.underlying t = some (.slice e)) (he : P.underlying e = some (.slice b)) (hb : P.underlying b = some (.int k)) (hc1 : P.cellsOf e = 1) (hc2 : P.cellsOf b = 1)
    {r : Reach} {b0 : Nat} (hval : Value.okWide P w r b0 t v) (h : DataW.Trod enc P w base spare held t v d ps) : ∃ A n c R, v = .slice A n c ∧ Rows w k A n R ∧ n ≤ c := by
  obtain ⟨a, n, c, rfl⟩ := okWide_slice ht hval
  obtain ⟨fuel, hf⟩ := h
  rcases open_slice1 ht hc1 hf with ⟨hcs, _⟩ | ⟨ad, l, cap, m, f2, V, D, Pl, hcs, _, hl, hm, hmm, _, hx⟩
  · simp [Value.cells] at hcs
    obtain ⟨rfl, rfl, rfl⟩ := hcs
    exact ⟨none, 0, 0, fun _ => [], rfl, ⟨by decide, fun i hi => by omega⟩, Nat.le_refl _⟩
  · simp [Value.cells] at hcs
    obtain ⟨rfl, rfl, rfl⟩ := hcs
    simp only [maxLen] at hm
    have hlm : n ≤ m := by rw [hmm]; split <;> omega
    have key : ∀ i, ∃ zs : List Int, i < n → ∃ B mm cc, w.cell? (ad.add i) = some (.slice B mm cc) ∧ ReadsInt w k B mm zs ∧ (∀ y ∈ zs, (Lit.int k y).wf = true) ∧ mm ≤ cc := by
      intro i
      by_cases hi : i < n
      · obtain ⟨h1, h2⟩ := hx i (by omega)
        obtain ⟨B, mm, cc, zs, hv, h3, h4, h5⟩ := open_nums he hb hc2 h2
        exact ⟨zs, fun _ => ⟨B, mm, cc, by rw [h1, hv], h3, h4, h5⟩⟩
      · exact ⟨[], fun h => absurd h hi⟩
    classical
    refine ⟨some ad, n, c, fun i => Classical.choose (key i), rfl, ⟨by omega, fun i hi => ?_⟩, hl⟩
    obtain ⟨B, mm, cc, h1, h2⟩ := Classical.choose_spec (key i) hi
    exact ⟨ad, B, mm, cc, rfl, h1, h2⟩
/-- An array of whole numbers, by value. -/
theorem open_arr {t e : TypeId} {k : IntKind} {m : Nat} {v : Value} {d : DataW H} {ps : List MemPlace} (ht : P.underlying t = some (.array m e)) (he : P.underlying e = some (.int k)) (hc : P.cellsOf e = 1)
    {r : Reach} {b0 : Nat} (hval : Value.okWide P w r b0 t v) (h : DataW.Trod enc P w base spare held t v d ps) (hC : P.cellsOf t = m) : ∃ zs : List Int, v = .agg (nums k zs).toArray ∧ zs.length = m ∧ ∀ y ∈ zs, (Lit.int k y).wf = true := by
  simp only [Value.okWide, ht] at hval
  obtain ⟨cs, rfl, hsz, _⟩ := hval
  obtain ⟨fuel, hf⟩ := h
  obtain ⟨xs, f2, _, _, _, hl, hx⟩ := DataW.trod_array ht hf
  rw [hc] at hx
  have key : ∀ i, ∃ z : Int, i < m → cs[i]? = some (.int k z) ∧ (Lit.int k z).wf = true := by
    intro i
    by_cases hi : i < m
    · have h1 := hx i hi
      have hi2 : i < cs.size := by omega
      rw [Nat.mul_one, List.getElem?_eq_getElem (by omega)] at h1
      obtain ⟨z, h2, _, h3⟩ := DataW.trod_int he h1
      refine ⟨z, fun _ => ⟨?_, h3⟩⟩
      have e1 : ((Value.agg cs).cells.toList.drop i).take 1 = [cs[i]] := by
        simp only [Value.cells]
        rw [List.drop_eq_getElem_cons (by simpa using hi2)]
        simp
      rw [e1] at h2
      simp only [List.cons.injEq, and_true] at h2
      rw [Array.getElem?_eq_getElem hi2, h2]
    · exact ⟨0, fun h => absurd h hi⟩
  classical
  refine ⟨(List.range m).map fun i => Classical.choose (key i), ?_, by simp, ?_⟩
  · congr 1
    apply Array.ext'
    apply List.ext_getElem?
    intro i
    by_cases hi : i < m
    · have := (Classical.choose_spec (key i) hi).1
      rw [Array.getElem?_toList, this]
      simp [nums, hi]
    · rw [List.getElem?_eq_none (by simp; omega), List.getElem?_eq_none (by simp [nums]; omega)]
  · intro y hy
    obtain ⟨i, hi, rfl⟩ := List.mem_map.1 hy
    exact (Classical.choose_spec (key i) (List.mem_range.1 hi)).2
end
theorem Rows.below {w w1 : World} {k : IntKind} {A : Option Addr} {n : Nat} {R : Nat → List Int} (h : Rows w k A n R) (hb : Below w.heap.size w w1) : Rows w1 k A n R :=
  ⟨h.1, fun i hi => by
    obtain ⟨ad, B, m, c, h1, h2, h3, h4⟩ := h.2 i hi
    exact ⟨ad, B, m, c, h1, pw_cell_below hb h2, h3.below hb, h4⟩⟩
end Go.Proofs.Ytbkpgkkfkjlnnaa.K
