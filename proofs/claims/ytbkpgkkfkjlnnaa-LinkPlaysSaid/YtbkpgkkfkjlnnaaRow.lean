/- Words of mine on rows of wider elements: read, cut, appended to; what may have turned between two worlds. No program. -/
import Derived.Test.YtbkpgkkfkjlnnaaK
import Derived.Maps.AppendAt
import Derived.Deep.AppendLies
import Derived.Deep.DrawnRows
import Derived.Laws.IdiomRangeMap
set_option linter.unusedVariables false
set_option linter.unusedSimpArgs false
namespace Go.Proofs.Ytbkpgkkfkjlnnaa.Row
open Go.RowKit Go.Proofs.YtbkpgkkfkjlnnaaW.PrintWords Go.Proofs.Ytbkpgkkfkjlnnaa.K

/-- m elements of so many cells, read at a slice's address. -/
structure ReadsC (W : World) (size : Nat) (A : Option Addr) (m : Nat) (news : List Value) : Prop where
  len : news.length = m * size
  one : ∀ u ∈ news, u.oneCell' = true
  nil : A = none → m = 0
  at_ : ∀ ad, A = some ad → ∀ j u, news[j]? = some u → W.cell? (ad.add j) = some u
theorem ReadsC.none' (W : World) (size : Nat) (A : Option Addr) : ReadsC W size A 0 [] := ⟨by simp, (fun u hu => by cases hu), fun _ => rfl, fun ad _ j u hu => by simp at hu⟩
theorem ReadsC.below {W w : World} {size m : Nat} {A : Option Addr} {news : List Value} (h : ReadsC W size A m news) (hb : Below W.heap.size W w) : ReadsC w size A m news :=
  ⟨h.len, h.one, h.nil, fun ad e j u hu => pw_cell_below hb (h.at_ ad e j u hu)⟩
theorem ReadsC.ofOwn {w : World} {base size n c : Nat} {e : TypeId} {A : Option Addr} {xs : List Value} (h : w.ownsRow base e size (.slice A n c) n xs) (h1 : ∀ u ∈ xs, u.oneCell' = true) : ReadsC w size A n xs := by
  refine ⟨h.1, h1, fun e => ?_, fun ad e j u hu => ?_⟩
  · rcases h.2 with ⟨_, h2⟩ | ⟨g, cap, cur, h2, _⟩
    · exact h2
    · rw [e] at h2; injection h2 with h2; cases h2
  · rcases h.2 with ⟨h2, h3⟩ | ⟨g, cap, cur, h2, _⟩
    · rw [e] at h2; injection h2 with h2; cases h2
    · injection h2 with h2 _ _
      rw [e] at h2
      injection h2 with h2
      subst h2 e
      exact h.cells (g := g) rfl j u hu
theorem add_add (ad : Addr) (i j : Nat) : (ad.add i).add j = ad.add (i + j) := by
  unfold Addr.add
  split <;> simp_all <;> split <;> simp_all [Nat.add_assoc]
theorem ReadsC.ofInts {W : World} {k : IntKind} {A : Option Addr} {n : Nat} {xs : List Int} (h : ReadsInt W k A n xs) : ReadsC W 1 A n (nums k xs) := by
  refine ⟨by simp [nums, h.1], fun u hu => ?_, fun e => ?_, fun ad e j u hu => ?_⟩
  · simp only [nums, List.mem_map] at hu; obtain ⟨q, _, rfl⟩ := hu; rfl
  · rcases Nat.eq_zero_or_pos n with h0 | h0
    · exact h0
    · obtain ⟨ad, h1, _⟩ := h.2.2 h0; rw [e] at h1; cases h1
  · have hj : j < xs.length := by
      rcases Nat.lt_or_ge j xs.length with hj | hj
      · exact hj
      · simp [nums, List.getElem?_eq_none hj] at hu
    obtain ⟨ad', h', hc⟩ := h.2.2 (by have := h.1; omega)
    rw [e] at h'
    injection h' with h'
    subst h'
    have := hc j (by have := h.1; omega)
    simp [nums, List.getElem?_eq_getElem hj] at hu
    subst hu
    rw [this]
    simp [List.getD_eq_getElem?_getD, List.getElem?_eq_getElem hj]
/-- A part of what is read. -/
theorem ReadsC.part {W : World} {size m : Nat} {A : Option Addr} {news : List Value} (h : ReadsC W size A m news) (i k : Nat) (hk : i + k ≤ m) (A' : Option Addr) (hA : A' = A.map (·.add (i * size)) ∨ (A' = A ∧ (k = 0 ∨ i = 0))) : ReadsC W size A' k ((news.drop (i * size)).take (k * size)) := by
  have hks : i * size + k * size ≤ m * size := by rw [← Nat.add_mul]; exact Nat.mul_le_mul_right _ hk
  refine ⟨by rw [List.length_take, List.length_drop, h.len]; omega, fun u hu => h.one u (List.mem_of_mem_drop (List.mem_of_mem_take hu)), fun e => ?_, fun ad e j u hu => ?_⟩
  · have : A = none := by
      rcases hA with hA | ⟨hA, _⟩
      · rw [e] at hA; exact Option.map_eq_none_iff.1 hA.symm
      · rw [← hA]; exact e
    have := h.nil this
    omega
  · have hj : j < k * size := by
      rcases Nat.lt_or_ge j (k * size) with hj | hj
      · exact hj
      · rw [List.getElem?_eq_none (by rw [List.length_take]; omega)] at hu; cases hu
    rw [List.getElem?_take, if_pos hj, List.getElem?_drop] at hu
    rcases hA with hA | ⟨hA, h0 | h0⟩
    · rw [e] at hA
      obtain ⟨a0, h1, h2⟩ := Option.map_eq_some_iff.1 hA.symm
      subst h2
      rw [add_add]
      exact h.at_ a0 h1 _ u hu
    · subst h0; simp at hj
    · subst h0
      rw [e] at hA
      simpa using h.at_ ad hA.symm j u (by simpa using hu)
/-- 'v[m:]' of wider elements. -/
theorem cut_from' {P : Program} (t e : TypeId) (kl : IntKind) {i : TypeInfo} {size : Nat} (ht : P.underlying t = some (.slice e)) (hi : P.info? e = some i) (hsz : i.size = size) (A : Option Addr) (n c m : Nat) (hm : m ≤ n) :
    ∃ A' : Option Addr, (∀ W : World, (Instr.slice t (.slice A n c) (some (.int kl (m : Int))) none none).run P W = .ok (.slice A' (n - m) (c - m)) W) ∧
      (∀ (w : World) (xs : List Value), n ≤ c → ReadsC w size A n xs → ReadsC w size A' (n - m) (xs.drop (m * size))) ∧ (A' = none ↔ A = none) ∧ ∀ ad, A' = some ad → ∃ ad0, A = some ad0 ∧ ad.block = ad0.block := by
  refine ⟨if c = m then A else A.map (·.add (m * size)), fun W => ?_, fun w xs hc h => ?_, ?_, fun ad had => ?_⟩
  · have hel : P.elem t = e := by simp [Program.elem, ht]
    have hu : P.underlying t = some (.slice (P.elem t)) := by rw [hel]; exact ht
    rw [run_slice_l W t A n c hu kl (m : Int) (Int.natCast_nonneg _) (by omega), hel]
    simp [sizeOf, typeInfo, hi, hsz, sliced, Result.andThen]
  · have hp := h.part m (n - m) (by omega) (if c = m then A else A.map (·.add (m * size))) (by
      split
      · exact .inr ⟨rfl, .inl (by omega)⟩
      · exact .inl rfl)
    rw [List.take_of_length_le (by rw [List.length_drop, h.len, Nat.sub_mul]; exact Nat.le_refl _)] at hp
    exact hp
  · split <;> simp
  · split at had
    · exact ⟨ad, had, rfl⟩
    · obtain ⟨a0, h1, h2⟩ := Option.map_eq_some_iff.1 had
      subst h2
      exact ⟨a0, h1, by unfold Addr.add; split <;> rfl⟩
/-- 'v[:m]' of wider elements. -/
theorem cut_to' {P : Program} (t e : TypeId) (kl : IntKind) {i : TypeInfo} {size : Nat} (ht : P.underlying t = some (.slice e)) (hi : P.info? e = some i) (hsz : i.size = size) (A : Option Addr) (n c m : Nat) (hm : m ≤ c) :
    ∃ A' : Option Addr, (∀ W : World, (Instr.slice t (.slice A n c) none (some (.int kl (m : Int))) none).run P W = .ok (.slice A' m c) W) ∧
      (∀ (w : World) (xs : List Value), m ≤ n → ReadsC w size A n xs → ReadsC w size A' m (xs.take (m * size))) ∧ (A' = none ↔ A = none) := by
  refine ⟨if c = 0 then A else A.map (·.add 0), fun W => ?_, fun w xs hc h => ?_, ?_⟩
  · have hel : P.elem t = e := by simp [Program.elem, ht]
    have hu : P.underlying t = some (.slice (P.elem t)) := by rw [hel]; exact ht
    rw [run_slice_h W t A n c hu kl (m : Int) (Int.natCast_nonneg _) (by omega), hel]
    simp [sizeOf, typeInfo, hi, hsz, sliced, Result.andThen]
  · have hp := h.part 0 m (by omega) (if c = 0 then A else A.map (·.add 0)) (by
      split
      · exact .inr ⟨rfl, .inr rfl⟩
      · exact .inl (by simp))
    simpa using hp
  · split <;> simp
/-- append(v, ys...) of wider elements at a step of a region that draws. -/
theorem step_app_cells {P : Program} {ops : Array Oper} {o : Oper} {a : Act} {K : Act → World → Prop} {Q : Exit → Act → World → Prop} {E : Prop} {w0 W : World} (base : Nat) (hgd : o.guard = none) (s x : Operand) (t e : TypeId) (i : TypeInfo) (z : Value) (size bytes : Nat)
    (ho : o.op = .call { callee := .builtin .append, args := #[s, x], argTypes := #[t, t] })
    (ht : P.underlying t = some (.slice e)) (hi : P.info? e = some i) (hz : i.zero = some z) (hsize : i.size = size) (hby : i.bytes = bytes) (hzs : z.cells.size = size) (hsz : 0 < size) (hb0 : 0 < bytes)
    (v : Value) (n : Nat) (xs news : List Value) (A : Option Addr) (m c : Nat) (hs : a.eval s = v) (hx : a.eval x = .slice A m c)
    (HO : W.ownsRow base e size v n xs) (HR : ReadsC W size A m news) (HB : Below base w0 W) (hbase : base ≤ W.heap.size) (hl : (n + m) * bytes ≤ 140737488355328) (N : Nat) (hN : n + m = N)
    (h : ∀ A1 c1 w1, w1.ownsRow base e size (.slice A1 N c1) N (xs ++ news) → Below base w0 w1 → W.grownBy w1 v.ownBlock → ((Value.slice A1 N c1).ownBlock = v.ownBlock ∨ (Value.slice A1 N c1).ownBlock = some W.heap.size) → K (a.put o.dst (.slice A1 N c1)) w1) :
    if Region.wanted o (yielded ops a.tmps) = true then Oper.wp P o a W K Q else E := by
  have hw : Region.wanted o (yielded ops a.tmps) = true := by simp [Region.wanted, hgd]
  rw [if_pos hw]
  have hlen : n + m ≤ 140737488355328 := Nat.le_trans (Nat.le_mul_of_pos_right _ hb0) hl
  have hrun : ∃ v1 w1, (Builtin.append_ #[t, t] o.type #[v, .slice A m c]).run P W = .ok v1 w1 ∧ w1.ownsRow base e size v1 N (xs ++ news) ∧ W.grownBy w1 v.ownBlock ∧ (v1.ownBlock = v.ownBlock ∨ v1.ownBlock = some W.heap.size) := by
    rcases A with _ | ad
    · have h0 : m = 0 := HR.nil rfl
      subst h0
      obtain rfl : news = [] := List.eq_nil_of_length_eq_zero (by rw [HR.len]; simp)
      obtain rfl : n = N := by omega
      refine ⟨v, W, ?_, by simpa using HO, World.grownBy.refl W _, .inl rfl⟩
      rcases HO.2 with ⟨rfl, hn⟩ | ⟨g, cap, cur, rfl, _, _, hnc, _⟩
      · simp [Builtin.append_, run_underlying ht, sizeOf, typeInfo, hi, Builtin.lenOf, Builtin.firstCells]
      · simp [Builtin.append_, run_underlying ht, sizeOf, typeInfo, hi, Builtin.lenOf, Builtin.firstCells, hnc, storeCells]
    · obtain ⟨v1, w1, hr, h2, h3, _, h5⟩ := run_append_own_at (P := P) W base t o.type e i z size bytes ht hi hz hsize hby hzs hsz v n xs HO ad m c news HR.len (HR.at_ ad rfl) HR.one (by simp only [maxLen]; omega) hl hbase
      exact ⟨v1, w1, hr, by rw [← hN]; exact h2, h3, h5⟩
  obtain ⟨v1, w1, hr, hown, hg, hat⟩ := hrun
  unfold Oper.wp execOp
  simp only [ho, resolve, invoke, builtin, Sem.run_bind, Sem.run_pure, Result.andThen_ok, List.map_toArray, List.map_cons, List.map_nil, hs, hx, hr]
  obtain ⟨A1, c1, rfl⟩ := own_slice hown
  exact h A1 c1 w1 hown (HB.grown hg hbase (own_base HO)) hg hat
/-- An empty literal. -/
theorem lit0_own (W : World) (base : Nat) (e : TypeId) (size : Nat) (hb : base ≤ W.heap.size) : (W.alloc (.cells #[] e)).ownsRow base e size (.slice (some ⟨W.heap.size, 0, none⟩) 0 0) 0 [] := by
  refine ⟨by simp, .inr ⟨W.heap.size, 0, #[], rfl, hb, heap_alloc_new _ _, Nat.le_refl _, by simp [maxLen], by simp, by simp⟩⟩
theorem alloc_below {B : Nat} {W w : World} (h : Below B W w) (hb : B ≤ w.heap.size) (o : Obj) : Below B W (w.alloc o) := h.alloc hb o
/-- A literal of one element. -/
theorem lit1_reads (W : World) (cs : List Value) (e : TypeId) (size : Nat) (hl : cs.length = size) (h1 : ∀ u ∈ cs, u.oneCell' = true) : ReadsC (W.alloc (.cells cs.toArray e)) size (some ⟨W.heap.size, 0, none⟩) 1 cs :=
  ⟨by omega, h1, (fun h => by cases h), fun ad e j u hu => by
    injection e with e; subst e
    exact World.news_of_block (heap_alloc_new _ _) j u (by simpa using hu)⟩

/-- Between w and w' only blocks of S may have turned; new ones may have come. -/
structure Chg (S : Nat → Prop) (w w' : World) : Prop where
  os : w'.os = w.os
  tape : w'.tape = w.tape
  output : w'.output = w.output
  size : w.heap.size ≤ w'.heap.size
  block : ∀ k, k < w.heap.size → ¬ S k → w'.heap[k]? = w.heap[k]?
section
variable {S T : Nat → Prop} {w w' w1 w2 : World}
theorem Chg.refl (S : Nat → Prop) (w : World) : Chg S w w := ⟨rfl, rfl, rfl, Nat.le_refl _, fun _ _ _ => rfl⟩
theorem Chg.ofGrown {row : Option Nat} (h : w.grownBy w' row) (hr : ∀ k, row = some k → S k) : Chg S w w' :=
  ⟨h.os, h.tape, h.output, h.size, fun k hk hn => h.block k hk (fun e => hn (hr k e.symm))⟩
theorem Chg.ofBelow (h : Below w.heap.size w w') : Chg S w w' := ⟨h.os, h.tape, h.output, h.size, fun k hk _ => h.block k hk⟩
theorem Chg.trans (h : Chg S w w1) (h' : Chg T w1 w2) (hT : ∀ k, k < w.heap.size → T k → S k) : Chg S w w2 :=
  ⟨h'.os.trans h.os, h'.tape.trans h.tape, h'.output.trans h.output, Nat.le_trans h.size h'.size, fun k hk hn => (h'.block k (Nat.lt_of_lt_of_le hk h.size) (fun ht => hn (hT k hk ht))).trans (h.block k hk hn)⟩
theorem Chg.mono (h : Chg S w w') (hT : ∀ k, k < w.heap.size → S k → T k) : Chg T w w' := ⟨h.os, h.tape, h.output, h.size, fun k hk hn => h.block k hk (fun hs => hn (hT k hk hs))⟩
theorem Chg.on {B : Nat} {W : World} (h : Chg S w w') (hW : Below B W w) (hB : B ≤ w.heap.size) (hS : ∀ k, S k → B ≤ k) : Below B W w' :=
  hW.trans ⟨h.os, h.tape, h.output, h.size, fun k hk => h.block k (by omega) (fun hs => by have := hS k hs; omega)⟩
theorem Chg.below (h : Chg S w w') (hS : ∀ k, k < w.heap.size → ¬ S k) : Below w.heap.size w w' := ⟨h.os, h.tape, h.output, h.size, fun k hk => h.block k hk (hS k hk)⟩
theorem Chg.keep {k : Nat} {o : Obj} (h : Chg S w w') (hk : w.heap[k]? = some o) (hn : ¬ S k) : w'.heap[k]? = some o := (h.block k (lt_of_heap hk) hn).trans hk
theorem Chg.cell {a : Addr} {v : Value} (h : Chg S w w') (hc : w.cell? a = some v) (hn : ¬ S a.block) : w'.cell? a = some v := by
  rw [World.cell?_of_block (h.block a.block (World.block_lt_of_cell? w a hc) hn)]; exact hc
theorem Chg.own {base n size : Nat} {e : TypeId} {v : Value} {xs : List Value} (h : Chg S w w') (ho : w.ownsRow base e size v n xs) (hn : ∀ g, v.ownBlock = some g → ¬ S g) : w'.ownsRow base e size v n xs :=
  own_move ho fun k hk => h.block k (own_lt ho k hk) (hn k hk)
theorem Chg.reads {k : IntKind} {A : Option Addr} {n : Nat} {xs : List Int} (h : Chg S w w') (hr : ReadsInt w k A n xs) (hn : ∀ ad, A = some ad → ¬ S ad.block) : ReadsInt w' k A n xs := by
  refine ⟨hr.1, hr.2.1, fun hp => ?_⟩
  obtain ⟨ad, rfl, hc⟩ := hr.2.2 hp
  exact ⟨ad, rfl, fun j hj => h.cell (hc j hj) (by rw [show (ad.add j).block = ad.block by unfold Addr.add; split <;> rfl]; exact hn ad rfl)⟩
end
end Go.Proofs.Ytbkpgkkfkjlnnaa.Row
