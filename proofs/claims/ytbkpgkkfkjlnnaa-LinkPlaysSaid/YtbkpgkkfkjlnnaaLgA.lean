/- Links of any messages: what lies in memory. -/
import Derived.Test.YtbkpgkkfkjlnnaaLinkA
import Derived.Test.YtbkpgkkfkjlnnaaWideR
import Derived.Test.YtbkpgkkfkjlnnaaRow
set_option linter.unusedVariables false
set_option linter.unusedSimpArgs false
namespace Go.Proofs.Ytbkpgkkfkjlnnaa.G
open Go.RowKit Go.Proofs.YtbkpgkkfkjlnnaaW.PrintWords Go.Proofs.YtbkpgkkfkjlnnaaW.PrintLast Go.Proofs.Ytbkpgkkfkjlnnaa.K Go.Proofs.Ytbkpgkkfkjlnnaa.Row Go.Proofs.Ytbkpgkkfkjlnnaa

theorem info_of {t : TypeId} {n b : Nat} (h : (Try.prog.info? t).map (fun i => (i.zero.map (·.cells.size), i.size, i.bytes)) = some (some n, n, b)) : ∃ i z, Try.prog.info? t = some i ∧ i.zero = some z ∧ i.size = n ∧ i.bytes = b ∧ z.cells.size = n := by
  obtain ⟨i, hi, h⟩ := Option.map_eq_some_iff.1 h
  simp only [Prod.mk.injEq] at h
  obtain ⟨hz, h1, h2⟩ := h
  obtain ⟨z, hz1, hz2⟩ := Option.map_eq_some_iff.1 hz
  exact ⟨i, z, hi, hz1, h1, h2, hz2⟩
theorem sInfo : ∃ i z, Try.prog.info? 65 = some i ∧ i.zero = some z ∧ i.size = 9 ∧ i.bytes = 96 ∧ z.cells.size = 9 := info_of (by kernel_rfl)
theorem mInfo : ∃ i z, Try.prog.info? 32 = some i ∧ i.zero = some z ∧ i.size = 7 ∧ i.bytes = 80 ∧ z.cells.size = 7 := info_of (by kernel_rfl)
/-- A message that a link keeps: its numbers, and where its rows lie. -/
structure Hd where
  k : Int
  f : Int
  t : Int
  v : Int
  s : Int
  A : Option Addr
  c : Nat
  xs : List Int
  B : Option Addr
  d : Nat
  ys : List (Int × Int)
def Hd.nv (h : Hd) : Value := .slice h.A h.xs.length h.c
def Hd.wv (h : Hd) : Value := .slice h.B h.ys.length h.d
def Hd.cells (h : Hd) : List Value := [.int .i64 h.k, .int .i64 h.f, .int .i64 h.t, .int .u32 h.v, .int .u32 h.s, h.nv, h.wv]
def Hd.agg (h : Hd) : Value := .agg (msC h.k h.f h.t h.v h.s h.nv h.wv)
/-- What a message says. -/
structure Dt where
  k : Int
  f : Int
  t : Int
  v : Int
  s : Int
  xs : List Int
  ys : List (Int × Int)
deriving DecidableEq
def Hd.dt (h : Hd) : Dt := ⟨h.k, h.f, h.t, h.v, h.s, h.xs, h.ys⟩
structure Sn where
  m : Hd
  sent : Bool
  at_ : Int
def Sn.cells (p : Sn) : List Value := p.m.cells ++ [.bool p.sent, .int .i64 p.at_]
def hdC (L : List Hd) : List Value := L.flatMap Hd.cells
def snC (L : List Sn) : List Value := L.flatMap Sn.cells
section
variable {α : Type} (f : α → List Value) (z : Nat) (hz : ∀ x, (f x).length = z)
include hz
theorem flat_len (L : List α) : (L.flatMap f).length = L.length * z := by
  induction L with
  | nil => simp
  | cons a l ih => simp only [List.flatMap_cons, List.length_append, ih, hz, List.length_cons, Nat.add_mul, Nat.one_mul]; omega
theorem flat_get (L : List α) (i : Nat) (x : α) (h : L[i]? = some x) (j : Nat) (hj : j < z) : (L.flatMap f)[i * z + j]? = (f x)[j]? := by
  induction L generalizing i with
  | nil => simp at h
  | cons a l ih =>
    have ha := hz a
    cases i with
    | zero =>
      simp at h; subst h
      rw [List.flatMap_cons, Nat.zero_mul, Nat.zero_add, List.getElem?_append_left (by omega)]
    | succ i =>
      rw [List.flatMap_cons, List.getElem?_append_right (by rw [ha, Nat.add_mul]; omega), ha, show (i + 1) * z + j - z = i * z + j by rw [Nat.add_mul]; omega]
      exact ih i (by simpa using h)
theorem flat_erase (L : List α) (i : Nat) : (L.eraseIdx i).flatMap f = (L.flatMap f).take (i * z) ++ (L.flatMap f).drop ((i + 1) * z) := by
  induction L generalizing i with
  | nil => simp
  | cons a l ih =>
    have ha := hz a
    cases i with
    | zero => simp [ha]
    | succ i =>
      have e1 : (f a).take ((i + 1) * z) = f a := List.take_of_length_le (by rw [ha, Nat.add_mul]; omega)
      have e2 : (f a).drop ((i + 1 + 1) * z) = [] := List.drop_of_length_le (by rw [ha, Nat.add_mul, Nat.add_mul]; omega)
      rw [List.eraseIdx_cons_succ, List.flatMap_cons, ih, List.flatMap_cons, List.take_append, List.drop_append, ha, e1, e2]
      rw [show (i + 1) * z - z = i * z by rw [Nat.add_mul]; omega, show (i + 1 + 1) * z - z = (i + 1) * z by rw [Nat.add_mul (i + 1)]; omega]
      simp
theorem flat_take (L : List α) (i : Nat) : (L.take i).flatMap f = (L.flatMap f).take (i * z) := by
  induction L generalizing i with
  | nil => simp
  | cons a l ih =>
    have ha := hz a
    cases i with
    | zero => simp
    | succ i =>
      have e1 : (f a).take ((i + 1) * z) = f a := List.take_of_length_le (by rw [ha, Nat.add_mul]; omega)
      rw [List.take_succ_cons, List.flatMap_cons, List.flatMap_cons, ih, List.take_append, ha, e1, show (i + 1) * z - z = i * z by rw [Nat.add_mul]; omega]
end
theorem hd_len (h : Hd) : h.cells.length = 7 := rfl
theorem sn_len (p : Sn) : p.cells.length = 9 := rfl
theorem hdC_one (L : List Hd) : ∀ u ∈ hdC L, u.oneCell' = true := by
  intro u hu
  obtain ⟨h, _, hu⟩ := List.mem_flatMap.1 hu
  simp only [Hd.cells, List.mem_cons, List.not_mem_nil, or_false] at hu
  rcases hu with rfl | rfl | rfl | rfl | rfl | rfl | rfl <;> rfl
theorem snC_one (L : List Sn) : ∀ u ∈ snC L, u.oneCell' = true := by
  intro u hu
  obtain ⟨p, _, hu⟩ := List.mem_flatMap.1 hu
  simp only [Sn.cells, Hd.cells, List.cons_append, List.nil_append, List.mem_cons, List.not_mem_nil, or_false] at hu
  rcases hu with rfl | rfl | rfl | rfl | rfl | rfl | rfl | rfl | rfl <;> rfl
/-- A row of one's own in the blocks S. -/
def Own (w : World) (S : Nat → Prop) (e : TypeId) (size : Nat) (v : Value) (n : Nat) (xs : List Value) : Prop := w.ownsRow 0 e size v n xs ∧ ∀ b, v.ownBlock = some b → S b
theorem Own.chg {w w' : World} {S T : Nat → Prop} {e : TypeId} {size n : Nat} {v : Value} {xs : List Value} (h : Own w S e size v n xs) (hc : Chg T w w') (hn : ∀ b, S b → ¬ T b) : Own w' S e size v n xs := ⟨hc.own h.1 (fun g hg => hn g (h.2 g hg)), h.2⟩
theorem Own.mono {w : World} {S T : Nat → Prop} {e : TypeId} {size n : Nat} {v : Value} {xs : List Value} (h : Own w S e size v n xs) (hS : ∀ b, S b → T b) : Own w T e size v n xs := ⟨h.1, fun b hb => hS b (h.2 b hb)⟩
theorem Own.fresh {w : World} {B : Nat} {e : TypeId} {size n : Nat} {v : Value} {xs : List Value} (h : w.ownsRow B e size v n xs) : Own w (fun b => B ≤ b ∧ b < w.heap.size) e size v n xs := ⟨own_base_le h (Nat.zero_le _), fun b hb => ⟨own_base h b hb, own_lt h b hb⟩⟩
theorem Own.lt {w : World} {S : Nat → Prop} {e : TypeId} {size n : Nat} {v : Value} {xs : List Value} (h : Own w S e size v n xs) : ∀ b, v.ownBlock = some b → b < w.heap.size := fun b hb => own_lt h.1 b hb
/-- The rows of a message lie in S. -/
structure HdIn (w : World) (S : Nat → Prop) (h : Hd) : Prop where
  n : Own w S 2 1 h.nv h.xs.length (nums .i64 h.xs)
  w : Own w S 79 2 h.wv h.ys.length (wides h.ys)
theorem HdIn.chg {w w' : World} {S T : Nat → Prop} {h : Hd} (hh : HdIn w S h) (hc : Chg T w w') (hn : ∀ b, S b → ¬ T b) : HdIn w' S h := ⟨hh.n.chg hc hn, hh.w.chg hc hn⟩
theorem HdIn.chgTy {w w' : World} {S T : Nat → Prop} {h : Hd} (hh : HdIn w S h) (hc : Chg T w w') (hn : ∀ b cs ty, w.heap[b]? = some (.cells cs ty (0, 0)) → (ty = 2 ∨ ty = 79) → ¬ T b) : HdIn w' S h := by
  refine ⟨⟨hc.own hh.n.1 (fun g hg => ?_), hh.n.2⟩, ⟨hc.own hh.w.1 (fun g hg => ?_), hh.w.2⟩⟩
  · obtain ⟨cs, h'⟩ := own_typed hh.n.1 g hg
    exact hn g cs _ h' (.inl rfl)
  · obtain ⟨cs, h'⟩ := own_typed hh.w.1 g hg
    exact hn g cs _ h' (.inr rfl)
theorem HdIn.mono {w : World} {S T : Nat → Prop} {h : Hd} (hh : HdIn w S h) (hS : ∀ b, S b → T b) : HdIn w T h := ⟨hh.n.mono hS, hh.w.mono hS⟩
/-- A link's numbers and lists. -/
structure LSt where
  own : Int
  peer : Int
  view : Int
  now : Int
  pushed : Int
  told : Int
  next : Int
  out : List Sn
  held : List Hd
/-- A link in block r, with all its rows in the blocks S. -/
structure LkG (w : World) (S : Nat → Prop) (r : Nat) (x : LSt) : Prop where
  inn : ∀ b, S b → b < w.heap.size
  hr : S r
  cl : ∃ A c B d, w.heap[r]? = some (.cells (lkC x.own x.peer x.view x.now (.slice A x.out.length c) x.pushed x.told x.next (.slice B x.held.length d)) 61 (0, 0)) ∧ Own w S 65 9 (.slice A x.out.length c) x.out.length (snC x.out) ∧ Own w S 32 7 (.slice B x.held.length d) x.held.length (hdC x.held)
  bo : ∀ p ∈ x.out, HdIn w S p.m
  bh : ∀ h ∈ x.held, HdIn w S h
theorem LkG.chg {w w' : World} {S T : Nat → Prop} {r : Nat} {x : LSt} (h : LkG w S r x) (hc : Chg T w w') (hn : ∀ b, S b → ¬ T b) : LkG w' S r x := by
  obtain ⟨A, c, B, d, h1, h2, h3⟩ := h.cl
  exact ⟨fun b hb => Nat.lt_of_lt_of_le (h.inn b hb) hc.size, h.hr, ⟨A, c, B, d, hc.keep h1 (hn r h.hr), h2.chg hc hn, h3.chg hc hn⟩, fun p hp => (h.bo p hp).chg hc hn, fun p hp => (h.bh p hp).chg hc hn⟩
theorem LkG.below {w w' : World} {S : Nat → Prop} {r : Nat} {x : LSt} (h : LkG w S r x) (hb : Below w.heap.size w w') : LkG w' S r x := h.chg (T := fun _ => False) (Chg.ofBelow hb) (fun _ _ h => h)
theorem lk_made (w : World) (own peer view : Int) : LkG (w.alloc (.cells (lkC own peer view 0 (.slice none 0 0) 0 0 1 (.slice none 0 0)) 61)) (fun b => b = w.heap.size) w.heap.size ⟨own, peer, view, 0, 0, 0, 1, [], []⟩ :=
  ⟨fun b hb => by simp at hb ⊢; omega, rfl, ⟨none, 0, none, 0, heap_alloc_new _ _, ⟨⟨rfl, .inl ⟨rfl, rfl⟩⟩, fun b hb => by simp [Value.ownBlock] at hb⟩, ⟨⟨rfl, .inl ⟨rfl, rfl⟩⟩, fun b hb => by simp [Value.ownBlock] at hb⟩⟩, (fun p hp => by cases hp), (fun p hp => by cases hp)⟩
/-- Between two states of one link: what may have turned, where its rows now lie. -/
structure Stp (w w' : World) (S S' : Nat → Prop) : Prop where
  chg : Chg S w w'
  inc : ∀ b, S' b → S b ∨ w.heap.size ≤ b
theorem Stp.refl (w : World) (S : Nat → Prop) : Stp w w S S := ⟨Chg.refl _ _, fun b h => .inl h⟩
theorem Stp.trans {w w1 w2 : World} {S S1 S2 : Nat → Prop} (h : Stp w w1 S S1) (h' : Stp w1 w2 S1 S2) : Stp w w2 S S2 :=
  ⟨h.chg.trans h'.chg (fun k hk hs => (h.inc k hs).elim id (fun h => absurd h (by omega))), fun b hb => by
    rcases h'.inc b hb with h1 | h1
    · exact h.inc b h1
    · exact .inr (Nat.le_trans h.chg.size h1)⟩
theorem Stp.ofBelow {w w' : World} {S : Nat → Prop} (h : Below w.heap.size w w') : Stp w w' S S := ⟨Chg.ofBelow h, fun b h => .inl h⟩
end Go.Proofs.Ytbkpgkkfkjlnnaa.G
