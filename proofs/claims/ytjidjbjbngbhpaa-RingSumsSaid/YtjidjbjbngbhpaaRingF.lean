/- Walks of package ring: the state of a ring; New. -/
import Derived.Test.YtjidjbjbngbhpaaRingE
import Derived.Test.YtjidjbjbngbhpaaBucketA
set_option linter.unusedVariables false
set_option linter.unusedSimpArgs false
namespace Go.Proofs.Ytjidjbjbngbhpaa
open Go.RowKit Go.Proofs.YtjidjbjbngbhpaaW.PrintWords Go.Proofs.Ytjidjbjbngbhpaa.K

/-- Where a ring lies. -/
structure RgId where
  base : Nat
  r : Nat
  A : Option Addr
  c : Nat
  C : Option Addr
  d : Nat
/-- The frame of what turns one ring: its block and its row's, besides what is new. -/
structure RgF (w w' : World) (id : RgId) : Prop where
  os : w'.os = w.os
  tape : w'.tape = w.tape
  output : w'.output = w.output
  size : w.heap.size ≤ w'.heap.size
  block : ∀ k, k < w.heap.size → k ≠ id.r → (∀ ad, id.A = some ad → k ≠ ad.block) → w'.heap[k]? = w.heap[k]?
theorem RgF.refl (w : World) (id : RgId) : RgF w w id := ⟨rfl, rfl, rfl, Nat.le_refl _, fun _ _ _ _ => rfl⟩
theorem RgF.trans {a b c : World} {id : RgId} (h : RgF a b id) (k : RgF b c id) : RgF a c id :=
  ⟨k.os.trans h.os, k.tape.trans h.tape, k.output.trans h.output, Nat.le_trans h.size k.size, fun i h1 h2 h3 => (k.block i (Nat.lt_of_lt_of_le h1 h.size) h2 h3).trans (h.block i h1 h2 h3)⟩
theorem RgF.below {w w' : World} {id : RgId} (h : Below w.heap.size w w') : RgF w w' id := ⟨h.os, h.tape, h.output, h.size, fun k hk _ _ => h.block k hk⟩
theorem RgF.grown {w w' : World} {id : RgId} (h : w.grownBy w' (some id.r)) : RgF w w' id := ⟨h.os, h.tape, h.output, h.size, fun k hk hne _ => h.block k hk (fun e => hne (by injection e))⟩
def rgOk (k n : Nat) (place : Int) (l : List (Int × Int)) (round : Int) : Prop := 1 ≤ n ∧ n ≤ 16 ∧ 0 ≤ place ∧ place < n ∧ k ≤ 400 ∧ 0 ≤ round ∧ round ≤ 2 * n - 2 ∧ ∀ p ∈ l, (Lit.int .i64 p.1).wf = true ∧ (Lit.int .u64 p.2).wf = true
structure RgS (w : World) (id : RgId) (place : Int) (n k : Nat) (l : List (Int × Int)) (round : Int) (told taken : Bool) : Prop where
  obj : w.heap[id.r]? = some (.cells (rgC place n (.slice id.A k id.c) (.slice id.C n id.d) round told taken) 54 (0, 0))
  row : w.ownsRow id.base 33 2 (.slice id.A k id.c) k (wides l)
  chs : w.ownsRow id.base 63 2 (.slice id.C n id.d) n (pairs (chunkL k n n))
  lo : id.base ≤ id.r
  ok : rgOk k n place l round
theorem RgS.below {w w' : World} {id : RgId} {place : Int} {n k : Nat} {l : List (Int × Int)} {round : Int} {told taken : Bool} (h : RgS w id place n k l round told taken) (hb : Below w.heap.size w w') : RgS w' id place n k l round told taken :=
  ⟨rheap_keep hb h.obj, own_move h.row (fun k hk => hb.block k (own_lt h.row k hk)), own_move h.chs (fun k hk => hb.block k (own_lt h.chs k hk)), h.lo, h.ok⟩
/-- Rings that share nothing. -/
def RgApart (a b : RgId) : Prop := a.r ≠ b.r ∧ ∀ ad ad', a.A = some ad → b.A = some ad' → ad.block ≠ ad'.block
theorem ownA {w : World} {base n k c size : Nat} {e : TypeId} {A : Option Addr} {xs : List Value} (h : w.ownsRow base e size (.slice A k c) n xs) {ad : Addr} (ha : A = some ad) : ad.block < w.heap.size ∧ base ≤ ad.block ∧ ∃ cs, w.heap[ad.block]? = some (.cells cs e (0, 0)) := by
  subst ha
  exact ⟨own_lt h _ rfl, own_base h _ rfl, own_typed h _ rfl⟩
theorem RgS.other {w w' : World} {id id' : RgId} {place : Int} {n k : Nat} {l : List (Int × Int)} {round : Int} {told taken : Bool} {place' : Int} {n' k' : Nat} {l' : List (Int × Int)} {round' : Int} {told' taken' : Bool}
    (h : RgS w id place n k l round told taken) (h' : RgS w id' place' n' k' l' round' told' taken') (ha : RgApart id id') (hf : RgF w w' id') : RgS w' id place n k l round told taken := by
  refine ⟨(hf.block id.r (lt_of_heap h.obj) ha.1 (fun ad e => ?_)).trans h.obj, own_move h.row (fun j hj => hf.block j (own_lt h.row j hj) ?_ (fun ad e => ?_)), own_move h.chs (fun j hj => hf.block j (own_lt h.chs j hj) ?_ (fun ad e => ?_)), h.lo, h.ok⟩
  · obtain ⟨_, _, cs, h2⟩ := ownA h'.row e
    exact blk_ne h.obj h2 (by decide)
  · obtain ⟨cs, h2⟩ := own_typed h.row j hj
    exact blk_ne h2 h'.obj (by decide)
  · rcases hA : id.A with _ | ad0
    · rw [hA] at hj; cases hj
    · rw [hA] at hj
      injection hj with hj
      rw [← hj]
      exact ha.2 ad0 ad hA e
  · obtain ⟨cs, h2⟩ := own_typed h.chs j hj
    exact blk_ne h2 h'.obj (by decide)
  · obtain ⟨_, _, cs, h2⟩ := ownA h'.row e
    obtain ⟨cs', h3⟩ := own_typed h.chs j hj
    exact blk_ne h3 h2 (by decide)
def NewRg (w : World) (place : Int) (n k : Nat) (l : List (Int × Int)) (e : Ending) (w' : World) : Prop :=
  ∃ id : RgId, e = .returned (.tuple #[.pointer (some ⟨id.r, 0, none⟩), .int .i64 0]) ∧ RgS w' id place n k l 0 false false ∧ id.base = w.heap.size ∧ Below w.heap.size w w'
set_option maxHeartbeats 1000000 in
theorem new_ok (place : Int) (n : Nat) (A : Option Addr) (k c : Nat) (l : List (Int × Int)) (w : World) (hw : WidesAt w A k l) (hl : ∀ p ∈ l, (Lit.int .i64 p.1).wf = true ∧ (Lit.int .u64 p.2).wf = true) (hA : A = none → k = 0 ∧ c = 0) (hk : k ≤ 400) (hn1 : 1 ≤ n) (hn2 : n ≤ 16) (hp0 : 0 ≤ place) (hp1 : place < n) :
    Calls Try.prog 7 #[.int .i64 place, .int .i64 (n : Int), .slice A k c] w (NewRg w place n k l) := by
  have HW := Lib.hid hw; have HA := Lib.hid hA; have HL := Lib.hid hl
  clear hw hA hl
  go_enter Try.func7, Try.ntmps7
  go_wp2_with fail
  refine (chunks_ok k n w hk hn1 hn2).mono ?_
  rintro e w1 ⟨C, d, rfl, ho1, hb1⟩
  rw [chunkL_len] at ho1 ⊢
  have HO1 := Lib.hid ho1; have HB1 := Lib.hid hb1; clear ho1 hb1
  go_wp2_with fail
  refine (wclone_walk A k c l w1 (HW.out.below HB1.out) (by omega) HA.out).mono ?_
  rintro e w2 ⟨A1, c1, rfl, ho2, hb2⟩
  have HO2 := Lib.hid ho2; have HB2 := Lib.hid hb2; clear ho2 hb2
  go_wp2_with fail
  have hb3 : Below w2.heap.size w2 (w2.alloc (.cells (rgC place n (.slice A1 k c1) (.slice C n d) 0 false false) 54)) := (Below.refl _ _).alloc (Nat.le_refl _) _
  have HB : Below w.heap.size w w2 := below_then HB1.out HB1.out.size HB2.out
  go_ret2
  refine ⟨⟨w.heap.size, w2.heap.size, A1, c1, C, d⟩, rfl, ⟨heap_alloc_new _ _, ?_, ?_, HB.size, ⟨hn1, hn2, hp0, hp1, hk, by omega, by omega, HL.out⟩⟩, rfl, below_then HB HB.size hb3⟩
  · exact own_move (own_base_le HO2.out HB1.out.size) (fun k hk => hb3.block k (own_lt HO2.out k hk))
  · exact own_move HO1.out (fun k hk => ((hb3.block k (Nat.lt_of_lt_of_le (own_lt HO1.out k hk) HB2.out.size)).trans (HB2.out.block k (own_lt HO1.out k hk))))
end Go.Proofs.Ytjidjbjbngbhpaa
