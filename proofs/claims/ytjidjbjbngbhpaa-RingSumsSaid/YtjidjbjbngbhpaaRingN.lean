/- Ring: what the laws hold of a ring: where it lies, what stays; Out, Get, Sum, Done of it. -/
import Derived.Test.YtjidjbjbngbhpaaRingL
import Derived.Test.YtjidjbjbngbhpaaRingM
set_option linter.unusedVariables false
set_option linter.unusedSimpArgs false
namespace Go.Proofs.Ytjidjbjbngbhpaa
open Go.RowKit Go.Proofs.YtjidjbjbngbhpaaW.PrintWords Go.Proofs.Ytjidjbjbngbhpaa.K

/-- All of a ring lies between two block numbers. -/
def RgIn (id : RgId) (lo hi : Nat) : Prop := lo ≤ id.r ∧ id.r < hi ∧ ∀ ad, id.A = some ad → lo ≤ ad.block ∧ ad.block < hi
theorem RgS.in' {w : World} {id : RgId} {place : Int} {n k : Nat} {l : List (Int × Int)} {round : Int} {told taken : Bool} (h : RgS w id place n k l round told taken) : RgIn id id.base w.heap.size :=
  ⟨h.lo, lt_of_heap h.obj, fun ad e => ⟨(ownA h.row e).2.1, (ownA h.row e).1⟩⟩
theorem RgIn.apart {a b : RgId} {x y z : Nat} (h : RgIn a x y) (h' : RgIn b y z) : RgApart a b ∧ RgApart b a := by
  refine ⟨⟨by have := h.2.1; have := h'.1; omega, fun ad ad' e e' => by have := (h.2.2 ad e).2; have := (h'.2.2 ad' e').1; omega⟩, ⟨by have := h.2.1; have := h'.1; omega, fun ad ad' e e' => by have := (h.2.2 ad' e').2; have := (h'.2.2 ad e).1; omega⟩⟩
theorem RgIn.mono {a : RgId} {x y x' y' : Nat} (h : RgIn a x y) (hx : x' ≤ x) (hy : y ≤ y') : RgIn a x' y' :=
  ⟨Nat.le_trans hx h.1, Nat.lt_of_lt_of_le h.2.1 hy, fun ad e => ⟨Nat.le_trans hx (h.2.2 ad e).1, Nat.lt_of_lt_of_le (h.2.2 ad e).2 hy⟩⟩
theorem RgF.belowW {W w w' : World} {id : RgId} {B hi : Nat} (h : RgF w w' id) (hi' : RgIn id B hi) (hb : Below B W w) (hB : B ≤ w.heap.size) : Below B W w' :=
  ⟨h.os.trans hb.os, h.tape.trans hb.tape, h.output.trans hb.output, Nat.le_trans hb.size h.size, fun k hk => (h.block k (by omega) (by have := hi'.1; omega) (fun ad e => by have := (hi'.2.2 ad e).1; omega)).trans (hb.block k hk)⟩
/-- A part's row stays. -/
theorem RgF.part {w w' : World} {id : RgId} {lo hi b m c : Nat} {A : Option Addr} {M : List Value} (h : RgF w w' id) (hi' : RgIn id lo hi) (hb : hi ≤ b) (ho : w.ownsRow b 33 2 (.slice A m c) m M) : w'.ownsRow b 33 2 (.slice A m c) m M :=
  own_move ho fun k hk => h.block k (own_lt ho k hk) (by have := own_base ho k hk; have := hi'.2.1; omega) (fun ad e => by have := own_base ho k hk; have := (hi'.2.2 ad e).2; omega)
theorem part_ap {w : World} {id : RgId} {lo hi b m c : Nat} {A : Option Addr} {M : List Value} (hi' : RgIn id lo hi) (hb : hi ≤ b) (ho : w.ownsRow b 33 2 (.slice A m c) m M) : ∀ ad, A = some ad → ad.block ≠ id.r ∧ ∀ ad', id.A = some ad' → ad.block ≠ ad'.block := by
  intro ad e
  have := (ownA ho e).2.1
  exact ⟨by have := hi'.2.1; omega, fun ad' e' => by have := (hi'.2.2 ad' e').2; omega⟩
theorem part_read {w : World} {b m c : Nat} {A : Option Addr} {M : List (Int × Int)} (ho : w.ownsRow b 33 2 (.slice A m c) m (wides M)) (hm : m ≤ 1000000) : WidesAt w A m M := (wides_own ho hm).2.2
theorem cutL_wf {l : List (Int × Int)} (h : ∀ p ∈ l, WwfP p) (a b : Nat) : ∀ p ∈ cutL l a b, WwfP p := fun p hp => h p (List.mem_of_mem_drop (List.mem_of_mem_take hp))
theorem RgS.wf {w : World} {id : RgId} {place : Int} {n k : Nat} {l : List (Int × Int)} {round : Int} {told taken : Bool} (h : RgS w id place n k l round told taken) : ∀ p ∈ l, WwfP p := h.ok.2.2.2.2.2.2.2
theorem RgS.len {w : World} {id : RgId} {place : Int} {n k : Nat} {l : List (Int × Int)} {round : Int} {told taken : Bool} (h : RgS w id place n k l round told taken) : l.length = k := by
  have := h.row.1
  rw [wides_len] at this
  omega
/-- Sum, when all is over. -/
theorem sum_done (w : World) (id : RgId) (place : Int) (n k : Nat) (l : List (Int × Int)) (round : Int) (told taken : Bool) (h : RgS w id place n k l round told taken) (hd : 2 * (n : Int) - 3 < round) :
    Calls Try.prog 11 #[.pointer (some ⟨id.r, 0, none⟩)] w fun e w' => ∃ A1 c1, e = .returned (.tuple #[.slice A1 k c1, .bool true]) ∧ w'.ownsRow w.heap.size 33 2 (.slice A1 k c1) k (wides l) ∧ Below w.heap.size w w' := by
  obtain ⟨a1, a2, a3, a4, a5, a6, a7, a8⟩ := h.ok
  refine sum_ok w id.r place n id.A k id.c _ round told taken l h.obj ⟨by omega, by omega⟩ hd (wides_own h.row (by omega)).2.2 (by omega) (fun hA => ?_)
  rcases h.row.2 with ⟨h1, h2⟩ | ⟨g', cap, cur, h1, _⟩
  · injection h1 with h3 h4 h5; exact ⟨h4, h5⟩
  · injection h1 with h3; rw [hA] at h3; cases h3
theorem done_any (w : World) (id : RgId) (place : Int) (n k : Nat) (l : List (Int × Int)) (round : Int) (told taken : Bool) (h : RgS w id place n k l round told taken) (b : Bool) (hb : decide (2 * (n : Int) - 3 < round) = b) :
    Calls Try.prog 13 #[.pointer (some ⟨id.r, 0, none⟩)] w fun e w' => e = .returned (.bool b) ∧ Below w.heap.size w w' := by
  obtain ⟨a1, a2, a3, a4, a5, a6, a7, a8⟩ := h.ok
  have := done_walk w id.r place n _ _ round told taken h.obj ⟨by omega, by omega⟩
  rw [hb] at this
  exact this
end Go.Proofs.Ytjidjbjbngbhpaa
