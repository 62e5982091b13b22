/- Bytes that are read; a string of bytes. -/
import Derived.Test.YtjclimelachagaaPackF
import Derived.Deep.RegionWith
set_option linter.unusedVariables false
set_option linter.unusedSimpArgs false
namespace Go.Proofs.Ytjclimelachagaa
open Go.RowKit Go.Proofs.YtjclimelachagaaW.PrintWords Go.Proofs.Ytjclimelachagaa.K

/-- Bytes that are read, in a block of bytes. -/
def Bts (w : World) (A : Option Addr) (n : Nat) (xs : List Int) : Prop := ReadsInt w .u8 A n xs ∧ ∀ ad, A = some ad → ∃ cs fr, w.heap[ad.block]? = some (.cells cs 5 fr)
theorem Bts.kept {w w' : World} {A : Option Addr} {n : Nat} {xs : List Int} (h : Bts w A n xs) (hk : ∀ k : Nat, (∃ cs fr, w.heap[k]? = some (Obj.cells cs 5 fr)) → w'.heap[k]? = w.heap[k]?) : Bts w' A n xs := by
  obtain ⟨h3, h4⟩ := h
  refine ⟨⟨h3.1, h3.2.1, fun hp => ?_⟩, fun ad e => ?_⟩
  · obtain ⟨ad, e, hc⟩ := h3.2.2 hp
    obtain ⟨cs, fr, hb⟩ := h4 ad e
    refine ⟨ad, e, fun j hj => ?_⟩
    have hbl : (ad.add j).block = ad.block := by unfold Addr.add; split <;> rfl
    rw [World.cell?_of_block (w := w) (by rw [hbl]; exact hk _ ⟨_, _, hb⟩)]
    exact hc j hj
  · obtain ⟨cs, fr, hb⟩ := h4 ad e
    exact ⟨cs, fr, by rw [hk _ ⟨_, _, hb⟩]; exact hb⟩
theorem Bts.below {w w' : World} {A : Option Addr} {n : Nat} {xs : List Int} (h : Bts w A n xs) (hb : Below w.heap.size w w') : Bts w' A n xs := h.kept fun k ⟨_, _, hk⟩ => hb.block k (lt_of_heap hk)
theorem Bts.other {w w' : World} {q : Nat} {A : Option Addr} {n : Nat} {xs ys : List Int} {sq : Bool} (h : Bts w A n xs) (hq : Rdr w q ys sq) (hg : w.grownBy w' (some q)) : Bts w' A n xs :=
  h.kept fun k ⟨cs, fr, hk⟩ => hg.block k (lt_of_heap hk) (fun e => by
    injection e with e
    subst e
    obtain ⟨_, _, _, h1, _⟩ := hq
    rw [hk] at h1
    injection h1 with h1
    injection h1 with _ h1
    exact absurd h1 (by decide))
theorem Bts.own {w : World} {base n : Nat} {A : Option Addr} {m c : Nat} {xs : List Int} (h : w.ownsRow base 5 1 (.slice A m c) n (nums .u8 xs)) : Bts w A n xs := by
  obtain ⟨_, _, _, h1, h2⟩ := own_info h
  exact ⟨h1, fun ad e => by obtain ⟨_, cs, hc⟩ := h2 ad e; exact ⟨cs, _, hc⟩⟩
theorem str_of {w : World} {A : Option Addr} {n c : Nat} {xs : List Int} (h : ReadsInt w .u8 A n xs) : (convert 22 9 (.slice A n c)).run Try.prog w = .ok (.string (strOfNums xs)) w :=
  string_of_reads Try.underlying22 Try.underlying5 Try.underlying9 h

theorem and_i64 (v : Int) : bits .and .i64 v 65535 = v % 65536 := by
  have h1 : (BitVec.ofInt 64 v &&& BitVec.ofInt 64 65535).toNat = (v % 18446744073709551616).toNat % 65536 := by
    rw [BitVec.toNat_and, BitVec.toNat_ofInt, BitVec.toNat_ofInt]
    exact Nat.and_two_pow_sub_one_eq_mod _ 16
  have h2 : bits .and .i64 v 65535 = IntKind.i64.wrap ((BitVec.ofInt 64 v &&& BitVec.ofInt 64 65535).toNat : Int) := rfl
  rw [h2, h1, IntKind.wrap_i64]
  omega
end Go.Proofs.Ytjclimelachagaa
