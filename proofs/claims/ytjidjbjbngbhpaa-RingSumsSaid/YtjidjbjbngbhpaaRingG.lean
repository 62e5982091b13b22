/- Ring: which chunk, where it lies; a slice of a slice of wide numbers. -/
import Derived.Test.YtjidjbjbngbhpaaRingF
set_option linter.unusedVariables false
set_option linter.unusedSimpArgs false
namespace Go.Proofs.Ytjidjbjbngbhpaa
open Go.RowKit Go.Proofs.YtjidjbjbngbhpaaW.PrintWords Go.Proofs.Ytjidjbjbngbhpaa.K

/-- Which chunk. -/
def cs (p n r : Int) : Int := if r < n - 1 then (p - r + n) % n else (p + 1 - (r - (n - 1)) + n) % n
theorem cs_rng {p n r : Int} (h1 : 2 ≤ n) : 0 ≤ cs p n r ∧ cs p n r < n := by
  unfold cs
  split
  · exact ⟨Int.emod_nonneg _ (by omega), Int.emod_lt_of_pos _ (by omega)⟩
  · exact ⟨Int.emod_nonneg _ (by omega), Int.emod_lt_of_pos _ (by omega)⟩
theorem sends_any (p n r : Int) (w : World) (h : SendsOk p n r) :
    Calls Try.prog 21 #[.int .i64 p, .int .i64 n, .int .i64 r] w fun e w' => e = .returned (.tuple #[.int .i64 (cs p n r), .bool (decide (r < n - 1)), .int .i64 0]) ∧ w = w' := by
  by_cases hr : r < n - 1
  · have := sends_lo p n r w h hr
    unfold cs
    rw [if_pos hr, decide_eq_true hr]
    exact this
  · have := sends_hi p n r w h hr
    unfold cs
    rw [if_neg hr, decide_eq_false hr]
    exact this
theorem chunk_at (long n : Nat) : ∀ (k i : Nat), i < k → (chunkL long n k).getD i (0, 0) = (((cstart long n i : Nat) : Int), ((cstart long n (i + 1) : Nat) : Int))
  | 0, i, h => absurd h (Nat.not_lt_zero _)
  | k + 1, i, h => by
    rw [chunkL, List.getD_eq_getElem?_getD]
    rcases Nat.lt_or_ge i k with h1 | h1
    · rw [List.getElem?_append_left (by rw [chunkL_len]; omega), ← List.getD_eq_getElem?_getD]
      exact chunk_at long n k i h1
    · obtain rfl : i = k := by omega
      rw [List.getElem?_append_right (by rw [chunkL_len]; omega), chunkL_len]
      simp
theorem cstart_mono (long n i : Nat) : cstart long n i ≤ cstart long n (i + 1) := by rw [cstart_succ]; exact Nat.le_trans (Nat.le_add_right _ _) (Nat.le_add_right _ _)
theorem cstart_end (long n : Nat) (hn : 1 ≤ n) : cstart long n n = long := by
  unfold cstart
  have h1 := Nat.div_add_mod long n
  have h2 := Nat.mod_lt long hn
  rw [Nat.min_eq_right (by omega)]
  exact h1
def cutL (l : List (Int × Int)) (a b : Nat) : List (Int × Int) := (l.drop a).take (b - a)
theorem cutL_len (l : List (Int × Int)) (a b : Nat) (h : b ≤ l.length) : (cutL l a b).length = b - a := by
  unfold cutL; rw [List.length_take, List.length_drop]; omega
theorem wides_cut {w : World} {A : Option Addr} {n : Nat} {l : List (Int × Int)} (h : WidesAt w A n l) (c a b : Nat) (hab : a ≤ b) (hb : b ≤ n) (hc : n ≤ c) : WidesAt w (if c = a then A else A.map (·.add (a * 2))) (b - a) (cutL l a b) := by
  have hl := h.1
  refine ⟨cutL_len l a b (by omega), by have := h.2.1; omega, fun i hi => ?_⟩
  obtain ⟨ad, e, h1, h2⟩ := h.2.2 (a + i) (by omega)
  have ne : c ≠ a := by omega
  have e2 : (ad.add (a * 2)).add (i * 2) = ad.add ((a + i) * 2) := by rw [Go.Deep.add_add, Nat.add_mul]
  have e3 : (cutL l a b).getD i (0, 0) = l.getD (a + i) (0, 0) := by
    unfold cutL
    rw [List.getD_eq_getElem?_getD, List.getD_eq_getElem?_getD, List.getElem?_take, if_pos hi, List.getElem?_drop]
  refine ⟨ad.add (a * 2), by rw [if_neg ne, e]; rfl, ?_, ?_⟩
  · rw [e2, e3]; exact h1
  · rw [e2, e3]; exact h2
theorem run_cutw (A : Option Addr) (n c a b : Nat) (hab : a ≤ b) (hb : b ≤ c) : ∀ W : World, (Instr.slice 25 (.slice A n c) (some (.int .i64 (a : Int))) (some (.int .i64 (b : Int))) none).run Try.prog W = .ok (.slice (if c = a then A else A.map (·.add (a * 2))) (b - a) (c - a)) W := by
  intro W
  obtain ⟨i0, hi0, hz0, hz1, hz2⟩ := infoWd
  have ht : Try.prog.underlying 25 = some (.slice 33) := Try.underlying25
  have hel : Try.prog.elem 25 = 33 := by simp [Program.elem, ht]
  have hu : Try.prog.underlying 25 = some (.slice (Try.prog.elem 25)) := by rw [hel]; exact ht
  rw [run_slice_lh W 25 A n c hu .i64 .i64 (a : Int) (b : Int) (Int.natCast_nonneg _) (by omega) (by omega), hel]
  simp [sizeOf, typeInfo, hi0, hz1, sliced, Result.andThen]
/-- What 'next' makes. -/
def nxR (round : Int) (told taken : Bool) : Int := if told && taken then round + 1 else round
def nxT (told taken : Bool) : Bool := if told && taken then false else told
def nxG (told taken : Bool) : Bool := if told && taken then false else taken
theorem next_any (w : World) (id : RgId) (place : Int) (n k : Nat) (l : List (Int × Int)) (round : Int) (told taken : Bool) (h : RgS w id place n k l round told taken) (hr : round + 1 ≤ 2 * n - 2) :
    Calls Try.prog 22 #[.pointer (some ⟨id.r, 0, none⟩)] w fun e w' => e = .returned (.tuple #[]) ∧ RgS w' id place n k l (nxR round told taken) (nxT told taken) (nxG told taken) ∧ w.grownBy w' (some id.r) := by
  cases hb : (told && taken) with
  | false =>
    refine (next_no w id.r place n _ _ round told taken h.obj hb).mono ?_
    rintro e w' ⟨rfl, rfl⟩
    refine ⟨rfl, ?_, rfl, rfl, rfl, Nat.le_refl _, fun _ _ _ => rfl⟩
    simp only [nxR, nxT, nxG, hb, Bool.false_eq_true, if_false]
    exact h
  | true =>
    have h1 : told = true := by cases told <;> simp_all
    have h2 : taken = true := by cases taken <;> simp_all
    subst h1 h2
    obtain ⟨a1, a2, a3, a4, a5, a6, a7, a8⟩ := h.ok
    refine (next_ok w id.r place n _ _ round h.obj ⟨a6, by omega⟩).mono ?_
    rintro e w' ⟨rfl, ho, hg⟩
    refine ⟨rfl, ⟨ho, own_other h.row hg ?_, own_other h.chs hg ?_, h.lo, ⟨a1, a2, a3, a4, a5, by simp [nxR]; omega, by simp [nxR]; omega, a8⟩⟩, hg⟩
    · have := own_ne h.row h.obj (by decide)
      exact .inr fun e => this e.symm
    · have := own_ne h.chs h.obj (by decide)
      exact .inr fun e => this e.symm
end Go.Proofs.Ytjidjbjbngbhpaa
