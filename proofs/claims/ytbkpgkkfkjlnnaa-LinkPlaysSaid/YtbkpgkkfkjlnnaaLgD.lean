/- slices.DeleteFunc of what was acknowledged. -/
import Derived.Test.YtbkpgkkfkjlnnaaLgC
set_option linter.unusedVariables false
set_option linter.unusedSimpArgs false
namespace Go.Proofs.Ytbkpgkkfkjlnnaa.G
open Go.RowKit Go.Proofs.YtbkpgkkfkjlnnaaW.PrintWords Go.Proofs.YtbkpgkkfkjlnnaaW.PrintLast Go.Proofs.Ytbkpgkkfkjlnnaa.K Go.Proofs.Ytbkpgkkfkjlnnaa.Row Go.Proofs.Ytbkpgkkfkjlnnaa

theorem row9 {w : World} {base n g c : Nat} {L : List Sn} (h : w.ownsRow base 65 9 (.slice (some ⟨g, 0, none⟩) n c) n (snC L)) {k : Nat} {x : Sn} (hx : L[k]? = some x) : (∀ j, j < 9 → w.cell? ⟨g, k * 9 + j, none⟩ = x.cells[j]?) ∧ ∀ j, w.frozen? ⟨g, j, none⟩ = false := by
  obtain ⟨cs, hcs⟩ := own_typed h g rfl
  refine ⟨fun j hj => ?_, fun j => blk_frozen hcs j⟩
  have e := flat_get Sn.cells 9 sn_len L k x hx j hj
  obtain ⟨u, hu⟩ : ∃ u, x.cells[j]? = some u := ⟨x.cells[j]'(by rw [sn_len]; exact hj), List.getElem?_eq_getElem _⟩
  have := h.cells (g := g) rfl (k * 9 + j) u (by unfold snC; rw [e, hu])
  rw [Go.Proofs.YtbkpgkkfkjlnnaaW.PrintWords.add_plain] at this
  rw [this, hu]
theorem own_len {w : World} {base n c : Nat} {A : Option Addr} {L : List Sn} (h : w.ownsRow base 65 9 (.slice A n c) n (snC L)) : L.length = n := by
  have := h.1
  unfold snC at this
  rw [flat_len Sn.cells 9 sn_len] at this; omega
def ixOf (L : List Sn) (pr : Sn → Bool) : Int := if L.findIdx pr < L.length then ((L.findIdx pr : Nat) : Int) else -1
theorem ixOf_hit {L : List Sn} {pr : Sn → Bool} {k : Nat} {x : Sn} (hx : L[k]? = some x) (hs : pr x = true) (hno : ∀ j y, j < k → L[j]? = some y → pr y = false) : ixOf L pr = (k : Int) := by
  have hk := (List.getElem?_eq_some_iff.1 hx).1
  have e : L.findIdx pr = k := by
    rw [List.findIdx_eq hk]
    refine ⟨?_, fun j hj => hno j L[j] hj (List.getElem?_eq_getElem _)⟩
    have : L[k] = x := (List.getElem?_eq_some_iff.1 hx).2
    rw [this]; exact hs
  unfold ixOf
  rw [e, if_pos hk]
theorem ixOf_miss {L : List Sn} {pr : Sn → Bool} (hno : ∀ j y, j < L.length → L[j]? = some y → pr y = false) : ixOf L pr = -1 := by
  unfold ixOf
  rw [if_neg]
  rw [List.findIdx_lt_length]
  rintro ⟨x, hx, h⟩
  obtain ⟨j, hj⟩ := List.mem_iff_getElem?.1 hx
  rw [hno j x (List.getElem?_eq_some_iff.1 hj).1 hj] at h; cases h
theorem ixOf_cases (L : List Sn) (pr : Sn → Bool) : (ixOf L pr = -1 ∧ ∀ x ∈ L, pr x = false) ∨ ∃ i x, ixOf L pr = (i : Nat) ∧ L[i]? = some x ∧ pr x = true ∧ ∀ j y, j < i → L[j]? = some y → pr y = false := by
  by_cases h : L.findIdx pr < L.length
  · right
    refine ⟨L.findIdx pr, L[L.findIdx pr], by unfold ixOf; rw [if_pos h], List.getElem?_eq_getElem h, List.findIdx_getElem, fun j y hj hy => ?_⟩
    have := List.not_of_lt_findIdx hj
    obtain ⟨hl, e⟩ := List.getElem?_eq_some_iff.1 hy
    rw [← e]; simpa using this
  · left
    refine ⟨by unfold ixOf; rw [if_neg h], fun x hx => ?_⟩
    cases hp : pr x with
    | false => rfl
    | true => exact absurd (List.findIdx_lt_length.2 ⟨x, hx, hp⟩) h
/-- What confirm captures: the acknowledgement's box and its one number. -/
structure Cap (w : World) (gm : Nat) (ad : Addr) (cN : Nat) (q : Int) : Prop where
  m : w.cell? ⟨gm, 5, none⟩ = some (.slice (some ad) 1 cN)
  q : w.cell? ad = some (.int .i64 q)
theorem Cap.below {w w' : World} {gm : Nat} {ad : Addr} {cN : Nat} {q : Int} (h : Cap w gm ad cN q) (hb : Below w.heap.size w w') : Cap w' gm ad cN q := ⟨pw_cell_below hb h.m, pw_cell_below hb h.q⟩
theorem Cap.grown {w w' : World} {gm g : Nat} {ad : Addr} {cN : Nat} {q : Int} (h : Cap w gm ad cN q) (hg : w.grownBy w' (some g)) (h1 : gm ≠ g) (h2 : ad.block ≠ g) : Cap w' gm ad cN q :=
  ⟨(World.cell?_of_block (hg.block gm (World.block_lt_of_cell? w _ h.m) (fun e => h1 (by injection e)))).trans h.m, (World.cell?_of_block (hg.block ad.block (World.block_lt_of_cell? w _ h.q) (fun e => h2 (by injection e)))).trans h.q⟩
set_option maxHeartbeats 2000000 in
theorem sindex_walk (A : Option Addr) (n c : Nat) (L : List Sn) (gm : Nat) (ad : Addr) (cN : Nat) (q : Int) (w : World) (ho : w.ownsRow 0 65 9 (.slice A n c) n (snC L)) (hn : n ≤ 100000) (hc : Cap w gm ad cN q) (hs : ∀ p ∈ L, 0 ≤ p.m.s ∧ p.m.s < 4294967296) :
    Calls Try.prog 48 #[.slice A n c, .func (.func 42) #[] #[.pointer (some ⟨gm, 0, none⟩)]] w fun e w' => e = .returned (.int .i64 (ixOf L (ackd q))) ∧ Below w.heap.size w w' := by
  have hl : L.length = n := by
    have := ho.1
    unfold snC at this
    rw [flat_len Sn.cells 9 sn_len] at this; omega
  have HO := Lib.hid ho; have HC := Lib.hid hc; have HL := Lib.hid hl; have HS := Lib.hid hs
  clear ho hc hl hs
  go_enter Try.func48, Try.ntmps48
  go_wp2_with fail
  go_loopw [8] (fun i wr => ∃ k : Nat, k ≤ n ∧ i = .int .i64 k ∧ Aside0 (Below w.heap.size w wr ∧ ∀ j y, j < k → L[j]? = some y → ackd q y = false)) (fun i _ => n - (intOf i).toNat)
  case atStart => exact ⟨0, Nat.zero_le _, rfl, Below.refl _ _, fun j y hj => absurd hj (by omega)⟩
  case round =>
    obtain ⟨k, hk, rfl, HK⟩ := hrel
    by_cases hlt : k < n
    · obtain ⟨x, hx⟩ : ∃ x, L[k]? = some x := ⟨L[k]'(by rw [HL.out]; exact hlt), List.getElem?_eq_getElem _⟩
      obtain ⟨ga, hga⟩ : ∃ ga, A = some ⟨ga, 0, none⟩ := by
        obtain ⟨g, cap, e, _, _⟩ := HO.out.form (by omega)
        injection e with e1 e2 e3
        exact ⟨g, e1⟩
      subst hga
      obtain ⟨hy, _⟩ := row9 (pw_own_below HO.out HK.out.1) hx
      have c0 := hy 0 (by decide); have c1 := hy 1 (by decide); have c2 := hy 2 (by decide); have c3 := hy 3 (by decide); have c4 := hy 4 (by decide); have c5 := hy 5 (by decide); have c6 := hy 6 (by decide); have c7 := hy 7 (by decide); have c8 := hy 8 (by decide)
      simp only [Sn.cells, Hd.cells, List.cons_append, List.nil_append, List.getElem?_cons_zero, List.getElem?_cons_succ, Nat.add_zero] at c0 c1 c2 c3 c4 c5 c6 c7 c8
      have C1 := Lib.hid (conf1_walk x gm ad cN q wr (HS.out x (List.mem_of_getElem? hx)) (HC.out.below HK.out.1).m (HC.out.below HK.out.1).q)
      have HX := Lib.hid hx; have HLT := Lib.hid hlt
      clear hx hy
      go_wp2_with fail
      refine C1.out.mono ?_
      rintro e w2 ⟨rfl, hb2⟩
      have HB2 := Lib.hid (below_then HK.out.1 HK.out.1.size hb2)
      clear hb2 c0 c1 c2 c3 c4 c5 c6 c7 c8
      cases hs : ackd q x with
      | true =>
        have HS1 := Lib.hid hs; clear hs
        go_wp2_with fail
        go_ret
        exact ⟨ret_i (ixOf_hit HX.out HS1.out HK.out.2).symm, HB2.out⟩
      | false =>
        have HS1 := Lib.hid hs; clear hs
        go_wp2_with fail
        go_roundw
        case rel =>
          refine ⟨k + 1, by have := HLT.out; omega, by go_num, HB2.out, fun j y hj hy => ?_⟩
          rcases Nat.lt_or_ge j k with h | h
          · exact HK.out.2 j y h hy
          · obtain rfl : j = k := by omega
            rw [HX.out] at hy; injection hy with hy; subst hy; exact HS1.out
        case measure => have := HLT.out; simp [intOf]; omega
    · obtain rfl : k = n := by omega
      go_wp2_with fail
      go_ret
      exact ⟨ret_i (ixOf_miss (fun j y hj hy => HK.out.2 j y (by have := HL.out; omega) hy)).symm, HK.out.1⟩
end Go.Proofs.Ytbkpgkkfkjlnnaa.G
