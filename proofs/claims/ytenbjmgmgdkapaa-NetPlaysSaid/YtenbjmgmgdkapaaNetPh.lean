/- Both nets side by side: the other calls. -/
import Derived.Test.YtenbjmgmgdkapaaNetPg
set_option linter.unusedVariables false
set_option linter.unusedSimpArgs false
namespace Go.Proofs.Ytenbjmgmgdkapaa
open Go.RowKit Go.Proofs.YtenbjmgmgdkapaaW.PrintWords Go.Proofs.Ytenbjmgmgdkapaa.K Go.Proofs.Ytenbjmgmgdkapaa.Row

def Okd (D : List Dat) : Prop := D.length ≤ 1000 ∧ ∀ d ∈ D, d.2.2.1.length ≤ 200
theorem map_erase {α β : Type} (h : α → β) (L : List α) (k : Nat) : (L.eraseIdx k).map h = (L.map h).eraseIdx k := by
  induction L generalizing k with
  | nil => simp
  | cons a l ih => cases k with
    | zero => simp
    | succ k => simp [ih]
abbrev dz : Dat := (0, 0, [], false)
theorem okd_at {D : List Dat} (h : Okd D) {L : List Pk} (hL : L.map Pk.dat = D) {p : Pk} (hp : p ∈ L) : p.b.length ≤ 32768 := by
  have := h.2 p.dat (by rw [← hL]; exact List.mem_map_of_mem hp)
  have e : p.dat.2.2.1 = p.b := rfl
  rw [e] at this
  omega
theorem own_nilc {w : World} {bs : Nat} {e : TypeId} {n : Nat} {ys : List Value} {A : Option Addr} {k c : Nat} (h : w.ownsRow bs e 1 (.slice A k c) n ys) : A = none → c = 0 := fun e0 => by
  rcases h.2 with ⟨h1, _⟩ | ⟨_, _, _, h1, _⟩
  · injection h1
  · rw [e0] at h1; injection h1 with h1; cases h1
section
variable {w : World} {base r mb r' n : Nat} {room : Int} {f g : Nat → Nat → Bool} {D E : List Dat} (hB : Both w base r mb r' room n f D g E)
include hB
theorem p_len : Calls Try.prog 12 #[.pointer (some ⟨r, 0, none⟩)] w fun e w' => e = .returned (.int .i64 (D.length : Int)) ∧ w = w' := by
  obtain ⟨L, M, hS, hR, hD, hE, hap⟩ := hB.h
  rw [← dat_len hD]
  exact hS.len
theorem p_at (hO : Okd D) (k : Nat) (hk : k < D.length) : Calls Try.prog 15 #[.pointer (some ⟨r, 0, none⟩), .int .i64 (k : Int)] w fun e w' => ∃ A1 c1, e = .returned (.tuple #[.agg #[.int .i64 (D.getD k dz).1, .int .i64 (D.getD k dz).2.1, .slice A1 (D.getD k dz).2.2.1.length c1], .bool true]) ∧ ReadsInt w' .u8 A1 (D.getD k dz).2.2.1.length (D.getD k dz).2.2.1 ∧ Below w.heap.size w w' := by
  obtain ⟨L, M, hS, hR, hD, hE, hap⟩ := hB.h
  obtain ⟨p, hp, hd⟩ := dat_at hD hk
  rw [← hd]
  exact at_ok base r mb room n f L k p w hS hp (by rw [dat_len hD]; have := hO.1; omega) (okd_at hO hD (List.mem_of_getElem? hp))
theorem p_take (hO : Okd D) (k : Int) : Calls Try.prog 13 #[.pointer (some ⟨r, 0, none⟩), .int .i64 k] w fun e w' => ∃ A1 c1, e = .returned (.tuple #[.agg #[.int .i64 (takeP D k).1, .int .i64 (takeP D k).2.1, .slice A1 (takeP D k).2.2.1.length c1], .bool (inB D k)]) ∧ w'.ownsRow w.heap.size 5 1 (.slice A1 (takeP D k).2.2.1.length c1) (takeP D k).2.2.1.length (nums .u8 (takeP D k).2.2.1) ∧ Both w' base r mb r' room n f (takeD D k) g E ∧ Fr base w w' := by
  have hbw := hB.bw
  obtain ⟨L, M, hS, hR, hD, hE, hap⟩ := hB.h
  cases hi : inB D k with
  | false =>
    have e1 : takeP D k = dz := by unfold takeP; rw [if_neg (by rw [hi]; decide)]
    have e2 : takeD D k = D := by unfold takeD; rw [if_neg (by rw [hi]; decide)]
    rw [e1, e2]
    obtain ⟨A, c, h1, h2⟩ := hS.cl
    refine (take_no r room A L.length c mb k w h1 (by rw [dat_len hD]; have := hO.1; omega) (by rw [dat_len hD]; exact inB_no hi)).mono ?_
    rintro e w' ⟨he, hb⟩
    exact ⟨none, 0, he, ⟨rfl, .inl ⟨rfl, rfl⟩⟩, hB.below hb, Fr.ofBelow hb hbw⟩
  | true =>
    obtain ⟨m, rfl, hm⟩ := inB_nat hi
    have e1 : takeP D (m : Int) = D.getD m dz := by unfold takeP; rw [if_pos hi, Int.toNat_natCast]
    have e2 : takeD D (m : Int) = D.eraseIdx m := by unfold takeD; rw [if_pos hi, Int.toNat_natCast]
    rw [e1, e2]
    obtain ⟨p, hp, hd⟩ := dat_at hD hm
    rw [← hd]
    refine (take_own base r mb room n f L m p w hS hp (by rw [dat_len hD]; have := hO.1; omega) (okd_at hO hD (List.mem_of_getElem? hp))).mono ?_
    rintro e w' ⟨A1, c1, he, hr1, hS1, hb1, hk1⟩
    exact ⟨A1, c1, he, hr1, ⟨⟨_, M, hS1, hR.kept20 hk1 hS1.bw, by rw [← hD]; exact map_erase _ _ _, hE, hap.sub (fun p hp => List.mem_of_mem_eraseIdx hp) (fun p hp => hp)⟩⟩, KeptB.of20 hk1, hb1, (hb1 w (Below.refl _ _)).size⟩
theorem p_lose (hO : Okd D) (k : Int) : Calls Try.prog 17 #[.pointer (some ⟨r, 0, none⟩), .int .i64 k] w fun e w' => e = .returned (.bool (inB D k)) ∧ Both w' base r mb r' room n f (takeD D k) g E ∧ Fr base w w' := by
  have hbw := hB.bw
  obtain ⟨L, M, hS, hR, hD, hE, hap⟩ := hB.h
  cases hi : inB D k with
  | false =>
    have e2 : takeD D k = D := by unfold takeD; rw [if_neg (by rw [hi]; decide)]
    rw [e2]
    obtain ⟨A, c, h1, h2⟩ := hS.cl
    refine (lose_no r room A L.length c mb k w h1 (by rw [dat_len hD]; have := hO.1; omega) (by rw [dat_len hD]; exact inB_no hi)).mono ?_
    rintro e w' ⟨he, rfl⟩
    exact ⟨he, hB, Fr.ofBelow (Below.refl _ _) hbw⟩
  | true =>
    obtain ⟨m, rfl, hm⟩ := inB_nat hi
    have e2 : takeD D (m : Int) = D.eraseIdx m := by unfold takeD; rw [if_pos hi, Int.toNat_natCast]
    rw [e2]
    refine (lose_ok base r mb room n f L m w hS (by rw [dat_len hD]; exact hm) (by rw [dat_len hD]; have := hO.1; omega)).mono ?_
    rintro e w' ⟨he, hS1, hb1, hk1⟩
    exact ⟨he, ⟨⟨_, M, hS1, hR.kept20 hk1 hS1.bw, by rw [← hD]; exact map_erase _ _ _, hE, hap.sub (fun p hp => List.mem_of_mem_eraseIdx hp) (fun p hp => hp)⟩⟩, KeptB.of20 hk1, hb1, (hb1 w (Below.refl _ _)).size⟩
theorem p_copy (hO : Okd D) (hroom : room ≤ 65536) (k : Int) : Calls Try.prog 14 #[.pointer (some ⟨r, 0, none⟩), .int .i64 k] w fun e w' => e = .returned (.bool (copyB room D k)) ∧ Both w' base r mb r' room n f (copyD room D k) g E ∧ Fr base w w' := by
  have hbw := hB.bw
  obtain ⟨L, M, hS, hR, hD, hE, hap⟩ := hB.h
  cases hi : copyB room D k with
  | false =>
    have e2 : copyD room D k = D := by unfold copyD; rw [if_neg (by rw [hi]; decide)]
    rw [e2]
    obtain ⟨A, c, h1, h2⟩ := hS.cl
    refine (copy_no r room A L.length c mb k w h1 (by rw [dat_len hD]; have := hO.1; omega) (fun h => by
      rw [dat_len hD] at h
      unfold copyB inB at hi
      rw [decide_eq_true h.1, decide_eq_true h.2] at hi
      cases hi)).mono ?_
    rintro e w' ⟨he, hb⟩
    exact ⟨he, hB.below hb, Fr.ofBelow hb hbw⟩
  | true =>
    have hi' := hi
    unfold copyB at hi'
    rw [Bool.and_eq_true] at hi'
    obtain ⟨m, rfl, hm⟩ := inB_nat hi'.1
    have hl := of_decide_eq_true hi'.2
    have e2 : copyD room D (m : Int) = D ++ [D.getD m dz] := by unfold copyD; rw [if_pos hi, Int.toNat_natCast]
    rw [e2]
    obtain ⟨p, hp, hd⟩ := dat_at hD hm
    refine (copy_ok base r mb room n f L m p w hS hp (okd_at hO hD (List.mem_of_getElem? hp)) (by rw [dat_len hD]; exact hl) hroom).mono ?_
    rintro e w' ⟨A1, c1, he, hS1, hb1, hk1, ho1⟩
    exact ⟨he, ⟨⟨_, M, hS1, hR.kept20 hk1 hS1.bw, by rw [List.map_append, hD, ← hd]; rfl, hE, hap.addL (fun q hq => fresh_apart (V := (⟨p.f, p.t, A1, c1, p.b, p.sp⟩ : Pk).val) ho1 (hR.bd q hq))⟩⟩, KeptB.of20 hk1, hb1, (hb1 w (Below.refl _ _)).size⟩
theorem p_spoil (hO : Okd D) (k i by_ : Int) : Calls Try.prog 16 #[.pointer (some ⟨r, 0, none⟩), .int .i64 k, .int .i64 i, .int .u8 by_] w fun e w' => e = .returned (.bool (spoilB D k i by_)) ∧ Both w' base r mb r' room n f (spoilD D k i by_) g E ∧ Fr base w w' := by
  have hbw := hB.bw
  obtain ⟨L, M, hS, hR, hD, hE, hap⟩ := hB.h
  obtain ⟨A, c, h1, h2⟩ := hS.cl
  have hLl : L.length ≤ 100000 := by rw [dat_len hD]; have := hO.1; omega
  cases hin : inB D k with
  | false =>
    have e1 : spoilB D k i by_ = false := by unfold spoilB; rw [hin]; rfl
    have e2 : spoilD D k i by_ = D := by unfold spoilD; rw [if_neg (by rw [e1]; decide)]
    rw [e1, e2]
    refine (spoil_miss r room A L.length c mb k i by_ w h1 hLl (by rw [dat_len hD]; exact inB_no hin)).mono ?_
    rintro e w' ⟨he, rfl⟩
    exact ⟨he, hB, Fr.ofBelow (Below.refl _ _) hbw⟩
  | true =>
    obtain ⟨m, rfl, hm⟩ := inB_nat hin
    obtain ⟨p, hp, hd⟩ := dat_at hD hm
    have hmem := List.mem_of_getElem? hp
    cases hi : spoilB D (m : Int) i by_ with
    | false =>
      have e2 : spoilD D (m : Int) i by_ = D := by unfold spoilD; rw [if_neg (by rw [hi]; decide)]
      rw [e2]
      refine (spoil_ng base r mb room n f L m i by_ p w hS hp hLl (okd_at hO hD hmem) (fun h => by
        unfold spoilB at hi
        rw [hin, Int.toNat_natCast, ← hd] at hi
        have e3 : p.dat.2.2.1 = p.b := rfl
        have e4 : p.dat.2.2.2 = p.sp := rfl
        rw [e3, e4, decide_eq_true h.1, h.2.2] at hi
        have : (by_ == 0) = false := by simpa using h.2.1
        rw [this] at hi
        cases hi)).mono ?_
      rintro e w' ⟨he, rfl⟩
      exact ⟨he, hB, Fr.ofBelow (Below.refl _ _) hbw⟩
    | true =>
      have hi' := hi
      unfold spoilB at hi'
      rw [Int.toNat_natCast, ← hd] at hi'
      simp only [Bool.and_eq_true, Bool.not_eq_true'] at hi'
      obtain ⟨_, h4, h5, h6⟩ := hi'
      have h7 := of_decide_eq_true h4
      have e3 : p.dat.2.2.1 = p.b := rfl
      rw [e3] at h7
      obtain ⟨j, rfl⟩ : ∃ j : Nat, i = (j : Int) := ⟨i.toNat, by omega⟩
      have e2 : spoilD D (m : Int) (j : Int) by_ = D.set m (spoilP (D.getD m dz) (j : Int) by_) := by unfold spoilD; rw [if_pos hi, Int.toNat_natCast]
      rw [e2, ← hd]
      refine (spoil_own base r mb room n f L m j by_ p w hS hp hLl (okd_at hO hD hmem) (by omega) (by simpa using h5) h6).mono ?_
      rintro e w' ⟨he, hS1, hb1, hc1⟩
      have hdt : (p.spoil j (bits .xor .u8 (p.b.getD j 0) by_)).dat = spoilP p.dat (j : Int) by_ := by simp [Pk.spoil, Pk.dat, spoilP]
      refine ⟨he, ⟨⟨_, M, hS1, hR.chg hc1 ?_ ?_ ?_, by rw [← hD, List.map_set, hdt], hE, ?_⟩⟩, KeptB.ofChg hc1 ?_, hb1, hc1.size⟩
      · obtain ⟨A', c', g1, _⟩ := hR.cl
        rintro (h | h)
        · obtain ⟨cs, h'⟩ := own_typed (hS.bd p hmem) r' h
          rw [g1] at h'; injection h' with h'; injection h' with _ h'; exact absurd h' (by decide)
        · exact TyS.not g1 (by decide) h
      · intro V k' Ms hV g' hg'
        obtain ⟨cs, h'⟩ := own_typed hV g' hg'
        rintro (h | h)
        · obtain ⟨cs', h''⟩ := own_typed (hS.bd p hmem) g' h
          rw [h'] at h''; injection h'' with h''; injection h'' with _ h''; exact absurd h'' (by decide)
        · exact TyS.not h' (by decide) h
      · intro q hq g' hg'
        rintro (h | h)
        · rcases hap p hmem q hq with h' | h'
          · rw [h'] at h; cases h
          · exact h' (h.trans hg'.symm)
        · obtain ⟨cs, h'⟩ := own_typed (hR.bd q hq) g' hg'
          exact TyS.not h' (by decide) h
      · intro s hs q hq
        obtain ⟨t, ht⟩ := List.mem_iff_getElem?.1 hs
        by_cases htm : t = m
        · subst htm
          rw [List.getElem?_set_self (List.getElem?_eq_some_iff.1 hp).1] at ht
          injection ht with ht
          subst ht
          rw [spoil_val]
          exact hap p hmem q hq
        · rw [List.getElem?_set_ne (fun e => htm e.symm)] at ht
          exact hap s (List.mem_of_getElem? ht) q hq
      · rintro b (h | ⟨cs, ty, h, h'⟩)
        · obtain ⟨cs, h'⟩ := own_typed (hS.bd p hmem) b h
          exact .inl ⟨cs, _, h', by simp⟩
        · simp only [List.mem_singleton] at h'
          subst h'
          exact .inl ⟨cs, _, h, by simp⟩
theorem p_cut (a b : Int) (v : Bool) (hn : n < 100000) : Calls Try.prog 11 #[.pointer (some ⟨r, 0, none⟩), .int .i64 a, .int .i64 b, .bool v] w fun e w' => e = .returned (.tuple #[]) ∧ Both w' base r mb r' room (n + 1) (cutF f a b v) D g E ∧ Fr base w w' := by
  have hbw := hB.bw
  obtain ⟨L, M, hS, hR, hD, hE, hap⟩ := hB.h
  by_cases hok : okB a = true ∧ okB b = true
  · obtain ⟨x, rfl, hx⟩ := okB_nat hok.1
    obtain ⟨y, rfl, hy⟩ := okB_nat hok.2
    have e1 : cutF f (x : Int) (y : Int) v = upd f x y v := by unfold cutF; rw [if_pos hok, Int.toNat_natCast, Int.toNat_natCast]
    rw [e1]
    refine (cut_own base r mb room n f L x y v w hx hy hn hS).mono ?_
    rintro e w' ⟨he, hS1, hb1, hc1⟩
    obtain ⟨A', c', g1, _⟩ := hR.cl
    have hmap : ∀ (cs : Array Value) (ty : TypeId), w.heap[mb]? ≠ some (.cells cs ty (0, 0)) := fun cs ty h => by
      obtain ⟨D', ⟨es, clock, e1, e2⟩, _⟩ := hS.cu
      rw [e1] at h; cases h
    have hown : ∀ {bs sz k : Nat} {e : TypeId} {V : Value} {Ms : List Value}, w.ownsRow bs e sz V k Ms → ∀ g, V.ownBlock = some g → ¬ g = mb := fun hV g hg e => by
      obtain ⟨cs, h'⟩ := own_typed hV g hg
      rw [e] at h'; exact hmap _ _ h'
    refine ⟨he, ⟨⟨L, M, hS1, hR.chg hc1 (fun e => by rw [e] at g1; exact hmap _ _ g1) (fun V k Ms hV => hown hV) (fun q hq => hown (hR.bd q hq)), hD, hE, hap⟩⟩, KeptB.ofChg hc1 (fun b hb => ?_), hb1, hc1.size⟩
    subst hb
    obtain ⟨D', ⟨es, clock, e1, e2⟩, _⟩ := hS.cu
    exact .inr ⟨es, clock, e1⟩
  · have e1 : cutF f a b v = f := by unfold cutF; rw [if_neg hok]
    rw [e1]
    refine (cut_no r a b v w (fun h => hok ⟨okB_iff.2 h.1, okB_iff.2 h.2⟩)).mono ?_
    rintro e w' ⟨he, rfl⟩
    exact ⟨he, ⟨⟨L, M, ⟨hS.cl, hS.bd, hS.ap, by
      obtain ⟨D', ⟨es, clock, e1, e2, e3⟩, g2, g3⟩ := hS.cu
      exact ⟨D', ⟨es, clock, e1, e2, Nat.le_succ_of_le e3.1, e3.2⟩, g2, g3⟩, hS.br, hS.bm, hS.ne, hS.bw⟩, hR, hD, hE, hap⟩⟩, Fr.ofBelow (Below.refl _ _) hbw⟩
end
end Go.Proofs.Ytenbjmgmgdkapaa
