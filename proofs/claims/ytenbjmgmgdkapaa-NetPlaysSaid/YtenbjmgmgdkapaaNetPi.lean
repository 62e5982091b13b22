/- Both nets side by side: the reference's calls. -/
import Derived.Test.YtenbjmgmgdkapaaNetPh
set_option linter.unusedVariables false
set_option linter.unusedSimpArgs false
namespace Go.Proofs.Ytenbjmgmgdkapaa
open Go.RowKit Go.Proofs.YtenbjmgmgdkapaaW.PrintWords Go.Proofs.Ytenbjmgmgdkapaa.K Go.Proofs.Ytenbjmgmgdkapaa.Row

section
variable {w : World} {base r mb r' n : Nat} {room : Int} {f g : Nat → Nat → Bool} {D E : List Dat}
theorem fr_chg {w' : World} (hc : Chg (TyS w [47, 52]) w w') (hbb : ∀ W, Below base W w → Below base W w') : Fr base w w' :=
  ⟨KeptB.ofChg hc (fun b ⟨cs, ty, h, h'⟩ => .inl ⟨cs, ty, h, by simp at h' ⊢; rcases h' with h' | h' <;> simp [h']⟩), hbb, hc.size⟩
theorem chg_r {w' : World} {M : List Pk} (hR : RefS w base r' room g M) (h : w.grownBy w' (some r')) : Chg (TyS w [47, 52]) w w' ∧ ∀ W, Below base W w → Below base W w' := by
  obtain ⟨A, c, g1, _⟩ := hR.cl
  exact ⟨Chg.ofGrown h (fun k e => by injection e with e; subst e; exact ⟨_, _, g1, by simp⟩), fun W hW => pw_below_grown hW (some r') hR.bw h (fun k e => by injection e with e; rw [← e]; exact hR.br)⟩
theorem fresh_apart' {w' : World} {V : Value} {k : Nat} {xs : List Value} (h : w'.ownsRow w.heap.size 5 1 V k xs) {q : Pk} {bs j : Nat} {ys : List Value} (hq : w.ownsRow bs 5 1 q.val j ys) : q.val.ownBlock = none ∨ q.val.ownBlock ≠ V.ownBlock := apart_symm (fresh_apart h hq)
theorem r_send (hB : Both w base r mb r' room n f D g E) (a b : Int) (A : Option Addr) (m c : Nat) (xs : List Int) (hr : ReadsInt w .u8 A m xs) (hm : m ≤ 200) (hO : Okd E) :
    Calls Try.prog 18 #[.pointer (some ⟨r', 0, none⟩), .agg #[.int .i64 a, .int .i64 b, .slice A m c, .bool false]] w fun e w' => e = .returned (.int .i64 (sendE room g E a b)) ∧ Both w' base r mb r' room n f D g (sendD room g E a b xs) ∧ Fr base w w' := by
  have hbw := hB.bw
  have hB' := hB
  obtain ⟨L, M, hS, hR, hD, hE, hap⟩ := hB'.h
  by_cases hok : okB a = true ∧ okB b = true
  · obtain ⟨x, rfl, hx⟩ := okB_nat hok.1
    obtain ⟨y, rfl, hy⟩ := okB_nat hok.2
    cases hf : g x y with
    | true =>
      have e1 : sendE room g E (x : Int) (y : Int) = 0 := by unfold sendE; rw [if_pos hok]; simp [hf]
      have e2 : sendD room g E (x : Int) (y : Int) xs = E := by unfold sendD; rw [if_neg (by simp [hf])]
      rw [e1, e2]
      refine (rsend_cut base r' room g M x y A m c w hx hy (by omega) hR hf).mono ?_
      rintro e w' ⟨he, h2⟩
      exact ⟨he, hB.below h2, Fr.ofBelow h2 hbw⟩
    | false =>
      by_cases hl : (M.length : Int) < room
      · have e1 : sendE room g E (x : Int) (y : Int) = 0 := by unfold sendE; rw [if_pos hok]; simp only [Int.toNat_natCast, hf]; rw [if_neg (by simp), if_neg (by rw [← dat_len hE]; omega)]
        have e2 : sendD room g E (x : Int) (y : Int) xs = E ++ [((x : Int), (y : Int), xs, false)] := by unfold sendD; rw [if_pos ⟨hok, by simpa using hf, by rw [← dat_len hE]; exact hl⟩]
        rw [e1, e2]
        refine (rsend_ok base r' room g M x y A m c xs w hx hy (by omega) hR hr hf hl (by rw [dat_len hE]; have := hO.1; omega)).mono ?_
        rintro e w' ⟨A1, c1, he, h1, h2, h3⟩
        obtain ⟨k1, k2⟩ := chg_r hR h2
        have hv : (⟨(x : Int), (y : Int), A1, c1, xs, false⟩ : Pk).val = .slice A1 m c1 := by simp [Pk.val, hr.1]
        refine ⟨he, ⟨⟨L, _, hS.chg k1, h1, hD, by rw [List.map_append, hE]; rfl, hap.addR (fun q hq => ?_)⟩⟩, fr_chg k1 k2⟩
        rw [hv]
        exact fresh_apart' h3 (hS.bd q hq)
      · have e1 : sendE room g E (x : Int) (y : Int) = 6 := by unfold sendE; rw [if_pos hok]; simp only [Int.toNat_natCast, hf]; rw [if_neg (by simp), if_pos (by rw [← dat_len hE]; omega)]
        have e2 : sendD room g E (x : Int) (y : Int) xs = E := by unfold sendD; rw [if_neg (fun h => hl (by have := h.2.2; rw [← dat_len hE] at this; exact this))]
        rw [e1, e2]
        refine (rsend_full base r' room g M x y A m c w hx hy (by omega) hR hf (by omega)).mono ?_
        rintro e w' ⟨he, h2⟩
        exact ⟨he, hB.below h2, Fr.ofBelow h2 hbw⟩
  · have e1 : sendE room g E a b = 1 := by unfold sendE; rw [if_neg hok]
    have e2 : sendD room g E a b xs = E := by unfold sendD; rw [if_neg (fun h => hok h.1)]
    rw [e1, e2]
    refine (rsend_arg r' a b A m c w (fun h => hok ⟨okB_iff.2 h.1, okB_iff.2 h.2⟩)).mono ?_
    rintro e w' ⟨he, h2⟩
    exact ⟨he, hB.below h2, Fr.ofBelow h2 hbw⟩
theorem r_take (hB : Both w base r mb r' room n f D g E) (hO : Okd E) (k : Int) : Calls Try.prog 19 #[.pointer (some ⟨r', 0, none⟩), .int .i64 k] w fun e w' => ∃ A1 c1, e = .returned (.tuple #[.agg #[.int .i64 (takeP E k).1, .int .i64 (takeP E k).2.1, .slice A1 (takeP E k).2.2.1.length c1, .bool (takeP E k).2.2.2], .bool (inB E k)]) ∧ ReadsInt w' .u8 A1 (takeP E k).2.2.1.length (takeP E k).2.2.1 ∧ Both w' base r mb r' room n f D g (takeD E k) ∧ Fr base w w' ∧ Chg (TyS w [47, 52]) w w' := by
  have hbw := hB.bw
  have hB' := hB
  obtain ⟨L, M, hS, hR, hD, hE, hap⟩ := hB'.h
  cases hi : inB E k with
  | false =>
    have e1 : takeP E k = dz := by unfold takeP; rw [if_neg (by rw [hi]; decide)]
    have e2 : takeD E k = E := by unfold takeD; rw [if_neg (by rw [hi]; decide)]
    rw [e1, e2]
    obtain ⟨A, c, h1, h2⟩ := hR.cl
    refine (rtake_no r' room A M.length c g k w h1 (by rw [dat_len hE]; exact inB_no hi)).mono ?_
    rintro e w' ⟨he, hb⟩
    exact ⟨none, 0, he, reads_nil _ _, hB.below hb, Fr.ofBelow hb hbw, Chg.ofBelow hb⟩
  | true =>
    obtain ⟨m, rfl, hm⟩ := inB_nat hi
    have e1 : takeP E (m : Int) = E.getD m dz := by unfold takeP; rw [if_pos hi, Int.toNat_natCast]
    have e2 : takeD E (m : Int) = E.eraseIdx m := by unfold takeD; rw [if_pos hi, Int.toNat_natCast]
    rw [e1, e2]
    obtain ⟨p, hp, hd⟩ := dat_at hE hm
    rw [← hd]
    refine (rtake_ok base r' room g M m p w hR hp (by rw [dat_len hE]; have := hO.1; omega)).mono ?_
    rintro e w' ⟨he, ho1, hS1, hg1⟩
    obtain ⟨k1, k2⟩ := chg_r hR hg1
    exact ⟨p.A, p.c, he, (own_info ho1).2.2.2.1, ⟨⟨L, _, hS.chg k1, hS1, hD, by rw [← hE]; exact map_erase _ _ _, hap.sub (fun p hp => hp) (fun p hp => List.mem_of_mem_eraseIdx hp)⟩⟩, fr_chg k1 k2, k1⟩
theorem r_copy (hB : Both w base r mb r' room n f D g E) (hO : Okd E) (k : Int) : Calls Try.prog 20 #[.pointer (some ⟨r', 0, none⟩), .int .i64 k] w fun e w' => e = .returned (.bool (copyB room E k)) ∧ Both w' base r mb r' room n f D g (copyD room E k) ∧ Fr base w w' := by
  have hbw := hB.bw
  have hB' := hB
  obtain ⟨L, M, hS, hR, hD, hE, hap⟩ := hB'.h
  cases hi : copyB room E k with
  | false =>
    have e2 : copyD room E k = E := by unfold copyD; rw [if_neg (by rw [hi]; decide)]
    rw [e2]
    obtain ⟨A, c, h1, h2⟩ := hR.cl
    refine (rcopy_no r' room A M.length c g k w h1 (fun h => by
      rw [dat_len hE] at h
      unfold copyB inB at hi
      rw [decide_eq_true h.1, decide_eq_true h.2] at hi
      cases hi)).mono ?_
    rintro e w' ⟨he, hb⟩
    exact ⟨he, hB.below hb, Fr.ofBelow hb hbw⟩
  | true =>
    have hi' := hi
    unfold copyB at hi'
    rw [Bool.and_eq_true] at hi'
    obtain ⟨m, rfl, hm⟩ := inB_nat hi'.1
    have hl := of_decide_eq_true hi'.2
    have e2 : copyD room E (m : Int) = E ++ [E.getD m dz] := by unfold copyD; rw [if_pos hi, Int.toNat_natCast]
    rw [e2]
    obtain ⟨p, hp, hd⟩ := dat_at hE hm
    refine (rcopy_ok base r' room g M m p w hR hp (by rw [dat_len hE]; have := hO.1; omega) (okd_at hO hE (List.mem_of_getElem? hp)) (by rw [dat_len hE]; exact hl)).mono ?_
    rintro e w' ⟨A1, c1, he, hS1, hg1, ho1⟩
    obtain ⟨k1, k2⟩ := chg_r hR hg1
    exact ⟨he, ⟨⟨L, _, hS.chg k1, hS1, hD, by rw [List.map_append, hE, ← hd]; rfl, hap.addR (fun q hq => fresh_apart' (V := (⟨p.f, p.t, A1, c1, p.b, p.sp⟩ : Pk).val) ho1 (hS.bd q hq))⟩⟩, fr_chg k1 k2⟩
theorem r_spoil (hB : Both w base r mb r' room n f D g E) (hO : Okd E) (k i by_ : Int) : Calls Try.prog 21 #[.pointer (some ⟨r', 0, none⟩), .int .i64 k, .int .i64 i, .int .u8 by_] w fun e w' => e = .returned (.bool (spoilB E k i by_)) ∧ Both w' base r mb r' room n f D g (spoilD E k i by_) ∧ Fr base w w' := by
  have hbw := hB.bw
  have hB' := hB
  obtain ⟨L, M, hS, hR, hD, hE, hap⟩ := hB'.h
  obtain ⟨A, c, h1, h2⟩ := hR.cl
  have hLl : M.length ≤ 100000 := by rw [dat_len hE]; have := hO.1; omega
  cases hin : inB E k with
  | false =>
    have e1 : spoilB E k i by_ = false := by unfold spoilB; rw [hin]; rfl
    have e2 : spoilD E k i by_ = E := by unfold spoilD; rw [if_neg (by rw [e1]; decide)]
    rw [e1, e2]
    refine (rspoil_miss r' room g A M.length c k i by_ w h1 (by rw [dat_len hE]; exact inB_no hin)).mono ?_
    rintro e w' ⟨he, rfl⟩
    exact ⟨he, hB, Fr.ofBelow (Below.refl _ _) hbw⟩
  | true =>
    obtain ⟨m, rfl, hm⟩ := inB_nat hin
    obtain ⟨p, hp, hd⟩ := dat_at hE hm
    have hmem := List.mem_of_getElem? hp
    cases hi : spoilB E (m : Int) i by_ with
    | false =>
      have e2 : spoilD E (m : Int) i by_ = E := by unfold spoilD; rw [if_neg (by rw [hi]; decide)]
      rw [e2]
      refine (rspoil_ng r' room g base M m i by_ p w hR hp hLl (okd_at hO hE hmem) (fun h => by
        unfold spoilB at hi
        rw [hin, Int.toNat_natCast, ← hd] at hi
        have e3 : p.dat.2.2.1 = p.b := rfl
        have e4 : p.dat.2.2.2 = p.sp := rfl
        rw [e3, e4, decide_eq_true h.1, h.2.2] at hi
        have : (by_ == 0) = false := by simpa using h.2.1
        rw [this] at hi
        cases hi)).mono ?_
      rintro e w' ⟨he, rfl⟩
      exact ⟨he, hB, Fr.ofBelow (Below.refl _ _) hbw⟩
    | true =>
      have hi' := hi
      unfold spoilB at hi'
      rw [Int.toNat_natCast, ← hd] at hi'
      simp only [Bool.and_eq_true, Bool.not_eq_true'] at hi'
      obtain ⟨_, h4, h5, h6⟩ := hi'
      have h7 := of_decide_eq_true h4
      have e3 : p.dat.2.2.1 = p.b := rfl
      rw [e3] at h7
      obtain ⟨j, rfl⟩ : ∃ j : Nat, i = (j : Int) := ⟨i.toNat, by omega⟩
      have e2 : spoilD E (m : Int) (j : Int) by_ = E.set m (spoilP (E.getD m dz) (j : Int) by_) := by unfold spoilD; rw [if_pos hi, Int.toNat_natCast]
      rw [e2, ← hd]
      refine (rspoil_ok base r' room g M m j by_ p w hR hp hLl (okd_at hO hE hmem) (by omega) (by simpa using h5) h6).mono ?_
      rintro e w' ⟨A1, c1, he, hS1, hc1, hbase, ho1⟩
      have hc2 : Chg (TyS w [47, 52]) w w' := hc1.mono (fun b _ ⟨cs, ty, h, h'⟩ => ⟨cs, ty, h, by simp at h' ⊢; exact .inr h'⟩)
      have hdt : (⟨p.f, p.t, A1, c1, p.b.set j (bits .xor .u8 (p.b.getD j 0) by_), true⟩ : Pk).dat = spoilP p.dat (j : Int) by_ := by simp [Pk.dat, spoilP]
      refine ⟨he, ⟨⟨L, _, hS.chg hc2, hS1, hD, by rw [← hE, List.map_set, hdt], ?_⟩⟩, fr_chg hc2 hbase⟩
      intro s hs q hq
      obtain ⟨t, ht⟩ := List.mem_iff_getElem?.1 hq
      by_cases htm : t = m
      · subst htm
        rw [List.getElem?_set_self (List.getElem?_eq_some_iff.1 hp).1] at ht
        injection ht with ht
        subst ht
        have := fresh_apart' ho1 (hS.bd s hs)
        simpa [Pk.val] using this
      · rw [List.getElem?_set_ne (fun e => htm e.symm)] at ht
        exact hap s hs q (List.mem_of_getElem? ht)
theorem r_cut (hB : Both w base r mb r' room n f D g E) (a b : Int) (v : Bool) : Calls Try.prog 22 #[.pointer (some ⟨r', 0, none⟩), .int .i64 a, .int .i64 b, .bool v] w fun e w' => e = .returned (.tuple #[]) ∧ Both w' base r mb r' room n f D (cutF g a b v) E ∧ Fr base w w' := by
  have hbw := hB.bw
  have hB' := hB
  obtain ⟨L, M, hS, hR, hD, hE, hap⟩ := hB'.h
  by_cases hok : okB a = true ∧ okB b = true
  · obtain ⟨x, rfl, hx⟩ := okB_nat hok.1
    obtain ⟨y, rfl, hy⟩ := okB_nat hok.2
    have e1 : cutF g (x : Int) (y : Int) v = upd g x y v := by unfold cutF; rw [if_pos hok, Int.toNat_natCast, Int.toNat_natCast]
    rw [e1]
    obtain ⟨A, c, h1, h2⟩ := hR.cl
    refine (rcut_walk w r' room _ g h1 x y hx hy v).mono ?_
    rintro e w' ⟨he, h3, hg1⟩
    obtain ⟨k1, k2⟩ := chg_r hR hg1
    have up : ∀ {bs sz k : Nat} {e : TypeId} {V : Value} {Ms : List Value}, w.ownsRow bs e sz V k Ms → e ≠ 47 → w'.ownsRow bs e sz V k Ms := fun hV he => own_other hV hg1 (box_ne h1 hV he)
    exact ⟨he, ⟨⟨L, M, hS.chg k1, ⟨⟨A, c, h3, up h2 (by decide)⟩, fun p hp => up (hR.bd p hp) (by decide), hR.br, Nat.le_trans hR.bw hg1.size⟩, hD, hE, hap⟩⟩, fr_chg k1 k2⟩
  · have e1 : cutF g a b v = g := by unfold cutF; rw [if_neg hok]
    rw [e1]
    refine (rcut_no r' a b v w (fun h => hok ⟨okB_iff.2 h.1, okB_iff.2 h.2⟩)).mono ?_
    rintro e w' ⟨he, rfl⟩
    exact ⟨he, hB, Fr.ofBelow (Below.refl _ _) hbw⟩
end
end Go.Proofs.Ytenbjmgmgdkapaa
