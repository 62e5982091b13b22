/- Both nets side by side: each call of each. -/
import Derived.Test.YtenbjmgmgdkapaaNetPf
set_option linter.unusedVariables false
set_option linter.unusedSimpArgs false
namespace Go.Proofs.Ytenbjmgmgdkapaa
open Go.RowKit Go.Proofs.YtenbjmgmgdkapaaW.PrintWords Go.Proofs.Ytenbjmgmgdkapaa.K Go.Proofs.Ytenbjmgmgdkapaa.Row

/-- What a packet that waits says. -/
abbrev Dat := Int × Int × List Int × Bool
def Pk.dat (p : Pk) : Dat := (p.f, p.t, p.b, p.sp)
theorem NetS.chg {w w' : World} {base r mb n : Nat} {room : Int} {f : Nat → Nat → Bool} {L : List Pk} (h : NetS w base r mb room n f L) (hc : Chg (TyS w [47, 52]) w w') : NetS w' base r mb room n f L := by
  obtain ⟨A, c, h1, h2⟩ := h.cl
  have up : ∀ {bs sz k : Nat} {e : TypeId} {V : Value} {M : List Value}, w.ownsRow bs e sz V k M → e ∉ [47, 52] → w'.ownsRow bs e sz V k M := fun hV he => hc.own hV (fun g hg => by
    obtain ⟨cs, h'⟩ := own_typed hV g hg
    exact TyS.not h' he)
  refine ⟨⟨A, c, ?_, up h2 (by decide)⟩, fun p hp => up (h.bd p hp) (by decide), h.ap, ?_, h.br, h.bm, h.ne, Nat.le_trans h.bw hc.size⟩
  · unfold NetC at h1 ⊢; exact hc.keep h1 (TyS.not h1 (by decide))
  · obtain ⟨D, ⟨es, clock, e1, e2⟩, g2, g3⟩ := h.cu
    exact ⟨D, ⟨es, clock, hc.keep e1 (fun ⟨cs, ty, h', _⟩ => by rw [e1] at h'; cases h'), e2⟩, g2, g3⟩
theorem RefS.kept20 {w w' : World} {base r : Nat} {room : Int} {f : Nat → Nat → Bool} {L : List Pk} (h : RefS w base r room f L) (hk : Kept20 w w') (hb : base ≤ w'.heap.size) : RefS w' base r room f L := by
  obtain ⟨A, c, g1, g2⟩ := h.cl
  have up : ∀ {bs sz k : Nat} {e : TypeId} {V : Value} {M : List Value}, w.ownsRow bs e sz V k M → e ≠ 63 → e ≠ 59 → w'.ownsRow bs e sz V k M := fun hV h1 h2 => own_move hV (fun g hg => by
    obtain ⟨cs, h'⟩ := own_typed hV g hg
    rw [hk _ _ _ h' h1 h2, h'])
  exact ⟨⟨A, c, hk _ _ _ g1 (by decide) (by decide), up g2 (by decide) (by decide)⟩, fun p hp => up (h.bd p hp) (by decide) (by decide), h.br, hb⟩
def ApartP (L M : List Pk) : Prop := ∀ p ∈ L, ∀ q ∈ M, p.val.ownBlock = none ∨ p.val.ownBlock ≠ q.val.ownBlock
/-- Both nets: the program's with the ways f cut and the packets D, the reference's with g and E. -/
structure Both (w : World) (base r mb r' : Nat) (room : Int) (n : Nat) (f : Nat → Nat → Bool) (D : List Dat) (g : Nat → Nat → Bool) (E : List Dat) : Prop where
  h : ∃ L M, NetS w base r mb room n f L ∧ RefS w base r' room g M ∧ L.map Pk.dat = D ∧ M.map Pk.dat = E ∧ ApartP L M
/-- What is of none of these types stays. -/
def KeptB (w w' : World) : Prop := ∀ (q : Nat) (cs : Array Value) (ty : TypeId), w.heap[q]? = some (.cells cs ty (0, 0)) → ty ∉ [63, 59, 5, 47, 52] → w'.heap[q]? = some (.cells cs ty (0, 0))
theorem KeptB.of20 {w w' : World} (h : Kept20 w w') : KeptB w w' := fun q cs ty hq hn => h q cs ty hq (fun e => hn (by rw [e]; simp)) (fun e => hn (by rw [e]; simp))
theorem KeptB.ofBelow {w w' : World} (h : Below w.heap.size w w') : KeptB w w' := fun q cs ty hq hn => heap_keep h hq
theorem KeptB.ofChg {w w' : World} {S : Nat → Prop} (h : Chg S w w') (hS : ∀ b, S b → TyS w [63, 59, 5, 47, 52] b ∨ ∃ es cl, w.heap[b]? = some (.map es cl)) : KeptB w w' := fun q cs ty hq hn => h.keep hq (fun hs => by
  rcases hS q hs with h1 | ⟨es, cl, h1⟩
  · exact TyS.not hq hn h1
  · rw [hq] at h1; cases h1)
/-- What the store of a result keeps. -/
def Fr (base : Nat) (w w' : World) : Prop := KeptB w w' ∧ (∀ W, Below base W w → Below base W w') ∧ w.heap.size ≤ w'.heap.size
section
variable {w w' : World} {base r mb r' n : Nat} {room : Int} {f g : Nat → Nat → Bool} {D E : List Dat}
theorem Both.bw (h : Both w base r mb r' room n f D g E) : base ≤ w.heap.size := by obtain ⟨L, M, h1, _⟩ := h.h; exact h1.bw
theorem Both.below (h : Both w base r mb r' room n f D g E) (hb : Below w.heap.size w w') : Both w' base r mb r' room n f D g E := by
  obtain ⟨L, M, h1, h2, h3, h4, h5⟩ := h.h
  exact ⟨⟨L, M, h1.below hb, h2.below hb, h3, h4, h5⟩⟩
theorem Fr.ofBelow (hb : Below w.heap.size w w') (hw : base ≤ w.heap.size) : Fr base w w' := ⟨KeptB.ofBelow hb, fun W hW => below_then hW hw hb, hb.size⟩
theorem fresh_apart {V : Value} {k : Nat} {xs : List Value} (h : w'.ownsRow w.heap.size 5 1 V k xs) {q : Pk} {bs j : Nat} {ys : List Value} (hq : w.ownsRow bs 5 1 q.val j ys) : V.ownBlock = none ∨ V.ownBlock ≠ q.val.ownBlock := by
  cases hV : V.ownBlock with
  | none => exact .inl rfl
  | some b =>
    refine .inr fun e => ?_
    have h1 := own_base h b hV
    have h2 := own_lt hq b e.symm
    omega
theorem ApartP.sub {L L' M M' : List Pk} (h : ApartP L M) (h1 : ∀ p ∈ L', p ∈ L) (h2 : ∀ p ∈ M', p ∈ M) : ApartP L' M' := fun p hp q hq => h p (h1 p hp) q (h2 q hq)
theorem ApartP.addL {L M : List Pk} {p : Pk} (h : ApartP L M) (hp : ∀ q ∈ M, p.val.ownBlock = none ∨ p.val.ownBlock ≠ q.val.ownBlock) : ApartP (L ++ [p]) M := fun s hs q hq => by
  rcases List.mem_append.1 hs with hs | hs
  · exact h s hs q hq
  · obtain rfl := List.mem_singleton.1 hs; exact hp q hq
theorem ApartP.addR {L M : List Pk} {p : Pk} (h : ApartP L M) (hp : ∀ q ∈ L, q.val.ownBlock = none ∨ q.val.ownBlock ≠ p.val.ownBlock) : ApartP L (M ++ [p]) := fun s hs q hq => by
  rcases List.mem_append.1 hq with hq | hq
  · exact h s hs q hq
  · obtain rfl := List.mem_singleton.1 hq; exact hp s hs
theorem apart_symm {a b : Option Nat} (h : a = none ∨ a ≠ b) : b = none ∨ b ≠ a := by
  rcases h with h | h
  · subst h
    cases b with
    | none => exact .inl rfl
    | some b => exact .inr (by simp)
  · exact .inr (fun e => h e.symm)
end
/-- The document's calls, on what waits. -/
def okB (n : Int) : Bool := decide (0 ≤ n ∧ n < 16)
def sendE (room : Int) (f : Nat → Nat → Bool) (D : List Dat) (a b : Int) : Int := if okB a = true ∧ okB b = true then (if f a.toNat b.toNat = true then 0 else if room ≤ (D.length : Int) then 6 else 0) else 1
def sendD (room : Int) (f : Nat → Nat → Bool) (D : List Dat) (a b : Int) (xs : List Int) : List Dat := if (okB a = true ∧ okB b = true) ∧ f a.toNat b.toNat = false ∧ (D.length : Int) < room then D ++ [(a, b, xs, false)] else D
def inB (D : List Dat) (k : Int) : Bool := decide (0 ≤ k ∧ k < (D.length : Int))
def takeD (D : List Dat) (k : Int) : List Dat := if inB D k = true then D.eraseIdx k.toNat else D
def takeP (D : List Dat) (k : Int) : Dat := if inB D k = true then D.getD k.toNat (0, 0, [], false) else (0, 0, [], false)
def copyB (room : Int) (D : List Dat) (k : Int) : Bool := inB D k && decide ((D.length : Int) < room)
def copyD (room : Int) (D : List Dat) (k : Int) : List Dat := if copyB room D k = true then D ++ [D.getD k.toNat (0, 0, [], false)] else D
def spoilB (D : List Dat) (k i by_ : Int) : Bool := inB D k && (decide (0 ≤ i ∧ i < ((D.getD k.toNat (0, 0, [], false)).2.2.1.length : Int)) && (!(by_ == 0) && !(D.getD k.toNat (0, 0, [], false)).2.2.2))
def spoilP (p : Dat) (i by_ : Int) : Dat := (p.1, p.2.1, p.2.2.1.set i.toNat (bits .xor .u8 (p.2.2.1.getD i.toNat 0) by_), true)
def spoilD (D : List Dat) (k i by_ : Int) : List Dat := if spoilB D k i by_ = true then D.set k.toNat (spoilP (D.getD k.toNat (0, 0, [], false)) i by_) else D
def cutF (f : Nat → Nat → Bool) (a b : Int) (v : Bool) : Nat → Nat → Bool := if okB a = true ∧ okB b = true then upd f a.toNat b.toNat v else f
theorem okB_iff {n : Int} : okB n = true ↔ okW n := by unfold okB okW; simp
theorem okB_nat {n : Int} (h : okB n = true) : ∃ m : Nat, n = (m : Int) ∧ m < 16 := by
  have := okB_iff.1 h
  unfold okW at this
  exact ⟨n.toNat, by omega, by omega⟩
theorem inB_nat {D : List Dat} {k : Int} (h : inB D k = true) : ∃ m : Nat, k = (m : Int) ∧ m < D.length := by
  unfold inB at h
  have := of_decide_eq_true h
  exact ⟨k.toNat, by omega, by omega⟩
theorem inB_no {D : List Dat} {k : Int} (h : inB D k = false) : ¬ (0 ≤ k ∧ k < (D.length : Int)) := by unfold inB at h; exact of_decide_eq_false h
theorem dat_at {L : List Pk} {D : List Dat} (h : L.map Pk.dat = D) {m : Nat} (hm : m < D.length) : ∃ p, L[m]? = some p ∧ p.dat = D.getD m (0, 0, [], false) := by
  subst h
  have hm' : m < L.length := by simpa using hm
  refine ⟨L[m], List.getElem?_eq_getElem hm', ?_⟩
  simp [List.getD_eq_getElem?_getD, hm']
theorem dat_len {L : List Pk} {D : List Dat} (h : L.map Pk.dat = D) : L.length = D.length := by rw [← h]; simp
section
variable {w : World} {base r mb r' n : Nat} {room : Int} {f g : Nat → Nat → Bool} {D E : List Dat} (hB : Both w base r mb r' room n f D g E)
include hB
theorem p_send (a b : Int) (A : Option Addr) (m c : Nat) (xs : List Int) (hr : ReadsInt w .u8 A m xs) (hA : A = none → c = 0) (hm : m ≤ 200) (hroom : room ≤ 65536) :
    Calls Try.prog 10 #[.pointer (some ⟨r, 0, none⟩), .agg #[.int .i64 a, .int .i64 b, .slice A m c]] w fun e w' => e = .returned (.int .i64 (sendE room f D a b)) ∧ Both w' base r mb r' room n f (sendD room f D a b xs) g E ∧ Fr base w w' := by
  have hbw := hB.bw
  obtain ⟨L, M, hS, hR, hD, hE, hap⟩ := hB.h
  by_cases hok : okB a = true ∧ okB b = true
  · obtain ⟨x, rfl, hx⟩ := okB_nat hok.1
    obtain ⟨y, rfl, hy⟩ := okB_nat hok.2
    cases hf : f x y with
    | true =>
      have e1 : sendE room f D (x : Int) (y : Int) = 0 := by unfold sendE; rw [if_pos hok]; simp [hf]
      have e2 : sendD room f D (x : Int) (y : Int) xs = D := by unfold sendD; rw [if_neg (by simp [hf])]
      rw [e1, e2]
      refine (send_cut base r mb room n f L x y A m c w hx hy (by omega) hS hf).mono ?_
      rintro e w' ⟨he, h1, h2⟩
      exact ⟨he, hB.below h2, Fr.ofBelow h2 hbw⟩
    | false =>
      by_cases hl : (L.length : Int) < room
      · have e1 : sendE room f D (x : Int) (y : Int) = 0 := by unfold sendE; rw [if_pos hok]; simp only [Int.toNat_natCast, hf]; rw [if_neg (by simp), if_neg (by rw [← dat_len hD]; omega)]
        have e2 : sendD room f D (x : Int) (y : Int) xs = D ++ [((x : Int), (y : Int), xs, false)] := by unfold sendD; rw [if_pos ⟨hok, by simpa using hf, by rw [← dat_len hD]; exact hl⟩]
        rw [e1, e2]
        refine (send_own base r mb room n f L x y A m c xs w hx hy (by omega) hS hr hA hf hl hroom).mono ?_
        rintro e w' ⟨A1, c1, he, h1, h2, h3, h4⟩
        have hbw' := h1.bw
        have hlt : w.heap.size ≤ w'.heap.size := (h2 w (Below.refl _ _)).size
        refine ⟨he, ⟨⟨_, M, h1, hR.kept20 h3 hbw', by rw [List.map_append, hD]; rfl, hE, hap.addL (fun q hq => ?_)⟩⟩, KeptB.of20 h3, h2, hlt⟩
        have hv : (⟨(x : Int), (y : Int), A1, c1, xs, false⟩ : Pk).val = .slice A1 m c1 := by simp [Pk.val, hr.1]
        rw [hv]
        exact fresh_apart h4 (hR.bd q hq)
      · have e1 : sendE room f D (x : Int) (y : Int) = 6 := by unfold sendE; rw [if_pos hok]; simp only [Int.toNat_natCast, hf]; rw [if_neg (by simp), if_pos (by rw [← dat_len hD]; omega)]
        have e2 : sendD room f D (x : Int) (y : Int) xs = D := by unfold sendD; rw [if_neg (fun h => hl (by have := h.2.2; rw [← dat_len hD] at this; exact this))]
        rw [e1, e2]
        refine (send_full base r mb room n f L x y A m c w hx hy (by omega) hS hf (by omega)).mono ?_
        rintro e w' ⟨he, h2⟩
        exact ⟨he, hB.below h2, Fr.ofBelow h2 hbw⟩
  · have e1 : sendE room f D a b = 1 := by unfold sendE; rw [if_neg hok]
    have e2 : sendD room f D a b xs = D := by unfold sendD; rw [if_neg (fun h => hok h.1)]
    rw [e1, e2]
    refine (send_arg r a b A m c w (by omega) (fun h => hok ⟨okB_iff.2 h.1, okB_iff.2 h.2.1⟩)).mono ?_
    rintro e w' ⟨he, h2⟩
    exact ⟨he, hB.below h2, Fr.ofBelow h2 hbw⟩
end
end Go.Proofs.Ytenbjmgmgdkapaa
