/- What Get makes of a frame's body, as a function; of a message's own body it makes that message. No program. -/
import Derived.Test.YtbjjfgfepbklnaaMsgG
set_option linter.unusedVariables false
set_option linter.unusedSimpArgs false
namespace Go.Proofs.Ytbjjfgfepbklnaa
open Go.RowKit Go.Proofs.YtbjjfgfepbklnaaW.PrintWords Go.Proofs.Ytbjjfgfepbklnaa.K

def cntR (s : RSt) : Nat := (min (wrap64 (rv 2 s)) 500).toNat
def gN (s : RSt) (c : Nat) : List Int := (List.range c).map fun i => wrap64 (rv 8 (iterS 8 i s))
def gW (s : RSt) (c : Nat) : List (Int × Int) := (List.range c).map fun i => wv (rb 16 (iterS 16 i s))
def g1 (b : List Int) : RSt := rs 2 (b, false)
def gc1 (b : List Int) : Nat := cntR (b, false)
def g2 (b : List Int) : RSt := iterS 8 (gc1 b) (g1 b)
def gc2 (b : List Int) : Nat := cntR (g2 b)
def g3 (b : List Int) : RSt := rs 2 (g2 b)
def g4 (b : List Int) : RSt := iterS 16 (gc2 b) (g3 b)
def gM (y : Fr) : Ms := ⟨y.k, y.f, y.t, y.v, y.s, gN (g1 y.b) (gc1 y.b), gW (g3 y.b) (gc2 y.b)⟩
def gEnd (b : List Int) : Bool := !(g4 b).2 && (g4 b).1.isEmpty
theorem gN_succ (s : RSt) (k : Nat) : gN s (k + 1) = gN s k ++ [wrap64 (rv 8 (iterS 8 k s))] := by simp [gN, List.range_succ]
theorem gW_succ (s : RSt) (k : Nat) : gW s (k + 1) = gW s k ++ [wv (rb 16 (iterS 16 k s))] := by simp [gW, List.range_succ]
theorem gN_len (s : RSt) (k : Nat) : (gN s k).length = k := by simp [gN]
theorem gW_len (s : RSt) (k : Nat) : (gW s k).length = k := by simp [gW]
theorem gN_wf (s : RSt) (k : Nat) : wfN (gN s k) := by
  intro y hy
  obtain ⟨i, _, rfl⟩ := List.mem_map.1 hy
  exact wrap64_wf _
theorem gW_wf (s : RSt) (k : Nat) : wfW (gW s k) := by
  intro y hy
  obtain ⟨i, _, rfl⟩ := List.mem_map.1 hy
  exact wv_wf _
theorem rv2_rng (s : RSt) (hw : ∀ y ∈ s.1, (Lit.int .u8 y).wf = true) : 0 ≤ rv 2 s ∧ rv 2 s < 65536 := by
  unfold rv; split
  · omega
  · have := atU_rng s.1 0 2 (by decide) hw
    exact this
theorem cntR_le (s : RSt) : cntR s ≤ 500 := by unfold cntR; omega
theorem cntR_eq (s : RSt) (hw : ∀ y ∈ s.1, (Lit.int .u8 y).wf = true) : min (wrap64 (rv 2 s)) 500 = (cntR s : Int) := by
  have := rv2_rng s hw
  unfold cntR wrap64
  omega
theorem gM_good {y : Fr} (h : y.good) : (gM y).good := ⟨h.1, h.2.1, h.2.2.1, by show (gN _ _).length ≤ 500; rw [gN_len]; exact cntR_le _, by show (gW _ _).length ≤ 500; rw [gW_len]; exact cntR_le _⟩
theorem gM_wf {y : Fr} (h : y.wf) : (gM y).wf := ⟨h.1, h.2.1, gN_wf _ _, gW_wf _ _⟩
/-- A state at a place of a row that is all there. -/
theorem at_bad {xs : List Int} {a m : Nat} (h : a + m ≤ xs.length) : badR m (xs.drop a, false) = false := by simp [badR]; omega
theorem at_rs {xs : List Int} {a m : Nat} (h : a + m ≤ xs.length) : rs m (xs.drop a, false) = (xs.drop (a + m), false) := by
  unfold rs; rw [at_bad h]; simp [List.drop_drop]
theorem at_rv {xs : List Int} {a m : Nat} (h : a + m ≤ xs.length) : rv m (xs.drop a, false) = atU xs a m := by
  unfold rv; rw [at_bad h]; rfl
theorem at_rb {xs : List Int} {a m : Nat} (h : a + m ≤ xs.length) : rb m (xs.drop a, false) = (xs.drop a).take m := by
  unfold rb; rw [at_bad h]; rfl
theorem at_iter {xs : List Int} {a m : Nat} : ∀ k, a + m * k ≤ xs.length → iterS m k (xs.drop a, false) = (xs.drop (a + m * k), false)
  | 0, _ => by simp [iterS]
  | k + 1, h => by
    rw [Nat.mul_succ] at h ⊢
    show rs m (iterS m k (xs.drop a, false)) = _
    rw [at_iter k (by omega), at_rs (by omega), Nat.add_assoc]
theorem at_wv {xs : List Int} {a : Nat} (h : a + 16 ≤ xs.length) : wv ((xs.drop a).take 16) = (wrap64 (atU xs a 8), atU xs (a + 8) 8) := by
  have hl : ((xs.drop a).take 16).length = 16 := by rw [List.length_take, List.length_drop]; omega
  have e1 := at_rv (xs := (xs.drop a).take 16) (a := 0) (m := 8) (by rw [hl]; decide)
  have e2 := at_rs (xs := (xs.drop a).take 16) (a := 0) (m := 8) (by rw [hl]; decide)
  have e3 := at_rv (xs := (xs.drop a).take 16) (a := 8) (m := 8) (by rw [hl]; decide)
  rw [List.drop_zero] at e1 e2
  unfold wv
  rw [if_pos hl, e1, e2, e3]
  refine Prod.ext ?_ ?_
  · show wrap64 (numU 0 ((((xs.drop a).take 16).drop 0).take 8)) = wrap64 (numU 0 ((xs.drop a).take 8))
    rw [List.drop_zero, List.take_take]; rfl
  · show numU 0 ((((xs.drop a).take 16).drop 8).take 8) = numU 0 ((xs.drop (a + 8)).take 8)
    rw [List.drop_take, List.drop_drop, List.take_take]; rfl
section
variable {x : Ms} (hg : x.good) (hw : x.wf)
include hg
omit hg in
theorem m_g1 : g1 (mbody x) = ((mbody x).drop 2, false) := by
  have := at_rs (xs := mbody x) (a := 0) (m := 2) (by rw [mbody_len]; omega)
  simpa [g1] using this
theorem m_gc1 : gc1 (mbody x) = x.n.length := by
  have h := at_rv (xs := mbody x) (a := 0) (m := 2) (by rw [mbody_len]; omega)
  rw [List.drop_zero, read_cn hg] at h
  have := hg.2.2.2
  unfold gc1 cntR
  rw [h]; unfold wrap64; omega
theorem m_g2 : g2 (mbody x) = ((mbody x).drop (2 + 8 * x.n.length), false) := by
  unfold g2; rw [m_gc1 hg, m_g1, at_iter _ (by rw [mbody_len]; omega)]
theorem m_gc2 : gc2 (mbody x) = x.w.length := by
  have h := at_rv (xs := mbody x) (a := 2 + 8 * x.n.length) (m := 2) (by rw [mbody_len]; omega)
  rw [read_cw hg] at h
  have := hg.2.2.2
  unfold gc2 cntR
  rw [m_g2 hg, h]; unfold wrap64; omega
theorem m_g3 : g3 (mbody x) = ((mbody x).drop (2 + 8 * x.n.length + 2), false) := by
  unfold g3; rw [m_g2 hg, at_rs (by rw [mbody_len]; omega)]
theorem m_end : gEnd (mbody x) = true := by
  unfold gEnd g4
  rw [m_gc2 hg, m_g3 hg, at_iter _ (by rw [mbody_len]; omega)]
  simp [mbody_len]; omega
include hw
theorem m_gM : gM (mfr x) = x := by
  unfold gM
  rw [show (mfr x).b = mbody x from rfl, m_gc1 hg, m_gc2 hg, m_g1, m_g3 hg]
  have e1 : gN ((mbody x).drop 2, false) x.n.length = x.n := list_eq 0 (gN_len _ _) (fun i hi => by
    have hi' : i < x.n.length := by rwa [gN_len] at hi
    have : (gN ((mbody x).drop 2, false) x.n.length).getD i 0 = wrap64 (rv 8 (iterS 8 i ((mbody x).drop 2, false))) := by simp [gN, List.getD_eq_getElem?_getD, hi']
    rw [this, at_iter _ (by rw [mbody_len]; omega), at_rv (by rw [mbody_len]; omega), read_ni hw i hi'])
  have e2 : gW ((mbody x).drop (2 + 8 * x.n.length + 2), false) x.w.length = x.w := list_eq (0, 0) (gW_len _ _) (fun i hi => by
    have hi' : i < x.w.length := by rwa [gW_len] at hi
    have : (gW ((mbody x).drop (2 + 8 * x.n.length + 2), false) x.w.length).getD i (0, 0) = wv (rb 16 (iterS 16 i ((mbody x).drop (2 + 8 * x.n.length + 2), false))) := by simp [gW, List.getD_eq_getElem?_getD, hi']
    have hr := read_wi hw i hi'
    rw [this, at_iter _ (by rw [mbody_len]; omega), at_rb (by rw [mbody_len]; omega), at_wv (by rw [mbody_len]; omega), hr.1, hr.2])
  rw [e1, e2]; rfl
end
theorem no_msg {xs : List Int} {y : Fr} (hy : Is xs y) (h : ¬ (gEnd y.b = true ∧ menc (gM y) = xs)) : ¬ ∃ x, MIs xs x := by
  rintro ⟨x, hx⟩
  obtain rfl := hy.eq hx.is
  exact h ⟨m_end hx.1, by rw [m_gM hx.1 hx.2.1]; exact hx.2.2⟩
theorem yes_msg {xs : List Int} {y : Fr} (hy : Is xs y) (h : menc (gM y) = xs) : MIs xs (gM y) := ⟨gM_good hy.1, gM_wf hy.2.1, h⟩
theorem no_msg' {xs : List Int} (h : ¬ ∃ y, Is xs y) : ¬ ∃ x, MIs xs x := fun ⟨x, hx⟩ => h ⟨_, hx.is⟩
end Go.Proofs.Ytbjjfgfepbklnaa
