/- Walks of the laws' helpers: own, same, awake. -/
import Derived.Test.YtdcbpkhogpjfeaaFrameF
set_option linter.unusedVariables false
set_option linter.unusedSimpArgs false
namespace Go.Proofs.Ytdcbpkhogpjfeaa
open Go.RowKit Go.Proofs.YtdcbpkhogpjfeaaW.PrintWords Go.Proofs.Ytdcbpkhogpjfeaa.K

set_option maxHeartbeats 400000 in
theorem own_walk (k f t v s : Int) (A : Option Addr) (n c : Nat) (W : World) : Calls Try.prog 14 #[.agg (frC k f t v s (.slice A n c))] W fun e w' => e = .returned (.agg (frC k f t v s (.slice A n c))) ∧ Below W.heap.size W w' := by
  have hb : ∀ o o' : Obj, Below W.heap.size W ((W.alloc o).alloc o') := fun o o' => ((Below.refl _ _).alloc (Nat.le_refl _) o).alloc ((Below.refl _ _).alloc (Nat.le_refl _) o).size _
  have HB := Lib.hid hb; clear hb
  go_enter Try.func14, Try.ntmps14
  go_wp2_with fail
  (try simp only [Exit.inBlock, Exit.then])
  refine bodyPost_ret (results_cell_row rfl _ _ (W.heap.size + 1) 32 (frC k f t v s (.slice A n c)) (0, 0) _ rfl (by simp only [hal]; exact hpush2 _ _ _) Try.underlying32 rfl (by kernel_rfl)) rfl ?_
  exact ⟨rfl, HB.out _ _⟩

theorem alloc_back {W : World} (o : Obj) : Below W.heap.size W (W.alloc o) := (Below.refl _ _).alloc (Nat.le_refl _) o
theorem alloc_back2 {W : World} (o o' : Obj) : Below W.heap.size W ((W.alloc o).alloc o') := (alloc_back o).alloc (alloc_back o).size _
/-- Two frames, told apart. -/
def Fr.eqb (x y : Fr) : Bool := decide (x.k = y.k) && (decide (x.f = y.f) && (decide (x.t = y.t) && (decide (x.v = y.v) && (decide (x.s = y.s) && decide (x.b = y.b)))))
theorem Fr.eqb_iff (x y : Fr) : x.eqb y = true ↔ x = y := by
  cases x; cases y
  simp [Fr.eqb]
set_option maxHeartbeats 1000000 in
theorem same_walk (x y : Fr) (A A' : Option Addr) (n c n' c' : Nat) (hx : ∀ z ∈ x.b, (Lit.int .u8 z).wf = true) (hy : ∀ z ∈ y.b, (Lit.int .u8 z).wf = true) (W : World) (h : ReadsInt W .u8 A n x.b) (h' : ReadsInt W .u8 A' n' y.b) :
    Calls Try.prog 13 #[.agg (frC x.k x.f x.t x.v x.s (.slice A n c)), .agg (frC y.k y.f y.t y.v y.s (.slice A' n' c'))] W fun e w' => e = .returned (.bool (x.eqb y)) ∧ Below W.heap.size W w' := by
  have hb : ∀ o o' : Obj, Below W.heap.size W ((W.alloc o).alloc o') := fun o o' => alloc_back2 o o'
  have HB := Lib.hid hb
  obtain ⟨S, hS⟩ : ∃ S : ByteArray, S = strOfNums x.b := ⟨_, rfl⟩
  obtain ⟨T, hT⟩ : ∃ S : ByteArray, S = strOfNums y.b := ⟨_, rfl⟩
  have k1 : ∀ w, Below W.heap.size W w → (convert 24 9 (.slice A n c)).run Try.prog w = .ok (.string S) w := fun w hb => by rw [hS]; exact str_of (h.below hb)
  have k2 : ∀ w, Below W.heap.size W w → (convert 24 9 (.slice A' n' c')).run Try.prog w = .ok (.string T) w := fun w hb => by rw [hT]; exact str_of (h'.below hb)
  have q1 := k1 _ (hb (.cells (frC x.k x.f x.t x.v x.s (.slice A n c)) 32) (.cells (frC y.k y.f y.t y.v y.s (.slice A' n' c')) 32))
  have q2 := k2 _ (hb (.cells (frC x.k x.f x.t x.v x.s (.slice A n c)) 32) (.cells (frC y.k y.f y.t y.v y.s (.slice A' n' c')) 32))
  have hst : (S.toList == T.toList) = decide (x.b = y.b) := by rw [hS, hT]; exact strOf_eqb hx hy
  have HST := Lib.hid hst
  clear k1 k2 hb hS hT hst h h' hx hy
  have hk : x.eqb y = (decide (x.k = y.k) && (decide (x.f = y.f) && (decide (x.t = y.t) && (decide (x.v = y.v) && (decide (x.s = y.s) && decide (x.b = y.b)))))) := rfl
  have HK := Lib.hid hk; clear hk
  by_cases e1 : x.k = y.k
  · by_cases e2 : x.f = y.f
    · by_cases e3 : x.t = y.t
      · by_cases e4 : x.v = y.v
        · by_cases e5 : x.s = y.s
          · have E := Lib.hid (And.intro e1 (And.intro e2 (And.intro e3 (And.intro e4 e5))))
            have b1 : (x.k == y.k) = true := by simp [e1]
            have b2 : (x.f == y.f) = true := by simp [e2]
            have b3 : (x.t == y.t) = true := by simp [e3]
            have b4 : (x.v == y.v) = true := by simp [e4]
            have b5 : (x.s == y.s) = true := by simp [e5]
            clear e1 e2 e3 e4 e5
            go_enter Try.func13, Try.ntmps13
            go_wp2_with fail
            go_ret
            exact ⟨by rw [HK.out, decide_eq_true E.out.1, decide_eq_true E.out.2.1, decide_eq_true E.out.2.2.1, decide_eq_true E.out.2.2.2.1, decide_eq_true E.out.2.2.2.2, ← HST.out]; rfl, HB.out _ _⟩
          · have b1 : (x.k == y.k) = true := by simp [e1]
            have b2 : (x.f == y.f) = true := by simp [e2]
            have b3 : (x.t == y.t) = true := by simp [e3]
            have b4 : (x.v == y.v) = true := by simp [e4]
            have b5 : (x.s == y.s) = false := by simpa using e5
            have E1 := Lib.hid e1
            have E2 := Lib.hid e2
            have E3 := Lib.hid e3
            have E4 := Lib.hid e4
            have E5 := Lib.hid e5
            clear e1 e2 e3 e4 e5
            go_enter Try.func13, Try.ntmps13
            go_wp2_with fail
            go_ret
            exact ⟨by rw [HK.out, decide_eq_true E1.out, decide_eq_true E2.out, decide_eq_true E3.out, decide_eq_true E4.out, decide_eq_false E5.out]; rfl, HB.out _ _⟩
        · have b1 : (x.k == y.k) = true := by simp [e1]
          have b2 : (x.f == y.f) = true := by simp [e2]
          have b3 : (x.t == y.t) = true := by simp [e3]
          have b4 : (x.v == y.v) = false := by simpa using e4
          have E1 := Lib.hid e1
          have E2 := Lib.hid e2
          have E3 := Lib.hid e3
          have E4 := Lib.hid e4
          clear e1 e2 e3 e4
          go_enter Try.func13, Try.ntmps13
          go_wp2_with fail
          go_ret
          exact ⟨by rw [HK.out, decide_eq_true E1.out, decide_eq_true E2.out, decide_eq_true E3.out, decide_eq_false E4.out]; rfl, HB.out _ _⟩
      · have b1 : (x.k == y.k) = true := by simp [e1]
        have b2 : (x.f == y.f) = true := by simp [e2]
        have b3 : (x.t == y.t) = false := by simpa using e3
        have E1 := Lib.hid e1
        have E2 := Lib.hid e2
        have E3 := Lib.hid e3
        clear e1 e2 e3
        go_enter Try.func13, Try.ntmps13
        go_wp2_with fail
        go_ret
        exact ⟨by rw [HK.out, decide_eq_true E1.out, decide_eq_true E2.out, decide_eq_false E3.out]; rfl, HB.out _ _⟩
    · have b1 : (x.k == y.k) = true := by simp [e1]
      have b2 : (x.f == y.f) = false := by simpa using e2
      have E1 := Lib.hid e1
      have E2 := Lib.hid e2
      clear e1 e2
      go_enter Try.func13, Try.ntmps13
      go_wp2_with fail
      go_ret
      exact ⟨by rw [HK.out, decide_eq_true E1.out, decide_eq_false E2.out]; rfl, HB.out _ _⟩
  · have b1 : (x.k == y.k) = false := by simpa using e1
    have E := Lib.hid e1
    clear e1
    go_enter Try.func13, Try.ntmps13
    go_wp2_with fail
    go_ret
    exact ⟨by rw [HK.out, decide_eq_false E.out]; rfl, HB.out _ _⟩
def fr0 : Fr := ⟨1, 0, 0, 0, 0, []⟩
theorem fr0_good : fr0.good := by decide
theorem fr0_wf : fr0.wf := ⟨by decide, by decide, by simp [fr0]⟩
set_option maxHeartbeats 1000000 in
theorem awake_walk (W : World) : Calls Try.prog 8 #[] W fun e w' => e = .returned (.bool true) ∧ Below W.heap.size W w' := by
  have C1 := encode_walk fr0 fr0_good fr0_wf none 0 0 W (reads_nil _ _)
  have HC1 := Lib.hid C1; clear C1
  go_enter Try.func8, Try.ntmps8
  go_wp2_with fail
  refine HC1.out.mono ?_
  rintro e w1 ⟨A1, c1, rfl, ho1, hb1⟩
  have H1 := Lib.hid (own_info ho1).2.2.2.1
  have HB1 := Lib.hid hb1
  clear ho1 hb1
  go_wp2_with fail
  refine (decode_any A1 19 c1 _ _ H1.out (enc_wf fr0_good fr0_wf)).mono ?_
  rintro e w2 ⟨hd, hb2⟩
  have HB2 := Lib.hid hb2; clear hb2
  rcases hd with ⟨x, ⟨hg, hw, he⟩, A, c, rfl, hr⟩ | ⟨hn, _⟩
  · have hx := enc_inj hg fr0_good hw fr0_wf he
    subst hx
    clear he hg hw hr
    go_wp2_with fail
    go_ret
    exact ⟨rfl, (below_then HB1.out HB1.out.size HB2.out).alloc (below_then HB1.out HB1.out.size HB2.out).size _⟩
  · exact absurd ⟨fr0, fr0_good, fr0_wf, rfl⟩ hn
end Go.Proofs.Ytdcbpkhogpjfeaa
