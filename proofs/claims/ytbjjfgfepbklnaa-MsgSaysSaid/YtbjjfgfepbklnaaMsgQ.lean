/- The walk of MsgSizes. -/
import Derived.Test.YtbjjfgfepbklnaaMsgP
set_option linter.unusedVariables false
set_option linter.unusedSimpArgs false
namespace Go.Proofs.Ytbjjfgfepbklnaa
open Go.RowKit Go.Proofs.YtbjjfgfepbklnaaW.PrintWords Go.Proofs.Ytbjjfgfepbklnaa.K

def mz (k : Int) (n m : Nat) : Ms := ⟨k, 0, 0, 0, 0, List.replicate n 0, List.replicate m (0, 0)⟩
theorem mz_wf (k : Int) (n m : Nat) : (mz k n m).wf := ⟨by simp [mz], by simp [mz], by intro y hy; obtain ⟨_, rfl⟩ := List.mem_replicate.1 hy; decide, by intro y hy; obtain ⟨_, rfl⟩ := List.mem_replicate.1 hy; decide⟩
theorem mz_put {k : Int} {n m : Nat} (hk : 1 ≤ k ∧ k ≤ 20) : (putL (mz k n m)).length = if n ≤ 500 ∧ m ≤ 500 then 23 + 8 * n + 16 * m else 0 := by
  unfold putL
  have e : msB (mz k n m).k (mz k n m).f (mz k n m).t (mz k n m).n.length (mz k n m).w.length = decide (n ≤ 500 ∧ m ≤ 500) := by
    rw [Bool.eq_iff_iff]
    simp only [mz, msB, List.length_replicate, Bool.and_eq_true, decide_eq_true_eq]
    exact ⟨fun h => h.2, fun h => ⟨decide_eq_true (show goodB k 0 0 0 from ⟨hk, by decide, by decide, by decide⟩), h⟩⟩
  rw [e]
  by_cases h : n ≤ 500 ∧ m ≤ 500
  · rw [decide_eq_true h, if_pos rfl, if_pos h, menc_len]; simp [mz]
  · rw [decide_eq_false h, if_neg h]; rfl
def objN (n : Nat) : Obj := .cells (madeCells #[.int .i64 0] n) 2
def objW (m : Nat) : Obj := .cells (madeCells #[.int .i64 0, .int .u64 0] (m * 2)) 47
theorem nums_old (W : World) (n : Nat) (o : Obj) (hn : n ≤ 100000) : ReadsInt ((W.alloc (objN n)).alloc o) .i64 (some ⟨W.heap.size, 0, none⟩) n (List.replicate n 0) := (made_nums W n hn).below (alloc_back _)
theorem nums_new (W : World) (n : Nat) (o : Obj) (hn : n ≤ 100000) : ReadsInt ((W.alloc o).alloc (objN n)) .i64 (some ⟨W.heap.size + 1, 0, none⟩) n (List.replicate n 0) := by
  have := made_nums (W.alloc o) n hn
  rw [show (W.alloc o).heap.size = W.heap.size + 1 by simp] at this
  exact this
theorem wides_old (W : World) (n : Nat) (o : Obj) (hn : n ≤ 100000) : WidesAt ((W.alloc (objW n)).alloc o) (some ⟨W.heap.size, 0, none⟩) n (List.replicate n (0, 0)) := (made_wides W n hn).below (alloc_back _)
theorem wides_new (W : World) (n : Nat) (o : Obj) (hn : n ≤ 100000) : WidesAt ((W.alloc o).alloc (objW n)) (some ⟨W.heap.size + 1, 0, none⟩) n (List.replicate n (0, 0)) := by
  have := made_wides (W.alloc o) n hn
  rw [show (W.alloc o).heap.size = W.heap.size + 1 by simp] at this
  exact this
theorem sizes_put (W w : World) (hb : Below W.heap.size W w) (n m : Nat) (hn : n ≤ 600) (hm : m ≤ 600) (A B : Option Addr) (k : Int) (hr : ReadsInt w .i64 A n (List.replicate n 0)) (hw : WidesAt w B m (List.replicate m (0, 0))) (hk : 1 ≤ k ∧ k ≤ 20) :
    Calls Try.prog 10 #[.agg #[.int .i64 k, .int .i64 0, .int .i64 0, .int .u32 0, .int .u32 0, .slice A n n, .slice B m m]] w fun e w' => ∃ A1 n1 c1, e = .returned (.slice A1 n1 c1) ∧ n1 = (if n ≤ 500 ∧ m ≤ 500 then 23 + 8 * n + 16 * m else 0) ∧ Below W.heap.size W w' := by
  refine (mput_any (mz k n m) (mz_wf k n m) A B n n m m w hr hw (by omega) (by omega)).mono ?_
  rintro e w' ⟨A1, n1, c1, he, ho, hb'⟩
  refine ⟨A1, n1, c1, he, ?_, below_then hb hb.size hb'⟩
  rw [← mz_put hk, ← (own_info ho).2.1]
set_option maxRecDepth 100000 in
set_option maxHeartbeats 4000000 in
theorem sizes_walk (W : World) (x : Int) (hx : (Lit.int .i64 x).wf = true) (y : Int) (hy : (Lit.int .i64 y).wf = true) :
    Calls Try.prog 7 #[.int .i64 x, .int .i64 y] W fun e w' => e = .returned (.bool true) ∧ Below W.heap.size W w' := by
  clear hx hy
  by_cases hall : (0 ≤ x ∧ x ≤ 600) ∧ 0 ≤ y ∧ y ≤ 600
  · obtain ⟨⟨x0, x1⟩, y0, y1⟩ := hall
    obtain ⟨n, rfl⟩ : ∃ n : Nat, x = n := ⟨x.toNat, by omega⟩
    obtain ⟨m, rfl⟩ : ∃ n : Nat, y = n := ⟨y.toNat, by omega⟩
    have mk1 : ∀ W : World, (Instr.makeSlice 24 (.int .i64 (n : Int)) (.int .i64 (n : Int))).run Try.prog W = .ok (.slice (some ⟨W.heap.size, 0, none⟩) n n) (W.alloc (objN n)) := fun W => make_nums n (by omega) W
    have mk2 : ∀ W : World, (Instr.makeSlice 25 (.int .i64 (m : Int)) (.int .i64 (m : Int))).run Try.prog W = .ok (.slice (some ⟨W.heap.size, 0, none⟩) m m) (W.alloc (objW m)) := fun W => make_wides m (by omega) W
    go_enter Try.func7, Try.ntmps7
    go_wp2_with fail
    refine (awake_walk W).mono ?_
    rintro e w0 ⟨rfl, hb0⟩
    have B0 := Lib.hid hb0; clear hb0
    have BB : ∀ o o' : Obj, Below W.heap.size W ((w0.alloc o).alloc o').drew := fun o o' => below_drew ((B0.out.alloc B0.out.size o).alloc (B0.out.alloc B0.out.size o).size o')
    have DD : ∀ w : World, Below w.heap.size w w.drew := fun w => below_drew (Below.refl _ _)
    have C1 := Lib.hid (sizes_put W ((w0.alloc (objN n)).alloc (objW m)).drew (BB _ _) n m (by omega) (by omega) _ _ 7 ((nums_old _ n _ (by omega)).below (DD _)) ((wides_new _ m _ (by omega)).below (DD _)) (by decide))
    have C2 := Lib.hid (sizes_put W ((w0.alloc (objW m)).alloc (objN n)).drew (BB _ _) n m (by omega) (by omega) _ _ 7 ((nums_new _ n _ (by omega)).below (DD _)) ((wides_old _ m _ (by omega)).below (DD _)) (by decide))
    clear BB DD
    go_wp2_with fail
    go_region_with (first
      | (go_at_call 10; with_reducible refine C1.out.mono ?_; rintro e w1 ⟨A1, n1, c1, rfl, hn1, hb1⟩; have HN := Lib.hid hn1; clear hn1)
      | (go_at_call 10; with_reducible refine C2.out.mono ?_; rintro e w1 ⟨A1, n1, c1, rfl, hn1, hb1⟩; have HN := Lib.hid hn1; clear hn1))
    all_goals
      by_cases h1 : n ≤ 500
      · by_cases h2 : m ≤ 500
        · have hn : n1 = 23 + 8 * n + 16 * m := by rw [HN.out, if_pos ⟨h1, h2⟩]
          have hn' : (n1 : Int) = 23 + 8 * (n : Int) + 16 * (m : Int) := by omega
          clear hn
          go_wp2_with fail
          go_ret
          exact ⟨by first | rfl | simp, hb1⟩
        · have hn : n1 = 0 := by rw [HN.out, if_neg (fun h => h2 h.2)]
          subst hn
          go_wp2_with fail
          go_ret
          exact ⟨by first | rfl | simp, hb1⟩
      · have hn : n1 = 0 := by rw [HN.out, if_neg (fun h => h1 h.1)]
        subst hn
        go_wp2_with fail
        go_ret
        exact ⟨by first | rfl | simp, hb1⟩
  · go_enter Try.func7, Try.ntmps7
    go_wp2_with fail
    refine (awake_walk W).mono ?_
    rintro e w0 ⟨rfl, hb0⟩
    have B0 := Lib.hid hb0; clear hb0
    have HALL := Lib.hid hall; clear hall
    by_cases g0 : x < 0
    · go_wp2_with fail
      go_ret
      exact ⟨rfl, B0.out⟩
    by_cases g1 : 600 < x
    · go_wp2_with fail
      go_ret
      exact ⟨rfl, B0.out⟩
    by_cases g2 : y < 0
    · go_wp2_with fail
      go_ret
      exact ⟨rfl, B0.out⟩
    by_cases g3 : 600 < y
    · go_wp2_with fail
      go_ret
      exact ⟨rfl, B0.out⟩
    exact absurd ⟨⟨by omega, by omega⟩, by omega, by omega⟩ HALL.out
end Go.Proofs.Ytbjjfgfepbklnaa
