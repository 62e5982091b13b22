/- A reader's numbers as a function of its state; wide.Get. -/
import Derived.Test.YtbjjfgfepbklnaaMsgF
import Derived.Test.YtbjjfgfepbklnaaPackB3
set_option linter.unusedVariables false
set_option linter.unusedSimpArgs false
namespace Go.Proofs.Ytbjjfgfepbklnaa
open Go.RowKit Go.Proofs.YtbjjfgfepbklnaaW.PrintWords Go.Proofs.Ytbjjfgfepbklnaa.K

abbrev RSt := List Int × Bool
/-- What is read, and what is left. -/
def badR (m : Nat) (s : RSt) : Bool := s.2 || decide (s.1.length < m)
def rv (m : Nat) (s : RSt) : Int := if badR m s = true then 0 else numU 0 (s.1.take m)
def rs (m : Nat) (s : RSt) : RSt := if badR m s = true then ([], true) else (s.1.drop m, false)
def rb (m : Nat) (s : RSt) : List Int := if badR m s = true then [] else s.1.take m
def iterS (m : Nat) : Nat → RSt → RSt
  | 0, s => s
  | k + 1, s => rs m (iterS m k s)
theorem rs_len (m : Nat) (s : RSt) : (rs m s).1.length ≤ s.1.length := by unfold rs; split <;> simp
theorem iterS_len (m : Nat) (s : RSt) : ∀ k, (iterS m k s).1.length ≤ s.1.length
  | 0 => Nat.le_refl _
  | k + 1 => Nat.le_trans (rs_len m _) (iterS_len m s k)
theorem rs_mem (m : Nat) (s : RSt) (y : Int) (h : y ∈ (rs m s).1) : y ∈ s.1 := by
  unfold rs at h; split at h
  · cases h
  · exact List.mem_of_mem_drop h
theorem iterS_mem (m : Nat) (s : RSt) (y : Int) : ∀ k, y ∈ (iterS m k s).1 → y ∈ s.1
  | 0 => id
  | k + 1 => fun h => iterS_mem m s y k (rs_mem m _ y h)
theorem number_s (r m : Nat) (s : RSt) (w : World) (h : Rdr w r s.1 s.2) (hx : s.1.length ≤ 1000000) :
    Calls Try.prog 45 #[.pointer (some ⟨r, 0, none⟩), .int .i64 m] w fun e w' => e = .returned (.int .u64 (rv m s)) ∧ Rdr w' r (rs m s).1 (rs m s).2 ∧ w.grownBy w' (some r) := by
  obtain ⟨xs, sp⟩ := s
  by_cases hb : badR m (xs, sp) = true
  · have C := number_bad r m xs sp w h (by simp [badR] at hb; rcases hb with h | h; exact .inl h; exact .inr (.inr (by omega)))
    unfold rv rs
    rw [if_pos hb, if_pos hb]
    exact C
  · have hb2 : sp = false ∧ m ≤ xs.length := by simp [badR] at hb; exact hb
    obtain ⟨rfl, hm⟩ := hb2
    unfold rv rs
    rw [if_neg hb, if_neg hb]
    exact number_ok r m xs w h hm hx
theorem U64_s (r : Nat) (s : RSt) (w : World) (h : Rdr w r s.1 s.2) (hx : s.1.length ≤ 1000000) :
    Calls Try.prog 22 #[.pointer (some ⟨r, 0, none⟩)] w fun e w' => e = .returned (.int .u64 (rv 8 s)) ∧ Rdr w' r (rs 8 s).1 (rs 8 s).2 ∧ w.grownBy w' (some r) :=
  u64_of r w _ _ (number_s r 8 s w h hx)
theorem U16_s (r : Nat) (s : RSt) (w : World) (h : Rdr w r s.1 s.2) (hx : s.1.length ≤ 1000000) :
    Calls Try.prog 21 #[.pointer (some ⟨r, 0, none⟩)] w fun e w' => e = .returned (.int .i64 (wrap64 (rv 2 s))) ∧ Rdr w' r (rs 2 s).1 (rs 2 s).2 ∧ w.grownBy w' (some r) :=
  u16_of r w _ _ (number_s r 2 s w h hx)
theorem Bytes_s (r m : Nat) (s : RSt) (w : World) (h : Rdr w r s.1 s.2) (hx : s.1.length ≤ 1000000) :
    Calls Try.prog 24 #[.pointer (some ⟨r, 0, none⟩), .int .i64 m] w fun e w' => ∃ A n c, e = .returned (.slice A n c) ∧ w'.ownsRow w.heap.size 5 1 (.slice A n c) n (nums .u8 (rb m s)) ∧ Rdr w' r (rs m s).1 (rs m s).2 ∧ w.grownBy w' (some r) := by
  obtain ⟨xs, sp⟩ := s
  by_cases hb : badR m (xs, sp) = true
  · refine (bytes_bad r m xs sp w h (by simp [badR] at hb; rcases hb with h | h; exact .inl h; exact .inr (.inr (by omega)))).mono ?_
    rintro e w' ⟨rfl, h1, h2⟩
    unfold rb rs
    rw [if_pos hb, if_pos hb]
    exact ⟨none, 0, 0, rfl, ⟨rfl, .inl ⟨rfl, rfl⟩⟩, h1, h2⟩
  · have hb2 : sp = false ∧ m ≤ xs.length := by simp [badR] at hb; exact hb
    obtain ⟨rfl, hm⟩ := hb2
    refine (bytes_ok r m xs w h hm hx).mono ?_
    rintro e w' ⟨A, c, rfl, h0, h1, h2⟩
    unfold rb rs
    rw [if_neg hb, if_neg hb]
    exact ⟨A, m, c, rfl, h0, h1, h2⟩
theorem numU_wf (xs : List Int) : (Lit.int .u64 (numU 0 xs)).wf = true := by
  rcases List.eq_nil_or_concat xs with rfl | ⟨l, a, rfl⟩
  · decide
  · unfold numU
    rw [List.concat_eq_append, List.foldl_append]
    exact wf_bits .or .u64 _ _
theorem rv_wf (m : Nat) (s : RSt) : (Lit.int .u64 (rv m s)).wf = true := by
  unfold rv; split
  · decide
  · exact numU_wf _
/-- What a wide number's bytes say. -/
def wv (zs : List Int) : Int × Int := if zs.length = 16 then (wrap64 (rv 8 (zs, false)), rv 8 (rs 8 (zs, false))) else (0, 0)
theorem wv_wf (zs : List Int) : (Lit.int .i64 (wv zs).1).wf = true ∧ (Lit.int .u64 (wv zs).2).wf = true := by
  unfold wv; split
  · exact ⟨wrap64_wf _, rv_wf _ _⟩
  · exact ⟨by decide, by decide⟩
theorem Rdr.box {w w' : World} {r N : Nat} {xs : List Int} {sp : Bool} {cs : Array Value} {ty : TypeId} (h : Rdr w r xs sp) (hN : w.heap[N]? = some (.cells cs ty (0, 0))) (h1 : ty ≠ 5) (h2 : ty ≠ 77) (hg : w.grownBy w' (some N)) : Rdr w' r xs sp :=
  h.kept fun k ⟨cs', t, fr, hk, ht⟩ => hg.block k (lt_of_heap hk) (fun e => by
    injection e with e
    subst e
    rw [hN] at hk; injection hk with hk; injection hk with _ hk
    rcases ht with rfl | rfl
    · exact h1 hk
    · obtain ⟨_, _, _, g, _⟩ := h
      rw [hN] at g; injection g with g; injection g with _ g; exact h2 g)
theorem box_ne_r {w : World} {r N : Nat} {xs : List Int} {sp : Bool} {cs : Array Value} {ty : TypeId} (h : Rdr w r xs sp) (hN : w.heap[N]? = some (.cells cs ty (0, 0))) (h2 : ty ≠ 77) : N ≠ r := by
  rintro rfl
  obtain ⟨_, _, _, g, _⟩ := h
  rw [hN] at g; injection g with g; injection g with _ g; exact h2 g
set_option maxHeartbeats 1000000 in
theorem wget_walk (A : Option Addr) (n c : Nat) (zs : List Int) (W : World) (h : ReadsInt W .u8 A n zs) :
    Calls Try.prog 23 #[.slice A n c] W fun e w' => (∃ er : Int, e = .returned (.tuple #[.agg #[.int .i64 (wv zs).1, .int .u64 (wv zs).2], .int .i64 er])) ∧ Below W.heap.size W w' := by
  have HL := Lib.hid h
  have hl := h.1
  have hn := h.2.1
  obtain ⟨w0, hw0⟩ : ∃ w0, w0 = W.alloc (.cells #[.int .i64 0, .int .u64 0] 47) := ⟨_, rfl⟩
  have hb0 : Below W.heap.size W w0 := by rw [hw0]; exact alloc_back _
  have q0 : w0.heap[W.heap.size]? = some (.cells #[.int .i64 0, .int .u64 0] 47 (0, 0)) := by rw [hw0]; exact heap_alloc_new _ _
  have HB := Lib.hid hb0; have Q0 := Lib.hid q0; have HW0 := Lib.hid hw0
  clear h hb0 q0 hw0
  by_cases h16 : n = 16
  · subst h16
    have HV := Lib.hid (show wv zs = (wrap64 (rv 8 (zs, false)), rv 8 (rs 8 (zs, false))) by unfold wv; rw [if_pos hl])
    clear hl
    go_enter Try.func23, Try.ntmps23
    go_wp2_with fail
    rw [← HW0.out]
    refine (read_walk A zs 16 c w0 (HL.out.below HB.out) (by decide)).mono ?_
    rintro e w1 ⟨r, hr, rfl, hrd, hb1⟩
    have Q1 := Lib.hid (heap_keep' hb1 Q0.out)
    have B1 := Lib.hid (below_then HB.out HB.out.size hb1)
    have hrne := box_ne_r hrd Q1.out (by decide)
    have C1 := Lib.hid (U64_s r (zs, false) w1 hrd (by rw [HL.out.1]; decide))
    have HR := Lib.hid (And.intro hrd (Nat.le_trans HB.out.size hr))
    have hsz := lt_of_heap Q1.out
    clear hr hrd hb1
    go_wp2_with fail
    refine C1.out.mono ?_
    rintro e w2 ⟨rfl, hrd2, hg2⟩
    have q2 : w2.heap[W.heap.size]? = _ := (hg2.block W.heap.size hsz (fun e => hrne (by injection e))).trans Q1.out
    have B2 := Lib.hid (pw_below_grown B1.out (some r) B1.out.size hg2 (fun k e => by cases e; exact HR.out.2))
    have Q2 := Lib.hid q2
    have C2 := Lib.hid (U64_s r (rs 8 (zs, false)) w2 hrd2 (by have := rs_len 8 (zs, false); have := HL.out.1; simp only at *; omega))
    have hsz2 := lt_of_heap q2
    clear hrd2 hg2 q2 hsz
    go_wp2_with fail
    refine C2.out.mono ?_
    rintro e w3 ⟨rfl, hrd3, hg3⟩
    have q3 : w3.heap[W.heap.size]? = _ := (hg3.block W.heap.size hsz2 (fun e => hrne (by injection e))).trans Q2.out
    have B3 := Lib.hid (pw_below_grown B2.out (some r) B2.out.size hg3 (fun k e => by cases e; exact HR.out.2))
    have Q3 := Lib.hid q3
    have v0 := froz q3 0
    have v1 := froz q3 1
    have d0 : w3.cell? ⟨W.heap.size, 0, none⟩ = some (.int .i64 0) := by simp [World.cell?, q3]
    have d1 : w3.cell? ⟨W.heap.size, 1, none⟩ = some (.int .u64 0) := by simp [World.cell?, q3]
    clear hrd3 hg3 q3 hsz2
    go_wp2_with fail
    (try simp only [Exit.inBlock, Exit.then])
    refine bodyPost_ret (results_ct rfl _ _ W.heap.size 47 #[.int .i64 (wv zs).1, .int .u64 (wv zs).2] (0, 0) _ rfl (by rw [HV.out, heap_set _ (heap_set _ Q3.out)]; rfl) Try.underlying47 rfl (by kernel_rfl)) rfl ?_
    have gg : ∀ (u : World) (j : Nat) (v : Value), (u.setCell ⟨W.heap.size, j, none⟩ v).heap.size = u.heap.size := fun u j v => by simp [World.setCell]
    exact ⟨⟨0, rfl⟩, bset' (bset' B3.out (Nat.le_refl _) B3.out.size) (Nat.le_refl _) (by rw [gg]; exact B3.out.size)⟩
  · have HV := Lib.hid (show wv zs = (0, 0) by unfold wv; rw [if_neg (by omega)])
    have h16' : ¬ ((n : Int) = 16) := by omega
    have h16b : ((n : Int) == 16) = false := by simp; omega
    clear hl
    go_enter Try.func23, Try.ntmps23
    go_wp2_with fail
    (try simp only [Exit.inBlock, Exit.then])
    rw [← HW0.out]
    refine bodyPost_ret (results_ct rfl _ _ W.heap.size 47 #[.int .i64 (wv zs).1, .int .u64 (wv zs).2] (0, 0) _ rfl (by rw [HV.out]; exact Q0.out) Try.underlying47 rfl (by kernel_rfl)) rfl ?_
    exact ⟨⟨3, rfl⟩, HB.out⟩
end Go.Proofs.Ytbjjfgfepbklnaa
