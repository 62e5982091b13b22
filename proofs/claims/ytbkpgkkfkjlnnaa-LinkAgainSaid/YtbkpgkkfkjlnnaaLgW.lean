/- The walk of LinkAgain (printed by a program of mine, mklgw.py). -/
import Derived.Test.YtbkpgkkfkjlnnaaLgV
set_option linter.unusedVariables false
set_option linter.unusedSimpArgs false
namespace Go.Proofs.Ytbkpgkkfkjlnnaa.G
open Go.RowKit Go.Proofs.YtbkpgkkfkjlnnaaW.PrintWords Go.Proofs.YtbkpgkkfkjlnnaaW.PrintLast Go.Proofs.Ytbkpgkkfkjlnnaa.K Go.Proofs.Ytbkpgkkfkjlnnaa.Row Go.Proofs.Ytbkpgkkfkjlnnaa

theorem Told.below {w w' w2 : World} {A : Option Addr} {k c : Nat} {M : List Hd} {L : List Dt} (h : Told w w' A k c M L) (hb : Below w'.heap.size w' w2) : Told w w2 A k c M L :=
  ⟨pw_own_below h.o hb, h.om, fun p hp => (h.ob p hp).chg (T := fun _ => False) (Chg.ofBelow hb) (fun _ _ h => h), h.e⟩
/-- Ahead of tick T. -/
def Ag (W w : World) (b n at_ T : Nat) : Prop :=
  (T = 0 ∧ ∃ L, L1 W w b ⟨0, 1, 7, 0, n, 0, 1, L, []⟩ ∧ AgL n false 0 L) ∨
  (∃ t, T = t + 1 ∧ ∃ (tq : Int) (L : List Sn), L1 W w b ⟨0, 1, 7, (t : Int), n, tq, 1, L, []⟩ ∧ (0 ≤ tq ∧ tq < 4294967296) ∧ (t < at_ → tq = n ∧ AgL n true ((8 * (t / 8) : Nat) : Int) L) ∧ (at_ ≤ t → L = []))
/-- Behind the call of Tick at T. -/
structure AgU (W w : World) (b n at_ t : Nat) : Prop where
  ex : ∃ (tq : Int) (L : List Sn), L1 W w b ⟨0, 1, 7, (t : Int), n, tq, 1, L, []⟩ ∧ (0 ≤ tq ∧ tq < 4294967296) ∧ (t ≤ at_ → tq = n ∧ AgL n true ((8 * (t / 8) : Nat) : Int) L) ∧ (at_ < t → L = [])
theorem AgU.below {W w w' : World} {b n at_ t : Nat} (h : AgU W w b n at_ t) (hb : Below w.heap.size w w') : AgU W w' b n at_ t := by
  obtain ⟨tq, L, h1, h2⟩ := h.ex
  exact ⟨tq, L, h1.below hb, h2⟩
/-- What a Tick told. -/
structure AgR (w' : World) (A : Option Addr) (k : Nat) : Prop where
  row : ∀ i, i < k → ∃ g a, A = some ⟨g, 0, none⟩ ∧ w'.cell? ⟨g, i * 7 + 4, none⟩ = some (.int .u32 ((i : Int) + 1)) ∧ (∃ c', w'.cell? ⟨g, i * 7 + 5, none⟩ = some (.slice (some ⟨a, 0, none⟩) 1 c')) ∧ w'.cell? ⟨a, 0, none⟩ = some (.int .i64 (i : Int))
theorem AgR.below {w w' : World} {A : Option Addr} {k : Nat} (h : AgR w A k) (hb : Below w.heap.size w w') : AgR w' A k := by
  refine ⟨fun i hi => ?_⟩
  obtain ⟨g, a, h1, h2, ⟨c', h3⟩, h4⟩ := h.row i hi
  exact ⟨g, a, h1, pw_cell_below hb h2, ⟨c', pw_cell_below hb h3⟩, pw_cell_below hb h4⟩
theorem told_row {w w' : World} {A : Option Addr} {k c n : Nat} {M : List Hd} {L : List Sn} {b : Bool} {a : Int} (h : Told w w' A k c M (L.map (fun p => p.m.dt))) (hA : AgL n b a L) : k = n ∧ AgR w' A k := by
  have hk : k = n := by
    rw [← h.om, ← hA.len]
    have := congrArg List.length h.e
    simpa using this
  subst hk
  refine ⟨rfl, ⟨fun i hi => ?_⟩⟩
  have hl : i < L.length := by rw [hA.len]; exact hi
  have hp : L[i]? = some L[i] := List.getElem?_eq_getElem hl
  obtain ⟨-, -, h3, h4, h5⟩ := hA.each i L[i] hp
  obtain ⟨g, a', c', h6, h7, h8, h9⟩ := h.at_ (i := i) (r := L[i].m.dt) (by rw [List.getElem?_map, hp]; rfl) h3 h4
  exact ⟨g, a', h6, h7, ⟨c', h8⟩, h9⟩
theorem told_none {w w' : World} {A : Option Addr} {k c : Nat} {M : List Hd} (h : Told w w' A k c M []) : k = 0 ∧ AgR w' A 0 := by
  have hk : k = 0 := by
    rw [← h.om]
    have := congrArg List.length h.e
    simpa using this
  exact ⟨hk, ⟨fun i hi => by omega⟩⟩
theorem toldL_all {n : Nat} {b : Bool} {a t tq : Int} {L : List Sn} (hn : 1 ≤ n) (h : AgL n b a L) (hto : tq ≤ n) (hd : dueL t n L = L) : toldL t tq n L = n := by
  have ht : L.take n = L := List.take_of_length_le (by rw [h.len]; exact Nat.le_refl _)
  have key : ∀ (l : List Sn) (m : Int), (∀ p ∈ l, due t p = true ∧ p.m.s ≤ n) → m ≤ n → (m = n ∨ ∃ p ∈ l, p.m.s = (n : Int)) → l.foldl (told1 t) m = n := by
    intro l
    induction l with
    | nil => intro m _ _ h; rcases h with h | ⟨p, hp, _⟩; · exact h
             · cases hp
    | cons x l ih =>
      intro m h1 h2 h3
      have hx := h1 x (List.mem_cons_self ..)
      have e1 : told1 t m x = max m x.m.s := by unfold told1; rw [if_pos hx.1]
      rw [List.foldl_cons, e1]
      refine ih _ (fun p hp => h1 p (List.mem_cons_of_mem _ hp)) (by omega) ?_
      rcases h3 with h3 | ⟨p, hp, hp2⟩
      · left; omega
      · rcases List.mem_cons.1 hp with e | hp
        · subst e; left; omega
        · exact .inr ⟨p, hp, hp2⟩
  unfold toldL
  unfold dueL at hd
  rw [ht] at hd ⊢
  have hdu : ∀ p ∈ L, due t p = true := List.filter_eq_self.1 hd
  refine key L tq (fun p hp => ⟨hdu p hp, (h.mem hp).2.2.1.2⟩) hto (.inr ?_)
  have hl : n - 1 < L.length := by rw [h.len]; omega
  refine ⟨L[n - 1], List.getElem_mem hl, ?_⟩
  have := (h.each (n - 1) L[n - 1] (List.getElem?_eq_getElem hl)).2.2.1
  rw [this]; omega
theorem toldL_rest {n : Nat} {t tq : Int} {L : List Sn} (hd : dueL t n L = []) : toldL t tq n L = tq := by
  unfold toldL; unfold dueL at hd
  rw [List.filter_eq_nil_iff] at hd
  generalize L.take n = l at hd
  induction l with
  | nil => rfl
  | cons x l ih =>
    rw [List.foldl_cons, show told1 t tq x = tq by unfold told1; rw [if_neg (hd x (List.mem_cons_self ..))]]
    exact ih (fun p hp => hd p (List.mem_cons_of_mem _ hp))
/-- One Tick. -/
def AgTick (W w' : World) (b n at_ T : Nat) (e : Ending) : Prop := ∃ A k c, e = .returned (.slice A k c) ∧ AgU W w' b n at_ T ∧ k = (if T % 8 = 0 ∧ T ≤ at_ then n else 0) ∧ AgR w' A k
theorem ag_tick {W w : World} {b n at_ T : Nat} (h : Ag W w b n at_ T) (hn : 1 ≤ n ∧ n ≤ 32) (hT : T ≤ 1000) : Calls Try.prog 11 #[.pointer (some ⟨b, 0, none⟩), .int .i64 T] w fun e w' => AgTick W w' b n at_ T e := by
  rcases h with ⟨rfl, L, hL, hA⟩ | ⟨t, rfl, tq, L, hL, hto, hA, hN⟩
  · have hl := hA.len
    obtain ⟨hd, hA2⟩ := hA.again (t := 0) (.inl rfl)
    refine (hL.tick 0 (by rw [hl]; omega) (by dsimp only; omega) (by omega) (fun p hp => by have := (hA.mem hp).2.1; simp only [this]; omega) (fun p hp => by have := hA.mem hp; rw [this.2.2.2.1, this.2.2.2.2]; simp) 0 (by simp) n (by rw [hl]; omega)).mono ?_
    rintro e w' ⟨A, k, c, M, rfl, h1, h2⟩
    dsimp only at h1 h2
    rw [hd] at h2
    rw [toldL_all hn.1 hA (by omega) hd] at h1
    obtain ⟨rfl, h4⟩ := told_row h2 hA
    exact ⟨A, k, c, rfl, ⟨(k : Int), _, h1, ⟨by omega, by omega⟩, fun _ => ⟨rfl, hA2⟩, fun h => by omega⟩, by rw [if_pos ⟨rfl, Nat.zero_le _⟩], h4⟩
  · by_cases hlt : t < at_
    · obtain ⟨rfl, hA1⟩ := hA hlt
      clear hA; have hA := hA1
      have hl := hA.len
      have hm : ∀ p ∈ L, 0 ≤ p.at_ ∧ p.at_ ≤ (t : Int) := fun p hp => by rw [(hA.mem hp).2.1]; omega
      have hx : ∀ p ∈ L, p.m.xs.length ≤ 500 ∧ p.m.ys.length ≤ 500 := fun p hp => by have := hA.mem hp; rw [this.2.2.2.1, this.2.2.2.2]; simp
      have TK := hL.tick (((t + 1 : Nat) : Int)) (by rw [hl]; omega) (by dsimp only; omega) (by omega) hm hx ((t + 1 : Nat) : Int) (by dsimp only; rw [if_pos (by omega)]) n (by rw [hl]; omega)
      refine TK.mono ?_
      rintro e w' ⟨A, k, c, M, rfl, h1, h2⟩
      dsimp only at h1 h2
      by_cases h8 : (t + 1) % 8 = 0
      · obtain ⟨hd, hA2⟩ := hA.again (t := ((t + 1 : Nat) : Int)) (.inr (by omega))
        rw [hd] at h2
        rw [toldL_all hn.1 hA (by omega) hd] at h1
        obtain ⟨rfl, h4⟩ := told_row h2 hA
        refine ⟨A, k, c, rfl, ⟨(k : Int), _, h1, ⟨by omega, by omega⟩, fun _ => ⟨rfl, ?_⟩, fun h => by omega⟩, by rw [if_pos ⟨h8, by omega⟩], h4⟩
        rw [show 8 * ((t + 1) / 8) = t + 1 by omega]; exact hA2
      · obtain ⟨hd, hA2⟩ := hA.rest (t := ((t + 1 : Nat) : Int)) (by omega)
        rw [hd] at h2
        rw [toldL_rest hd, hA2] at h1
        obtain ⟨rfl, h4⟩ := told_none h2
        refine ⟨A, 0, c, rfl, ⟨(n : Int), _, h1, ⟨by omega, by omega⟩, fun _ => ⟨rfl, ?_⟩, fun h => by omega⟩, by rw [if_neg (fun h => h8 h.1)], h4⟩
        rw [show (t + 1) / 8 = t / 8 by omega]; exact hA
    · obtain rfl := hN (by omega)
      have TK := hL.tick (((t + 1 : Nat) : Int)) (by simp) (by dsimp only; omega) (by omega) (fun p hp => by cases hp) (fun p hp => by cases hp) ((t + 1 : Nat) : Int) (by dsimp only; rw [if_pos (by omega)]) 0 rfl
      refine TK.mono ?_
      rintro e w' ⟨A, k, c, M, rfl, h1, h2⟩
      dsimp only at h1 h2
      obtain ⟨rfl, h4⟩ := told_none h2
      exact ⟨A, 0, c, rfl, ⟨tq, [], h1, hto, fun h => by omega, fun _ => rfl⟩, by rw [if_neg (fun h => by omega)], h4⟩
/-- The acknowledgement of all. -/
theorem ag_ack {W w : World} {b n t : Nat} (h : AgU W w b n t t) (hn : 1 ≤ n ∧ n ≤ 32) (o : Obj) (ho : o = .cells (nums .i64 [(n : Int)]).toArray 2) :
    Calls Try.prog 13 #[.pointer (some ⟨b, 0, none⟩), .agg (msC 1 1 0 7 0 (.slice (some ⟨w.heap.size, 0, none⟩) 1 1) (.slice none 0 0))] (w.alloc o) fun e w' => e = .returned (.tuple #[.slice none 0 0, .slice none 0 0, .int .i64 0]) ∧ Ag W w' b n t (t + 1) := by
  obtain ⟨tq, L, h1, h2, h3, h4⟩ := h.ex
  obtain ⟨rfl, hA⟩ := h3 (Nat.le_refl _)
  refine (h1.ack 1 0 7 (n : Int) 1 o ho h2 ⟨by omega, by dsimp only; omega⟩ (fun p hp => by have := (hA.mem hp).2.2.1; omega) (by rw [hA.len]; omega) rfl rfl rfl).mono ?_
  rintro e w' ⟨rfl, h5⟩
  dsimp only at h5
  rw [hA.acked] at h5
  exact ⟨rfl, .inr ⟨t, rfl, _, [], h5, h2, fun h => by omega, fun _ => rfl⟩⟩
theorem AgU.next {W w : World} {b n at_ t : Nat} (h : AgU W w b n at_ t) (hne : t ≠ at_) : Ag W w b n at_ (t + 1) := by
  obtain ⟨tq, L, h1, h2, h3, h4⟩ := h.ex
  exact .inr ⟨t, rfl, tq, L, h1, h2, fun h => h3 (by omega), fun h => h4 (by omega)⟩
/-- Behind all ticks. -/
theorem ag_end {W w : World} {b n at_ t : Nat} (h : Ag W w b n at_ (t + 1)) : ∃ L : Nat, Calls Try.prog 12 #[.pointer (some ⟨b, 0, none⟩)] w (fun e w' => e = .returned (.int .i64 (L : Int)) ∧ w = w') ∧ L = (if t < at_ then n else 0) ∧ Below W.heap.size W w := by
  rcases h with ⟨h, -⟩ | ⟨t', e, tq, L, hL, hto, hA, hN⟩
  · omega
  obtain rfl : t = t' := by omega
  obtain ⟨S, hG, hS⟩ := hL.ex
  refine ⟨L.length, waiting_any hG, ?_, hL.B⟩
  by_cases hlt : t < at_
  · rw [if_pos hlt]; exact (hA hlt).2.len
  · rw [if_neg hlt, hN (by omega)]; rfl
def AgP (W w : World) (b i : Nat) : Prop := ∃ L, L1 W w b ⟨0, 1, 7, 0, i, 0, 1, L, []⟩ ∧ AgL i false 0 L
theorem ag_push {W w : World} {b i : Nat} (h : AgP W w b i) (hi : i ≤ 100) (o : Obj) (ho : o = .cells (nums .i64 [(i : Int)]).toArray 2) :
    Calls Try.prog 10 #[.pointer (some ⟨b, 0, none⟩), .agg (msC 5 0 0 0 0 (.slice (some ⟨w.heap.size, 0, none⟩) 1 1) (.slice none 0 0))] (w.alloc o) fun e w' => e = .returned (.int .i64 0) ∧ AgP W w' b (i + 1) := by
  subst ho
  obtain ⟨L, hL, hA⟩ := h
  have hb := alloc_back (W := w) (.cells (nums .i64 [(i : Int)]).toArray 2)
  refine ((hL.below hb).push 5 0 0 0 0 (some ⟨w.heap.size, 0, none⟩) none 1 1 0 0 [(i : Int)] [] (reads_lit w .i64 [(i : Int)] 2 (0, 0) 1 rfl (by decide)) (wides_nil _) (fun h => by cases h) (fun _ => ⟨rfl, rfl⟩) (by decide) (by decide) (by dsimp only; omega) (by dsimp only; omega) (by decide) (by dsimp only; rw [hA.len]; omega) (by dsimp only; omega)).mono ?_
  rintro e w' ⟨y, rfl, hy, h1⟩
  dsimp only at h1
  rw [show (i : Int) + 1 = ((i + 1 : Nat) : Int) by omega] at h1
  refine ⟨rfl, L ++ [⟨y, false, 0⟩], h1, hA.push (congrArg Dt.s hy) (congrArg Dt.xs hy) (congrArg Dt.ys hy)⟩
theorem AgP.start {W w : World} {b n : Nat} (h : AgP W w b n) (at_ : Nat) : Ag W w b n at_ 0 := .inl ⟨rfl, h⟩
theorem AgP.made {W w : World} (h : Below W.heap.size W w) : AgP W (w.alloc (.cells (lkC 0 1 7 0 (.slice none 0 0) 0 0 1 (.slice none 0 0)) 61)) w.heap.size 0 :=
  ⟨[], L1.made 0 1 7 h, ⟨rfl, fun i p hp => by simp at hp⟩⟩
set_option maxRecDepth 100000 in
set_option maxHeartbeats 8000000 in
theorem again_walk (W : World) (x : Int) (wx : (Lit.int .i64 x).wf = true) (y : Int) (wy : (Lit.int .i64 y).wf = true) (z : Int) (wz : (Lit.int .i64 z).wf = true) : Calls Try.prog 4 #[.int .i64 x, .int .i64 y, .int .i64 z] W fun e w' => e = .returned (.bool true) ∧ Below W.heap.size W w' := by
  by_cases g0 : x < 1
  · go_enter Try.func4, Try.ntmps4
    go_wp2_with fail
    refine (awake_walk W).mono ?_
    rintro e wA ⟨rfl, hbA⟩
    go_wp2_with fail
    go_ret
    exact ⟨rfl, hbA⟩
  by_cases g1 : 32 < x
  · go_enter Try.func4, Try.ntmps4
    go_wp2_with fail
    refine (awake_walk W).mono ?_
    rintro e wA ⟨rfl, hbA⟩
    go_wp2_with fail
    go_ret
    exact ⟨rfl, hbA⟩
  by_cases g2 : y < 0
  · go_enter Try.func4, Try.ntmps4
    go_wp2_with fail
    refine (awake_walk W).mono ?_
    rintro e wA ⟨rfl, hbA⟩
    go_wp2_with fail
    go_ret
    exact ⟨rfl, hbA⟩
  by_cases g3 : 100 < y
  · go_enter Try.func4, Try.ntmps4
    go_wp2_with fail
    refine (awake_walk W).mono ?_
    rintro e wA ⟨rfl, hbA⟩
    go_wp2_with fail
    go_ret
    exact ⟨rfl, hbA⟩
  by_cases g4 : z < 0
  · go_enter Try.func4, Try.ntmps4
    go_wp2_with fail
    refine (awake_walk W).mono ?_
    rintro e wA ⟨rfl, hbA⟩
    go_wp2_with fail
    go_ret
    exact ⟨rfl, hbA⟩
  by_cases g5 : 100 < z
  · go_enter Try.func4, Try.ntmps4
    go_wp2_with fail
    refine (awake_walk W).mono ?_
    rintro e wA ⟨rfl, hbA⟩
    go_wp2_with fail
    go_ret
    exact ⟨rfl, hbA⟩
  obtain ⟨n, rfl⟩ := Int.eq_ofNat_of_zero_le (show 0 ≤ x by omega)
  obtain ⟨ticks, rfl⟩ := Int.eq_ofNat_of_zero_le (show 0 ≤ y by omega)
  obtain ⟨at_, rfl⟩ := Int.eq_ofNat_of_zero_le (show 0 ≤ z by omega)
  have hn1 : 1 ≤ n := by omega
  have hn2 : n ≤ 32 := by omega
  have ht1 : ticks ≤ 100 := by omega
  have ha1 : at_ ≤ 100 := by omega
  go_enter Try.func4, Try.ntmps4
  go_wp2_with fail
  refine (awake_walk W).mono ?_
  rintro e wA ⟨rfl, hbA⟩
  have B0 := Lib.hid hbA; clear hbA
  go_wp2_with fail
  refine (new_ok 0 1 7 wA (by decide) (by decide) (by decide)).mono ?_
  rintro e w1 ⟨rfl, hw1⟩
  have P0 := Lib.hid (show AgP W w1 wA.heap.size 0 by rw [hw1]; exact AgP.made B0.out)
  obtain ⟨b, hbb⟩ : ∃ b, b = wA.heap.size := ⟨_, rfl⟩
  rw [← hbb] at P0
  rw [← hbb]
  clear hw1 hbb g0 g1 g2 g3 g4 g5
  have d0 : decide ((n : Int) < 1) = false := decide_eq_false (by omega)
  have d1 : decide ((32 : Int) < (n : Int)) = false := decide_eq_false (by omega)
  go_wp2_with fail
  go_loopw [9] (fun s wr => ∃ i : Nat, i ≤ n ∧ s = .int .i64 i ∧ Aside0 (AgP W wr b i)) (fun s _ => n - (intOf s).toNat)
  case atStart => exact ⟨0, Nat.zero_le _, rfl, ⟨P0.out⟩⟩
  case round =>
    obtain ⟨i, hi, rfl, HK⟩ := hrel
    by_cases hlt : i < n
    · have C := Lib.hid (ag_push HK.out (by omega) _ rfl)
      go_wp2_with fail
      refine C.out.mono ?_
      rintro e w2 ⟨rfl, hP⟩
      have P2 := Lib.hid hP; clear hP C
      go_wp2_with fail
      go_roundw
      case rel => exact ⟨i + 1, by omega, by go_num, ⟨P2.out⟩⟩
      case measure => simp [intOf]; omega
    · obtain rfl : i = n := by omega
      have G0 := Lib.hid (HK.out.start at_)
      clear HK
      go_wp2_with fail
      go_loopw [10] (fun s wr => ∃ t : Nat, t ≤ ticks + 1 ∧ s = .int .i64 t ∧ Aside0 (Ag W wr b i at_ t)) (fun s _ => ticks + 1 - (intOf s).toNat)
      case atStart => exact ⟨0, Nat.zero_le _, rfl, ⟨G0.out⟩⟩
      case round =>
        obtain ⟨t, ht, rfl, HT⟩ := hrel
        by_cases htt : t ≤ ticks
        · have TK := Lib.hid (ag_tick HT.out ⟨hn1, hn2⟩ (by omega))
          clear HT
          have e7 := and7 (t : Int)
          go_wp2_with fail
          refine TK.out.mono ?_
          rintro e w2 ⟨A, k, c, rfl, hU, hk, hR⟩
          have U2 := Lib.hid hU; have R2 := Lib.hid hR; clear hU hR TK
          by_cases hw : t % 8 = 0 ∧ t ≤ at_
          · rw [if_pos hw] at hk
            subst k
            have q1 : ((t : Int) % 8 == 0) = true := by rw [beq_iff_eq]; omega
            have q2 : t ≤ at_ := hw.2
            go_wp2_with fail
            go_loopw [13] (fun s wr => ∃ j : Nat, j ≤ i ∧ s = .int .i64 j ∧ Aside0 (AgU W wr b i at_ t ∧ AgR wr A i)) (fun s _ => i - (intOf s).toNat)
            case atStart => exact ⟨0, Nat.zero_le _, rfl, ⟨U2.out, R2.out⟩⟩
            case round =>
              obtain ⟨j, hj, rfl, HJ⟩ := hrel
              by_cases hjk : j < i
              · obtain ⟨g, a, rfl, c4, ⟨c', c5⟩, c6⟩ := HJ.out.2.row j hjk
                have x1 : IntKind.i64.wrap ((j : Int) + 1) = (j : Int) + 1 := by rw [IntKind.wrap_i64]; omega
                have x2 : IntKind.u32.wrap ((j : Int) + 1) = (j : Int) + 1 := by rw [IntKind.wrap_u32]; omega
                have HU := Lib.hid HJ.out
                clear HJ
                go_wp2_with fail
                go_roundw
                case rel => exact ⟨j + 1, by omega, by go_num, ⟨HU.out⟩⟩
                case measure => simp [intOf]; omega
              · have U3 := Lib.hid HJ.out.1
                obtain rfl : j = i := by omega
                clear HJ
                by_cases hat : t = at_
                · subst hat
                  have hta : ((t : Int) == (t : Int)) = true := beq_self_eq_true _
                  have CA := Lib.hid (ag_ack U3.out ⟨hn1, hn2⟩ _ rfl)
                  go_wp2_with fail
                  refine CA.out.mono ?_
                  rintro e w3 ⟨rfl, hG⟩
                  have G3 := Lib.hid hG; clear hG CA
                  go_wp2_with fail
                  go_roundw
                  case rel => exact ⟨t + 1, by omega, by go_num, ⟨G3.out⟩⟩
                  case measure => simp [intOf]; omega
                · have hta : ((t : Int) == (at_ : Int)) = false := by rw [beq_eq_false_iff_ne]; omega
                  have G3 := Lib.hid (U3.out.next hat)
                  go_wp2_with fail
                  go_roundw
                  case rel => exact ⟨t + 1, by omega, by go_num, ⟨G3.out⟩⟩
                  case measure => simp [intOf]; omega
          · rw [if_neg hw] at hk
            subst k
            by_cases q8 : t % 8 = 0
            · have q1 : ((t : Int) % 8 == 0) = true := by rw [beq_iff_eq]; omega
              have q2 : ¬ t ≤ at_ := fun h => hw ⟨q8, h⟩
              go_wp2_with fail
              go_loopw [13] (fun s wr => ∃ j : Nat, j ≤ 0 ∧ s = .int .i64 j ∧ Aside0 (AgU W wr b i at_ t ∧ AgR wr A 0)) (fun s _ => 0 - (intOf s).toNat)
              case atStart => exact ⟨0, Nat.zero_le _, rfl, ⟨U2.out, R2.out⟩⟩
              case round =>
                obtain ⟨j, hj, rfl, HJ⟩ := hrel
                by_cases hjk : j < 0
                · omega
                · have U3 := Lib.hid HJ.out.1
                  obtain rfl : j = 0 := by omega
                  clear HJ hw q1 q8 e7 hj hjk
                  by_cases hat : t = at_
                  · exact absurd (Nat.le_of_eq hat) q2
                  · have hta : ((t : Int) == (at_ : Int)) = false := by rw [beq_eq_false_iff_ne]; omega
                    have G3 := Lib.hid (U3.out.next hat)
                    go_wp2_with fail
                    go_roundw
                    case rel => exact ⟨t + 1, by omega, by go_num, ⟨G3.out⟩⟩
                    case measure => simp [intOf]; omega
            · have q1 : ((t : Int) % 8 == 0) = false := by rw [beq_eq_false_iff_ne]; omega
              go_wp2_with fail
              go_loopw [13] (fun s wr => ∃ j : Nat, j ≤ 0 ∧ s = .int .i64 j ∧ Aside0 (AgU W wr b i at_ t ∧ AgR wr A 0)) (fun s _ => 0 - (intOf s).toNat)
              case atStart => exact ⟨0, Nat.zero_le _, rfl, ⟨U2.out, R2.out⟩⟩
              case round =>
                obtain ⟨j, hj, rfl, HJ⟩ := hrel
                by_cases hjk : j < 0
                · omega
                · have U3 := Lib.hid HJ.out.1
                  obtain rfl : j = 0 := by omega
                  clear HJ hw q1 q8 e7 hj hjk
                  by_cases hat : t = at_
                  · subst hat
                    have hta : ((t : Int) == (t : Int)) = true := beq_self_eq_true _
                    have CA := Lib.hid (ag_ack U3.out ⟨hn1, hn2⟩ _ rfl)
                    go_wp2_with fail
                    refine CA.out.mono ?_
                    rintro e w3 ⟨rfl, hG⟩
                    have G3 := Lib.hid hG; clear hG CA
                    go_wp2_with fail
                    go_roundw
                    case rel => exact ⟨t + 1, by omega, by go_num, ⟨G3.out⟩⟩
                    case measure => simp [intOf]; omega
                  · have hta : ((t : Int) == (at_ : Int)) = false := by rw [beq_eq_false_iff_ne]; omega
                    have G3 := Lib.hid (U3.out.next hat)
                    go_wp2_with fail
                    go_roundw
                    case rel => exact ⟨t + 1, by omega, by go_num, ⟨G3.out⟩⟩
                    case measure => simp [intOf]; omega
        · obtain rfl : t = ticks + 1 := by omega
          obtain ⟨L, C, hL, hB⟩ := ag_end HT.out
          have CW := Lib.hid C; have BW := Lib.hid hB; clear C hB HT
          by_cases hlt2 : ticks < at_
          · rw [if_pos hlt2] at hL
            subst L
            go_wp2_with fail
            refine CW.out.mono ?_
            rintro e w' ⟨rfl, rfl⟩
            go_wp2_with fail
            go_ret
            exact ⟨by first | rfl | simp, BW.out⟩
          · rw [if_neg hlt2] at hL
            subst L
            go_wp2_with fail
            refine CW.out.mono ?_
            rintro e w' ⟨rfl, rfl⟩
            go_wp2_with fail
            go_ret
            exact ⟨by first | rfl | simp, BW.out⟩
end Go.Proofs.Ytbkpgkkfkjlnnaa.G
