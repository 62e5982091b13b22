/- The reference's link: what its small functions do; mown; Same of one message twice. -/
import Derived.Test.YtbkpgkkfkjlnnaaLgZ
import Derived.Test.YtbkpgkkfkjlnnaaQRow
import Derived.Deep.RegionHeld3
set_option linter.unusedVariables false
set_option linter.unusedSimpArgs false
namespace Go.Proofs.Ytbkpgkkfkjlnnaa.G
open Go.RowKit Go.Proofs.YtbkpgkkfkjlnnaaW.PrintWords Go.Proofs.YtbkpgkkfkjlnnaaW.PrintLast Go.Proofs.Ytbkpgkkfkjlnnaa.K Go.Proofs.Ytbkpgkkfkjlnnaa.Row Go.Proofs.Ytbkpgkkfkjlnnaa

theorem in_walk (n a b : Int) (w : World) : Calls Try.prog 46 #[.int .i64 n, .int .i64 a, .int .i64 b] w fun e w' => e = .returned (.bool (decide (a ≤ n ∧ n ≤ b))) ∧ w = w' := by
  by_cases h0 : a ≤ n
  · go_enter Try.func46, Try.ntmps46
    go_wp2
    go_ret
    exact ⟨by simp [h0], rfl⟩
  · go_enter Try.func46, Try.ntmps46
    go_wp2
    go_ret
    exact ⟨by rw [decide_eq_false (show ¬ a ≤ n by omega)]; rfl, rfl⟩
theorem id_walk (n : Int) (w : World) : Calls Try.prog 32 #[.int .i64 n] w fun e w' => e = .returned (.bool (decide (0 ≤ n ∧ n < 16))) ∧ w = w' := by
  by_cases h0 : 0 ≤ n
  · go_enter Try.func32, Try.ntmps32
    go_wp2
    go_ret
    exact ⟨by simp [h0], rfl⟩
  · go_enter Try.func32, Try.ntmps32
    go_wp2
    go_ret
    exact ⟨by simp [h0]; omega, rfl⟩
def mayB (a b : Int) : Bool := decide ((0 ≤ a ∧ a < 16) ∧ (0 ≤ b ∧ b < 16) ∧ a ≠ b)
theorem maylink_walk (a b : Int) (w : World) : Calls Try.prog 16 #[.int .i64 a, .int .i64 b] w fun e w' => e = .returned (.bool (mayB a b)) ∧ w = w' := by
  have HA := Lib.hid (id_walk a w); have HB := Lib.hid (id_walk b w)
  by_cases h1 : 0 ≤ a ∧ a < 16
  · rw [decide_eq_true h1] at HA
    by_cases h2 : 0 ≤ b ∧ b < 16
    · rw [decide_eq_true h2] at HB
      by_cases h3 : a = b
      · have MB := Lib.hid (show mayB a b = false by unfold mayB; rw [decide_eq_false (fun h => h.2.2 h3)])
        have h3' : (a != b) = false := by simp [h3]
        clear h3
        go_enter Try.func16, Try.ntmps16
        go_wp2_with fail
        refine HA.out.mono ?_
        rintro e w' ⟨rfl, rfl⟩
        go_wp2_with fail
        refine HB.out.mono ?_
        rintro e w' ⟨rfl, rfl⟩
        go_wp2_with fail
        go_ret
        exact ⟨by rw [MB.out]; rfl, rfl⟩
      · have MB := Lib.hid (show mayB a b = true by unfold mayB; rw [decide_eq_true ⟨h1, h2, h3⟩])
        have h3' : (a != b) = true := by simpa using h3
        clear h3
        go_enter Try.func16, Try.ntmps16
        go_wp2_with fail
        refine HA.out.mono ?_
        rintro e w' ⟨rfl, rfl⟩
        go_wp2_with fail
        refine HB.out.mono ?_
        rintro e w' ⟨rfl, rfl⟩
        go_wp2_with fail
        go_ret
        exact ⟨by rw [MB.out]; rfl, rfl⟩
    · rw [decide_eq_false h2] at HB
      have MB := Lib.hid (show mayB a b = false by unfold mayB; rw [decide_eq_false (fun h => h2 h.2.1)])
      go_enter Try.func16, Try.ntmps16
      go_wp2_with fail
      refine HA.out.mono ?_
      rintro e w' ⟨rfl, rfl⟩
      go_wp2_with fail
      refine HB.out.mono ?_
      rintro e w' ⟨rfl, rfl⟩
      go_wp2_with fail
      go_ret
      exact ⟨by rw [MB.out]; rfl, rfl⟩
  · rw [decide_eq_false h1] at HA
    have MB := Lib.hid (show mayB a b = false by unfold mayB; rw [decide_eq_false (fun h => h1 h.1)])
    go_enter Try.func16, Try.ntmps16
    go_wp2_with fail
    refine HA.out.mono ?_
    rintro e w' ⟨rfl, rfl⟩
    go_wp2_with fail
    go_ret
    exact ⟨by rw [MB.out]; rfl, rfl⟩
set_option maxHeartbeats 400000 in
theorem mown_walk (k f t v s : Int) (A B : Option Addr) (n c m d : Nat) (W : World) : Calls Try.prog 18 #[.agg (msC k f t v s (.slice A n c) (.slice B m d))] W fun e w' => e = .returned (.agg (msC k f t v s (.slice A n c) (.slice B m d))) ∧ Below W.heap.size W w' := by
  have hb : ∀ o o' : Obj, Below W.heap.size W ((W.alloc o).alloc o') := fun o o' => alloc_back2 o o'
  have HB := Lib.hid hb; clear hb
  go_enter Try.func18, Try.ntmps18
  go_wp2_with fail
  (try simp only [Exit.inBlock, Exit.then])
  refine bodyPost_ret (results_cell_row rfl _ _ (W.heap.size + 1) 51 (msC k f t v s (.slice A n c) (.slice B m d)) (0, 0) _ rfl (by simp only [hal]; exact hpush2 _ _ _) Try.underlying51 rfl (by kernel_rfl)) rfl ?_
  exact ⟨rfl, HB.out _ _⟩
set_option maxHeartbeats 800000 in
/-- May, where only the kind may be wrong. -/
theorem may_walk (k f t v s : Int) (A B : Option Addr) (n c m d : Nat) (h2 : 0 ≤ f ∧ f ≤ 15) (h3 : 0 ≤ t ∧ t ≤ 15) (hn : n ≤ 500) (hm : m ≤ 500) (W : World) :
    Calls Try.prog 33 #[.agg (msC k f t v s (.slice A n c) (.slice B m d))] W fun e w' => e = .returned (.bool (decide (1 ≤ k ∧ k ≤ 20))) ∧ Below W.heap.size W w' := by
  have hb : ∀ o : Obj, Below W.heap.size W (W.alloc o) := fun o => alloc_back o
  have HB := Lib.hid hb; clear hb
  by_cases g1 : 1 ≤ k ∧ k ≤ 20
  · go_enter Try.func33, Try.ntmps33
    go_wp2_with (go_at_call 46; refine (in_walk _ _ _ _).mono ?_; rintro e w' ⟨rfl, rfl⟩)
    go_ret
    exact ⟨by first | (simp [g1, h2, h3]; omega) | simp [g1, h2, h3, hn, hm], HB.out _⟩
  · go_enter Try.func33, Try.ntmps33
    go_wp2_with (go_at_call 46; refine (in_walk _ _ _ _).mono ?_; rintro e w' ⟨rfl, rfl⟩)
    go_ret
    exact ⟨by rw [decide_eq_false g1]; rfl, HB.out _⟩
theorem eqW (a b c d : Int) (W : World) : (binOp .neq 79 (.agg #[.int .i64 a, .int .u64 b]) (.agg #[.int .i64 c, .int .u64 d])).run Try.prog W = .ok (.bool (!(a == c && b == d))) W := by
  go_simp
  by_cases h1 : a = c <;> by_cases h2 : b = d <;> simp [h1, h2]
set_option maxRecDepth 100000 in
set_option maxHeartbeats 2000000 in
/-- Same of a message and itself, wherever both lie. -/
theorem same_eq (k f t v s : Int) (xs : List Int) (ys : List (Int × Int)) (A A' B B' : Option Addr) (n c c' m d d' : Nat) (W : World) (hx : ReadsInt W .i64 A n xs) (hx' : ReadsInt W .i64 A' n xs) (hy : WidesAt W B m ys) (hy' : WidesAt W B' m ys) :
    Calls Try.prog 34 #[.agg (msC k f t v s (.slice A n c) (.slice B m d)), .agg (msC k f t v s (.slice A' n c') (.slice B' m d'))] W fun e w' => e = .returned (.bool true) ∧ Below W.heap.size W w' := by
  have hb : ∀ o o' : Obj, Below W.heap.size W ((W.alloc o).alloc o') := fun o o' => alloc_back2 o o'
  have HB := Lib.hid hb
  have HX := Lib.hid hx; have HX' := Lib.hid hx'; have HY := Lib.hid hy; have HY' := Lib.hid hy'
  have n1 := hx.2.1; have n2 := hx'.2.1; have n3 := hy.2.1; have n4 := hy'.2.1
  clear hb hx hx' hy hy'
  go_enter Try.func34, Try.ntmps34
  go_wp2_with fail
  obtain ⟨w0, hw0⟩ : ∃ w0, w0 = (W.alloc (.cells (msC k f t v s (.slice A n c) (.slice B m d)) 51)).alloc (.cells (msC k f t v s (.slice A' n c') (.slice B' m d')) 51) := ⟨_, rfl⟩
  have hb0 : Below W.heap.size W w0 := by rw [hw0]; exact HB.out _ _
  obtain ⟨x0, x1, x2, x3, x4, x5, x6⟩ := msC_cells (show w0.heap[W.heap.size]? = some (.cells (msC k f t v s (.slice A n c) (.slice B m d)) 51 (0, 0)) by rw [hw0]; exact two_old _ _ _)
  obtain ⟨y0, y1, y2, y3, y4, y5, y6⟩ := msC_cells (show w0.heap[W.heap.size + 1]? = some (.cells (msC k f t v s (.slice A' n c') (.slice B' m d')) 51 (0, 0)) by rw [hw0]; simp only [hal]; exact hpush2 _ _ _)
  rw [← hw0]
  clear hw0 x0 x1 x2 x3 x4 y0 y1 y2 y3 y4
  have HB0 := Lib.hid hb0; clear hb0
  go_loopw [5] (fun i wr => ∃ k : Nat, k ≤ n ∧ i = .int .i64 k ∧ Aside0 (∃ q, wr = w0.drewN q)) (fun i _ => n - (intOf i).toNat)
  case atStart => exact ⟨0, Nat.zero_le _, rfl, ⟨0, rfl⟩⟩
  case round =>
    obtain ⟨k, hk, rfl, HK⟩ := hrel
    by_cases hlt : k < n
    · obtain ⟨ad, rfl, hck⟩ := reads_at (HX.out.below HB0.out) k hlt
      obtain ⟨bd, rfl, hcb⟩ := reads_at (HX'.out.below HB0.out) k hlt
      obtain ⟨q, hq⟩ := HK.out
      subst hq
      have g1 : (0 : Int) ≤ (k : Int) := Int.natCast_nonneg _
      have g2 : (k : Int) < (n : Int) := by omega
      obtain ⟨u, hu⟩ : ∃ u, u = xs.getD k 0 := ⟨_, rfl⟩
      rw [← hu] at hck hcb
      clear hu
      go_wp2
      go_quiet (fail)
      go_wp2
      go_roundw
      case rel => exact ⟨k + 1, by omega, by go_num, ⟨_, rfl⟩⟩
      case measure => simp [intOf]; omega
    · obtain rfl : k = n := by omega
      obtain ⟨q, hq⟩ := HK.out
      subst hq
      go_wp2
      go_loopw [6] (fun i wr => ∃ p : Nat, p ≤ m ∧ i = .int .i64 p ∧ Aside0 (∃ q, wr = w0.drewN q)) (fun i _ => m - (intOf i).toNat)
      case atStart => exact ⟨0, Nat.zero_le _, rfl, ⟨q, rfl⟩⟩
      case round =>
        obtain ⟨p, hp, rfl, HP⟩ := hrel
        by_cases hlp : p < m
        · obtain ⟨ad, rfl, hck, hck'⟩ := (HY.out.below HB0.out).2.2 p hlp
          obtain ⟨bd, rfl, hcb, hcb'⟩ := (HY'.out.below HB0.out).2.2 p hlp
          obtain ⟨q, hq⟩ := HP.out
          subst hq
          have g1 : (0 : Int) ≤ (p : Int) := Int.natCast_nonneg _
          have g2 : (p : Int) < (m : Int) := by omega
          obtain ⟨⟨u1, u2⟩, hu⟩ : ∃ u, u = ys.getD p (0, 0) := ⟨_, rfl⟩
          rw [← hu] at hck hck' hcb hcb'
          dsimp only at hck hck' hcb hcb'
          clear hu
          have he0 := fun W => eqW u1 u2 u1 u2 W
          simp only [beq_self_eq_true, Bool.and_self, Bool.not_true] at he0
          go_wp2
          go_quiet (fail)
          go_wp2
          go_roundw
          case rel => exact ⟨p + 1, by omega, by go_num, ⟨_, rfl⟩⟩
          case measure => simp [intOf]; omega
        · obtain rfl : p = m := by omega
          obtain ⟨q, hq⟩ := HP.out
          subst hq
          go_wp2
          go_ret
          exact ⟨rfl, pw_below_drewN HB0.out _⟩
end Go.Proofs.Ytbkpgkkfkjlnnaa.G
/- The reference's link: how it lies in memory. -/
set_option linter.unusedVariables false
set_option linter.unusedSimpArgs false
namespace Go.Proofs.Ytbkpgkkfkjlnnaa.G
open Go.RowKit Go.Proofs.YtbkpgkkfkjlnnaaW.PrintWords Go.Proofs.YtbkpgkkfkjlnnaaW.PrintLast Go.Proofs.Ytbkpgkkfkjlnnaa.K Go.Proofs.Ytbkpgkkfkjlnnaa.Row Go.Proofs.Ytbkpgkkfkjlnnaa Go.Proofs.Ytbkpgkkfkjlnnaa.Q

/-- append of any row at a step of an ordinary region. -/
theorem list_app_cells {P : Program} {ops : Array Oper} {o : Oper} {rest : List Oper} {a : Act} {Q : Exit → Act → World → Prop} {w0 W : World} (base : Nat) (hgd : o.guard = none) (s x : Operand) (t e : TypeId) (i : TypeInfo) (z : Value) (size bytes : Nat)
    (ho : o.op = .call { callee := .builtin .append, args := #[s, x], argTypes := #[t, t] })
    (ht : P.underlying t = some (.slice e)) (hi : P.info? e = some i) (hz : i.zero = some z) (hsize : i.size = size) (hby : i.bytes = bytes) (hzs : z.cells.size = size) (hsz : 0 < size) (hb0 : 0 < bytes)
    (v : Value) (n : Nat) (xs news : List Value) (A : Option Addr) (m c : Nat) (hs : a.eval s = v) (hx : a.eval x = .slice A m c)
    (HO : W.ownsRow base e size v n xs) (HR : ReadsC W size A m news) (HB : Below base w0 W) (hbase : base ≤ W.heap.size) (hl : (n + m) * bytes ≤ 140737488355328) (N : Nat) (hN : n + m = N)
    (h : ∀ A1 c1 w1, w1.ownsRow base e size (.slice A1 N c1) N (xs ++ news) → Below base w0 w1 → W.grownBy w1 v.ownBlock → ((Value.slice A1 N c1).ownBlock = v.ownBlock ∨ (Value.slice A1 N c1).ownBlock = some W.heap.size) → wpList P ops Q rest (a.put o.dst (.slice A1 N c1)) w1) :
    wpList P ops Q (o :: rest) a W := by
  have hw : Region.wanted o (yielded ops a.tmps) = true := by simp [Region.wanted, hgd]
  have h1 := step_app_cells (P := P) (ops := ops) (o := o) (a := a) (K := wpList P ops Q rest) (Q := Q) (E := False) (w0 := w0) (W := W) base hgd s x t e i z size bytes ho ht hi hz hsize hby hzs hsz hb0 v n xs news A m c hs hx HO HR HB hbase hl N hN h
  rw [if_pos hw] at h1
  unfold wpList
  rw [if_pos hw]
  exact .inl h1
theorem ReadsC.ofWides {w : World} {A : Option Addr} {n : Nat} {ys : List (Int × Int)} (h : WidesAt w A n ys) (hA : A = none → n = 0) : ReadsC w 2 A n (wides ys) := by
  refine ⟨by rw [wides_len, h.1], wides_one ys, fun e => hA e, fun ad hA' j u hu => ?_⟩
  have hj : j < (wides ys).length := (List.getElem?_eq_some_iff.1 hu).1
  rw [wides_len, h.1] at hj
  obtain ⟨ad', e, h1, h2⟩ := h.2.2 (j / 2) (by omega)
  rw [hA'] at e; injection e with e; subst e
  have hw := wides_at ys (j / 2) (by rw [h.1]; omega)
  rcases Nat.mod_two_eq_zero_or_one j with h0 | h0
  · rw [show j = j / 2 * 2 by omega] at hu ⊢
    rw [hw.1] at hu; injection hu with hu; subst hu
    exact h1
  · have ej : j = j / 2 * 2 + 1 := by omega
    rw [ej] at hu ⊢
    rw [hw.2] at hu; injection hu with hu; subst hu
    rw [add_field _ _ 1 (by decide)]
    exact h2
theorem wInfo : ∃ i z, Try.prog.info? 79 = some i ∧ i.zero = some z ∧ i.size = 2 ∧ i.bytes = 16 ∧ z.cells.size = 2 := info_of (by kernel_rfl)
theorem rInfo : ∃ i z, Try.prog.info? 51 = some i ∧ i.zero = some z ∧ i.size = 7 ∧ i.bytes = 80 ∧ z.cells.size = 7 := info_of (by kernel_rfl)
theorem tInfo : ∃ i z, Try.prog.info? 71 = some i ∧ i.zero = some z ∧ i.size = 8 ∧ i.bytes = 88 ∧ z.cells.size = 8 := info_of (by kernel_rfl)
/-- A link of the reference, cell by cell. -/
def rlC (own peer view : Int) (O : Value) (last told : Int) (H : Value) (come now : Int) : Array Value := #[.int .i64 own, .int .i64 peer, .int .u32 view, O, .int .u32 last, .int .u32 0, .int .u32 told, H, .int .u32 come, .int .i64 now]
theorem rlC_cells {w : World} {r : Nat} {own peer view : Int} {O : Value} {last told : Int} {H : Value} {come now : Int} {ty : TypeId} (h : w.heap[r]? = some (.cells (rlC own peer view O last told H come now) ty (0, 0))) :
    w.cell? ⟨r, 0, none⟩ = some (.int .i64 own) ∧ w.cell? ⟨r, 1, none⟩ = some (.int .i64 peer) ∧ w.cell? ⟨r, 2, none⟩ = some (.int .u32 view) ∧ w.cell? ⟨r, 3, none⟩ = some O ∧ w.cell? ⟨r, 4, none⟩ = some (.int .u32 last) ∧ w.cell? ⟨r, 6, none⟩ = some (.int .u32 told) ∧ w.cell? ⟨r, 7, none⟩ = some H ∧ w.cell? ⟨r, 8, none⟩ = some (.int .u32 come) ∧ w.cell? ⟨r, 9, none⟩ = some (.int .i64 now) := by
  simp [World.cell?, h, rlC]
theorem add_block (ad : Addr) (j : Nat) : (ad.add j).block = ad.block := by
  unfold Addr.add; split <;> rfl
structure RSn where
  m : Hd
  at_ : Int
def RSn.cells (p : RSn) : List Value := p.m.cells ++ [.int .i64 p.at_]
def rsC (L : List RSn) : List Value := L.flatMap RSn.cells
theorem rs_len (p : RSn) : p.cells.length = 8 := rfl
def RSn.key (p : RSn) : Dt × Int := (p.m.dt, p.at_)
def Pd.key (p : Pd) : Dt × Int := (p.m, if p.sent = true then p.at_ else -1)
/-- The rows of a message, wherever they lie; U: the blocks that nobody writes. -/
structure HdRd (w : World) (U : Nat → Prop) (h : Hd) : Prop where
  rd : ReadsInt w .i64 h.A h.xs.length h.xs
  wd : WidesAt w h.B h.ys.length h.ys
  fa : 0 < h.xs.length → ∀ ad, h.A = some ad → U ad.block
  fb : 0 < h.ys.length → ∀ ad, h.B = some ad → U ad.block
theorem HdRd.chg {w w' : World} {U T : Nat → Prop} {h : Hd} (hh : HdRd w U h) (hc : Chg T w w') (hn : ∀ b, U b → ¬ T b) : HdRd w' U h := by
  refine ⟨?_, ⟨hh.wd.1, hh.wd.2.1, fun i hi => ?_⟩, hh.fa, hh.fb⟩
  · refine ⟨hh.rd.1, hh.rd.2.1, fun h0 => ?_⟩
    obtain ⟨ad, e, hcell⟩ := hh.rd.2.2 h0
    refine ⟨ad, e, fun i hi => ?_⟩
    have := hcell i hi
    refine hc.cell this (hn _ ?_)
    have hU := hh.fa h0 ad e
    rw [add_block]; exact hU
  · obtain ⟨ad, e, h1, h2⟩ := hh.wd.2.2 i hi
    have hU := hh.fb (by omega) ad e
    have hb : (ad.add (i * 2)).block = ad.block := add_block _ _
    exact ⟨ad, e, hc.cell h1 (hn _ (by rw [hb]; exact hU)), hc.cell h2 (hn _ (by show U (ad.add (i * 2)).block; rw [hb]; exact hU))⟩
theorem HdRd.mono {w : World} {U V : Nat → Prop} {h : Hd} (hh : HdRd w U h) (hU : ∀ b, U b → V b) : HdRd w V h := ⟨hh.rd, hh.wd, fun h0 ad e => hU _ (hh.fa h0 ad e), fun h0 ad e => hU _ (hh.fb h0 ad e)⟩
theorem HdRd.below {w w' : World} {U : Nat → Prop} {h : Hd} (hh : HdRd w U h) (hb : Below w.heap.size w w') : HdRd w' U h := hh.chg (T := fun _ => False) (Chg.ofBelow hb) (fun _ _ h => h)
/-- The reference's link, with its pieces. -/
structure RefC (w : World) (S U : Nat → Prop) (r : Nat) (d : DS) (V : Value) (B : Option Addr) (c : Nat) (O : List RSn) (H : List Hd) : Prop where
  blk : w.heap[r]? = some (.cells (rlC d.own d.peer d.view V d.pushed d.told (.slice B H.length c) (d.next - 1) d.now) 47 (0, 0))
  q : Q.QRow w 0 71 8 V O.length (rsC O)
  qs : ∀ b, V.ownBlock = some b → S b
  h : Own w S 51 7 (.slice B H.length c) H.length (hdC H)
  eo : O.map RSn.key = d.out.map Pd.key
  eh : H.map Hd.dt = d.held
  bo : ∀ p ∈ O, HdRd w U p.m
  bh : ∀ h ∈ H, HdRd w U h
structure RefG (w : World) (S U : Nat → Prop) (r : Nat) (d : DS) : Prop where
  inn : ∀ b, S b → b < w.heap.size
  inU : ∀ b, U b → b < w.heap.size
  sep : ∀ b, S b → ¬ U b
  hr : S r
  cl : ∃ V B c O H, RefC w S U r d V B c O H
theorem RefC.olen {w : World} {S U : Nat → Prop} {r : Nat} {d : DS} {V : Value} {B : Option Addr} {c : Nat} {O : List RSn} {H : List Hd} (h : RefC w S U r d V B c O H) : O.length = d.out.length ∧ H.length = d.held.length := by
  have h1 := congrArg List.length h.eo; have h2 := congrArg List.length h.eh
  simp at h1 h2; exact ⟨h1, h2⟩
theorem RefC.chg {w w' : World} {S U T : Nat → Prop} {r : Nat} {d : DS} {V : Value} {B : Option Addr} {c : Nat} {O : List RSn} {H : List Hd} (h : RefC w S U r d V B c O H) (hr : S r) (hc : Chg T w w') (hS : ∀ b, S b → ¬ T b) (hU : ∀ b, U b → ¬ T b) : RefC w' S U r d V B c O H :=
  ⟨hc.keep h.blk (hS r hr), h.q.chg hc (fun k hk => hS k (h.qs k hk)), h.qs, h.h.chg hc hS, h.eo, h.eh, fun p hp => (h.bo p hp).chg hc hU, fun p hp => (h.bh p hp).chg hc hU⟩
theorem RefG.chg {w w' : World} {S U T : Nat → Prop} {r : Nat} {d : DS} (h : RefG w S U r d) (hc : Chg T w w') (hS : ∀ b, S b → ¬ T b) (hU : ∀ b, U b → ¬ T b) : RefG w' S U r d := by
  obtain ⟨V, B, c, O, H, h1⟩ := h.cl
  exact ⟨fun b hb => Nat.lt_of_lt_of_le (h.inn b hb) hc.size, fun b hb => Nat.lt_of_lt_of_le (h.inU b hb) hc.size, h.sep, h.hr, ⟨V, B, c, O, H, h1.chg h.hr hc hS hU⟩⟩
theorem RefG.below {w w' : World} {S U : Nat → Prop} {r : Nat} {d : DS} (h : RefG w S U r d) (hb : Below w.heap.size w w') : RefG w' S U r d := h.chg (T := fun _ => False) (Chg.ofBelow hb) (fun _ _ h => h) (fun _ _ h => h)
/-- Between two states of the reference's link. -/
structure StpU (w w' : World) (S U S' U' : Nat → Prop) : Prop where
  chg : Chg S w w'
  inc : ∀ b, S' b → S b ∨ w.heap.size ≤ b
  incU : ∀ b, U' b → U b ∨ w.heap.size ≤ b
theorem StpU.ofBelow {w w' : World} {S U : Nat → Prop} (h : Below w.heap.size w w') : StpU w w' S U S U := ⟨Chg.ofBelow h, fun b h => .inl h, fun b h => .inl h⟩
/-- A told row, as it is read. -/
def RowC (w : World) (V : Value) (D : List Dt) : Prop := ∃ (A : Option Addr) (c : Nat) (L : List Hd), V = .slice A D.length c ∧ L.map Hd.dt = D ∧ ∀ (i : Nat) (h : Hd), L[i]? = some h → (∃ g, A = some ⟨g, 0, none⟩ ∧ w.cell? ⟨g, i * 7, none⟩ = some (.int .i64 h.k) ∧ w.cell? ⟨g, i * 7 + 1, none⟩ = some (.int .i64 h.f) ∧ w.cell? ⟨g, i * 7 + 2, none⟩ = some (.int .i64 h.t) ∧ w.cell? ⟨g, i * 7 + 3, none⟩ = some (.int .u32 h.v) ∧ w.cell? ⟨g, i * 7 + 4, none⟩ = some (.int .u32 h.s) ∧ w.cell? ⟨g, i * 7 + 5, none⟩ = some h.nv ∧ w.cell? ⟨g, i * 7 + 6, none⟩ = some h.wv) ∧ ReadsInt w .i64 h.A h.xs.length h.xs ∧ WidesAt w h.B h.ys.length h.ys
theorem RowC.below {w w' : World} {V : Value} {D : List Dt} (h : RowC w V D) (hb : Below w.heap.size w w') : RowC w' V D := by
  obtain ⟨A, c, L, h1, h2, h3⟩ := h
  refine ⟨A, c, L, h1, h2, fun i x hx => ?_⟩
  obtain ⟨⟨g, g0, g1, g2, g3, g4, g5, g6, g7⟩, g8, g9⟩ := h3 i x hx
  exact ⟨⟨g, g0, pw_cell_below hb g1, pw_cell_below hb g2, pw_cell_below hb g3, pw_cell_below hb g4, pw_cell_below hb g5, pw_cell_below hb g6, pw_cell_below hb g7⟩, g8.below hb, g9.below hb⟩
theorem row7' {w : World} {base n c : Nat} {e : TypeId} {A : Option Addr} {L : List Hd} (h : w.ownsRow base e 7 (.slice A n c) n (hdC L)) {k : Nat} {x : Hd} (hx : L[k]? = some x) : ∃ g, A = some ⟨g, 0, none⟩ ∧ w.cell? ⟨g, k * 7, none⟩ = some (.int .i64 x.k) ∧ w.cell? ⟨g, k * 7 + 1, none⟩ = some (.int .i64 x.f) ∧ w.cell? ⟨g, k * 7 + 2, none⟩ = some (.int .i64 x.t) ∧ w.cell? ⟨g, k * 7 + 3, none⟩ = some (.int .u32 x.v) ∧ w.cell? ⟨g, k * 7 + 4, none⟩ = some (.int .u32 x.s) ∧ w.cell? ⟨g, k * 7 + 5, none⟩ = some x.nv ∧ w.cell? ⟨g, k * 7 + 6, none⟩ = some x.wv := by
  have hl : (hdC L).length = L.length * 7 := flat_len Hd.cells 7 hd_len L
  have hk := (List.getElem?_eq_some_iff.1 hx).1
  have hn : n = L.length := by have := h.1; rw [hl] at this; omega
  obtain ⟨g, cap, e', _, _⟩ := h.form (by omega)
  injection e' with e1 e2 e3
  have g' : ∀ j, j < 7 → w.cell? ⟨g, k * 7 + j, none⟩ = x.cells[j]? := fun j hj => by
    have := flat_get Hd.cells 7 hd_len L k x hx j hj
    have hlt : k * 7 + j < (hdC L).length := by rw [hl]; omega
    have hv : (hdC L)[k * 7 + j]? = some (hdC L)[k * 7 + j] := List.getElem?_eq_getElem hlt
    have h2 := h.cells (g := g) (by rw [e1]; rfl) (k * 7 + j) _ hv
    rw [Go.Proofs.YtbkpgkkfkjlnnaaW.PrintWords.add_plain] at h2
    rw [h2, ← hv]; exact this
  exact ⟨g, e1, g' 0 (by decide), g' 1 (by decide), g' 2 (by decide), g' 3 (by decide), g' 4 (by decide), g' 5 (by decide), g' 6 (by decide)⟩
theorem rowC_own {w : World} {base c : Nat} {e : TypeId} {A : Option Addr} {L : List Hd} {U : Nat → Prop} (h : w.ownsRow base e 7 (.slice A L.length c) L.length (hdC L)) (hb : ∀ x ∈ L, HdRd w U x) : RowC w (.slice A L.length c) (L.map Hd.dt) :=
  ⟨A, c, L, by rw [List.length_map], rfl, fun i x hx => ⟨row7' h hx, (hb x (List.mem_of_getElem? hx)).rd, (hb x (List.mem_of_getElem? hx)).wd⟩⟩
theorem own_ints {w : World} {bs n c : Nat} {A : Option Addr} {xs : List Int} {e : TypeId} (h : w.ownsRow bs e 1 (.slice A n c) xs.length (nums .i64 xs)) : ReadsInt w .i64 A xs.length xs := (own_info h).2.2.2.1
end Go.Proofs.Ytbkpgkkfkjlnnaa.G
/- The reference's link: Waiting, Ahead, Next, has, ack; all. -/
set_option linter.unusedVariables false
set_option linter.unusedSimpArgs false
namespace Go.Proofs.Ytbkpgkkfkjlnnaa.G
open Go.RowKit Go.Proofs.YtbkpgkkfkjlnnaaW.PrintWords Go.Proofs.YtbkpgkkfkjlnnaaW.PrintLast Go.Proofs.Ytbkpgkkfkjlnnaa.K Go.Proofs.Ytbkpgkkfkjlnnaa.Row Go.Proofs.Ytbkpgkkfkjlnnaa

section
variable {w : World} {S U : Nat → Prop} {r : Nat} {d : DS}
theorem rwaiting (h : RefG w S U r d) : Calls Try.prog 22 #[.pointer (some ⟨r, 0, none⟩)] w fun e w' => e = .returned (.int .i64 (d.out.length : Int)) ∧ w = w' := by
  obtain ⟨V, B, c, O, H, hc⟩ := h.cl
  obtain ⟨A1, c1, rfl⟩ := hc.q.shape
  obtain ⟨n, hn⟩ : ∃ n, n = O.length := ⟨_, rfl⟩
  have hol := hc.olen.1
  have hb := hc.blk
  rw [← hn] at hb hol
  obtain ⟨c0, c1, c2, c3, c4, c6, c7, c8, c9⟩ := rlC_cells hb
  have HO := Lib.hid hol
  clear hb hn hol hc h c0 c1 c2 c4 c6 c7 c8 c9
  go_enter Try.func22, Try.ntmps22
  go_wp2
  go_ret
  exact ⟨by rw [← HO.out]; rfl, rfl⟩
theorem rahead (h : RefG w S U r d) : Calls Try.prog 23 #[.pointer (some ⟨r, 0, none⟩)] w fun e w' => e = .returned (.int .i64 (d.held.length : Int)) ∧ w = w' := by
  obtain ⟨V, B, c, O, H, hc⟩ := h.cl
  obtain ⟨n, hn⟩ : ∃ n, n = H.length := ⟨_, rfl⟩
  have hol := hc.olen.2
  have hb := hc.blk
  rw [← hn] at hb hol
  obtain ⟨c0, c1, c2, c3, c4, c6, c7, c8, c9⟩ := rlC_cells hb
  have HO := Lib.hid hol
  clear hb hn hol hc h c0 c1 c2 c3 c4 c6 c8 c9
  go_enter Try.func23, Try.ntmps23
  go_wp2
  go_ret
  exact ⟨by rw [← HO.out]; rfl, rfl⟩
theorem rnext (h : RefG w S U r d) (hn : 1 ≤ d.next ∧ d.next < 4294967296) : Calls Try.prog 24 #[.pointer (some ⟨r, 0, none⟩)] w fun e w' => e = .returned (.int .u32 d.next) ∧ w = w' := by
  obtain ⟨V, B, c, O, H, hc⟩ := h.cl
  obtain ⟨c0, c1, c2, c3, c4, c6, c7, c8, c9⟩ := rlC_cells hc.blk
  have HW := Lib.hid (show d.next % 4294967296 = d.next by omega)
  clear hc h c0 c1 c2 c3 c4 c6 c7 c9 hn
  go_enter Try.func24, Try.ntmps24
  go_wp2
  go_ret
  exact ⟨by show Ending.returned (.int .u32 (d.next % 4294967296)) = _; rw [HW.out], rfl⟩
def ixD (L : List Dt) (q : Int) : Int := if L.findIdx (fun h => h.s == q) < L.length then ((L.findIdx (fun h => h.s == q) : Nat) : Int) else -1
theorem ixD_hit {L : List Dt} {q : Int} {k : Nat} {x : Dt} (hx : L[k]? = some x) (hs : x.s = q) (hno : ∀ (j : Nat) (y : Dt), j < k → L[j]? = some y → y.s ≠ q) : ixD L q = (k : Int) := by
  have hk := (List.getElem?_eq_some_iff.1 hx).1
  have e : L.findIdx (fun h => h.s == q) = k := by
    rw [List.findIdx_eq hk]
    refine ⟨?_, fun j hj => ?_⟩
    · have : L[k] = x := (List.getElem?_eq_some_iff.1 hx).2
      rw [this]; simpa using hs
    · have := hno j L[j] hj (List.getElem?_eq_getElem _)
      simpa using this
  unfold ixD
  rw [e, if_pos hk]
theorem ixD_none {L : List Dt} {q : Int} (hno : ∀ (j : Nat) (y : Dt), L[j]? = some y → y.s ≠ q) : ixD L q = -1 := by
  unfold ixD
  rw [if_neg]
  intro h
  have h1 := List.findIdx_getElem (w := h)
  exact hno _ _ (List.getElem?_eq_getElem h) (by simpa using h1)
theorem ixD_has (L : List Dt) (q : Int) : 0 ≤ ixD L q ↔ hasD L q = true := by
  unfold ixD hasD
  by_cases h : L.findIdx (fun h => h.s == q) < L.length
  · rw [if_pos h]
    constructor
    · intro _
      rw [List.any_eq_true]
      exact ⟨_, List.getElem_mem h, List.findIdx_getElem (w := h)⟩
    · intro _; omega
  · rw [if_neg h]
    constructor
    · intro h'; omega
    · intro h'
      exfalso
      apply h
      rw [List.any_eq_true] at h'
      obtain ⟨x, hx, hq⟩ := h'
      exact List.findIdx_lt_length_of_exists ⟨x, hx, hq⟩
set_option maxRecDepth 100000 in
theorem rhas (h : RefG w S U r d) (q : Int) (hl : d.held.length ≤ 100000) : Calls Try.prog 35 #[.pointer (some ⟨r, 0, none⟩), .int .u32 q] w fun e w' => e = .returned (.int .i64 (ixD d.held q)) ∧ w = w' := by
  obtain ⟨V, B, c, O, H, hc⟩ := h.cl
  have hol := hc.olen.2
  obtain ⟨n, hn⟩ : ∃ n, n = H.length := ⟨_, rfl⟩
  have hown := hc.h.1
  have hb := hc.blk
  have he := hc.eh
  rw [← hn] at hb hown hol
  obtain ⟨c0, c1, c2, c3, c4, c6, c7, c8, c9⟩ := rlC_cells hb
  have hg : ∀ i, i < n → ∃ g x, B = some ⟨g, 0, none⟩ ∧ H[i]? = some x ∧ w.cell? ⟨g, i * 7 + 4, none⟩ = some (.int .u32 x.s) ∧ d.held[i]? = some x.dt := fun i hi => by
    have hx : H[i]? = some H[i] := List.getElem?_eq_getElem (by omega)
    obtain ⟨g, e, -, -, -, -, h4, -⟩ := row7' hown hx
    exact ⟨g, H[i], e, hx, h4, by rw [← he, List.getElem?_map, hx]; rfl⟩
  have HG := Lib.hid hg; have HN := Lib.hid hol
  have hn1 : n ≤ 100000 := by omega
  clear hg hb hn hol hc h hown he c0 c1 c2 c3 c4 c6 c8 c9 hl
  go_enter Try.func35, Try.ntmps35
  go_wp2
  go_loopw [5] (fun s wr => ∃ i : Nat, i ≤ n ∧ s = .int .i64 i ∧ Aside0 (wr = w ∧ ∀ (j : Nat) (y : Dt), j < i → d.held[j]? = some y → y.s ≠ q)) (fun s _ => n - (intOf s).toNat)
  case atStart => exact ⟨0, Nat.zero_le _, rfl, ⟨rfl, fun j y hj => by omega⟩⟩
  case round =>
    obtain ⟨i, hi, rfl, HK⟩ := hrel
    obtain ⟨hw, hno⟩ := HK.out
    subst hw
    have HNO := Lib.hid hno; clear hno HK
    by_cases hlt : i < n
    · obtain ⟨g, x, rfl, -, h4, hx⟩ := HG.out i hlt
      have g1 : (0 : Int) ≤ (i : Int) := Int.natCast_nonneg _
      have g2 : (i : Int) < (n : Int) := by omega
      by_cases hs : x.s = q
      · have hs' : (x.s == q) = true := by simpa using hs
        have HI := Lib.hid (ixD_hit hx hs HNO.out)
        clear hs hx
        go_wp2
        go_ret
        exact ⟨by rw [HI.out]; rfl, rfl⟩
      · have hs' : (x.s == q) = false := by simpa using hs
        have HX := Lib.hid hx; have HS := Lib.hid hs; clear hx hs
        go_wp2
        go_roundw
        case rel => exact ⟨i + 1, by omega, by go_num, ⟨by first | trivial | rfl, fun j y hj hy => by
          rcases Nat.lt_succ_iff_lt_or_eq.1 hj with h | rfl
          · exact HNO.out j y h hy
          · rw [HX.out] at hy; injection hy with hy; subst hy; exact HS.out⟩⟩
        case measure => simp [intOf]; omega
    · obtain rfl : i = n := by omega
      have HI := Lib.hid (ixD_none (L := d.held) (q := q) (fun j y hy => HNO.out j y (by have := (List.getElem?_eq_some_iff.1 hy).1; have := HN.out; omega) hy))
      go_wp2
      go_ret
      exact ⟨by rw [HI.out]; rfl, rfl⟩
theorem ack_fin (w : World) (k f : Int) (v z : Int) : Rws ((w.alloc (.cells #[.int .i64 z] 2)).alloc (.cells #[.int .i64 1, .int .i64 k, .int .i64 f, .int .u32 v, .int .u32 0, .slice (some ⟨w.heap.size, 0, none⟩) 1 1, .slice none 0 0] 51)).drew (fun b => w.heap.size ≤ b) none 0 [] ∧ RowC ((w.alloc (.cells #[.int .i64 z] 2)).alloc (.cells #[.int .i64 1, .int .i64 k, .int .i64 f, .int .u32 v, .int .u32 0, .slice (some ⟨w.heap.size, 0, none⟩) 1 1, .slice none 0 0] 51)).drew (.slice (some ⟨w.heap.size + 1, 0, none⟩) 1 1) [⟨1, k, f, v, 0, [z], []⟩] ∧ Below w.heap.size w ((w.alloc (.cells #[.int .i64 z] 2)).alloc (.cells #[.int .i64 1, .int .i64 k, .int .i64 f, .int .u32 v, .int .u32 0, .slice (some ⟨w.heap.size, 0, none⟩) 1 1, .slice none 0 0] 51)).drew := by
  refine ⟨⟨nil_own _ _ _ _, fun h hh => by cases hh⟩, ?_, below_drew (alloc_back2 _ _)⟩
  have hn := heap_alloc_new (w.alloc (.cells #[.int .i64 z] 2)) (.cells #[.int .i64 1, .int .i64 k, .int .i64 f, .int .u32 v, .int .u32 0, .slice (some ⟨w.heap.size, 0, none⟩) 1 1, .slice none 0 0] 51)
  rw [World.size_alloc] at hn
  refine ⟨_, _, [⟨1, k, f, v, 0, some ⟨w.heap.size, 0, none⟩, 1, [z], none, 0, []⟩], rfl, rfl, fun i x hx => ?_⟩
  match i, hx with
  | 0, hx =>
    injection hx with hx
    subst hx
    refine ⟨⟨w.heap.size + 1, rfl, ?_⟩, ?_, ?_⟩
    · obtain ⟨c0, c1, c2, c3, c4, c5, c6⟩ := msC_cells (w := (w.alloc (.cells #[.int .i64 z] 2)).alloc (.cells #[.int .i64 1, .int .i64 k, .int .i64 f, .int .u32 v, .int .u32 0, .slice (some ⟨w.heap.size, 0, none⟩) 1 1, .slice none 0 0] 51)) (k := 1) (f := k) (t := f) (v := v) (s := 0) (A := .slice (some ⟨w.heap.size, 0, none⟩) 1 1) (B := .slice none 0 0) hn
      exact ⟨c0, c1, c2, c3, c4, c5, c6⟩
    · exact ((reads_lit w .i64 [z] 2 (0, 0) 1 rfl (by decide)).below (alloc_back _)).below (below_drew (Below.refl _ _))
    · exact wides_nil _
set_option maxRecDepth 100000 in
set_option maxHeartbeats 1000000 in
theorem rack (h : RefG w S U r d) (hn : 1 ≤ d.next ∧ d.next < 4294967296) : Calls Try.prog 36 #[.pointer (some ⟨r, 0, none⟩)] w fun e w' => ∃ V, e = .returned V ∧ RowC w' V [ansDS d] ∧ Below w.heap.size w w' := by
  obtain ⟨V, B, c, O, H, hc⟩ := h.cl
  obtain ⟨c0, c1, c2, c3, c4, c6, c7, c8, c9⟩ := rlC_cells hc.blk
  have ew : IntKind.i64.wrap (d.next - 1) = d.next - 1 := by rw [IntKind.wrap_i64]; omega
  have HF := Lib.hid (ack_fin w d.own d.peer d.view (d.next - 1)).2
  clear hc h c3 c4 c6 c7 c9 hn
  go_enter Try.func36, Try.ntmps36
  go_wp2_with fail
  first | (go_region_held3 (fun w' => w'.cell? ⟨r, 0, none⟩ = some (.int .i64 d.own) ∧ w'.cell? ⟨r, 1, none⟩ = some (.int .i64 d.peer) ∧ w'.cell? ⟨r, 2, none⟩ = some (.int .u32 d.view) ∧ w'.cell? ⟨r, 8, none⟩ = some (.int .u32 (d.next - 1)))
    (first | with_reducible exact ⟨c0, c1, c2, c8⟩ | go_keep) (fail)) | fail "held"
  go_wp2_with fail
  go_ret
  exact ⟨_, rfl, HF.out.1, HF.out.2⟩
end
set_option maxRecDepth 100000 in
set_option maxHeartbeats 2000000 in
theorem all_walk (w : World) (V1 V2 : Value) (D : List Dt) (h1 : RowC w V1 D) (h2 : RowC w V2 D) (hD : D.length ≤ 100000) : Calls Try.prog 19 #[V1, V2] w fun e w' => e = .returned (.bool true) ∧ Below w.heap.size w w' := by
  obtain ⟨A1, k1, L1, rfl, e1, g1⟩ := h1
  obtain ⟨A2, k2, L2, rfl, e2, g2⟩ := h2
  obtain ⟨n, hn⟩ : ∃ n, n = D.length := ⟨_, rfl⟩
  have hL1 : L1.length = n := by rw [hn, ← e1, List.length_map]
  have hL2 : L2.length = n := by rw [hn, ← e2, List.length_map]
  rw [← hn] at hD ⊢
  have HL1 := Lib.hid hL1; have HL2 := Lib.hid hL2; have G1 := Lib.hid g1; have G2 := Lib.hid g2
  have HE := Lib.hid (e1.trans e2.symm)
  clear hL1 hL2 g1 g2 e1 e2 hn
  go_enter Try.func19, Try.ntmps19
  go_wp2_with fail
  go_loopw [5] (fun s wr => ∃ i : Nat, i ≤ n ∧ s = .int .i64 i ∧ Aside0 (Below w.heap.size w wr)) (fun s _ => n - (intOf s).toNat)
  case atStart => exact ⟨0, Nat.zero_le _, rfl, ⟨Below.refl _ _⟩⟩
  case round =>
    obtain ⟨i, hi, rfl, HK⟩ := hrel
    by_cases hlt : i < n
    · have hl1 : i < L1.length := by rw [HL1.out]; exact hlt
      have hl2 : i < L2.length := by rw [HL2.out]; exact hlt
      have hx : L1[i]? = some L1[i] := List.getElem?_eq_getElem hl1
      have hy : L2[i]? = some L2[i] := List.getElem?_eq_getElem hl2
      obtain ⟨x, hxx⟩ : ∃ x, x = L1[i] := ⟨_, rfl⟩
      obtain ⟨y, hyy⟩ : ∃ y, y = L2[i] := ⟨_, rfl⟩
      rw [← hxx] at hx
      rw [← hyy] at hy
      have hd : x.dt = y.dt := by
        have h3 : (L1.map Hd.dt)[i]? = (L2.map Hd.dt)[i]? := by rw [HE.out]
        rw [List.getElem?_map, List.getElem?_map, hx, hy] at h3
        injection h3
      obtain ⟨⟨ga, rfl, a0, a1, a2, a3, a4, a5, a6⟩, ra, wa⟩ := G1.out i x hx
      obtain ⟨⟨gb, rfl, b0, b1, b2, b3, b4, b5, b6⟩, rb, wb⟩ := G2.out i y hy
      obtain ⟨xk, xf, xt, xv, xs, xA, xc, xxs, xB, xd, xys⟩ := x
      obtain ⟨yk, yf, yt, yv, ys, yA, yc, yxs, yB, yd, yys⟩ := y
      simp only [Hd.dt, Dt.mk.injEq] at hd
      obtain ⟨rfl, rfl, rfl, rfl, rfl, rfl, rfl⟩ := hd
      simp only [Hd.nv, Hd.wv] at a0 a1 a2 a3 a4 a5 a6 b0 b1 b2 b3 b4 b5 b6 ra wa rb wb
      obtain ⟨p, hp⟩ : ∃ p, p = xxs.length := ⟨_, rfl⟩
      obtain ⟨q, hq⟩ : ∃ q, q = xys.length := ⟨_, rfl⟩
      rw [← hp] at a5 b5 ra rb
      rw [← hq] at a6 b6 wa wb
      have hb := HK.out
      replace a0 := pw_cell_below hb a0
      replace a1 := pw_cell_below hb a1
      replace a2 := pw_cell_below hb a2
      replace a3 := pw_cell_below hb a3
      replace a4 := pw_cell_below hb a4
      replace a5 := pw_cell_below hb a5
      replace a6 := pw_cell_below hb a6
      replace b0 := pw_cell_below hb b0
      replace b1 := pw_cell_below hb b1
      replace b2 := pw_cell_below hb b2
      replace b3 := pw_cell_below hb b3
      replace b4 := pw_cell_below hb b4
      replace b5 := pw_cell_below hb b5
      replace b6 := pw_cell_below hb b6
      have RA := Lib.hid ra; have RB := Lib.hid rb; have WA := Lib.hid wa; have WB := Lib.hid wb; have HB := Lib.hid hb
      clear ra rb wa wb hp hq hx hy hxx hyy hb HK hl1 hl2
      have i1 : (0 : Int) ≤ (i : Int) := Int.natCast_nonneg _
      have i2 : (i : Int) < (n : Int) := by omega
      have CM := Lib.hid (fun (W : World) => mown_walk xk xf xt xv xs xA xB p xc q xd W)
      have CS := Lib.hid (fun (W : World) (hw : Below w.heap.size w W) => same_eq xk xf xt xv xs xxs xys xA yA xB yB p xc yc q xd yd W (RA.out.below hw) (RB.out.below hw) (WA.out.below hw) (WB.out.below hw))
      have hq0 := below_drew HB.out
      go_wp2_with fail
      first | (go_region_held3 (fun w' => w'.cell? ⟨ga, i * 7, none⟩ = some (.int .i64 xk) ∧ w'.cell? ⟨ga, i * 7 + 1, none⟩ = some (.int .i64 xf) ∧ w'.cell? ⟨ga, i * 7 + 2, none⟩ = some (.int .i64 xt) ∧ w'.cell? ⟨ga, i * 7 + 3, none⟩ = some (.int .u32 xv) ∧ w'.cell? ⟨ga, i * 7 + 4, none⟩ = some (.int .u32 xs) ∧ w'.cell? ⟨ga, i * 7 + 5, none⟩ = some (.slice xA p xc) ∧ w'.cell? ⟨ga, i * 7 + 6, none⟩ = some (.slice xB q xd) ∧ w'.cell? ⟨gb, i * 7, none⟩ = some (.int .i64 xk) ∧ w'.cell? ⟨gb, i * 7 + 1, none⟩ = some (.int .i64 xf) ∧ w'.cell? ⟨gb, i * 7 + 2, none⟩ = some (.int .i64 xt) ∧ w'.cell? ⟨gb, i * 7 + 3, none⟩ = some (.int .u32 xv) ∧ w'.cell? ⟨gb, i * 7 + 4, none⟩ = some (.int .u32 xs) ∧ w'.cell? ⟨gb, i * 7 + 5, none⟩ = some (.slice yA p yc) ∧ w'.cell? ⟨gb, i * 7 + 6, none⟩ = some (.slice yB q yd))
          (first | with_reducible exact ⟨pw_cell_below hq8 a0, pw_cell_below hq8 a1, pw_cell_below hq8 a2, pw_cell_below hq8 a3, pw_cell_below hq8 a4, pw_cell_below hq8 a5, pw_cell_below hq8 a6, pw_cell_below hq8 b0, pw_cell_below hq8 b1, pw_cell_below hq8 b2, pw_cell_below hq8 b3, pw_cell_below hq8 b4, pw_cell_below hq8 b5, pw_cell_below hq8 b6⟩ | with_reducible exact ⟨pw_cell_below hq5 a0, pw_cell_below hq5 a1, pw_cell_below hq5 a2, pw_cell_below hq5 a3, pw_cell_below hq5 a4, pw_cell_below hq5 a5, pw_cell_below hq5 a6, pw_cell_below hq5 b0, pw_cell_below hq5 b1, pw_cell_below hq5 b2, pw_cell_below hq5 b3, pw_cell_below hq5 b4, pw_cell_below hq5 b5, pw_cell_below hq5 b6⟩ | exact ⟨a0, a1, a2, a3, a4, a5, a6, b0, b1, b2, b3, b4, b5, b6⟩ | go_keep)
          (first
            | (go_at_call 18; (with_reducible refine (CM.out _).mono ?_); rintro e w5 ⟨rfl, hb5⟩; have hq5 : Below wr.heap.size wr w5 := below_then (below_drew (Below.refl wr.heap.size wr)) (Nat.le_refl _) hb5; have hq6 := below_then HB.out HB.out.size hq5; clear hb5)
            | (go_at_call 34; (with_reducible refine (CS.out _ hq6).mono ?_); rintro e w6 ⟨rfl, hb6⟩; have hq7 := below_then hq6 hq6.size hb6; have hq8 := below_then hq5 hq5.size hb6; clear hb6))) | fail "held"
      all_goals
        (try go_wp2_with fail)
        go_roundw
        case rel => exact ⟨i + 1, by omega, by go_num, ⟨hq7⟩⟩
        case measure => simp [intOf]; omega
    · obtain rfl : i = n := by omega
      have HB := Lib.hid HK.out; clear HK
      go_wp2_with fail
      go_ret
      exact ⟨rfl, HB.out⟩
end Go.Proofs.Ytbkpgkkfkjlnnaa.G
