/- Walks of package beat: Tick (printed by a program of mine, mkbeat.py). -/
import Derived.Test.YthebddhldembhaaBeatA
import Derived.Deep.RegionHeld3
import Derived.Deep.AppendLies
import Derived.IntWalk
import Derived.WalkArith
set_option linter.unusedVariables false
set_option linter.unusedSimpArgs false
namespace Go.Proofs.Ythebddhldembhaa
open Go.RowKit Go.Proofs.YthebddhldembhaaW.PrintWords Go.Proofs.Ythebddhldembhaa.K

structure BeatOk (b : BeatA) : Prop where
  n0 : 0 ≤ b.now
  n1 : b.now ≤ 1000000
  s0 : -1 ≤ b.sent
  s1 : b.sent ≤ b.now
  fb : ∀ a, 0 ≤ b.f a ∧ b.f a ≤ b.now
  mb : ∀ m ∈ b.mem, 0 ≤ m ∧ m < 16
def othL (own : Int) (l : List Int) : List Int := l.filter (fun m => decide (m ≠ own))
def lateL (b : BeatA) (M : Int) (l : List Int) : List Int := l.filter (fun m => decide (m ≠ b.own ∧ b.span ≤ M - b.f m))
section
variable {P : Program} {ops : Array Oper} {rest : List Oper} {o : Oper} {a : Act} {Q : Exit → Act → World → Prop}
theorem app_num2 {w0 W : World} (base : Nat) (hgd : o.guard = none) (s x : Operand) (t e : TypeId) (k : IntKind) (bytes : Nat)
    (ho : o.op = .call { callee := .builtin .append, args := #[s, x], argTypes := #[t, t] })
    (ht : P.underlying t = some (.slice e)) (hinfo : (P.info? e).map (fun i => (i.zero, i.size, i.bytes)) = some (some (.int k 0), 1, bytes)) (hb0 : 0 < bytes)
    (v : Value) (n : Nat) (xs : List Int) (y : Int) (hs : a.eval s = v) (hx : a.eval x = .slice (some ⟨W.heap.size, 0, none⟩) 1 1)
    (hn : xs.length = n) (HO : W.ownsRow base e 1 v n (nums k xs)) (HB : Below base w0 W) (hbase : base ≤ W.heap.size) (hl : (n + 1) * bytes ≤ 140737488355328)
    (h : ∀ A1 c1 w1, w1.ownsRow base e 1 (.slice A1 (n + 1) c1) (n + 1) (nums k (xs ++ [y])) → Below base w0 w1 → W.grownBy w1 v.ownBlock → ((Value.slice A1 (n + 1) c1).ownBlock = v.ownBlock ∨ ∃ b, (Value.slice A1 (n + 1) c1).ownBlock = some b ∧ W.heap.size ≤ b) → wpList P ops Q rest (a.put o.dst (.slice A1 (n + 1) c1)) w1) :
    wpList P ops Q (o :: rest) a (W.alloc (.cells #[.int k y] e)) := by
  subst hn
  refine print_append_num base hgd s x t e k bytes ho ht hinfo hb0 v xs y hs hx HO HB hbase hl ?_
  intro v1 w1 hown hB hg hq
  obtain ⟨A1, c1, rfl⟩ := own_slice hown
  rw [List.length_append] at hown hq
  have := h A1 c1 w1 hown hB hg hq
  rwa [List.length_append]
end
theorem wf64 {u : Int} (h0 : -1000000000 ≤ u) (h1 : u ≤ 1000000000) : (Lit.int .i64 u).wf = true := Go.WalkArith.wf_i64 ⟨by omega, by omega⟩
/-- Two rows of one's own in two blocks. -/
def ApartV (v u : Value) : Prop := v.ownBlock = none ∨ v.ownBlock ≠ u.ownBlock
theorem ApartV.symm {v u : Value} (h : ApartV v u) : ApartV u v := by
  rcases h with h | h
  · cases hu : u.ownBlock with
    | none => exact .inl hu
    | some g => exact .inr (by rw [hu, h]; simp)
  · exact .inr (fun e => h e.symm)
theorem ApartV.grow {W : World} {base n : Nat} {e : TypeId} {size : Nat} {v u v1 : Value} {xs : List Value} (h : ApartV v u) (hu : W.ownsRow base e size u n xs) (hq : v1.ownBlock = v.ownBlock ∨ ∃ b, v1.ownBlock = some b ∧ W.heap.size ≤ b) : ApartV v1 u := by
  rcases hq with hq | ⟨b, hq, hb⟩
  · unfold ApartV; rw [hq]; exact h
  · refine .inr ?_
    rcases hu.2 with ⟨rfl, _⟩ | ⟨g, cap, cur, rfl, _, hh, _⟩
    · rw [hq]; simp [Value.ownBlock]
    · rw [hq]; intro e
      have e2 : b = g := by simpa [Value.ownBlock] using e
      have := lt_of_heap hh; omega
theorem take_filter {f : Int → Bool} {l : List Int} {k : Nat} (hk : k < l.length) : (l.take (k + 1)).filter f = (l.take k).filter f ++ if f (l.getD k 0) then [l.getD k 0] else [] := by
  rw [List.take_succ_eq_append_getElem hk, List.filter_append]
  simp [List.getD_eq_getElem?_getD, hk, List.filter_cons]
set_option maxRecDepth 100000 in
set_option maxHeartbeats 4000000 in
theorem tick_send (w : World) (base r mb n : Nat) (b : BeatA) (t : Int) (h : BeatS w base r mb n b) (ok : BeatOk b) (ht : t ≤ 1000000) (hs : b.sent < 0 ∨ b.every ≤ max b.now t - b.sent) :
    Calls Try.prog 8 #[.pointer (some ⟨r, 0, none⟩), .int .i64 t] w fun e w' => ∃ A1 p c1 A2 q c2, e = .returned (.tuple #[.slice A1 p c1, .slice A2 q c2]) ∧ ReadsInt w' .i64 A1 p (othL b.own b.mem) ∧ p ≤ c1 ∧ ReadsInt w' .i64 A2 q (lateL b (max b.now t) b.mem) ∧ q ≤ c2 ∧ BeatS w' base r mb n { b with now := max b.now t, sent := max b.now t } ∧ ∀ W, Below base W w → Below base W w' := by
  have HT := Lib.hid (time_walk w base r mb n b t h)
  have hln := h.ln
  obtain ⟨M, hM⟩ : ∃ M, M = max b.now t := ⟨_, rfl⟩
  rw [← hM] at HT hs ⊢
  have hM0 : 0 ≤ M := by have := ok.n0; omega
  have hM1 : M ≤ 1000000 := by have := ok.n1; omega
  have hM2 : b.now ≤ M := by omega
  have hS0 := ok.s0
  have hS1 := ok.s1
  have HF := Lib.hid ok.fb
  have HMB := Lib.hid ok.mb
  clear hM h ok ht
  rcases Int.lt_or_le b.sent 0 with hs1 | hs1
  · have W0 : IntKind.i64.wrap (M - b.sent) = M - b.sent := IntWalk.i64_in _ (by omega)
    clear hs
    go_enter Try.func8, Try.ntmps8
    go_wp2_with fail
    refine HT.out.mono ?_
    rintro e w1 ⟨rfl, hS1', hB1⟩
    have S1 := Lib.hid hS1'; have B1 := Lib.hid hB1
    obtain ⟨A, c, k1, k2⟩ := hS1'.cl
    obtain ⟨c0, c1, c2, c3, c4, c5, c6⟩ := beat_cells k1
    have hz := froz (show w1.heap[r]? = some (.cells _ _ (0, 0)) from k1) 6
    have K1 := Lib.hid k1; have K2 := Lib.hid k2
    clear hS1' hB1 k1 k2
    go_wp2_with fail
    go_quiet (fail)
    go_wp2_with fail
    have hst := (((S1.out.below (below_drewN (Below.refl _ _) nq)).store (b' := { b with now := M, sent := M }) 6 (.int .i64 M) rfl rfl (fun A c => rfl)))
    have S2 := Lib.hid hst.1; have B2 := Lib.hid (fun W hW => hst.2 W (below_drewN (B1.out W hW) nq))
    have r2 := own_other (pw_own_below K2.out (below_drewN (Below.refl _ _) nq)) (grown_set (w := w1.drewN nq) (r := r) (j := 6) (.int .i64 M)) (box_ne (show (w1.drewN nq).heap[r]? = some (.cells _ _ (0, 0)) from K1.out) (pw_own_below K2.out (below_drewN (Below.refl _ _) nq)) (by decide))
    have k2 : BeatC ((w1.drewN nq).setCell ⟨r, 6, none⟩ (.int .i64 M)) r { b with now := M, sent := M } A c mb := by unfold BeatC; rw [heap_set _ (show (w1.drewN nq).heap[r]? = some (.cells _ _ (0, 0)) from K1.out)]; rfl
    clear hst
    generalize hw2 : ((w1.drewN nq).setCell ⟨r, 6, none⟩ (.int .i64 M)) = w2
    rw [hw2] at S2 B2 r2 k2
    clear hw2
    clear c0 c1 c2 c3 c4 c5 c6 hz
    have RD2 := Lib.hid (own_info r2).2.2.2.1; have C2 := Lib.hid k2
    clear r2 k2
    clear W0
    go_loopw [7, 8, 42] (fun tv lv i wr => ∃ (k p q : Nat) (A1 : Option Addr) (c1' : Nat) (A2 : Option Addr) (c2' : Nat), k ≤ b.mem.length ∧ i = .int .i64 k ∧ tv = .slice A1 p c1' ∧ lv = .slice A2 q c2' ∧ Aside0 (((othL b.own (b.mem.take k)).length = p ∧ (lateL b M (b.mem.take k)).length = q) ∧ wr.ownsRow w2.heap.size 3 1 (.slice A1 p c1') p (nums .i64 (othL b.own (b.mem.take k))) ∧ wr.ownsRow w2.heap.size 3 1 (.slice A2 q c2') q (nums .i64 (lateL b M (b.mem.take k))) ∧ ApartV (.slice A1 p c1') (.slice A2 q c2') ∧ Below w2.heap.size w2 wr)) (fun _ _ i _ => b.mem.length - (intOf i).toNat)
    case atStart => exact ⟨0, 0, 0, none, 0, none, 0, Nat.zero_le _, rfl, rfl, rfl, ⟨⟨by first | rfl | simp [othL], by simp [lateL]⟩, ⟨by simp [othL, nums], .inl ⟨rfl, rfl⟩⟩, ⟨by simp [lateL, nums], .inl ⟨rfl, rfl⟩⟩, .inl rfl, Below.refl _ _⟩⟩
    case round =>
      obtain ⟨k, p, q, A1, c1', A2, c2', hk, rfl, rfl, rfl, HK⟩ := hrel
      by_cases hlt : k < b.mem.length
      · have HP := Lib.hid HK.out.1
        have HO := Lib.hid HK.out.2
        obtain ⟨ad, rfl, hck⟩ := reads_at (RD2.out.below HO.out.2.2.2) k hlt
        have hmem : b.mem.getD k 0 ∈ b.mem := by simp [List.getD_eq_getElem?_getD, hlt]
        have hu0 := HMB.out _ hmem
        have hpk : p ≤ k := by rw [← HP.out.1]; exact Nat.le_trans (List.length_filter_le _ _) (List.length_take_le _ _)
        have hqk : q ≤ k := by rw [← HP.out.2]; exact Nat.le_trans (List.length_filter_le _ _) (List.length_take_le _ _)
        obtain ⟨u, hu⟩ : ∃ u, u = b.mem.getD k 0 := ⟨_, rfl⟩
        rw [← hu] at hck hu0
        have HU := Lib.hid hu
        clear hu hmem
        obtain ⟨d0, d1, d2, d3, d4, d5, d6⟩ := beat_cells (show BeatC wr r { b with now := M, sent := M } (some ad) c mb from by have := C2.out; unfold BeatC at this ⊢; exact heap_keep HO.out.2.2.2 this)
        by_cases hown : u = b.own
        · have HW := Lib.hid hown
          go_wp2_with fail
          clear d0 d1 d2 d3 d4 d5 d6 hck hown
          go_roundw
          case rel => exact ⟨k + 1, p, q, A1, c1', A2, c2', by omega, by go_num, rfl, rfl, ⟨by rw [show othL b.own (b.mem.take (k + 1)) = othL b.own (b.mem.take k) by unfold othL; rw [take_filter hlt, ← HU.out, HW.out]; simp, show lateL b M (b.mem.take (k + 1)) = lateL b M (b.mem.take k) by unfold lateL; rw [take_filter hlt, ← HU.out, HW.out]; simp]; exact ⟨HP.out, HO.out⟩⟩⟩
          case measure => simp [intOf]; omega
        · have HW := Lib.hid hown
          go_wp2_with ((at_builtin; refine app_num2 (w0 := w2) w2.heap.size rfl (.tmp 53) (.tmp 55) 28 3 .i64 8 rfl Try.underlying28 (by kernel_rfl) (by decide) (.slice A1 p c1') p (othL b.own (b.mem.take k)) u rfl rfl HP.out.1 HO.out.1 HO.out.2.2.2 (Nat.le_trans HO.out.2.2.2.size (by first | exact Nat.le_refl _ | (simp))) (by omega) ?_; intro A3 c3' w5 ho3 hb3 hg3 hq3; have R5 := Lib.hid (And.intro ho3 (And.intro hb3 (And.intro hg3 hq3))); clear ho3 hb3 hg3 hq3))
          clear d0 d1 d2 d3 d4 d5 d6 hck hown
          have HO6 : Hid (w5.ownsRow w2.heap.size 3 1 (.slice A3 (p + 1) c3') (p + 1) (nums .i64 (othL b.own (b.mem.take k) ++ [u])) ∧ w5.ownsRow w2.heap.size 3 1 (.slice A2 q c2') q (nums .i64 (lateL b M (b.mem.take k))) ∧ ApartV (.slice A3 (p + 1) c3') (.slice A2 q c2') ∧ Below w2.heap.size w2 w5) := Lib.hid ⟨R5.out.1, own_other HO.out.2.1 R5.out.2.2.1 HO.out.2.2.1.symm, HO.out.2.2.1.grow HO.out.2.1 R5.out.2.2.2, R5.out.2.1⟩
          have hCr : BeatC w5 r { b with now := M, sent := M } (some ad) c mb := by have := C2.out; unfold BeatC at this ⊢; exact heap_keep HO6.out.2.2.2 this
          obtain ⟨d0, d1, d2, d3, d4, d5, d6⟩ := beat_cells hCr
          have hwf : (Lit.int .i64 u).wf = true := wf64 (by omega) (by omega)
          have lk0 : ∀ m', (Instr.lookup 40 (.map (some mb)) (.int .i64 u) false).run Try.prog (w5.drewN m') = .ok (.int .i64 (b.f u)) (w5.drewN m') := fun m' => (S2.out.below (below_drewN HO6.out.2.2.2 m')).la.look u hwf
          have hf0 := HF.out u
          obtain ⟨fu, hfu⟩ : ∃ fu, fu = b.f u := ⟨_, rfl⟩
          rw [← hfu] at lk0 hf0
          have HFU := Lib.hid hfu
          clear hCr hfu hwf
          by_cases hl : b.span ≤ M - fu
          · have HLT := Lib.hid (show lateL b M (b.mem.take (k + 1)) = lateL b M (b.mem.take k) ++ [u] by unfold lateL; rw [take_filter hlt, ← HU.out]; simp [HW.out, ← HFU.out, hl])
            have HTO := Lib.hid (show othL b.own (b.mem.take (k + 1)) = othL b.own (b.mem.take k) ++ [u] by unfold othL; rw [take_filter hlt, ← HU.out]; simp [HW.out])
            have W0 : IntKind.i64.wrap (M - fu) = M - fu := IntWalk.i64_in _ (by omega)
            go_quiet (fail)
            clear W0 lk0
            go_wp2_with ((at_builtin; refine app_num2 (w0 := w2) w2.heap.size rfl (.tmp 70) (.tmp 72) 28 3 .i64 8 rfl Try.underlying28 (by kernel_rfl) (by decide) (.slice A2 q c2') q (lateL b M (b.mem.take k)) u rfl rfl HP.out.2 (pw_own_below HO6.out.2.1 (below_drewN (Below.refl _ _) _)) (below_drewN HO6.out.2.2.2 _) (Nat.le_trans HO6.out.2.2.2.size (Nat.le_refl _)) (by omega) ?_; intro A4 c4' w7 ho4 hb4 hg4 hq4; have R7 := Lib.hid (And.intro ho4 (And.intro hb4 (And.intro hg4 hq4))); clear ho4 hb4 hg4 hq4))
            clear d0 d1 d2 d3 d4 d5 d6
            go_roundw
            case rel =>
              refine ⟨k + 1, (p + 1), q + 1, A3, c3', A4, c4', by omega, by go_num, rfl, rfl, ⟨?_⟩⟩
              rw [HLT.out, HTO.out]
              exact ⟨⟨by simp [HP.out.1], by simp [HP.out.2]⟩, own_other (pw_own_below HO6.out.1 (below_drewN (Below.refl _ _) _)) R7.out.2.2.1 HO6.out.2.2.1, R7.out.1, (HO6.out.2.2.1.symm.grow (pw_own_below HO6.out.1 (below_drewN (Below.refl _ _) _)) R7.out.2.2.2).symm, R7.out.2.1⟩
            case measure => simp [intOf]; omega
          · have HLT := Lib.hid (show lateL b M (b.mem.take (k + 1)) = lateL b M (b.mem.take k) by unfold lateL; rw [take_filter hlt, ← HU.out]; simp [HW.out, ← HFU.out, hl])
            have HTO := Lib.hid (show othL b.own (b.mem.take (k + 1)) = othL b.own (b.mem.take k) ++ [u] by unfold othL; rw [take_filter hlt, ← HU.out]; simp [HW.out])
            have W0 : IntKind.i64.wrap (M - fu) = M - fu := IntWalk.i64_in _ (by omega)
            go_quiet (fail)
            clear W0 lk0
            go_wp2_with fail
            clear d0 d1 d2 d3 d4 d5 d6
            go_roundw
            case rel =>
              refine ⟨k + 1, (p + 1), q, A3, c3', A2, c2', by omega, by go_num, rfl, rfl, ⟨?_⟩⟩
              rw [HLT.out, HTO.out]
              exact ⟨⟨by simp [HP.out.1], HP.out.2⟩, pw_own_below HO6.out.1 (below_drewN (Below.refl _ _) _), pw_own_below HO6.out.2.1 (below_drewN (Below.refl _ _) _), HO6.out.2.2.1, below_drewN HO6.out.2.2.2 _⟩
            case measure => simp [intOf]; omega
      · obtain rfl : k = b.mem.length := by omega
        have HP := Lib.hid HK.out.1
        have HO := Lib.hid HK.out.2
        go_wp2_with fail
        go_ret2
        have e1 := own_info HO.out.1
        have e2 := own_info HO.out.2.1
        rw [List.take_length] at e1 e2
        exact ⟨A1, p, c1', A2, q, c2', rfl, e1.2.2.2.1, e1.2.2.1, e2.2.2.2.1, e2.2.2.1, S2.out.below HO.out.2.2.2, fun W hW => below_then (B2.out W hW) S2.out.bw HO.out.2.2.2⟩
  · have hs2 : b.every ≤ M - b.sent := by omega
    have W0 : IntKind.i64.wrap (M - b.sent) = M - b.sent := IntWalk.i64_in _ (by omega)
    clear hs
    go_enter Try.func8, Try.ntmps8
    go_wp2_with fail
    refine HT.out.mono ?_
    rintro e w1 ⟨rfl, hS1', hB1⟩
    have S1 := Lib.hid hS1'; have B1 := Lib.hid hB1
    obtain ⟨A, c, k1, k2⟩ := hS1'.cl
    obtain ⟨c0, c1, c2, c3, c4, c5, c6⟩ := beat_cells k1
    have hz := froz (show w1.heap[r]? = some (.cells _ _ (0, 0)) from k1) 6
    have K1 := Lib.hid k1; have K2 := Lib.hid k2
    clear hS1' hB1 k1 k2
    go_wp2_with fail
    go_quiet (fail)
    go_wp2_with fail
    have hst := (((S1.out.below (below_drewN (Below.refl _ _) nq)).store (b' := { b with now := M, sent := M }) 6 (.int .i64 M) rfl rfl (fun A c => rfl)))
    have S2 := Lib.hid hst.1; have B2 := Lib.hid (fun W hW => hst.2 W (below_drewN (B1.out W hW) nq))
    have r2 := own_other (pw_own_below K2.out (below_drewN (Below.refl _ _) nq)) (grown_set (w := w1.drewN nq) (r := r) (j := 6) (.int .i64 M)) (box_ne (show (w1.drewN nq).heap[r]? = some (.cells _ _ (0, 0)) from K1.out) (pw_own_below K2.out (below_drewN (Below.refl _ _) nq)) (by decide))
    have k2 : BeatC ((w1.drewN nq).setCell ⟨r, 6, none⟩ (.int .i64 M)) r { b with now := M, sent := M } A c mb := by unfold BeatC; rw [heap_set _ (show (w1.drewN nq).heap[r]? = some (.cells _ _ (0, 0)) from K1.out)]; rfl
    clear hst
    generalize hw2 : ((w1.drewN nq).setCell ⟨r, 6, none⟩ (.int .i64 M)) = w2
    rw [hw2] at S2 B2 r2 k2
    clear hw2
    clear c0 c1 c2 c3 c4 c5 c6 hz
    have RD2 := Lib.hid (own_info r2).2.2.2.1; have C2 := Lib.hid k2
    clear r2 k2
    clear W0
    go_loopw [7, 8, 42] (fun tv lv i wr => ∃ (k p q : Nat) (A1 : Option Addr) (c1' : Nat) (A2 : Option Addr) (c2' : Nat), k ≤ b.mem.length ∧ i = .int .i64 k ∧ tv = .slice A1 p c1' ∧ lv = .slice A2 q c2' ∧ Aside0 (((othL b.own (b.mem.take k)).length = p ∧ (lateL b M (b.mem.take k)).length = q) ∧ wr.ownsRow w2.heap.size 3 1 (.slice A1 p c1') p (nums .i64 (othL b.own (b.mem.take k))) ∧ wr.ownsRow w2.heap.size 3 1 (.slice A2 q c2') q (nums .i64 (lateL b M (b.mem.take k))) ∧ ApartV (.slice A1 p c1') (.slice A2 q c2') ∧ Below w2.heap.size w2 wr)) (fun _ _ i _ => b.mem.length - (intOf i).toNat)
    case atStart => exact ⟨0, 0, 0, none, 0, none, 0, Nat.zero_le _, rfl, rfl, rfl, ⟨⟨by first | rfl | simp [othL], by simp [lateL]⟩, ⟨by simp [othL, nums], .inl ⟨rfl, rfl⟩⟩, ⟨by simp [lateL, nums], .inl ⟨rfl, rfl⟩⟩, .inl rfl, Below.refl _ _⟩⟩
    case round =>
      obtain ⟨k, p, q, A1, c1', A2, c2', hk, rfl, rfl, rfl, HK⟩ := hrel
      by_cases hlt : k < b.mem.length
      · have HP := Lib.hid HK.out.1
        have HO := Lib.hid HK.out.2
        obtain ⟨ad, rfl, hck⟩ := reads_at (RD2.out.below HO.out.2.2.2) k hlt
        have hmem : b.mem.getD k 0 ∈ b.mem := by simp [List.getD_eq_getElem?_getD, hlt]
        have hu0 := HMB.out _ hmem
        have hpk : p ≤ k := by rw [← HP.out.1]; exact Nat.le_trans (List.length_filter_le _ _) (List.length_take_le _ _)
        have hqk : q ≤ k := by rw [← HP.out.2]; exact Nat.le_trans (List.length_filter_le _ _) (List.length_take_le _ _)
        obtain ⟨u, hu⟩ : ∃ u, u = b.mem.getD k 0 := ⟨_, rfl⟩
        rw [← hu] at hck hu0
        have HU := Lib.hid hu
        clear hu hmem
        obtain ⟨d0, d1, d2, d3, d4, d5, d6⟩ := beat_cells (show BeatC wr r { b with now := M, sent := M } (some ad) c mb from by have := C2.out; unfold BeatC at this ⊢; exact heap_keep HO.out.2.2.2 this)
        by_cases hown : u = b.own
        · have HW := Lib.hid hown
          go_wp2_with fail
          clear d0 d1 d2 d3 d4 d5 d6 hck hown
          go_roundw
          case rel => exact ⟨k + 1, p, q, A1, c1', A2, c2', by omega, by go_num, rfl, rfl, ⟨by rw [show othL b.own (b.mem.take (k + 1)) = othL b.own (b.mem.take k) by unfold othL; rw [take_filter hlt, ← HU.out, HW.out]; simp, show lateL b M (b.mem.take (k + 1)) = lateL b M (b.mem.take k) by unfold lateL; rw [take_filter hlt, ← HU.out, HW.out]; simp]; exact ⟨HP.out, HO.out⟩⟩⟩
          case measure => simp [intOf]; omega
        · have HW := Lib.hid hown
          go_wp2_with ((at_builtin; refine app_num2 (w0 := w2) w2.heap.size rfl (.tmp 53) (.tmp 55) 28 3 .i64 8 rfl Try.underlying28 (by kernel_rfl) (by decide) (.slice A1 p c1') p (othL b.own (b.mem.take k)) u rfl rfl HP.out.1 HO.out.1 HO.out.2.2.2 (Nat.le_trans HO.out.2.2.2.size (by first | exact Nat.le_refl _ | (simp))) (by omega) ?_; intro A3 c3' w5 ho3 hb3 hg3 hq3; have R5 := Lib.hid (And.intro ho3 (And.intro hb3 (And.intro hg3 hq3))); clear ho3 hb3 hg3 hq3))
          clear d0 d1 d2 d3 d4 d5 d6 hck hown
          have HO6 : Hid (w5.ownsRow w2.heap.size 3 1 (.slice A3 (p + 1) c3') (p + 1) (nums .i64 (othL b.own (b.mem.take k) ++ [u])) ∧ w5.ownsRow w2.heap.size 3 1 (.slice A2 q c2') q (nums .i64 (lateL b M (b.mem.take k))) ∧ ApartV (.slice A3 (p + 1) c3') (.slice A2 q c2') ∧ Below w2.heap.size w2 w5) := Lib.hid ⟨R5.out.1, own_other HO.out.2.1 R5.out.2.2.1 HO.out.2.2.1.symm, HO.out.2.2.1.grow HO.out.2.1 R5.out.2.2.2, R5.out.2.1⟩
          have hCr : BeatC w5 r { b with now := M, sent := M } (some ad) c mb := by have := C2.out; unfold BeatC at this ⊢; exact heap_keep HO6.out.2.2.2 this
          obtain ⟨d0, d1, d2, d3, d4, d5, d6⟩ := beat_cells hCr
          have hwf : (Lit.int .i64 u).wf = true := wf64 (by omega) (by omega)
          have lk0 : ∀ m', (Instr.lookup 40 (.map (some mb)) (.int .i64 u) false).run Try.prog (w5.drewN m') = .ok (.int .i64 (b.f u)) (w5.drewN m') := fun m' => (S2.out.below (below_drewN HO6.out.2.2.2 m')).la.look u hwf
          have hf0 := HF.out u
          obtain ⟨fu, hfu⟩ : ∃ fu, fu = b.f u := ⟨_, rfl⟩
          rw [← hfu] at lk0 hf0
          have HFU := Lib.hid hfu
          clear hCr hfu hwf
          by_cases hl : b.span ≤ M - fu
          · have HLT := Lib.hid (show lateL b M (b.mem.take (k + 1)) = lateL b M (b.mem.take k) ++ [u] by unfold lateL; rw [take_filter hlt, ← HU.out]; simp [HW.out, ← HFU.out, hl])
            have HTO := Lib.hid (show othL b.own (b.mem.take (k + 1)) = othL b.own (b.mem.take k) ++ [u] by unfold othL; rw [take_filter hlt, ← HU.out]; simp [HW.out])
            have W0 : IntKind.i64.wrap (M - fu) = M - fu := IntWalk.i64_in _ (by omega)
            go_quiet (fail)
            clear W0 lk0
            go_wp2_with ((at_builtin; refine app_num2 (w0 := w2) w2.heap.size rfl (.tmp 70) (.tmp 72) 28 3 .i64 8 rfl Try.underlying28 (by kernel_rfl) (by decide) (.slice A2 q c2') q (lateL b M (b.mem.take k)) u rfl rfl HP.out.2 (pw_own_below HO6.out.2.1 (below_drewN (Below.refl _ _) _)) (below_drewN HO6.out.2.2.2 _) (Nat.le_trans HO6.out.2.2.2.size (Nat.le_refl _)) (by omega) ?_; intro A4 c4' w7 ho4 hb4 hg4 hq4; have R7 := Lib.hid (And.intro ho4 (And.intro hb4 (And.intro hg4 hq4))); clear ho4 hb4 hg4 hq4))
            clear d0 d1 d2 d3 d4 d5 d6
            go_roundw
            case rel =>
              refine ⟨k + 1, (p + 1), q + 1, A3, c3', A4, c4', by omega, by go_num, rfl, rfl, ⟨?_⟩⟩
              rw [HLT.out, HTO.out]
              exact ⟨⟨by simp [HP.out.1], by simp [HP.out.2]⟩, own_other (pw_own_below HO6.out.1 (below_drewN (Below.refl _ _) _)) R7.out.2.2.1 HO6.out.2.2.1, R7.out.1, (HO6.out.2.2.1.symm.grow (pw_own_below HO6.out.1 (below_drewN (Below.refl _ _) _)) R7.out.2.2.2).symm, R7.out.2.1⟩
            case measure => simp [intOf]; omega
          · have HLT := Lib.hid (show lateL b M (b.mem.take (k + 1)) = lateL b M (b.mem.take k) by unfold lateL; rw [take_filter hlt, ← HU.out]; simp [HW.out, ← HFU.out, hl])
            have HTO := Lib.hid (show othL b.own (b.mem.take (k + 1)) = othL b.own (b.mem.take k) ++ [u] by unfold othL; rw [take_filter hlt, ← HU.out]; simp [HW.out])
            have W0 : IntKind.i64.wrap (M - fu) = M - fu := IntWalk.i64_in _ (by omega)
            go_quiet (fail)
            clear W0 lk0
            go_wp2_with fail
            clear d0 d1 d2 d3 d4 d5 d6
            go_roundw
            case rel =>
              refine ⟨k + 1, (p + 1), q, A3, c3', A2, c2', by omega, by go_num, rfl, rfl, ⟨?_⟩⟩
              rw [HLT.out, HTO.out]
              exact ⟨⟨by simp [HP.out.1], HP.out.2⟩, pw_own_below HO6.out.1 (below_drewN (Below.refl _ _) _), pw_own_below HO6.out.2.1 (below_drewN (Below.refl _ _) _), HO6.out.2.2.1, below_drewN HO6.out.2.2.2 _⟩
            case measure => simp [intOf]; omega
      · obtain rfl : k = b.mem.length := by omega
        have HP := Lib.hid HK.out.1
        have HO := Lib.hid HK.out.2
        go_wp2_with fail
        go_ret2
        have e1 := own_info HO.out.1
        have e2 := own_info HO.out.2.1
        rw [List.take_length] at e1 e2
        exact ⟨A1, p, c1', A2, q, c2', rfl, e1.2.2.2.1, e1.2.2.1, e2.2.2.2.1, e2.2.2.1, S2.out.below HO.out.2.2.2, fun W hW => below_then (B2.out W hW) S2.out.bw HO.out.2.2.2⟩
set_option maxRecDepth 100000 in
set_option maxHeartbeats 4000000 in
theorem tick_none (w : World) (base r mb n : Nat) (b : BeatA) (t : Int) (h : BeatS w base r mb n b) (ok : BeatOk b) (ht : t ≤ 1000000) (hs1 : 0 ≤ b.sent) (hs2 : max b.now t - b.sent < b.every) :
    Calls Try.prog 8 #[.pointer (some ⟨r, 0, none⟩), .int .i64 t] w fun e w' => ∃ A1 p c1 A2 q c2, e = .returned (.tuple #[.slice A1 p c1, .slice A2 q c2]) ∧ ReadsInt w' .i64 A1 p ([] : List Int) ∧ p ≤ c1 ∧ ReadsInt w' .i64 A2 q (lateL b (max b.now t) b.mem) ∧ q ≤ c2 ∧ BeatS w' base r mb n { b with now := max b.now t } ∧ ∀ W, Below base W w → Below base W w' := by
  have HT := Lib.hid (time_walk w base r mb n b t h)
  have hln := h.ln
  obtain ⟨M, hM⟩ : ∃ M, M = max b.now t := ⟨_, rfl⟩
  rw [← hM] at HT hs2 ⊢
  have hM0 : 0 ≤ M := by have := ok.n0; omega
  have hM1 : M ≤ 1000000 := by have := ok.n1; omega
  have hM2 : b.now ≤ M := by omega
  have hS0 := ok.s0
  have hS1 := ok.s1
  have HF := Lib.hid ok.fb
  have HMB := Lib.hid ok.mb
  clear hM h ok ht
  · have W0 : IntKind.i64.wrap (M - b.sent) = M - b.sent := IntWalk.i64_in _ (by omega)
    have hs3 : ¬ b.every ≤ M - b.sent := by omega
    go_enter Try.func8, Try.ntmps8
    go_wp2_with fail
    refine HT.out.mono ?_
    rintro e w1 ⟨rfl, hS1', hB1⟩
    have S1 := Lib.hid hS1'; have B1 := Lib.hid hB1
    obtain ⟨A, c, k1, k2⟩ := hS1'.cl
    obtain ⟨c0, c1, c2, c3, c4, c5, c6⟩ := beat_cells k1
    have hz := froz (show w1.heap[r]? = some (.cells _ _ (0, 0)) from k1) 6
    have K1 := Lib.hid k1; have K2 := Lib.hid k2
    clear hS1' hB1 k1 k2
    go_wp2_with fail
    go_quiet (fail)
    go_wp2_with fail
    have S2 := Lib.hid (S1.out.below (below_drewN (Below.refl _ _) nq)); have B2 := Lib.hid (fun W hW => below_drewN (B1.out W hW) nq)
    have r2 := pw_own_below K2.out (below_drewN (Below.refl _ _) nq)
    have k2 : BeatC (w1.drewN nq) r { b with now := M } A c mb := K1.out
    generalize hw2 : (w1.drewN nq) = w2
    rw [hw2] at S2 B2 r2 k2
    clear hw2
    clear c0 c1 c2 c3 c4 c5 c6 hz
    have RD2 := Lib.hid (own_info r2).2.2.2.1; have C2 := Lib.hid k2
    clear r2 k2
    clear W0
    go_loopw [7, 8, 42] (fun tv lv i wr => ∃ (k p q : Nat) (A1 : Option Addr) (c1' : Nat) (A2 : Option Addr) (c2' : Nat), k ≤ b.mem.length ∧ i = .int .i64 k ∧ tv = .slice A1 p c1' ∧ lv = .slice A2 q c2' ∧ Aside0 (((([] : List Int)).length = p ∧ (lateL b M (b.mem.take k)).length = q) ∧ wr.ownsRow w2.heap.size 3 1 (.slice A1 p c1') p (nums .i64 (([] : List Int))) ∧ wr.ownsRow w2.heap.size 3 1 (.slice A2 q c2') q (nums .i64 (lateL b M (b.mem.take k))) ∧ ApartV (.slice A1 p c1') (.slice A2 q c2') ∧ Below w2.heap.size w2 wr)) (fun _ _ i _ => b.mem.length - (intOf i).toNat)
    case atStart => exact ⟨0, 0, 0, none, 0, none, 0, Nat.zero_le _, rfl, rfl, rfl, ⟨⟨by first | rfl | simp [othL], by simp [lateL]⟩, ⟨by simp [othL, nums], .inl ⟨rfl, rfl⟩⟩, ⟨by simp [lateL, nums], .inl ⟨rfl, rfl⟩⟩, .inl rfl, Below.refl _ _⟩⟩
    case round =>
      obtain ⟨k, p, q, A1, c1', A2, c2', hk, rfl, rfl, rfl, HK⟩ := hrel
      by_cases hlt : k < b.mem.length
      · have HP := Lib.hid HK.out.1
        have HO := Lib.hid HK.out.2
        obtain ⟨ad, rfl, hck⟩ := reads_at (RD2.out.below HO.out.2.2.2) k hlt
        have hmem : b.mem.getD k 0 ∈ b.mem := by simp [List.getD_eq_getElem?_getD, hlt]
        have hu0 := HMB.out _ hmem
        have hpk : p ≤ k := by rw [← HP.out.1]; exact Nat.zero_le _
        have hqk : q ≤ k := by rw [← HP.out.2]; exact Nat.le_trans (List.length_filter_le _ _) (List.length_take_le _ _)
        obtain ⟨u, hu⟩ : ∃ u, u = b.mem.getD k 0 := ⟨_, rfl⟩
        rw [← hu] at hck hu0
        have HU := Lib.hid hu
        clear hu hmem
        obtain ⟨d0, d1, d2, d3, d4, d5, d6⟩ := beat_cells (show BeatC wr r { b with now := M } (some ad) c mb from by have := C2.out; unfold BeatC at this ⊢; exact heap_keep HO.out.2.2.2 this)
        by_cases hown : u = b.own
        · have HW := Lib.hid hown
          go_wp2_with fail
          clear d0 d1 d2 d3 d4 d5 d6 hck hown
          go_roundw
          case rel => exact ⟨k + 1, p, q, A1, c1', A2, c2', by omega, by go_num, rfl, rfl, ⟨by rw [show lateL b M (b.mem.take (k + 1)) = lateL b M (b.mem.take k) by unfold lateL; rw [take_filter hlt, ← HU.out, HW.out]; simp]; exact ⟨HP.out, HO.out⟩⟩⟩
          case measure => simp [intOf]; omega
        · have HW := Lib.hid hown
          go_wp2_with (fail)
          clear d0 d1 d2 d3 d4 d5 d6 hck hown
          have HO6 := HO
          have hCr : BeatC wr r { b with now := M } (some ad) c mb := by have := C2.out; unfold BeatC at this ⊢; exact heap_keep HO6.out.2.2.2 this
          obtain ⟨d0, d1, d2, d3, d4, d5, d6⟩ := beat_cells hCr
          have hwf : (Lit.int .i64 u).wf = true := wf64 (by omega) (by omega)
          have lk0 : ∀ m', (Instr.lookup 40 (.map (some mb)) (.int .i64 u) false).run Try.prog (wr.drewN m') = .ok (.int .i64 (b.f u)) (wr.drewN m') := fun m' => (S2.out.below (below_drewN HO6.out.2.2.2 m')).la.look u hwf
          have hf0 := HF.out u
          obtain ⟨fu, hfu⟩ : ∃ fu, fu = b.f u := ⟨_, rfl⟩
          rw [← hfu] at lk0 hf0
          have HFU := Lib.hid hfu
          clear hCr hfu hwf
          by_cases hl : b.span ≤ M - fu
          · have HLT := Lib.hid (show lateL b M (b.mem.take (k + 1)) = lateL b M (b.mem.take k) ++ [u] by unfold lateL; rw [take_filter hlt, ← HU.out]; simp [HW.out, ← HFU.out, hl])
            skip
            have W0 : IntKind.i64.wrap (M - fu) = M - fu := IntWalk.i64_in _ (by omega)
            go_quiet (fail)
            clear W0 lk0
            go_wp2_with ((at_builtin; refine app_num2 (w0 := w2) w2.heap.size rfl (.tmp 70) (.tmp 72) 28 3 .i64 8 rfl Try.underlying28 (by kernel_rfl) (by decide) (.slice A2 q c2') q (lateL b M (b.mem.take k)) u rfl rfl HP.out.2 (pw_own_below HO6.out.2.1 (below_drewN (Below.refl _ _) _)) (below_drewN HO6.out.2.2.2 _) (Nat.le_trans HO6.out.2.2.2.size (Nat.le_refl _)) (by omega) ?_; intro A4 c4' w7 ho4 hb4 hg4 hq4; have R7 := Lib.hid (And.intro ho4 (And.intro hb4 (And.intro hg4 hq4))); clear ho4 hb4 hg4 hq4))
            clear d0 d1 d2 d3 d4 d5 d6
            go_roundw
            case rel =>
              refine ⟨k + 1, p, q + 1, A1, c1', A4, c4', by omega, by go_num, rfl, rfl, ⟨?_⟩⟩
              rw [HLT.out]
              exact ⟨⟨by simp [HP.out.1], by simp [HP.out.2]⟩, own_other (pw_own_below HO6.out.1 (below_drewN (Below.refl _ _) _)) R7.out.2.2.1 HO6.out.2.2.1, R7.out.1, (HO6.out.2.2.1.symm.grow (pw_own_below HO6.out.1 (below_drewN (Below.refl _ _) _)) R7.out.2.2.2).symm, R7.out.2.1⟩
            case measure => simp [intOf]; omega
          · have HLT := Lib.hid (show lateL b M (b.mem.take (k + 1)) = lateL b M (b.mem.take k) by unfold lateL; rw [take_filter hlt, ← HU.out]; simp [HW.out, ← HFU.out, hl])
            skip
            have W0 : IntKind.i64.wrap (M - fu) = M - fu := IntWalk.i64_in _ (by omega)
            go_quiet (fail)
            clear W0 lk0
            go_wp2_with fail
            clear d0 d1 d2 d3 d4 d5 d6
            go_roundw
            case rel =>
              refine ⟨k + 1, p, q, A1, c1', A2, c2', by omega, by go_num, rfl, rfl, ⟨?_⟩⟩
              rw [HLT.out]
              exact ⟨⟨by simp [HP.out.1], HP.out.2⟩, pw_own_below HO6.out.1 (below_drewN (Below.refl _ _) _), pw_own_below HO6.out.2.1 (below_drewN (Below.refl _ _) _), HO6.out.2.2.1, below_drewN HO6.out.2.2.2 _⟩
            case measure => simp [intOf]; omega
      · obtain rfl : k = b.mem.length := by omega
        have HP := Lib.hid HK.out.1
        have HO := Lib.hid HK.out.2
        go_wp2_with fail
        go_ret2
        have e1 := own_info HO.out.1
        have e2 := own_info HO.out.2.1
        rw [List.take_length] at e2
        exact ⟨A1, p, c1', A2, q, c2', rfl, e1.2.2.2.1, e1.2.2.1, e2.2.2.2.1, e2.2.2.1, S2.out.below HO.out.2.2.2, fun W hW => below_then (B2.out W hW) S2.out.bw HO.out.2.2.2⟩
end Go.Proofs.Ythebddhldembhaa
