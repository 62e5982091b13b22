/- Links of any messages: the walk of ready. -/
import Derived.Test.YtbkpgkkfkjlnnaaLgJ
set_option linter.unusedVariables false
set_option linter.unusedSimpArgs false
namespace Go.Proofs.Ytbkpgkkfkjlnnaa.G
open Go.RowKit Go.Proofs.YtbkpgkkfkjlnnaaW.PrintWords Go.Proofs.YtbkpgkkfkjlnnaaW.PrintLast Go.Proofs.Ytbkpgkkfkjlnnaa.K Go.Proofs.Ytbkpgkkfkjlnnaa.Row Go.Proofs.Ytbkpgkkfkjlnnaa

/-- What ready has done so far. -/
structure RdS (w wr : World) (S : Nat → Prop) (r : Nat) (x : LSt) (R : List Hd × Int × List Hd) (gk : Nat) (A : Option Addr) (c m : Nat) (nx : Int) (held out : List Hd) : Prop where
  o : wr.ownsRow w.heap.size 32 7 (.slice A m c) m (hdC out)
  om : out.length = m
  ob : ∀ h ∈ out, HdIn wr S h
  l : LkG wr S r ⟨x.own, x.peer, x.view, x.now, x.pushed, x.told, nx, x.out, held⟩
  c : Chg S w wr
  hl : held.length ≤ gk
  e : rdy gk nx held out = R
  n1 : 1 ≤ nx
  n2 : nx + held.length ≤ x.next + x.held.length
  s : ∀ b, S b → b < w.heap.size
  n3 : m + held.length ≤ x.held.length
theorem chg_up {B : Nat} {w w' : World} (h : Below B w w') : Chg (fun b => B ≤ b) w w' := ⟨h.os, h.tape, h.output, h.size, fun k _ hn => h.block k (by simpa using hn)⟩
section
variable {w wr w2 w3 w4 : World} {S : Nat → Prop} {r : Nat} {x : LSt} {R : List Hd × Int × List Hd} {gk : Nat} {A : Option Addr} {c m : Nat} {nx : Int} {held out : List Hd}
theorem RdS.below (h : RdS w wr S r x R gk A c m nx held out) (hb : Below wr.heap.size wr w2) : RdS w w2 S r x R gk A c m nx held out :=
  ⟨pw_own_below h.o hb, h.om, fun p hp => (h.ob p hp).chg (T := fun _ => False) (Chg.ofBelow hb) (fun _ _ h => h), h.l.below hb, h.c.trans (Chg.ofBelow (S := fun _ => False) hb) (fun _ _ h => h.elim), h.hl, h.e, h.n1, h.n2, h.s, h.n3⟩
/-- The end of a round. -/
theorem RdS.step {A2 : Option Addr} {c2 k g : Nat} {y : Hd} {B : Option Addr} {d : Nat} {w6 : World} (h : RdS w w2 S r x R (gk + 1) A c m nx held out) (hy : held[k]? = some y) (hk : k = held.findIdx (fun h => h.s == nx))
    (hB : B = some ⟨g, 0, none⟩) (hrow : w2.ownsRow 0 32 7 (.slice B held.length d) held.length (hdC held) ∧ ∀ b, (Value.slice B held.length d).ownBlock = some b → S b)
    (h3 : Below w.heap.size w2 w3) (ho3 : w3.ownsRow w.heap.size 32 7 (.slice A2 (m + 1) c2) (m + 1) (hdC out ++ y.cells))
    (hg4 : w3.grownBy w4 (some g)) (ho4 : w4.ownsRow 0 32 7 (.slice B (held.eraseIdx k).length d) (held.eraseIdx k).length (hdC (held.eraseIdx k)))
    (hw6 : w6 = (w4.setCell ⟨r, 8, none⟩ (.slice B (held.eraseIdx k).length d)).setCell ⟨r, 7, none⟩ (.int .u32 (nx + 1))) :
    RdS w w6 S r x R gk A2 c2 (m + 1) (nx + 1) (held.eraseIdx k) (out ++ [y]) := by
  have hkl := (List.getElem?_eq_some_iff.1 hy).1
  have hSg : S g := hrow.2 g (by rw [hB]; rfl)
  have c23 : Chg (fun b => w.heap.size ≤ b) w2 w3 := chg_up h3
  have l3 := h.l.chg c23 (fun b hb hn => by have := h.s b hb; omega)
  have c34 : Chg (fun b => b = g) w3 w4 := Chg.ofGrown hg4 (fun k e => by injection e with e; exact e.symm)
  obtain ⟨csg, hcsg⟩ : ∃ cs, w3.heap[g]? = some (.cells cs 32 (0, 0)) := by
    obtain ⟨cs, hcs⟩ := own_typed hrow.1 g (by rw [hB]; rfl)
    exact ⟨cs, c23.keep hcs (by have := h.s g hSg; omega)⟩
  have l4 := l3.newHeld (S' := S) c34 (fun b hb => by rw [hb]; exact ⟨csg, hcsg⟩) (fun _ h => h) (fun b hb => Nat.lt_of_lt_of_le (l3.inn b hb) c34.size) ⟨ho4, fun b hb => by
    rw [hB] at hb; simp [Value.ownBlock] at hb; rw [← hb]; exact hSg⟩ (fun p hp => .inl (List.mem_of_mem_eraseIdx hp))
  obtain ⟨Ax, cx, Bx, dx, g1, g2, g3⟩ := l4.cl
  have gs7 := grown_set (w := w4.setCell ⟨r, 8, none⟩ (.slice B (held.eraseIdx k).length d)) (r := r) (j := 7) (.int .u32 (nx + 1))
  have l6 := l4.num (x' := ⟨x.own, x.peer, x.view, x.now, x.pushed, x.told, nx + 1, x.out, held.eraseIdx k⟩) gs7 (by simp [World.setCell]) rfl rfl (fun O H hh => by rw [heap_set _ hh]; rfl)
  have c46 : Chg (fun b => b = r) w4 w6 := by
    rw [hw6]
    exact Chg.ofGrown (World.grownBy.trans (grown_set _) (grown_set _)) (fun k e => by injection e with e; exact e.symm)
  rw [← hw6] at l6
  have hSr := h.l.hr
  have hrlt := h.s r hSr
  have hglt := h.s g hSg
  refine ⟨?_, by simp [h.om], fun p hp => ?_, l6, ?_, ?_, ?_, by have := h.n1; omega, ?_, h.s, by have := h.n3; rw [List.length_eraseIdx_of_lt hkl]; omega⟩
  · have o4 := c34.own ho3 (fun b hb e => by have := own_base ho3 b hb; omega)
    have o6 := c46.own o4 (fun b hb e => by have := own_base ho3 b hb; omega)
    have e : hdC (out ++ [y]) = hdC out ++ y.cells := by simp [hdC]
    rw [e]; exact o6
  · have : HdIn w2 S p := by
      rcases List.mem_append.1 hp with hp | hp
      · exact h.ob p hp
      · obtain rfl := List.mem_singleton.1 hp; exact h.l.bh p (List.mem_of_getElem? hy)
    have p3 := this.chg c23 (fun b hb hn => by have := h.s b hb; omega)
    have p4 := p3.chgTy c34 (fun b cs ty hh ht e => by
      subst e
      rw [hcsg] at hh; injection hh with hh; injection hh with _ hh; subst hh
      rcases ht with ht | ht <;> exact absurd ht (by decide))
    obtain ⟨Az, cz, Bz, dz, z1, _, _⟩ := l3.cl
    have hr4 : w4.heap[r]? = _ := c34.keep z1 (fun e => by
      rw [e, hcsg] at z1; injection z1 with z1; injection z1 with _ z1; exact absurd z1 (by decide))
    exact p4.chgTy c46 (fun b cs ty hh ht e => by
      subst e
      rw [hr4] at hh; injection hh with hh; injection hh with _ hh; subst hh
      rcases ht with ht | ht <;> exact absurd ht (by decide))
  · exact ((h.c.trans c23 (fun k hk hn => absurd hn (by omega))).trans c34 (fun k _ e => by rw [e]; exact hSg)).trans c46 (fun k _ e => by rw [e]; exact hSr)
  · have := h.hl
    rw [List.length_eraseIdx_of_lt hkl]; omega
  · have he := h.e
    simp only [rdy] at he
    rw [← hk, hy] at he
    exact he
  · have := h.n2
    rw [List.length_eraseIdx_of_lt hkl]; omega
end
set_option maxRecDepth 100000 in
set_option maxHeartbeats 8000000 in
theorem ready_walk (w : World) (S : Nat → Prop) (r : Nat) (x : LSt) (h : LkG w S r x) (hn : 1 ≤ x.next) (hb : x.next + x.held.length < 4294967296) (hl : x.held.length ≤ 1000) :
    Calls Try.prog 31 #[.pointer (some ⟨r, 0, none⟩)] w fun e w' => ∃ A c, e = .returned (.slice A (rdy x.held.length x.next x.held []).1.length c) ∧ Rws w' (fun b => S b ∨ w.heap.size ≤ b) A c (rdy x.held.length x.next x.held []).1 ∧ LkG w' S r ⟨x.own, x.peer, x.view, x.now, x.pushed, x.told, (rdy x.held.length x.next x.held []).2.1, x.out, (rdy x.held.length x.next x.held []).2.2⟩ ∧ Stp w w' S S := by
  obtain ⟨R, hR⟩ : ∃ R, R = rdy x.held.length x.next x.held [] := ⟨_, rfl⟩
  rw [← hR]
  have H := Lib.hid h; have HRR := Lib.hid hR; have HBD := Lib.hid (And.intro hb hl)
  clear h hR hb hl
  go_enter Try.func31, Try.ntmps31
  go_wp2_with fail
  go_loopg [3] x.held.length (fun gk s3 wr => ∃ A c m nx held out, s3 = .slice A m c ∧ Aside0 (RdS w wr S r x R gk A c m nx held out))
  case atStart => exact ⟨none, 0, 0, x.next, x.held, [], rfl, ⟨⟨by rfl, .inl ⟨rfl, rfl⟩⟩, rfl, (fun p hp => by cases hp), H.out, Chg.refl _ _, Nat.le_refl _, HRR.out.symm, hn, Int.le_refl _, H.out.inn, by omega⟩⟩
  case round =>
    obtain ⟨A, c, m, nx, held, out, rfl, HK⟩ := hrel
    have hK := HK.out
    have hlen : held.length ≤ 1000 := by have := hK.n3; have := HBD.out.2; omega
    have HF := Lib.hid (find_walk wr S r _ nx hK.l (by show held.length ≤ 100000; omega))
    obtain ⟨A1, c1, B, d, h1, h2, h3⟩ := hK.l.cl
    obtain ⟨c0, c1', c2, c3, c4, c5, c6, c7, c8⟩ := lkC_cells h1
    dsimp only at c7 c8 h3
    have HK1 := Lib.hid hK; have H3 := Lib.hid h3; have H1 := Lib.hid h1
    clear h1 h2 h3 hK HK c0 c1' c2 c3 c4 c5 c6
    rcases fIx_cases held nx with ⟨hi, hno⟩ | ⟨y, hi, hy, hlt, hs⟩
    · have HI := Lib.hid hi; have HNO := Lib.hid hno
      clear hi hno
      go_wp2_with fail
      refine HF.out.mono ?_
      rintro e w2 ⟨rfl, hb2⟩
      rw [HI.out]
      have H2 := Lib.hid (HK1.out.below hb2)
      clear hb2 c7 c8
      go_wp2_with fail
      go_ret
      have he := H2.out.e
      rw [rdy_none HNO.out] at he
      have hom := H2.out.om
      rw [← he]
      subst hom
      exact ⟨A, c, rfl, ⟨⟨own_base_le H2.out.o (Nat.zero_le _), fun b hb => .inr (own_base H2.out.o b hb)⟩, fun p hp => (H2.out.ob p hp).mono (fun _ h => .inl h)⟩, H2.out.l, ⟨H2.out.c, fun b hb => .inl hb⟩⟩
    · obtain ⟨k, hk⟩ : ∃ k, k = held.findIdx (fun h => h.s == nx) := ⟨_, rfl⟩
      rw [← hk] at hi hy hlt
      obtain ⟨hn, hhn⟩ : ∃ hn, hn + 1 = held.length := ⟨held.length - 1, by omega⟩
      rw [← hhn] at c8
      obtain ⟨g, hB⟩ : ∃ g, B = some ⟨g, 0, none⟩ := by
        obtain ⟨ga, e, _⟩ := row7 H3.out.1 hy
        exact ⟨ga, e⟩
      subst hB
      have hnx : nx < 4294967295 := by have := HK1.out.n2; have := HBD.out.1; omega
      have hnx1 : 1 ≤ nx := HK1.out.n1
      have hkn : k < hn + 1 := by omega
      have hmm : m ≤ 1000 := by have := HK1.out.n3; have := HBD.out.2; omega
      have hnb : hn ≤ 1000 := by omega
      have HI := Lib.hid hi; have HY := Lib.hid hy; have HKK := Lib.hid hk; have HHN := Lib.hid hhn; have HLT := Lib.hid hlt
      clear hi hy hk hhn hlt hs hlen
      go_wp2_with fail
      refine HF.out.mono ?_
      rintro e w2 ⟨rfl, hb2⟩
      rw [HI.out]
      have H2 := Lib.hid (HK1.out.below hb2)
      have O2 := Lib.hid (pw_own_below H3.out.1 hb2)
      have d8 := pw_cell_below hb2 c8; have d7 := pw_cell_below hb2 c7
      have H12 := Lib.hid (heap_keep hb2 H1.out)
      obtain ⟨ga, e1, y0, y1, y2, y3, y4, y5, y6⟩ := row7 O2.out HY.out
      injection e1 with e1
      injection e1 with e1
      subst e1
      have hwb : w.heap.size ≤ w2.heap.size := H2.out.c.size
      have HW2 := Lib.hid hwb
      clear hb2 c7 c8
      simp only [Hd.nv, Hd.wv] at y5 y6
      have hinfo : (Try.prog.info? 32).map (fun i => (i.zero, i.size, i.bytes)) = some (some (.agg #[.int .i64 0, .int .i64 0, .int .i64 0, .int .u32 0, .int .u32 0, .slice none 0 0, .slice none 0 0]), 7, 80) := by kernel_rfl
      have HINF := Lib.hid hinfo; clear hinfo
      go_wp2_with (first | (at_builtin; refine app_cells7 (w0 := w2) w.heap.size rfl (.tmp 14) (.tmp 22) 33 32 rfl Try.underlying33 HINF.out _ (hdC out) [.int .i64 y.k, .int .i64 y.f, .int .i64 y.t, .int .u32 y.v, .int .u32 y.s, .slice y.A y.xs.length y.c, .slice y.B y.ys.length y.d] m rfl (by simp [Value.oneCell']) rfl rfl H2.out.o (Below.refl _ _) HW2.out (by omega) ?_; intro A2 c2 w3 hown hB3 hg3; have HO3 := Lib.hid hown; have HB3 := Lib.hid hB3; clear hown hB3 hg3; have e8 := (chg_up HB3.out).cell d8 (fun e => absurd e (Nat.not_le.2 (H2.out.s r H2.out.l.hr))); have e7 := (chg_up HB3.out).cell d7 (fun e => absurd e (Nat.not_le.2 (H2.out.s r H2.out.l.hr))); clear d8 d7 y0 y1 y2 y3 y4 y5 y6))
      have DL := Lib.hid (fun (cs : List Value) (ho : w3.ownsRow 0 32 7 (.slice (some ⟨g, 0, none⟩) (hn + 1) d) (hn + 1) cs) (h1 : ∀ u ∈ cs, u.oneCell' = true) => del_walk w3 0 g hn d k cs ho h1 hkn)
      have hS3 : ∀ b, S b → ¬ (w.heap.size ≤ b) := fun b hb => Nat.not_le.2 (H2.out.s b hb)
      have ho3 : w3.ownsRow 0 32 7 (.slice (some ⟨g, 0, none⟩) (hn + 1) d) (hn + 1) (hdC held) := (chg_up HB3.out).own (by rw [HHN.out]; exact O2.out) (fun b hb => hS3 b (H3.out.2 b hb))
      have h13 := (chg_up HB3.out).keep H12.out (hS3 r H2.out.l.hr)
      have hrg : r ≠ g := by
        obtain ⟨cs, hcs⟩ := own_typed ho3 g rfl
        exact ty_ne h13 hcs (by decide)
      refine (DL.out _ ho3 (hdC_one held)).mono ?_
      rintro e w4 ⟨rfl, ho4, hg4⟩
      have h14 := (hg4.block r (lt_of_heap h13) (fun e => hrg (by injection e))).trans h13
      obtain ⟨_, _, _, _, _, _, _, f7, f8⟩ := lkC_cells h14
      have z7 := froz h14 7; have z8 := froz h14 8
      have HF4 := Lib.hid (And.intro ho4 hg4)
      have ew : IntKind.u32.wrap (nx + 1) = nx + 1 := by rw [IntKind.wrap_u32]; omega
      clear ho3 h13 hrg ho4 hg4 h14 e7 e8 hS3
      go_wp2_with fail
      obtain ⟨gk', rfl⟩ : ∃ g', gk = g' + 1 := ⟨gk - 1, by have := H2.out.hl; have := HHN.out; omega⟩
      go_roundg gk'
      case measure => omega
      case rel =>
        have hel : (held.eraseIdx k).length = hn := by rw [List.length_eraseIdx_of_lt HLT.out]; have := HHN.out; omega
        have hEr : hdC (held.eraseIdx k) = (hdC held).take (k * 7) ++ (hdC held).drop ((k + 1) * 7) := flat_erase Hd.cells 7 hd_len held k
        refine ⟨A2, c2, m + 1, nx + 1, held.eraseIdx k, out ++ [y], rfl, ⟨H2.out.step (w4 := w4) HY.out HKK.out rfl (by rw [← HHN.out]; exact ⟨by rw [HHN.out]; exact O2.out, H3.out.2⟩) HB3.out HO3.out HF4.out.2 (by rw [hel, hEr]; exact HF4.out.1) (by rw [hel])⟩⟩
end Go.Proofs.Ytbkpgkkfkjlnnaa.G
