/- Walks of package beat: its state; good, time, other. -/
import Derived.Test.YthebddhldembhaaSlInt
import Derived.Maps.Own
import Derived.Maps.Keyed
import Derived.Maps.Views
import Derived.Carry
set_option linter.unusedVariables false
set_option linter.unusedSimpArgs false
namespace Go.Proofs.Ythebddhldembhaa
open Go.RowKit Go.Proofs.YthebddhldembhaaW.PrintWords Go.Proofs.Ythebddhldembhaa.K

/-- May numbers be members? -/
def goodFrom : Int → List Int → Bool
  | _, [] => true
  | last, m :: l => decide (last < m ∧ m < 16) && goodFrom m l
def goodM (l : List Int) : Bool := goodFrom (-1) l && decide (l ≠ [])
theorem good_step {last : Int} {l : List Int} {k : Nat} (hk : k < l.length) : goodFrom last (l.drop k) = (decide (last < l.getD k 0 ∧ l.getD k 0 < 16) && goodFrom (l.getD k 0) (l.drop (k + 1))) := by
  rw [List.drop_eq_getElem_cons hk]
  simp [goodFrom, List.getD_eq_getElem?_getD, hk]
theorem good_walk (A : Option Addr) (n c : Nat) (l : List Int) (w : World) (h : ReadsInt w .i64 A n l) :
    Calls Try.prog 12 #[.slice A n c] w fun e w' => e = .returned (.bool (goodM l)) ∧ w = w' := by
  have HL := Lib.hid h
  have hn := h.2.1
  clear h
  go_enter Try.func12, Try.ntmps12
  go_wp2
  go_loop [3, 8] (fun la i => ∃ (k : Nat) (z : Int), k ≤ n ∧ i = .int .i64 k ∧ la = .int .i64 z ∧ Aside0 (goodFrom (-1) l = goodFrom z (l.drop k))) (fun _ i => n - (intOf i).toNat)
  case atStart => exact ⟨0, -1, Nat.zero_le _, rfl, rfl, ⟨rfl⟩⟩
  case round =>
    obtain ⟨k, z, hk, rfl, rfl, HK⟩ := hrel
    by_cases hlt : k < n
    · obtain ⟨ad, rfl, hck⟩ := reads_at HL.out k hlt
      obtain ⟨u, hu⟩ : ∃ u, u = l.getD k 0 := ⟨_, rfl⟩
      have HG := Lib.hid (good_step (last := z) (l := l) (k := k) (by rw [HL.out.1]; exact hlt))
      rw [← hu] at hck
      have HU := Lib.hid hu
      clear hu
      by_cases h1 : u ≤ z
      · go_wp2
        go_ret
        refine ⟨?_, rfl⟩
        have : goodM l = false := by
          unfold goodM; rw [HK.out, HG.out, ← HU.out, decide_eq_false (by omega)]; rfl
        rw [this]; rfl
      · by_cases h2 : 16 ≤ u
        · go_wp2
          go_ret
          refine ⟨?_, rfl⟩
          have : goodM l = false := by
            unfold goodM; rw [HK.out, HG.out, ← HU.out, decide_eq_false (by omega)]; rfl
          rw [this]; rfl
        · have HE := Lib.hid (show z < u ∧ u < 16 by omega)
          go_wp2
          go_round
          case rel => exact ⟨k + 1, u, by omega, by go_num, rfl, ⟨by rw [HK.out, HG.out, ← HU.out, decide_eq_true HE.out]; rfl⟩⟩
          case measure => simp [intOf]; omega
    · obtain rfl : k = n := by omega
      have HE := Lib.hid (show goodM l = decide (0 < k) by
        unfold goodM; rw [HK.out, List.drop_of_length_le (by rw [HL.out.1]; exact Nat.le_refl _)]
        simp only [goodFrom, Bool.true_and]
        rw [decide_eq_decide, ← HL.out.1, List.length_pos_iff])
      by_cases h0 : 0 < k
      · go_wp2
        go_ret
        refine ⟨?_, rfl⟩
        rw [HE.out, decide_eq_true h0]; rfl
      · obtain rfl : k = 0 := by omega
        go_wp2
        go_ret
        refine ⟨?_, rfl⟩
        rw [HE.out]; rfl

theorem keyedI : Maps.Keyed Try.prog 3 := Maps.int_keyed Try.underlying3
theorem zeroI (w : World) : (zeroValue 2).run Try.prog w = .ok (.int .i64 0) w := by kernel_rfl
/-- When each was heard of: block mb is a map of at most n entries that tells f. -/
def LastM (w : World) (mb n : Nat) (f : Int → Int) : Prop :=
  ∃ D : DataW Unit, w.ownsMap Try.prog 3 (plainElem Try.prog 2) mb n D ∧ Maps.IsMap D ∧ ∀ a : Int, (Lit.int .i64 a).wf = true → D.atKey (.int .i64 a) (.lit (.int .i64 0)) = .lit (.int .i64 (f a))
theorem LastM.kept {w w' : World} {mb n : Nat} {f : Int → Int} {row : Option Nat} (h : LastM w mb n f) (hg : w.grownBy w' row) (hne : some mb ≠ row) : LastM w' mb n f := by
  obtain ⟨D, h1, h2, h3⟩ := h
  exact ⟨D, h1.kept hg hne, h2, h3⟩
theorem LastM.below {w w' : World} {mb n : Nat} {f : Int → Int} (h : LastM w mb n f) (hb : Below w.heap.size w w') : LastM w' mb n f := by
  obtain ⟨D, g1, g2, g3⟩ := h
  obtain ⟨es, clock, e1, e2⟩ := g1
  exact ⟨D, ⟨es, clock, (hb.block mb (lt_of_heap e1)).trans e1, e2⟩, g2, g3⟩
theorem LastM.lt {w : World} {mb n : Nat} {f : Int → Int} (h : LastM w mb n f) : mb < w.heap.size := by obtain ⟨D, h1, _⟩ := h; exact h1.lt
theorem last_made (w : World) : LastM (w.alloc (.map #[] 0)) w.heap.size 0 fun _ => 0 :=
  ⟨.map [], World.ownsMap_made .., ⟨[], rfl⟩, fun a _ => rfl⟩
theorem LastM.look {w : World} {mb n : Nat} {f : Int → Int} (h : LastM w mb n f) (a : Int) (ha : (Lit.int .i64 a).wf = true) :
    (Instr.lookup 40 (.map (some mb)) (.int .i64 a) false).run Try.prog w = .ok (.int .i64 (f a)) w := by
  obtain ⟨D, h1, h2, h3⟩ := h
  obtain ⟨c, hrun, hat, hw⟩ := h1.lookup_int keyedI Try.underlying40 Try.underlying2 (zeroI w) (Maps.keyOf_int_mk Try.underlying3 ha)
  have := h3 a ha
  rw [hat] at this
  injection this with this
  injection this with _ this
  rw [hrun, this]
def updI (f : Int → Int) (a v : Int) : Int → Int := fun c => if c = a then v else f c
theorem last_put {f : Int → Int} {D : DataW Unit} {a : Int} (hm : Maps.IsMap D) (h3 : ∀ a : Int, (Lit.int .i64 a).wf = true → D.atKey (.int .i64 a) (.lit (.int .i64 0)) = .lit (.int .i64 (f a))) (v : Int) :
    ∀ c : Int, (Lit.int .i64 c).wf = true → (D.put (.int .i64 a) (.lit (.int .i64 v))).atKey (.int .i64 c) (.lit (.int .i64 0)) = .lit (.int .i64 (updI f a v c)) := by
  intro c hc
  unfold updI
  by_cases h : c = a
  · subst h
    rw [if_pos rfl, Maps.atKey_put_same hm (keyedI.key (Maps.keyOf_int_mk Try.underlying3 hc))]
  · rw [if_neg h, Maps.atKey_put_other (fun e => by injection e with _ e; exact h e)]
    exact h3 c hc
/-- A beat's numbers. -/
structure BeatA where
  own : Int
  mem : List Int
  every : Int
  span : Int
  now : Int
  f : Int → Int
  sent : Int
def BeatC (w : World) (r : Nat) (b : BeatA) (A : Option Addr) (c mb : Nat) : Prop := w.heap[r]? = some (.cells #[.int .i64 b.own, .slice A b.mem.length c, .int .i64 b.every, .int .i64 b.span, .int .i64 b.now, .map (some mb), .int .i64 b.sent] 42 (0, 0))
/-- A beat in block r. -/
structure BeatS (w : World) (base r mb n : Nat) (b : BeatA) : Prop where
  cl : ∃ A c, BeatC w r b A c mb ∧ w.ownsRow base 3 1 (.slice A b.mem.length c) b.mem.length (nums .i64 b.mem)
  la : LastM w mb n b.f
  br : base ≤ r
  bm : base ≤ mb
  ne : r ≠ mb
  bw : base ≤ w.heap.size
  ln : b.mem.length ≤ 100
theorem heap_keep {w w' : World} {k : Nat} {o : Obj} (hb : Below w.heap.size w w') (h : w.heap[k]? = some o) : w'.heap[k]? = some o := (hb.block k (lt_of_heap h)).trans h
theorem BeatS.below {w w' : World} {base r mb n : Nat} {b : BeatA} (h : BeatS w base r mb n b) (hb : Below w.heap.size w w') : BeatS w' base r mb n b := by
  obtain ⟨A, c, h1, h2⟩ := h.cl
  refine ⟨⟨A, c, ?_, pw_own_below h2 hb⟩, h.la.below hb, h.br, h.bm, h.ne, Nat.le_trans h.bw hb.size, h.ln⟩
  unfold BeatC at h1 ⊢; exact heap_keep hb h1
theorem beat_cells {w : World} {r : Nat} {b : BeatA} {A : Option Addr} {c mb : Nat} (h : BeatC w r b A c mb) :
    w.cell? ⟨r, 0, none⟩ = some (.int .i64 b.own) ∧ w.cell? ⟨r, 1, none⟩ = some (.slice A b.mem.length c) ∧ w.cell? ⟨r, 2, none⟩ = some (.int .i64 b.every) ∧ w.cell? ⟨r, 3, none⟩ = some (.int .i64 b.span) ∧ w.cell? ⟨r, 4, none⟩ = some (.int .i64 b.now) ∧ w.cell? ⟨r, 5, none⟩ = some (.map (some mb)) ∧ w.cell? ⟨r, 6, none⟩ = some (.int .i64 b.sent) := by
  unfold BeatC at h; simp [World.cell?, h]
theorem froz {w : World} {r : Nat} {cs : Array Value} {ty : TypeId} (h : w.heap[r]? = some (.cells cs ty (0, 0))) (j : Nat) : w.frozen? ⟨r, j, none⟩ = false := by simp [World.frozen?, h]
theorem box_ne {u : World} {N bs sz k : Nat} {e ty : TypeId} {V : Value} {M : List Value} {cs : Array Value} (hu : u.heap[N]? = some (.cells cs ty (0, 0))) (hV : u.ownsRow bs e sz V k M) (he : e ≠ ty) : V.ownBlock = none ∨ V.ownBlock ≠ some N := by
  rcases hV.2 with ⟨h, _⟩ | ⟨g', _, _, h, _, hh, _⟩
  · left; rw [h]; rfl
  · right; rw [h]; intro e2
    have e3 : g' = N := by simpa [Value.ownBlock] using e2
    rw [e3, hu] at hh; injection hh with hh; injection hh with _ hh; exact he hh.symm
theorem map_ne {w : World} {mb n : Nat} {f : Int → Int} (h : LastM w mb n f) {bs sz k : Nat} {e : TypeId} {V : Value} {M : List Value} (ho : w.ownsRow bs e sz V k M) : V.ownBlock = none ∨ V.ownBlock ≠ some mb := by
  obtain ⟨D, ⟨es, clock, h1, _⟩, _⟩ := h
  rcases ho.2 with ⟨rfl, _⟩ | ⟨g, cap, cur, rfl, _, hh, _⟩
  · exact .inl rfl
  · refine .inr fun hk => ?_
    have e2 : g = mb := by simpa [Value.ownBlock] using hk
    rw [e2, h1] at hh
    simp at hh
/-- A store into the beat's own block. -/
theorem BeatS.store {w : World} {base r mb n : Nat} {b b' : BeatA} (h : BeatS w base r mb n b) (j : Nat) (v : Value) (hm : b'.mem = b.mem) (hf : b'.f = b.f)
    (hc : ∀ A : Option Addr, ∀ c : Nat, (#[.int .i64 b.own, .slice A b.mem.length c, .int .i64 b.every, .int .i64 b.span, .int .i64 b.now, .map (some mb), .int .i64 b.sent] : Array Value).setIfInBounds j v = #[.int .i64 b'.own, .slice A b'.mem.length c, .int .i64 b'.every, .int .i64 b'.span, .int .i64 b'.now, .map (some mb), .int .i64 b'.sent]) :
    BeatS (w.setCell ⟨r, j, none⟩ v) base r mb n b' ∧ ∀ W, Below base W w → Below base W (w.setCell ⟨r, j, none⟩ v) := by
  obtain ⟨A, c, h1, h2⟩ := h.cl
  have hr : w.heap[r]? = some (.cells #[.int .i64 b.own, .slice A b.mem.length c, .int .i64 b.every, .int .i64 b.span, .int .i64 b.now, .map (some mb), .int .i64 b.sent] 42 (0, 0)) := h1
  refine ⟨⟨⟨A, c, ?_, ?_⟩, ?_, h.br, h.bm, h.ne, ?_, by rw [hm]; exact h.ln⟩, fun W hW => pw_below_grown hW (some r) h.bw (grown_set v) (fun k e => by cases e; exact h.br)⟩
  · unfold BeatC; rw [heap_set _ hr, hc]
  · rw [hm]; exact own_other h2 (grown_set v) (box_ne hr h2 (by decide))
  · rw [hf]; exact h.la.kept (grown_set v) (fun e => h.ne (by injection e with e; exact e.symm))
  · simpa [World.setCell] using h.bw
set_option maxHeartbeats 1000000 in
theorem time_walk (w : World) (base r mb n : Nat) (b : BeatA) (t : Int) (h : BeatS w base r mb n b) :
    Calls Try.prog 15 #[.pointer (some ⟨r, 0, none⟩), .int .i64 t] w fun e w' => e = .returned (.int .i64 (max b.now t)) ∧ BeatS w' base r mb n { b with now := max b.now t } ∧ ∀ W, Below base W w → Below base W w' := by
  have HS := Lib.hid (h.store (b' := { b with now := max b.now t }) 4 (.int .i64 (max b.now t)) rfl rfl (fun A c => rfl))
  obtain ⟨A, c, h1, h2⟩ := h.cl
  obtain ⟨c0, c1, c2, c3, c4, c5, c6⟩ := beat_cells h1
  have hz := froz (show w.heap[r]? = some (.cells _ _ (0, 0)) from h1) 4
  clear h h1 h2
  by_cases hm : b.now < t
  · have e : max b.now t = t := Int.max_eq_right (by omega)
    rw [e] at HS ⊢
    clear e
    go_enter Try.func15, Try.ntmps15
    go_wp2
    go_ret
    exact ⟨rfl, HS.out.1, HS.out.2⟩
  · have e : max b.now t = b.now := Int.max_eq_left (by omega)
    rw [e] at HS ⊢
    clear e
    go_enter Try.func15, Try.ntmps15
    go_wp2
    go_ret
    exact ⟨rfl, HS.out.1, HS.out.2⟩
def otherB (b : BeatA) (who : Int) : Bool := who != b.own && decide (who ∈ b.mem)
theorem other_walk (w : World) (base r mb n : Nat) (b : BeatA) (who : Int) (h : BeatS w base r mb n b) :
    Calls Try.prog 16 #[.pointer (some ⟨r, 0, none⟩), .int .i64 who] w fun e w' => e = .returned (.bool (otherB b who)) ∧ w = w' := by
  obtain ⟨A, c, h1, h2⟩ := h.cl
  obtain ⟨c0, c1, c2, c3, c4, c5, c6⟩ := beat_cells h1
  have HC := Lib.hid (contains_walk A b.mem.length c b.mem who w (own_info h2).2.2.2.1)
  clear h h1 h2
  by_cases hm : who = b.own
  · subst hm
    go_enter Try.func16, Try.ntmps16
    go_wp2
    go_ret
    exact ⟨by simp [otherB], rfl⟩
  · have HM := Lib.hid hm
    go_enter Try.func16, Try.ntmps16
    go_wp2_with (go_at_call 13; refine HC.out.mono ?_; rintro e w' ⟨rfl, rfl⟩)
    go_ret
    exact ⟨by unfold otherB; rfl, rfl⟩
end Go.Proofs.Ythebddhldembhaa
