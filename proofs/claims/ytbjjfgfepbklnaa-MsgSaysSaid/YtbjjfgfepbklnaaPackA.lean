/- Walks of package pack: its reader. -/
import Derived.Test.YtbjjfgfepbklnaaRows
import Derived.Test.YtbjjfgfepbklnaaK
import Derived.Outline
import Derived.LoopTactic
import Derived.Deep.QuietTactic
import Derived.BigQuiet
set_option linter.unusedVariables false
set_option linter.unusedSimpArgs false
namespace Go.Proofs.Ytbjjfgfepbklnaa
open Go.RowKit Go.Proofs.YtbjjfgfepbklnaaW.PrintWords Go.Proofs.Ytbjjfgfepbklnaa.K

/-- A reader in block r: what it still has, and whether it is spoilt. -/
def Rdr (w : World) (r : Nat) (xs : List Int) (sp : Bool) : Prop :=
  ∃ A n c, w.heap[r]? = some (.cells #[.slice A n c, .bool sp] 77 (0, 0)) ∧ n ≤ c ∧ ReadsInt w .u8 A n xs ∧ (∀ ad, A = some ad → ∃ cs fr, w.heap[ad.block]? = some (.cells cs 5 fr))
theorem Rdr.kept {w w' : World} {r : Nat} {xs : List Int} {sp : Bool} (h : Rdr w r xs sp) (hk : ∀ k, (∃ cs t fr, w.heap[k]? = some (.cells cs t fr) ∧ (t = 5 ∨ k = r)) → w'.heap[k]? = w.heap[k]?) : Rdr w' r xs sp := by
  obtain ⟨A, n, c, h1, h2, h3, h4⟩ := h
  refine ⟨A, n, c, by rw [hk r ⟨_, _, _, h1, .inr rfl⟩]; exact h1, h2, ⟨h3.1, h3.2.1, fun hp => ?_⟩, fun ad e => ?_⟩
  · obtain ⟨ad, e, hc⟩ := h3.2.2 hp
    obtain ⟨cs, fr, hb⟩ := h4 ad e
    refine ⟨ad, e, fun j hj => ?_⟩
    have hbl : (ad.add j).block = ad.block := by unfold Addr.add; split <;> rfl
    rw [World.cell?_of_block (w := w) (by rw [hbl]; exact hk _ ⟨_, _, _, hb, .inl rfl⟩)]
    exact hc j hj
  · obtain ⟨cs, fr, hb⟩ := h4 ad e
    exact ⟨cs, fr, by rw [hk _ ⟨_, _, _, hb, .inl rfl⟩]; exact hb⟩
theorem Rdr.below {w w' : World} {r : Nat} {xs : List Int} {sp : Bool} (h : Rdr w r xs sp) (hb : Below w.heap.size w w') : Rdr w' r xs sp :=
  h.kept fun k ⟨_, _, _, hk, _⟩ => hb.block k (lt_of_heap hk)
theorem Rdr.lt {w : World} {r : Nat} {xs : List Int} {sp : Bool} (h : Rdr w r xs sp) : r < w.heap.size := by
  obtain ⟨_, _, _, h1, _⟩ := h; exact lt_of_heap h1
/-- A reader that another reader's call leaves alone. -/
theorem Rdr.other {w w' : World} {r q : Nat} {xs ys : List Int} {sp sq : Bool} (h : Rdr w r xs sp) (hq : Rdr w q ys sq) (hne : r ≠ q) (hg : w.grownBy w' (some q)) : Rdr w' r xs sp :=
  h.kept fun k ⟨cs, t, fr, hk, ht⟩ => hg.block k (lt_of_heap hk) (fun e => by
    injection e with e
    subst e
    rcases ht with rfl | rfl
    · obtain ⟨_, _, _, h1, _⟩ := hq
      rw [hk] at h1
      injection h1 with h1
      injection h1 with _ h1
      exact absurd h1 (by decide)
    · exact hne rfl)

set_option maxHeartbeats 400000 in
theorem read_walk (A : Option Addr) (xs : List Int) (n cap : Nat) (w : World) (h : ReadsInt w .u8 A n xs) (hn : n ≤ 1000000) :
    Calls Try.prog 20 #[.slice A n cap] w fun e w' => ∃ r, w.heap.size ≤ r ∧ e = .returned (.pointer (some ⟨r, 0, none⟩)) ∧ Rdr w' r xs false ∧ Below w.heap.size w w' := by
  have HL := Lib.hid h; clear h
  go_enter Try.func20, Try.ntmps20
  go_wp2_with (first | (at_builtin; refine K.app_row (w0 := w) w.heap.size rfl (.tmp 3) (.tmp 4) 31 5 .u8 1 rfl Try.underlying31 (by kernel_rfl) (by decide) _ [] xs _ _ _ rfl rfl (own_lit _ _ 5 .u8 [] (Nat.le_refl _) (by decide)) (HL.out.below ((Below.refl _ _).alloc (Nat.le_refl _) _)) ((Below.refl _ _).alloc (Nat.le_refl _) _) (by simp) (by simp; omega) n HL.out.1 ?_; intro A1 c1 w2 hown hB1 _; have HO := Lib.hid hown; clear hown))
  go_ret
  obtain ⟨_, _, h1, h2, h3⟩ := K.own_info HO.out
  have hb2 : Below w2.heap.size w2 (w2.alloc (.cells #[.slice A1 n c1, .bool false] 77)) := (Below.refl _ _).alloc (Nat.le_refl _) _
  refine ⟨w2.heap.size, hB1.size, rfl, ⟨A1, n, c1, heap_alloc_new _ _, h1, h2.below hb2, fun ad e => ?_⟩, hB1.alloc hB1.size _⟩
  obtain ⟨_, cs, hcs⟩ := h3 ad e
  exact ⟨cs, _, by rw [hb2.block _ (lt_of_heap hcs)]; exact hcs⟩

set_option maxHeartbeats 400000 in
theorem bytes_bad (r : Nat) (n : Int) (xs : List Int) (sp : Bool) (w : World) (h : Rdr w r xs sp) (hb : sp = true ∨ n < 0 ∨ (xs.length : Int) < n) :
    Calls Try.prog 24 #[.pointer (some ⟨r, 0, none⟩), .int .i64 n] w fun e w' => e = .returned (.slice none 0 0) ∧ Rdr w' r [] true ∧ w.grownBy w' (some r) := by
  obtain ⟨A, k, c, h1, h2, h3, h4⟩ := h
  obtain ⟨c0, c1, f0, f1⟩ := cells_2 h1
  have H1 := Lib.hid h1; clear h1 h4
  have hk : xs.length = k := h3.1
  rw [hk] at hb
  clear h3 hk
  have fin : ∀ w', w' = (w.setCell ⟨r, 0, none⟩ (.slice none 0 0)).setCell ⟨r, 1, none⟩ (.bool true) → Rdr w' r [] true ∧ w.grownBy w' (some r) := by
    rintro _ rfl
    refine ⟨⟨none, 0, 0, ?_, Nat.le_refl _, K.reads_nil _ _, fun ad e => by cases e⟩, World.grownBy.trans (grown_set _) (grown_set _)⟩
    rw [heap_set _ (heap_set _ H1.out)]; rfl
  cases sp with
  | true =>
    go_enter Try.func24, Try.ntmps24
    go_wp2
    go_ret
    exact ⟨rfl, fin _ rfl⟩
  | false =>
    by_cases hn : n < 0
    · go_enter Try.func24, Try.ntmps24
      go_wp2
      go_ret
      exact ⟨rfl, fin _ rfl⟩
    · have hn2 : (k : Int) < n := by
        rcases hb with h | h | h
        · cases h
        · exact absurd h hn
        · exact h
      clear hb
      go_enter Try.func24, Try.ntmps24
      go_wp2
      go_ret
      exact ⟨rfl, fin _ rfl⟩

set_option maxHeartbeats 400000 in
theorem bytes_ok (r m : Nat) (xs : List Int) (w : World) (h : Rdr w r xs false) (hm : m ≤ xs.length) (hx : xs.length ≤ 1000000) :
    Calls Try.prog 24 #[.pointer (some ⟨r, 0, none⟩), .int .i64 m] w fun e w' => ∃ A c, e = .returned (.slice A m c) ∧ w'.ownsRow w.heap.size 5 1 (.slice A m c) m (nums .u8 (xs.take m)) ∧ Rdr w' r (xs.drop m) false ∧ w.grownBy w' (some r) := by
  have hlt := h.lt
  obtain ⟨A, k, c, h1, h2, h3, h4⟩ := h
  obtain ⟨c0, c1, f0, f1⟩ := cells_2 h1
  have H1 := Lib.hid h1; clear h1
  have H4 := Lib.hid h4; clear h4
  have H3 := Lib.hid h3; clear h3
  rw [H3.out.1] at hm hx
  obtain ⟨i5, hi5, -, hz5, -⟩ := info_parts (show (Try.prog.info? 5).map (fun i => (i.zero, i.size, i.bytes)) = some (some (.int .u8 0), 1, 1) by kernel_rfl)
  obtain ⟨A', hcut, hA1, hA2⟩ := cut_from (P := Try.prog) 31 5 .i64 Try.underlying31 hi5 hz5 A k c m hm
  have HA1 := Lib.hid hA1; clear hA1
  have HA2 := Lib.hid hA2; clear hA2
  clear hi5 hz5
  go_enter Try.func24, Try.ntmps24
  go_wp2_with (first | (at_builtin; refine K.app_row (w0 := w) w.heap.size rfl (.tmp 29) (.tmp 35) 31 5 .u8 1 rfl Try.underlying31 (by kernel_rfl) (by decide) _ [] (xs.take m) _ _ _ rfl rfl (own_lit _ _ 5 .u8 [] (Nat.le_refl _) (by decide)) ((H3.out.take_ m hm).below ((Below.refl _ _).alloc (Nat.le_refl _) _)) ((Below.refl _ _).alloc (Nat.le_refl _) _) (by simp) (by simp; omega) m (by have := H3.out.1; simp; omega) ?_; intro A1 c1 w2 hown hB1 _; have HO := Lib.hid hown; clear hown; have c0' := pw_cell_below hB1 c0; have f0' := (World.frozen?_of_block (a := ⟨r, 0, none⟩) (hB1.block r hlt)).trans f0))
  go_ret
  have h2r : w2.heap[r]? = some (.cells #[.slice A k c, .bool false] 77 (0, 0)) := (hB1.block r hlt).trans H1.out
  obtain ⟨_, hl, hcc, hrd, hbl⟩ := own_info HO.out
  have hg := grown_set (w := w2) (r := r) (j := 0) (.slice A' (k - m) (c - m))
  have hAr : ∀ q, w2.heap.size ≤ q ∨ w.heap.size ≤ q → some q ≠ some r := fun q hq e => by injection e with e; have := hB1.size; omega
  refine ⟨A1, c1, rfl, ?_, ⟨A', k - m, c - m, by rw [heap_set _ h2r]; rfl, by omega, ?_, fun ad e => ?_⟩, (grown_of_below hB1 (some r)).trans hg⟩
  · have := own_other HO.out hg (by
      rcases HO.out.2 with ⟨h, _⟩ | ⟨g, cap, cur, h, hb, _⟩
      · left; rw [h]; rfl
      · right; rw [h]; exact hAr g (.inr hb))
    simpa using this
  · have hr0 := HA1.out w .u8 xs h2 H3.out
    refine ⟨hr0.1, hr0.2.1, fun hp => ?_⟩
    obtain ⟨ad, e, hc⟩ := hr0.2.2 hp
    refine ⟨ad, e, fun j hj => ?_⟩
    rw [← hc j hj]
    have hb : (ad.add j).block = ad.block := by unfold Addr.add; split <;> rfl
    obtain ⟨ad0, e0, eb⟩ := HA2.out ad e
    obtain ⟨cs, fr, hcs⟩ := H4.out ad0 e0
    have hne : some (ad.add j).block ≠ some r := by
      rw [hb, eb]
      intro e1
      injection e1 with e1
      rw [e1, H1.out] at hcs
      injection hcs with hcs
      injection hcs with _ hcs
      exact absurd hcs (by decide)
    exact World.cell?_of_block ((hg.block _ (by rw [hb, eb]; exact Nat.lt_of_lt_of_le (lt_of_heap hcs) hB1.size) hne).trans (hB1.block _ (by rw [hb, eb]; exact lt_of_heap hcs)))
  · obtain ⟨ad0, e0, eb⟩ := HA2.out ad e
    obtain ⟨cs, fr, hcs⟩ := H4.out ad0 e0
    refine ⟨cs, fr, ?_⟩
    rw [eb]
    rw [← hcs]
    refine (hg.block _ (Nat.lt_of_lt_of_le (lt_of_heap hcs) hB1.size) ?_).trans (hB1.block _ (lt_of_heap hcs))
    intro e1
    injection e1 with e1
    rw [e1, H1.out] at hcs
    injection hcs with hcs
    injection hcs with _ hcs
    exact absurd hcs (by decide)
end Go.Proofs.Ytbjjfgfepbklnaa
