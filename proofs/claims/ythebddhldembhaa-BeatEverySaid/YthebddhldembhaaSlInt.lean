/- Walks of slices.Index, slices.Contains, slices.Clone of ints: rows of one's own. -/
import Derived.Test.YthebddhldembhaaRows
import Derived.Test.YthebddhldembhaaK
import Derived.Outline
import Derived.Deep.QuietTactic
import Derived.BigQuiet
import Derived.WalkSmall
set_option linter.unusedVariables false
set_option linter.unusedSimpArgs false
namespace Go.Proofs.Ythebddhldembhaa
open Go.RowKit Go.Proofs.YthebddhldembhaaW.PrintWords Go.Proofs.Ythebddhldembhaa.K

theorem alloc_back {W : World} (o : Obj) : Below W.heap.size W (W.alloc o) := (Below.refl _ _).alloc (Nat.le_refl _) o
theorem alloc_back2 {W : World} (o o' : Obj) : Below W.heap.size W ((W.alloc o).alloc o') := (alloc_back o).alloc (alloc_back o).size _
theorem idx_none {l : List Int} {v : Int} {n : Nat} (hn : l.length = n) (h : ∀ j, j < n → l.getD j 0 ≠ v) : v ∉ l := by
  intro hm
  obtain ⟨j, hj, e⟩ := List.mem_iff_getElem.1 hm
  exact h j (by omega) (by simp [List.getD_eq_getElem?_getD, hj, e])
theorem idx_mem {l : List Int} {v : Int} {k n : Nat} (hn : l.length = n) (hk : k < n) (h : l.getD k 0 = v) : v ∈ l := by
  have : k < l.length := by omega
  rw [← h]; simp [List.getD_eq_getElem?_getD, this]
/-- slices.Index of ints: below 0 just where it is none of them. -/
theorem index_walk (A : Option Addr) (n c : Nat) (l : List Int) (v : Int) (w : World) (h : ReadsInt w .i64 A n l) :
    Calls Try.prog 17 #[.slice A n c, .int .i64 v] w fun e w' => ∃ i : Int, e = .returned (.int .i64 i) ∧ (0 ≤ i ↔ v ∈ l) ∧ w = w' := by
  have HL := Lib.hid h
  have hn := h.2.1
  clear h
  go_enter Try.func17, Try.ntmps17
  go_wp2
  go_loop [8] (fun i => ∃ k : Nat, k ≤ n ∧ i = .int .i64 k ∧ Aside0 (∀ j, j < k → l.getD j 0 ≠ v)) (fun i => n - (intOf i).toNat)
  case atStart => exact ⟨0, Nat.zero_le _, rfl, ⟨fun j hj => by omega⟩⟩
  case round =>
    obtain ⟨k, hk, rfl, HK⟩ := hrel
    by_cases hlt : k < n
    · obtain ⟨ad, rfl, hck⟩ := reads_at HL.out k hlt
      by_cases he : l.getD k 0 = v
      · have HE := Lib.hid (idx_mem HL.out.1 hlt he)
        rw [he] at hck
        clear he
        go_wp2
        go_ret
        exact ⟨k, rfl, ⟨fun _ => HE.out, fun _ => Int.natCast_nonneg _⟩, rfl⟩
      · have HE := Lib.hid he
        obtain ⟨u, hu⟩ : ∃ u, u = l.getD k 0 := ⟨_, rfl⟩
        rw [← hu] at hck he
        have hne : ¬ (v = u) := fun e => he e.symm
        have HU := Lib.hid hu
        clear he hu
        go_wp2
        go_round
        case rel => exact ⟨k + 1, by omega, by go_num, ⟨fun j hj => by
          rcases Nat.lt_succ_iff_lt_or_eq.1 hj with h | rfl
          · exact HK.out j h
          · exact HE.out⟩⟩
        case measure => simp [intOf]; omega
    · obtain rfl : k = n := by omega
      have HE := Lib.hid (idx_none HL.out.1 HK.out)
      go_wp2
      go_ret
      exact ⟨-1, rfl, ⟨fun h => absurd h (by decide), fun h => absurd h HE.out⟩, rfl⟩
/-- slices.Contains of ints. -/
theorem contains_walk (A : Option Addr) (n c : Nat) (l : List Int) (v : Int) (w : World) (h : ReadsInt w .i64 A n l) :
    Calls Try.prog 13 #[.slice A n c, .int .i64 v] w fun e w' => e = .returned (.bool (decide (v ∈ l))) ∧ w = w' := by
  have HI := Lib.hid (index_walk A n c l v w h)
  clear h
  go_enter Try.func13, Try.ntmps13
  go_wp2_with fail
  refine HI.out.mono ?_
  rintro e w' ⟨i, rfl, hi, rfl⟩
  have HII := Lib.hid hi; clear hi
  go_wp2_with fail
  go_ret
  have hd : decide (0 ≤ i) = decide (v ∈ l) := decide_eq_decide.2 HII.out
  exact ⟨by rw [hd]; rfl, rfl⟩
/-- slices.Clone of ints: a row of its own. -/
theorem clone_walk (A : Option Addr) (n c : Nat) (xs : List Int) (w : World) (h : ReadsInt w .i64 A n xs) (hn : n ≤ 1000000) (hA : A = none → c = 0) :
    Calls Try.prog 14 #[.slice A n c] w fun e w' => ∃ A1 c1, e = .returned (.slice A1 n c1) ∧ w'.ownsRow w.heap.size 3 1 (.slice A1 n c1) n (nums .i64 xs) ∧ Below w.heap.size w w' := by
  have HL := Lib.hid h
  rcases A with _ | ad
  · obtain rfl := hA rfl
    have h0 : n = 0 := by
      rcases Nat.eq_zero_or_pos n with h0 | h0
      · exact h0
      · obtain ⟨ad, h, _⟩ := h.2.2 h0; cases h
    subst h0
    have hx : xs = [] := List.eq_nil_of_length_eq_zero h.1
    subst hx
    clear h hA
    have e1 : ∀ W : World, (binOp .eql 28 (.slice none 0 0) (.slice none 0 0)).run Try.prog W = .ok (.bool true) W := fun W => by kernel_rfl
    go_enter Try.func14, Try.ntmps14
    go_wp2_with fail
    go_ret
    exact ⟨none, 0, rfl, ⟨rfl, .inl ⟨rfl, rfl⟩⟩, Below.refl _ _⟩
  · clear h hA
    have e1 : ∀ W : World, (binOp .eql 28 (.slice (some ad) n c) (.slice none 0 0)).run Try.prog W = .ok (.bool false) W := fun W => by kernel_rfl
    go_enter Try.func14, Try.ntmps14
    go_wp2_with (first | (at_builtin; refine K.app_row (w0 := w) w.heap.size rfl (.tmp 5) (.tmp 6) 28 3 .i64 8 rfl Try.underlying28 (by kernel_rfl) (by decide) _ [] xs _ _ _ rfl rfl (own_lit _ _ 3 .i64 [] (Nat.le_refl _) (by decide)) (HL.out.below ((Below.refl _ _).alloc (Nat.le_refl _) _)) ((Below.refl _ _).alloc (Nat.le_refl _) _) (by simp) (by simp; omega) n HL.out.1 ?_; intro A1 c1 w2 hown hB1 _; have HO := Lib.hid hown; clear hown))
    go_ret
    exact ⟨A1, c1, rfl, HO.out, hB1⟩
end Go.Proofs.Ythebddhldembhaa
