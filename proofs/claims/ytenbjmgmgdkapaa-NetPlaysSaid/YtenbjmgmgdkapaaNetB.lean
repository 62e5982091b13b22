/- Walks of package net: the map of ways that are cut. -/
import Derived.Test.YtenbjmgmgdkapaaNetA
import Derived.DeepKeys3
import Derived.Maps.Keyed
import Derived.Maps.Views
set_option linter.unusedVariables false
set_option linter.unusedSimpArgs false
namespace Go.Proofs.Ytenbjmgmgdkapaa
open Go.RowKit Go.Proofs.YtenbjmgmgdkapaaW.PrintWords Go.Proofs.Ytenbjmgmgdkapaa.K

theorem keyed : Maps.Keyed Try.prog 60 := Maps.Keyed.of_law (Go.deep_law (m := 4) (by decide) (by kernel_rfl) (by kernel_rfl) (by kernel_rfl))
/-- The key of a way. -/
noncomputable def wayKey (a b : Int) : Option Lit := keyOf Try.prog 60 (.agg #[.int .i64 a, .int .i64 b])
theorem key_some' : ∀ a b : Fin 16, (wayKey a.1 b.1).isSome = true := by decide +kernel
theorem key_some (a b : Nat) (ha : a < 16) (hb : b < 16) : ∃ l, wayKey a b = some l := Option.isSome_iff_exists.1 (key_some' ⟨a, ha⟩ ⟨b, hb⟩)
theorem key_inj {a b c d : Int} {l : Lit} (h1 : wayKey a b = some l) (h2 : wayKey c d = some l) : a = c ∧ b = d := by
  have h := Go.keyOf_inj_deep (P := Try.prog) (m := 4) (k := 60) (by kernel_rfl) (by kernel_rfl) h1 h2
  injection h with h
  simpa using h
theorem zeroB (w : World) : (zeroValue 4).run Try.prog w = .ok (.bool false) w := by kernel_rfl

/-- Which ways are cut: block mb is a map of at most n entries that tells f of workers. -/
def CutM (w : World) (mb n : Nat) (f : Nat → Nat → Bool) : Prop :=
  ∃ D : DataW Unit, w.ownsMap Try.prog 60 (plainElem Try.prog 4) mb n D ∧ Maps.IsMap D ∧ ∀ a b : Nat, a < 16 → b < 16 → ∀ l, wayKey a b = some l → D.atKey l (.lit (.bool false)) = .lit (.bool (f a b))
theorem CutM.kept {w w' : World} {mb n : Nat} {f : Nat → Nat → Bool} {row : Option Nat} (h : CutM w mb n f) (hg : w.grownBy w' row) (hne : some mb ≠ row) : CutM w' mb n f := by
  obtain ⟨D, h1, h2, h3⟩ := h
  exact ⟨D, h1.kept hg hne, h2, h3⟩
theorem cut_made (w : World) : CutM (w.alloc (.map #[] 0)) w.heap.size 0 fun _ _ => false :=
  ⟨.map [], World.ownsMap_made .., ⟨[], rfl⟩, fun a b _ _ l _ => rfl⟩
theorem CutM.look {w : World} {mb n : Nat} {f : Nat → Nat → Bool} (h : CutM w mb n f) (a b : Nat) (ha : a < 16) (hb : b < 16) :
    (Instr.lookup 56 (.map (some mb)) (.agg #[.int .i64 a, .int .i64 b]) false).run Try.prog w = .ok (.bool (f a b)) w := by
  obtain ⟨D, h1, h2, h3⟩ := h
  obtain ⟨l, hl⟩ := key_some a b ha hb
  obtain ⟨v, ps, hrun, hv⟩ := h1.lookup keyed Try.underlying56 (zeroB w) (plainElem_bool Try.underlying4 false) hl
  rw [h3 a b ha hb l hl] at hv
  have hvv : v = .bool (f a b) := by
    unfold plainElem at hv
    rw [Try.underlying4] at hv
    cases v <;> simp at hv
    rw [hv.1]
  rw [hrun, hvv]
def upd (f : Nat → Nat → Bool) (a b : Nat) (v : Bool) : Nat → Nat → Bool := fun c d => if c = a ∧ d = b then v else f c d
theorem cut_put {f : Nat → Nat → Bool} {D : DataW Unit} {a b : Nat} {l : Lit} (hm : Maps.IsMap D) (hl : wayKey a b = some l) (h3 : ∀ a b : Nat, a < 16 → b < 16 → ∀ l, wayKey a b = some l → D.atKey l (.lit (.bool false)) = .lit (.bool (f a b))) (v : Bool) :
    ∀ c d : Nat, c < 16 → d < 16 → ∀ l', wayKey c d = some l' → (D.put l (.lit (.bool v))).atKey l' (.lit (.bool false)) = .lit (.bool (upd f a b v c d)) := by
  intro c d hc hd l' hl'
  unfold upd
  by_cases h : c = a ∧ d = b
  · obtain ⟨rfl, rfl⟩ := h
    rw [hl] at hl'
    injection hl' with hl'
    subst hl'
    rw [if_pos ⟨rfl, rfl⟩, Maps.atKey_put_same hm (keyed.key hl)]
  · rw [if_neg h, Maps.atKey_put_other (fun e => by
      subst e
      have := key_inj hl hl'
      exact h ⟨by omega, by omega⟩)]
    exact h3 c d hc hd l' hl'
end Go.Proofs.Ytenbjmgmgdkapaa
