/-
  No cell of these rows narrows 'for every input' (looked for: loops, veiled, ifaces, maps, wideKeys, modest, calm, conditions, laid).
  DERIVED. THE GIVEN ROWS OF THIS SEAT. 3 by the template 'for every input the law returns true; each argument reads behind the call as it read before'; 0 by the template 'total and deterministic' (their statements: YthebddhldembhaaTotals.lean).
  GIVEN WITH THE SEED: the statements are not yours to turn. If you find one false, say at which input.
  Laid BY PROGRAM, IN A SANDBOX (cutbox-rows.mjs): the forced cells as the released guide's own fill.sh prints them over the translation 176e9afaee9eb942… (all of the seat's roots in one cut). By AI agents, Wed Nov 11 2026. No macro, syntax, notation, axiom, sorry.
-/
import Derived.Test.YthebddhldembhaaChecked
import GoSem.Claim
import GoSem.ClaimJoined
import GoSem.ClaimMapViews
import Derived.JoinedTies
import Derived.KernelRfl
namespace Go.Proofs.Ythebddhldembhaa
/- THE CELL 'sum', in the pinned program and in every row, IS THE sha256 OF THE DUMP (.gsa) THAT YthebddhldembhaaProg.lean LOADS. Nothing in Lean hashes anything: it is a label: what it is worth is what the hold of that sum in a sandbox is worth. -/
noncomputable def Try.pinned : Pinned := { name := "ythebddhldembhaa", sum := "176e9afaee9eb942e484a3ed1386c4c3da5c3729621ad5da1835455ddfcddc72", checked := Try.checked }
namespace Rows
def none {H : Type} : Left H := { results := [], args := [] }

/-- 'carousellaw22.BeatNever': WHATEVER THE INPUT: true; the input reads as it did. -/
def beatNeverSpec : ChangeSpec := { name := "beatNever", fn := fun _ => fun
  | [d1, d2] => { results := [.lit (.bool true)], args := [d1, d2] }
  | _ => none }
def beatNeverRow : OpenClaim := { program := "ythebddhldembhaa", sum := "176e9afaee9eb942e484a3ed1386c4c3da5c3729621ad5da1835455ddfcddc72", func := "carousel/carousellaw22.BeatNever", spec := "beatNever", apart := false }
def BeatNeverSaid : Prop := beatNeverRow.holds Try.pinned (OpenSpec.ofChange beatNeverSpec)

/-- ITS FALSE NEIGHBOUR: 'it returns false'. Refute it at one input. -/
def beatNeverWrong : ChangeSpec := { name := "beatNever", fn := fun _ => fun
  | [d1, d2] => { results := [.lit (.bool false)], args := [d1, d2] }
  | _ => none }
def BeatNeverWrongFalsely : Prop := beatNeverRow.holds Try.pinned (OpenSpec.ofChange beatNeverWrong)

/-- 'carousellaw22.BeatEvery': WHATEVER THE INPUT: true; the input reads as it did. -/
def beatEverySpec : ChangeSpec := { name := "beatEvery", fn := fun _ => fun
  | [d1, d2, d3] => { results := [.lit (.bool true)], args := [d1, d2, d3] }
  | _ => none }
def beatEveryRow : OpenClaim := { program := "ythebddhldembhaa", sum := "176e9afaee9eb942e484a3ed1386c4c3da5c3729621ad5da1835455ddfcddc72", func := "carousel/carousellaw22.BeatEvery", spec := "beatEvery", apart := false }
def BeatEverySaid : Prop := beatEveryRow.holds Try.pinned (OpenSpec.ofChange beatEverySpec)

/-- ITS FALSE NEIGHBOUR: 'it returns false'. Refute it at one input. -/
def beatEveryWrong : ChangeSpec := { name := "beatEvery", fn := fun _ => fun
  | [d1, d2, d3] => { results := [.lit (.bool false)], args := [d1, d2, d3] }
  | _ => none }
def BeatEveryWrongFalsely : Prop := beatEveryRow.holds Try.pinned (OpenSpec.ofChange beatEveryWrong)

/-- 'carousellaw22.BeatKnown': WHATEVER THE INPUT: true; the input reads as it did. -/
def beatKnownSpec : ChangeSpec := { name := "beatKnown", fn := fun _ => fun
  | [] => { results := [.lit (.bool true)], args := [] }
  | _ => none }
def beatKnownRow : OpenClaim := { program := "ythebddhldembhaa", sum := "176e9afaee9eb942e484a3ed1386c4c3da5c3729621ad5da1835455ddfcddc72", func := "carousel/carousellaw22.BeatKnown", spec := "beatKnown", apart := false }
def BeatKnownSaid : Prop := beatKnownRow.holds Try.pinned (OpenSpec.ofChange beatKnownSpec)

/-- ITS FALSE NEIGHBOUR: 'it returns false'. Refute it at one input. -/
def beatKnownWrong : ChangeSpec := { name := "beatKnown", fn := fun _ => fun
  | [] => { results := [.lit (.bool false)], args := [] }
  | _ => none }
def BeatKnownWrongFalsely : Prop := beatKnownRow.holds Try.pinned (OpenSpec.ofChange beatKnownWrong)

/- THE SECOND FORM. 'bulk': how many values and letters a reading holds, each counted each time it is reached (what is shared counts as often as it is met; a slice's spare places count too). A statement '..UptoSaid' is the law's where the arguments, and the package variables that the reading takes, are together of bulk at most 1048576: NARROWER than '..Said'. Prove '..Said' where nothing that the law and all that it calls make is longer than what came in: it says more and counts as full. Else prove '..UptoSaid'. A law counts once. -/
mutual
def uptoBulk {H : Type} : DataW H → Nat
  | .lit (.string bytes) => bytes.length + 1
  | .lit _ => 1
  | .nil => 1
  | .ptr d => uptoBulk d + 1
  | .slice elems spare => uptoBulkAll elems + uptoBulkAll spare + 1
  | .agg parts => uptoBulkAll parts + 1
  | .iface _ d => uptoBulk d + 1
  | .map entries => uptoBulkEntries entries + 1
  | .held _ => 1
def uptoBulkAll {H : Type} : List (DataW H) → Nat
  | [] => 0
  | d :: r => uptoBulk d + uptoBulkAll r
def uptoBulkEntries {H : Type} : List (Lit × DataW H) → Nat
  | [] => 0
  | x :: r => uptoBulkEntry x + uptoBulkEntries r
def uptoBulkEntry {H : Type} : Lit × DataW H → Nat
  | (.string bytes, d) => bytes.length + uptoBulk d + 1
  | (_, d) => uptoBulk d + 1
 end
def uptoSmall : (H : Type) → List (DataW H) → Bool := fun _ ds => decide (uptoBulkAll ds ≤ 1048576)
def OpenSpec.upto (s : _root_.Go.ChangeSpec) : _root_.Go.OpenSpec := { _root_.Go.OpenSpec.ofChange s with cond := some uptoSmall }

/-- 'carousellaw22.BeatNever', WHERE WHAT IT READS IS OF BULK AT MOST 1048576: true; the input reads as it did. -/
def beatNeverUptoRow : OpenClaim := { program := "ythebddhldembhaa", sum := "176e9afaee9eb942e484a3ed1386c4c3da5c3729621ad5da1835455ddfcddc72", func := "carousel/carousellaw22.BeatNever", spec := "beatNever", apart := false, narrowed := true }
def BeatNeverUptoSaid : Prop := beatNeverUptoRow.holds Try.pinned (OpenSpec.upto beatNeverSpec)

/-- 'carousellaw22.BeatEvery', WHERE WHAT IT READS IS OF BULK AT MOST 1048576: true; the input reads as it did. -/
def beatEveryUptoRow : OpenClaim := { program := "ythebddhldembhaa", sum := "176e9afaee9eb942e484a3ed1386c4c3da5c3729621ad5da1835455ddfcddc72", func := "carousel/carousellaw22.BeatEvery", spec := "beatEvery", apart := false, narrowed := true }
def BeatEveryUptoSaid : Prop := beatEveryUptoRow.holds Try.pinned (OpenSpec.upto beatEverySpec)

/-- 'carousellaw22.BeatKnown', WHERE WHAT IT READS IS OF BULK AT MOST 1048576: true; the input reads as it did. -/
def beatKnownUptoRow : OpenClaim := { program := "ythebddhldembhaa", sum := "176e9afaee9eb942e484a3ed1386c4c3da5c3729621ad5da1835455ddfcddc72", func := "carousel/carousellaw22.BeatKnown", spec := "beatKnown", apart := false, narrowed := true }
def BeatKnownUptoSaid : Prop := beatKnownUptoRow.holds Try.pinned (OpenSpec.upto beatKnownSpec)

end Rows
end Go.Proofs.Ythebddhldembhaa
