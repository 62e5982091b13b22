/-
  No cell of these rows narrows 'for every input' (looked for: loops, veiled, ifaces, maps, wideKeys, modest, calm, conditions, laid).
  DERIVED. THE GIVEN ROWS OF THIS SEAT. 3 by the template 'for every input the law returns true; each argument reads behind the call as it read before'; 0 by the template 'total and deterministic' (their statements: YthnmeolbpgmebaaTotals.lean).
  GIVEN WITH THE SEED: the statements are not yours to turn. If you find one false, say at which input.
  Laid BY PROGRAM, IN A SANDBOX (cutbox-rows.mjs): the forced cells as the released guide's own fill.sh prints them over the translation 803390860f64095e… (all of the seat's roots in one cut). By AI agents, Wed Nov 11 2026. No macro, syntax, notation, axiom, sorry.
-/
import Derived.Test.YthnmeolbpgmebaaChecked
import GoSem.Claim
import GoSem.ClaimJoined
import GoSem.ClaimMapViews
import Derived.JoinedTies
import Derived.KernelRfl
namespace Go.Proofs.Ythnmeolbpgmebaa
/- THE CELL 'sum', in the pinned program and in every row, IS THE sha256 OF THE DUMP (.gsa) THAT YthnmeolbpgmebaaProg.lean LOADS. Nothing in Lean hashes anything: it is a label: what it is worth is what the hold of that sum in a sandbox is worth. -/
noncomputable def Try.pinned : Pinned := { name := "ythnmeolbpgmebaa", sum := "803390860f64095ec2eaa1c00f11ae4e7acbbbcd433b190a81404b2202eeac4c", checked := Try.checked }
namespace Rows
def none {H : Type} : Left H := { results := [], args := [] }

/-- 'carousellaw24.BucketTurns': WHATEVER THE INPUT: true; the input reads as it did. -/
def bucketTurnsSpec : ChangeSpec := { name := "bucketTurns", fn := fun _ => fun
  | [d] => { results := [.lit (.bool true)], args := [d] }
  | _ => none }
def bucketTurnsRow : OpenClaim := { program := "ythnmeolbpgmebaa", sum := "803390860f64095ec2eaa1c00f11ae4e7acbbbcd433b190a81404b2202eeac4c", func := "carousel/carousellaw24.BucketTurns", spec := "bucketTurns", apart := false }
def BucketTurnsSaid : Prop := bucketTurnsRow.holds Try.pinned (OpenSpec.ofChange bucketTurnsSpec)

/-- ITS FALSE NEIGHBOUR: 'it returns false'. Refute it at one input. -/
def bucketTurnsWrong : ChangeSpec := { name := "bucketTurns", fn := fun _ => fun
  | [d] => { results := [.lit (.bool false)], args := [d] }
  | _ => none }
def BucketTurnsWrongFalsely : Prop := bucketTurnsRow.holds Try.pinned (OpenSpec.ofChange bucketTurnsWrong)

/-- 'carousellaw24.BucketKnown': WHATEVER THE INPUT: true; the input reads as it did. -/
def bucketKnownSpec : ChangeSpec := { name := "bucketKnown", fn := fun _ => fun
  | [] => { results := [.lit (.bool true)], args := [] }
  | _ => none }
def bucketKnownRow : OpenClaim := { program := "ythnmeolbpgmebaa", sum := "803390860f64095ec2eaa1c00f11ae4e7acbbbcd433b190a81404b2202eeac4c", func := "carousel/carousellaw24.BucketKnown", spec := "bucketKnown", apart := false }
def BucketKnownSaid : Prop := bucketKnownRow.holds Try.pinned (OpenSpec.ofChange bucketKnownSpec)

/-- ITS FALSE NEIGHBOUR: 'it returns false'. Refute it at one input. -/
def bucketKnownWrong : ChangeSpec := { name := "bucketKnown", fn := fun _ => fun
  | [] => { results := [.lit (.bool false)], args := [] }
  | _ => none }
def BucketKnownWrongFalsely : Prop := bucketKnownRow.holds Try.pinned (OpenSpec.ofChange bucketKnownWrong)

/-- 'carousellaw24.BucketCovers': WHATEVER THE INPUT: true; the input reads as it did. -/
def bucketCoversSpec : ChangeSpec := { name := "bucketCovers", fn := fun _ => fun
  | [d1, d2, d3, d4] => { results := [.lit (.bool true)], args := [d1, d2, d3, d4] }
  | _ => none }
def bucketCoversRow : OpenClaim := { program := "ythnmeolbpgmebaa", sum := "803390860f64095ec2eaa1c00f11ae4e7acbbbcd433b190a81404b2202eeac4c", func := "carousel/carousellaw24.BucketCovers", spec := "bucketCovers", apart := false }
def BucketCoversSaid : Prop := bucketCoversRow.holds Try.pinned (OpenSpec.ofChange bucketCoversSpec)

/-- ITS FALSE NEIGHBOUR: 'it returns false'. Refute it at one input. -/
def bucketCoversWrong : ChangeSpec := { name := "bucketCovers", fn := fun _ => fun
  | [d1, d2, d3, d4] => { results := [.lit (.bool false)], args := [d1, d2, d3, d4] }
  | _ => none }
def BucketCoversWrongFalsely : Prop := bucketCoversRow.holds Try.pinned (OpenSpec.ofChange bucketCoversWrong)

/- THE SECOND FORM. 'bulk': how many values and letters a reading holds, each counted each time it is reached (what is shared counts as often as it is met; a slice's spare places count too). A statement '..UptoSaid' is the law's where the arguments, and the package variables that the reading takes, are together of bulk at most 1048576: NARROWER than '..Said'. Prove '..Said' where nothing that the law and all that it calls make is longer than what came in: it says more and counts as full. Else prove '..UptoSaid'. A law counts once. -/
mutual
def uptoBulk {H : Type} : DataW H → Nat
  | .lit (.string bytes) => bytes.length + 1
  | .lit _ => 1
  | .nil => 1
  | .ptr d => uptoBulk d + 1
  | .slice elems spare => uptoBulkAll elems + uptoBulkAll spare + 1
  | .agg parts => uptoBulkAll parts + 1
  | .iface _ d => uptoBulk d + 1
  | .map entries => uptoBulkEntries entries + 1
  | .held _ => 1
def uptoBulkAll {H : Type} : List (DataW H) → Nat
  | [] => 0
  | d :: r => uptoBulk d + uptoBulkAll r
def uptoBulkEntries {H : Type} : List (Lit × DataW H) → Nat
  | [] => 0
  | x :: r => uptoBulkEntry x + uptoBulkEntries r
def uptoBulkEntry {H : Type} : Lit × DataW H → Nat
  | (.string bytes, d) => bytes.length + uptoBulk d + 1
  | (_, d) => uptoBulk d + 1
 end
def uptoSmall : (H : Type) → List (DataW H) → Bool := fun _ ds => decide (uptoBulkAll ds ≤ 1048576)
def OpenSpec.upto (s : _root_.Go.ChangeSpec) : _root_.Go.OpenSpec := { _root_.Go.OpenSpec.ofChange s with cond := some uptoSmall }

/-- 'carousellaw24.BucketTurns', WHERE WHAT IT READS IS OF BULK AT MOST 1048576: true; the input reads as it did. -/
def bucketTurnsUptoRow : OpenClaim := { program := "ythnmeolbpgmebaa", sum := "803390860f64095ec2eaa1c00f11ae4e7acbbbcd433b190a81404b2202eeac4c", func := "carousel/carousellaw24.BucketTurns", spec := "bucketTurns", apart := false, narrowed := true }
def BucketTurnsUptoSaid : Prop := bucketTurnsUptoRow.holds Try.pinned (OpenSpec.upto bucketTurnsSpec)

/-- 'carousellaw24.BucketKnown', WHERE WHAT IT READS IS OF BULK AT MOST 1048576: true; the input reads as it did. -/
def bucketKnownUptoRow : OpenClaim := { program := "ythnmeolbpgmebaa", sum := "803390860f64095ec2eaa1c00f11ae4e7acbbbcd433b190a81404b2202eeac4c", func := "carousel/carousellaw24.BucketKnown", spec := "bucketKnown", apart := false, narrowed := true }
def BucketKnownUptoSaid : Prop := bucketKnownUptoRow.holds Try.pinned (OpenSpec.upto bucketKnownSpec)

/-- 'carousellaw24.BucketCovers', WHERE WHAT IT READS IS OF BULK AT MOST 1048576: true; the input reads as it did. -/
def bucketCoversUptoRow : OpenClaim := { program := "ythnmeolbpgmebaa", sum := "803390860f64095ec2eaa1c00f11ae4e7acbbbcd433b190a81404b2202eeac4c", func := "carousel/carousellaw24.BucketCovers", spec := "bucketCovers", apart := false, narrowed := true }
def BucketCoversUptoSaid : Prop := bucketCoversUptoRow.holds Try.pinned (OpenSpec.upto bucketCoversSpec)

end Rows
end Go.Proofs.Ythnmeolbpgmebaa
