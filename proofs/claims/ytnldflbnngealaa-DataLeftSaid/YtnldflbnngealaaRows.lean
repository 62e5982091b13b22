/-
  No cell of these rows narrows 'for every input' (looked for: loops, veiled, ifaces, maps, wideKeys, modest, calm, conditions, laid).
  DERIVED. THE GIVEN ROWS OF THIS SEAT. 6 by the template 'for every input the law returns true; each argument reads behind the call as it read before'; 0 by the template 'total and deterministic' (their statements: YtnldflbnngealaaTotals.lean).
  GIVEN WITH THE SEED: the statements are not yours to turn. If you find one false, say at which input.
  Laid BY PROGRAM, IN A SANDBOX (cutbox-rows.mjs): the forced cells as the released guide's own fill.sh prints them over the translation 206927fd9179f047… (all of the seat's roots in one cut). By AI agents, Wed Nov 11 2026. No macro, syntax, notation, axiom, sorry.
-/
import Derived.Test.YtnldflbnngealaaChecked
import GoSem.Claim
import GoSem.ClaimJoined
import GoSem.ClaimMapViews
import Derived.JoinedTies
import Derived.KernelRfl
namespace Go.Proofs.Ytnldflbnngealaa
/- THE CELL 'sum', in the pinned program and in every row, IS THE sha256 OF THE DUMP (.gsa) THAT YtnldflbnngealaaProg.lean LOADS. Nothing in Lean hashes anything: it is a label: what it is worth is what the hold of that sum in a sandbox is worth. -/
noncomputable def Try.pinned : Pinned := { name := "ytnldflbnngealaa", sum := "206927fd9179f0475f859902854d159701fbbf2f303dfbc2d65bc9cdb36e2b0c", checked := Try.checked }
namespace Rows
def none {H : Type} : Left H := { results := [], args := [] }

/-- 'carousellaw16.DataKnown': WHATEVER THE INPUT: true; the input reads as it did. -/
def dataKnownSpec : ChangeSpec := { name := "dataKnown", fn := fun _ => fun
  | [] => { results := [.lit (.bool true)], args := [] }
  | _ => none }
def dataKnownRow : OpenClaim := { program := "ytnldflbnngealaa", sum := "206927fd9179f0475f859902854d159701fbbf2f303dfbc2d65bc9cdb36e2b0c", func := "carousel/carousellaw16.DataKnown", spec := "dataKnown", apart := false }
def DataKnownSaid : Prop := dataKnownRow.holds Try.pinned (OpenSpec.ofChange dataKnownSpec)

/-- ITS FALSE NEIGHBOUR: 'it returns false'. Refute it at one input. -/
def dataKnownWrong : ChangeSpec := { name := "dataKnown", fn := fun _ => fun
  | [] => { results := [.lit (.bool false)], args := [] }
  | _ => none }
def DataKnownWrongFalsely : Prop := dataKnownRow.holds Try.pinned (OpenSpec.ofChange dataKnownWrong)

/-- 'carousellaw16.DataSays': WHATEVER THE INPUT: true; the input reads as it did. -/
def dataSaysSpec : ChangeSpec := { name := "dataSays", fn := fun _ => fun
  | [d1, d2, d3, d4, d5, d6] => { results := [.lit (.bool true)], args := [d1, d2, d3, d4, d5, d6] }
  | _ => none }
def dataSaysRow : OpenClaim := { program := "ytnldflbnngealaa", sum := "206927fd9179f0475f859902854d159701fbbf2f303dfbc2d65bc9cdb36e2b0c", func := "carousel/carousellaw16.DataSays", spec := "dataSays", apart := false }
def DataSaysSaid : Prop := dataSaysRow.holds Try.pinned (OpenSpec.ofChange dataSaysSpec)

/-- ITS FALSE NEIGHBOUR: 'it returns false'. Refute it at one input. -/
def dataSaysWrong : ChangeSpec := { name := "dataSays", fn := fun _ => fun
  | [d1, d2, d3, d4, d5, d6] => { results := [.lit (.bool false)], args := [d1, d2, d3, d4, d5, d6] }
  | _ => none }
def DataSaysWrongFalsely : Prop := dataSaysRow.holds Try.pinned (OpenSpec.ofChange dataSaysWrong)

/-- 'carousellaw16.DataShares': WHATEVER THE INPUT: true; the input reads as it did. -/
def dataSharesSpec : ChangeSpec := { name := "dataShares", fn := fun _ => fun
  | [d1, d2] => { results := [.lit (.bool true)], args := [d1, d2] }
  | _ => none }
def dataSharesRow : OpenClaim := { program := "ytnldflbnngealaa", sum := "206927fd9179f0475f859902854d159701fbbf2f303dfbc2d65bc9cdb36e2b0c", func := "carousel/carousellaw16.DataShares", spec := "dataShares", apart := false }
def DataSharesSaid : Prop := dataSharesRow.holds Try.pinned (OpenSpec.ofChange dataSharesSpec)

/-- ITS FALSE NEIGHBOUR: 'it returns false'. Refute it at one input. -/
def dataSharesWrong : ChangeSpec := { name := "dataShares", fn := fun _ => fun
  | [d1, d2] => { results := [.lit (.bool false)], args := [d1, d2] }
  | _ => none }
def DataSharesWrongFalsely : Prop := dataSharesRow.holds Try.pinned (OpenSpec.ofChange dataSharesWrong)

/-- 'carousellaw16.DataTurns': WHATEVER THE INPUT: true; the input reads as it did. -/
def dataTurnsSpec : ChangeSpec := { name := "dataTurns", fn := fun _ => fun
  | [d1, d2, d3] => { results := [.lit (.bool true)], args := [d1, d2, d3] }
  | _ => none }
def dataTurnsRow : OpenClaim := { program := "ytnldflbnngealaa", sum := "206927fd9179f0475f859902854d159701fbbf2f303dfbc2d65bc9cdb36e2b0c", func := "carousel/carousellaw16.DataTurns", spec := "dataTurns", apart := false }
def DataTurnsSaid : Prop := dataTurnsRow.holds Try.pinned (OpenSpec.ofChange dataTurnsSpec)

/-- ITS FALSE NEIGHBOUR: 'it returns false'. Refute it at one input. -/
def dataTurnsWrong : ChangeSpec := { name := "dataTurns", fn := fun _ => fun
  | [d1, d2, d3] => { results := [.lit (.bool false)], args := [d1, d2, d3] }
  | _ => none }
def DataTurnsWrongFalsely : Prop := dataTurnsRow.holds Try.pinned (OpenSpec.ofChange dataTurnsWrong)

/-- 'carousellaw16.DataOnce': WHATEVER THE INPUT: true; the input reads as it did. -/
def dataOnceSpec : ChangeSpec := { name := "dataOnce", fn := fun _ => fun
  | [d1, d2, d3] => { results := [.lit (.bool true)], args := [d1, d2, d3] }
  | _ => none }
def dataOnceRow : OpenClaim := { program := "ytnldflbnngealaa", sum := "206927fd9179f0475f859902854d159701fbbf2f303dfbc2d65bc9cdb36e2b0c", func := "carousel/carousellaw16.DataOnce", spec := "dataOnce", apart := false }
def DataOnceSaid : Prop := dataOnceRow.holds Try.pinned (OpenSpec.ofChange dataOnceSpec)

/-- ITS FALSE NEIGHBOUR: 'it returns false'. Refute it at one input. -/
def dataOnceWrong : ChangeSpec := { name := "dataOnce", fn := fun _ => fun
  | [d1, d2, d3] => { results := [.lit (.bool false)], args := [d1, d2, d3] }
  | _ => none }
def DataOnceWrongFalsely : Prop := dataOnceRow.holds Try.pinned (OpenSpec.ofChange dataOnceWrong)

/-- 'carousellaw16.DataLeft': WHATEVER THE INPUT: true; the input reads as it did. -/
def dataLeftSpec : ChangeSpec := { name := "dataLeft", fn := fun _ => fun
  | [d1, d2, d3] => { results := [.lit (.bool true)], args := [d1, d2, d3] }
  | _ => none }
def dataLeftRow : OpenClaim := { program := "ytnldflbnngealaa", sum := "206927fd9179f0475f859902854d159701fbbf2f303dfbc2d65bc9cdb36e2b0c", func := "carousel/carousellaw16.DataLeft", spec := "dataLeft", apart := false }
def DataLeftSaid : Prop := dataLeftRow.holds Try.pinned (OpenSpec.ofChange dataLeftSpec)

/-- ITS FALSE NEIGHBOUR: 'it returns false'. Refute it at one input. -/
def dataLeftWrong : ChangeSpec := { name := "dataLeft", fn := fun _ => fun
  | [d1, d2, d3] => { results := [.lit (.bool false)], args := [d1, d2, d3] }
  | _ => none }
def DataLeftWrongFalsely : Prop := dataLeftRow.holds Try.pinned (OpenSpec.ofChange dataLeftWrong)

/- THE SECOND FORM. 'bulk': how many values and letters a reading holds, each counted each time it is reached (what is shared counts as often as it is met; a slice's spare places count too). A statement '..UptoSaid' is the law's where the arguments, and the package variables that the reading takes, are together of bulk at most 1048576: NARROWER than '..Said'. Prove '..Said' where nothing that the law and all that it calls make is longer than what came in: it says more and counts as full. Else prove '..UptoSaid'. A law counts once. -/
mutual
def uptoBulk {H : Type} : DataW H → Nat
  | .lit (.string bytes) => bytes.length + 1
  | .lit _ => 1
  | .nil => 1
  | .ptr d => uptoBulk d + 1
  | .slice elems spare => uptoBulkAll elems + uptoBulkAll spare + 1
  | .agg parts => uptoBulkAll parts + 1
  | .iface _ d => uptoBulk d + 1
  | .map entries => uptoBulkEntries entries + 1
  | .held _ => 1
def uptoBulkAll {H : Type} : List (DataW H) → Nat
  | [] => 0
  | d :: r => uptoBulk d + uptoBulkAll r
def uptoBulkEntries {H : Type} : List (Lit × DataW H) → Nat
  | [] => 0
  | x :: r => uptoBulkEntry x + uptoBulkEntries r
def uptoBulkEntry {H : Type} : Lit × DataW H → Nat
  | (.string bytes, d) => bytes.length + uptoBulk d + 1
  | (_, d) => uptoBulk d + 1
 end
def uptoSmall : (H : Type) → List (DataW H) → Bool := fun _ ds => decide (uptoBulkAll ds ≤ 1048576)
def OpenSpec.upto (s : _root_.Go.ChangeSpec) : _root_.Go.OpenSpec := { _root_.Go.OpenSpec.ofChange s with cond := some uptoSmall }

/-- 'carousellaw16.DataKnown', WHERE WHAT IT READS IS OF BULK AT MOST 1048576: true; the input reads as it did. -/
def dataKnownUptoRow : OpenClaim := { program := "ytnldflbnngealaa", sum := "206927fd9179f0475f859902854d159701fbbf2f303dfbc2d65bc9cdb36e2b0c", func := "carousel/carousellaw16.DataKnown", spec := "dataKnown", apart := false, narrowed := true }
def DataKnownUptoSaid : Prop := dataKnownUptoRow.holds Try.pinned (OpenSpec.upto dataKnownSpec)

/-- 'carousellaw16.DataSays', WHERE WHAT IT READS IS OF BULK AT MOST 1048576: true; the input reads as it did. -/
def dataSaysUptoRow : OpenClaim := { program := "ytnldflbnngealaa", sum := "206927fd9179f0475f859902854d159701fbbf2f303dfbc2d65bc9cdb36e2b0c", func := "carousel/carousellaw16.DataSays", spec := "dataSays", apart := false, narrowed := true }
def DataSaysUptoSaid : Prop := dataSaysUptoRow.holds Try.pinned (OpenSpec.upto dataSaysSpec)

/-- 'carousellaw16.DataShares', WHERE WHAT IT READS IS OF BULK AT MOST 1048576: true; the input reads as it did. -/
def dataSharesUptoRow : OpenClaim := { program := "ytnldflbnngealaa", sum := "206927fd9179f0475f859902854d159701fbbf2f303dfbc2d65bc9cdb36e2b0c", func := "carousel/carousellaw16.DataShares", spec := "dataShares", apart := false, narrowed := true }
def DataSharesUptoSaid : Prop := dataSharesUptoRow.holds Try.pinned (OpenSpec.upto dataSharesSpec)

/-- 'carousellaw16.DataTurns', WHERE WHAT IT READS IS OF BULK AT MOST 1048576: true; the input reads as it did. -/
def dataTurnsUptoRow : OpenClaim := { program := "ytnldflbnngealaa", sum := "206927fd9179f0475f859902854d159701fbbf2f303dfbc2d65bc9cdb36e2b0c", func := "carousel/carousellaw16.DataTurns", spec := "dataTurns", apart := false, narrowed := true }
def DataTurnsUptoSaid : Prop := dataTurnsUptoRow.holds Try.pinned (OpenSpec.upto dataTurnsSpec)

/-- 'carousellaw16.DataOnce', WHERE WHAT IT READS IS OF BULK AT MOST 1048576: true; the input reads as it did. -/
def dataOnceUptoRow : OpenClaim := { program := "ytnldflbnngealaa", sum := "206927fd9179f0475f859902854d159701fbbf2f303dfbc2d65bc9cdb36e2b0c", func := "carousel/carousellaw16.DataOnce", spec := "dataOnce", apart := false, narrowed := true }
def DataOnceUptoSaid : Prop := dataOnceUptoRow.holds Try.pinned (OpenSpec.upto dataOnceSpec)

/-- 'carousellaw16.DataLeft', WHERE WHAT IT READS IS OF BULK AT MOST 1048576: true; the input reads as it did. -/
def dataLeftUptoRow : OpenClaim := { program := "ytnldflbnngealaa", sum := "206927fd9179f0475f859902854d159701fbbf2f303dfbc2d65bc9cdb36e2b0c", func := "carousel/carousellaw16.DataLeft", spec := "dataLeft", apart := false, narrowed := true }
def DataLeftUptoSaid : Prop := dataLeftUptoRow.holds Try.pinned (OpenSpec.upto dataLeftSpec)

end Rows
end Go.Proofs.Ytnldflbnngealaa
