/-
  No cell of these rows narrows 'for every input' (looked for: loops, veiled, ifaces, maps, wideKeys, modest, calm, conditions, laid).
  DERIVED. THE GIVEN ROWS OF THIS SEAT. 5 by the template 'for every input the law returns true; each argument reads behind the call as it read before'; 0 by the template 'total and deterministic' (their statements: YtbjjfgfepbklnaaTotals.lean).
  GIVEN WITH THE SEED: the statements are not yours to turn. If you find one false, say at which input.
  Laid BY PROGRAM, IN A SANDBOX (cutbox-rows.mjs): the forced cells as the released guide's own fill.sh prints them over the translation e301e1265845395c… (all of the seat's roots in one cut). By AI agents, Wed Nov 11 2026. No macro, syntax, notation, axiom, sorry.
-/
import Derived.Test.YtbjjfgfepbklnaaChecked
import GoSem.Claim
import GoSem.ClaimJoined
import GoSem.ClaimMapViews
import Derived.JoinedTies
import Derived.KernelRfl
namespace Go.Proofs.Ytbjjfgfepbklnaa
/- THE CELL 'sum', in the pinned program and in every row, IS THE sha256 OF THE DUMP (.gsa) THAT YtbjjfgfepbklnaaProg.lean LOADS. Nothing in Lean hashes anything: it is a label: what it is worth is what the hold of that sum in a sandbox is worth. -/
noncomputable def Try.pinned : Pinned := { name := "ytbjjfgfepbklnaa", sum := "e301e1265845395c53a15b587c17c6410cfa56ff321588752b0891575800cde5", checked := Try.checked }
namespace Rows
def none {H : Type} : Left H := { results := [], args := [] }

/-- 'carousellaw19.MsgKnown': WHATEVER THE INPUT: true; the input reads as it did. -/
def msgKnownSpec : ChangeSpec := { name := "msgKnown", fn := fun _ => fun
  | [] => { results := [.lit (.bool true)], args := [] }
  | _ => none }
def msgKnownRow : OpenClaim := { program := "ytbjjfgfepbklnaa", sum := "e301e1265845395c53a15b587c17c6410cfa56ff321588752b0891575800cde5", func := "carousel/carousellaw19.MsgKnown", spec := "msgKnown", apart := false }
def MsgKnownSaid : Prop := msgKnownRow.holds Try.pinned (OpenSpec.ofChange msgKnownSpec)

/-- ITS FALSE NEIGHBOUR: 'it returns false'. Refute it at one input. -/
def msgKnownWrong : ChangeSpec := { name := "msgKnown", fn := fun _ => fun
  | [] => { results := [.lit (.bool false)], args := [] }
  | _ => none }
def MsgKnownWrongFalsely : Prop := msgKnownRow.holds Try.pinned (OpenSpec.ofChange msgKnownWrong)

/-- 'carousellaw19.MsgSays': WHATEVER THE INPUT: true; the input reads as it did. -/
def msgSaysSpec : ChangeSpec := { name := "msgSays", fn := fun _ => fun
  | [d1, d2, d3] => { results := [.lit (.bool true)], args := [d1, d2, d3] }
  | _ => none }
def msgSaysRow : OpenClaim := { program := "ytbjjfgfepbklnaa", sum := "e301e1265845395c53a15b587c17c6410cfa56ff321588752b0891575800cde5", func := "carousel/carousellaw19.MsgSays", spec := "msgSays", apart := false }
def MsgSaysSaid : Prop := msgSaysRow.holds Try.pinned (OpenSpec.ofChange msgSaysSpec)

/-- ITS FALSE NEIGHBOUR: 'it returns false'. Refute it at one input. -/
def msgSaysWrong : ChangeSpec := { name := "msgSays", fn := fun _ => fun
  | [d1, d2, d3] => { results := [.lit (.bool false)], args := [d1, d2, d3] }
  | _ => none }
def MsgSaysWrongFalsely : Prop := msgSaysRow.holds Try.pinned (OpenSpec.ofChange msgSaysWrong)

/-- 'carousellaw19.MsgBack': WHATEVER THE INPUT: true; the input reads as it did. -/
def msgBackSpec : ChangeSpec := { name := "msgBack", fn := fun _ => fun
  | [d1, d2] => { results := [.lit (.bool true)], args := [d1, d2] }
  | _ => none }
def msgBackRow : OpenClaim := { program := "ytbjjfgfepbklnaa", sum := "e301e1265845395c53a15b587c17c6410cfa56ff321588752b0891575800cde5", func := "carousel/carousellaw19.MsgBack", spec := "msgBack", apart := false }
def MsgBackSaid : Prop := msgBackRow.holds Try.pinned (OpenSpec.ofChange msgBackSpec)

/-- ITS FALSE NEIGHBOUR: 'it returns false'. Refute it at one input. -/
def msgBackWrong : ChangeSpec := { name := "msgBack", fn := fun _ => fun
  | [d1, d2] => { results := [.lit (.bool false)], args := [d1, d2] }
  | _ => none }
def MsgBackWrongFalsely : Prop := msgBackRow.holds Try.pinned (OpenSpec.ofChange msgBackWrong)

/-- 'carousellaw19.MsgSpoilt': WHATEVER THE INPUT: true; the input reads as it did. -/
def msgSpoiltSpec : ChangeSpec := { name := "msgSpoilt", fn := fun _ => fun
  | [d1, d2, d3] => { results := [.lit (.bool true)], args := [d1, d2, d3] }
  | _ => none }
def msgSpoiltRow : OpenClaim := { program := "ytbjjfgfepbklnaa", sum := "e301e1265845395c53a15b587c17c6410cfa56ff321588752b0891575800cde5", func := "carousel/carousellaw19.MsgSpoilt", spec := "msgSpoilt", apart := false }
def MsgSpoiltSaid : Prop := msgSpoiltRow.holds Try.pinned (OpenSpec.ofChange msgSpoiltSpec)

/-- ITS FALSE NEIGHBOUR: 'it returns false'. Refute it at one input. -/
def msgSpoiltWrong : ChangeSpec := { name := "msgSpoilt", fn := fun _ => fun
  | [d1, d2, d3] => { results := [.lit (.bool false)], args := [d1, d2, d3] }
  | _ => none }
def MsgSpoiltWrongFalsely : Prop := msgSpoiltRow.holds Try.pinned (OpenSpec.ofChange msgSpoiltWrong)

/-- 'carousellaw19.MsgSizes': WHATEVER THE INPUT: true; the input reads as it did. -/
def msgSizesSpec : ChangeSpec := { name := "msgSizes", fn := fun _ => fun
  | [d1, d2] => { results := [.lit (.bool true)], args := [d1, d2] }
  | _ => none }
def msgSizesRow : OpenClaim := { program := "ytbjjfgfepbklnaa", sum := "e301e1265845395c53a15b587c17c6410cfa56ff321588752b0891575800cde5", func := "carousel/carousellaw19.MsgSizes", spec := "msgSizes", apart := false }
def MsgSizesSaid : Prop := msgSizesRow.holds Try.pinned (OpenSpec.ofChange msgSizesSpec)

/-- ITS FALSE NEIGHBOUR: 'it returns false'. Refute it at one input. -/
def msgSizesWrong : ChangeSpec := { name := "msgSizes", fn := fun _ => fun
  | [d1, d2] => { results := [.lit (.bool false)], args := [d1, d2] }
  | _ => none }
def MsgSizesWrongFalsely : Prop := msgSizesRow.holds Try.pinned (OpenSpec.ofChange msgSizesWrong)

/- THE SECOND FORM. 'bulk': how many values and letters a reading holds, each counted each time it is reached (what is shared counts as often as it is met; a slice's spare places count too). A statement '..UptoSaid' is the law's where the arguments, and the package variables that the reading takes, are together of bulk at most 1048576: NARROWER than '..Said'. Prove '..Said' where nothing that the law and all that it calls make is longer than what came in: it says more and counts as full. Else prove '..UptoSaid'. A law counts once. -/
mutual
def uptoBulk {H : Type} : DataW H → Nat
  | .lit (.string bytes) => bytes.length + 1
  | .lit _ => 1
  | .nil => 1
  | .ptr d => uptoBulk d + 1
  | .slice elems spare => uptoBulkAll elems + uptoBulkAll spare + 1
  | .agg parts => uptoBulkAll parts + 1
  | .iface _ d => uptoBulk d + 1
  | .map entries => uptoBulkEntries entries + 1
  | .held _ => 1
def uptoBulkAll {H : Type} : List (DataW H) → Nat
  | [] => 0
  | d :: r => uptoBulk d + uptoBulkAll r
def uptoBulkEntries {H : Type} : List (Lit × DataW H) → Nat
  | [] => 0
  | x :: r => uptoBulkEntry x + uptoBulkEntries r
def uptoBulkEntry {H : Type} : Lit × DataW H → Nat
  | (.string bytes, d) => bytes.length + uptoBulk d + 1
  | (_, d) => uptoBulk d + 1
 end
def uptoSmall : (H : Type) → List (DataW H) → Bool := fun _ ds => decide (uptoBulkAll ds ≤ 1048576)
def OpenSpec.upto (s : _root_.Go.ChangeSpec) : _root_.Go.OpenSpec := { _root_.Go.OpenSpec.ofChange s with cond := some uptoSmall }

/-- 'carousellaw19.MsgKnown', WHERE WHAT IT READS IS OF BULK AT MOST 1048576: true; the input reads as it did. -/
def msgKnownUptoRow : OpenClaim := { program := "ytbjjfgfepbklnaa", sum := "e301e1265845395c53a15b587c17c6410cfa56ff321588752b0891575800cde5", func := "carousel/carousellaw19.MsgKnown", spec := "msgKnown", apart := false, narrowed := true }
def MsgKnownUptoSaid : Prop := msgKnownUptoRow.holds Try.pinned (OpenSpec.upto msgKnownSpec)

/-- 'carousellaw19.MsgSays', WHERE WHAT IT READS IS OF BULK AT MOST 1048576: true; the input reads as it did. -/
def msgSaysUptoRow : OpenClaim := { program := "ytbjjfgfepbklnaa", sum := "e301e1265845395c53a15b587c17c6410cfa56ff321588752b0891575800cde5", func := "carousel/carousellaw19.MsgSays", spec := "msgSays", apart := false, narrowed := true }
def MsgSaysUptoSaid : Prop := msgSaysUptoRow.holds Try.pinned (OpenSpec.upto msgSaysSpec)

/-- 'carousellaw19.MsgBack', WHERE WHAT IT READS IS OF BULK AT MOST 1048576: true; the input reads as it did. -/
def msgBackUptoRow : OpenClaim := { program := "ytbjjfgfepbklnaa", sum := "e301e1265845395c53a15b587c17c6410cfa56ff321588752b0891575800cde5", func := "carousel/carousellaw19.MsgBack", spec := "msgBack", apart := false, narrowed := true }
def MsgBackUptoSaid : Prop := msgBackUptoRow.holds Try.pinned (OpenSpec.upto msgBackSpec)

/-- 'carousellaw19.MsgSpoilt', WHERE WHAT IT READS IS OF BULK AT MOST 1048576: true; the input reads as it did. -/
def msgSpoiltUptoRow : OpenClaim := { program := "ytbjjfgfepbklnaa", sum := "e301e1265845395c53a15b587c17c6410cfa56ff321588752b0891575800cde5", func := "carousel/carousellaw19.MsgSpoilt", spec := "msgSpoilt", apart := false, narrowed := true }
def MsgSpoiltUptoSaid : Prop := msgSpoiltUptoRow.holds Try.pinned (OpenSpec.upto msgSpoiltSpec)

/-- 'carousellaw19.MsgSizes', WHERE WHAT IT READS IS OF BULK AT MOST 1048576: true; the input reads as it did. -/
def msgSizesUptoRow : OpenClaim := { program := "ytbjjfgfepbklnaa", sum := "e301e1265845395c53a15b587c17c6410cfa56ff321588752b0891575800cde5", func := "carousel/carousellaw19.MsgSizes", spec := "msgSizes", apart := false, narrowed := true }
def MsgSizesUptoSaid : Prop := msgSizesUptoRow.holds Try.pinned (OpenSpec.upto msgSizesSpec)

end Rows
end Go.Proofs.Ytbjjfgfepbklnaa
