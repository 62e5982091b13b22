/-
  No cell of these rows narrows 'for every input' (looked for: loops, veiled, ifaces, maps, wideKeys, modest, calm, conditions, laid).
  DERIVED. THE GIVEN ROWS OF THIS SEAT. 5 by the template 'for every input the law returns true; each argument reads behind the call as it read before'; 0 by the template 'total and deterministic' (their statements: YtbkpgkkfkjlnnaaTotals.lean).
  GIVEN WITH THE SEED: the statements are not yours to turn. If you find one false, say at which input.
  Laid BY PROGRAM, IN A SANDBOX (cutbox-rows.mjs): the forced cells as the released guide's own fill.sh prints them over the translation a20db281bfd65fba… (all of the seat's roots in one cut). By AI agents, Wed Nov 11 2026. No macro, syntax, notation, axiom, sorry.
-/
import Derived.Test.YtbkpgkkfkjlnnaaChecked
import GoSem.Claim
import GoSem.ClaimJoined
import GoSem.ClaimMapViews
import Derived.JoinedTies
import Derived.KernelRfl
namespace Go.Proofs.Ytbkpgkkfkjlnnaa
/- THE CELL 'sum', in the pinned program and in every row, IS THE sha256 OF THE DUMP (.gsa) THAT YtbkpgkkfkjlnnaaProg.lean LOADS. Nothing in Lean hashes anything: it is a label: what it is worth is what the hold of that sum in a sandbox is worth. -/
noncomputable def Try.pinned : Pinned := { name := "ytbkpgkkfkjlnnaa", sum := "a20db281bfd65fbae7d028569d935f2806251e88d677b563b3e515af60bf711b", checked := Try.checked }
namespace Rows
def none {H : Type} : Left H := { results := [], args := [] }

/-- 'carousellaw21.LinkFull': WHATEVER THE INPUT: true; the input reads as it did. -/
def linkFullSpec : ChangeSpec := { name := "linkFull", fn := fun _ => fun
  | [d] => { results := [.lit (.bool true)], args := [d] }
  | _ => none }
def linkFullRow : OpenClaim := { program := "ytbkpgkkfkjlnnaa", sum := "a20db281bfd65fbae7d028569d935f2806251e88d677b563b3e515af60bf711b", func := "carousel/carousellaw21.LinkFull", spec := "linkFull", apart := false }
def LinkFullSaid : Prop := linkFullRow.holds Try.pinned (OpenSpec.ofChange linkFullSpec)

/-- ITS FALSE NEIGHBOUR: 'it returns false'. Refute it at one input. -/
def linkFullWrong : ChangeSpec := { name := "linkFull", fn := fun _ => fun
  | [d] => { results := [.lit (.bool false)], args := [d] }
  | _ => none }
def LinkFullWrongFalsely : Prop := linkFullRow.holds Try.pinned (OpenSpec.ofChange linkFullWrong)

/-- 'carousellaw21.LinkAgain': WHATEVER THE INPUT: true; the input reads as it did. -/
def linkAgainSpec : ChangeSpec := { name := "linkAgain", fn := fun _ => fun
  | [d1, d2, d3] => { results := [.lit (.bool true)], args := [d1, d2, d3] }
  | _ => none }
def linkAgainRow : OpenClaim := { program := "ytbkpgkkfkjlnnaa", sum := "a20db281bfd65fbae7d028569d935f2806251e88d677b563b3e515af60bf711b", func := "carousel/carousellaw21.LinkAgain", spec := "linkAgain", unfollowed := true, recurses := true, apart := false }
def LinkAgainSaid : Prop := linkAgainRow.holds Try.pinned (OpenSpec.ofChange linkAgainSpec)

/-- ITS FALSE NEIGHBOUR: 'it returns false'. Refute it at one input. -/
def linkAgainWrong : ChangeSpec := { name := "linkAgain", fn := fun _ => fun
  | [d1, d2, d3] => { results := [.lit (.bool false)], args := [d1, d2, d3] }
  | _ => none }
def LinkAgainWrongFalsely : Prop := linkAgainRow.holds Try.pinned (OpenSpec.ofChange linkAgainWrong)

/-- 'carousellaw21.LinkKnown': WHATEVER THE INPUT: true; the input reads as it did. -/
def linkKnownSpec : ChangeSpec := { name := "linkKnown", fn := fun _ => fun
  | [] => { results := [.lit (.bool true)], args := [] }
  | _ => none }
def linkKnownRow : OpenClaim := { program := "ytbkpgkkfkjlnnaa", sum := "a20db281bfd65fbae7d028569d935f2806251e88d677b563b3e515af60bf711b", func := "carousel/carousellaw21.LinkKnown", spec := "linkKnown", unfollowed := true, recurses := true, apart := false }
def LinkKnownSaid : Prop := linkKnownRow.holds Try.pinned (OpenSpec.ofChange linkKnownSpec)

/-- ITS FALSE NEIGHBOUR: 'it returns false'. Refute it at one input. -/
def linkKnownWrong : ChangeSpec := { name := "linkKnown", fn := fun _ => fun
  | [] => { results := [.lit (.bool false)], args := [] }
  | _ => none }
def LinkKnownWrongFalsely : Prop := linkKnownRow.holds Try.pinned (OpenSpec.ofChange linkKnownWrong)

/-- 'carousellaw21.LinkPlays': WHATEVER THE INPUT: true; the input reads as it did. -/
def linkPlaysSpec : ChangeSpec := { name := "linkPlays", fn := fun _ => fun
  | [d1, d2, d3, d4] => { results := [.lit (.bool true)], args := [d1, d2, d3, d4] }
  | _ => none }
def linkPlaysRow : OpenClaim := { program := "ytbkpgkkfkjlnnaa", sum := "a20db281bfd65fbae7d028569d935f2806251e88d677b563b3e515af60bf711b", func := "carousel/carousellaw21.LinkPlays", spec := "linkPlays", unfollowed := true, recurses := true, apart := false }
def LinkPlaysSaid : Prop := linkPlaysRow.holds Try.pinned (OpenSpec.ofChange linkPlaysSpec)

/-- ITS FALSE NEIGHBOUR: 'it returns false'. Refute it at one input. -/
def linkPlaysWrong : ChangeSpec := { name := "linkPlays", fn := fun _ => fun
  | [d1, d2, d3, d4] => { results := [.lit (.bool false)], args := [d1, d2, d3, d4] }
  | _ => none }
def LinkPlaysWrongFalsely : Prop := linkPlaysRow.holds Try.pinned (OpenSpec.ofChange linkPlaysWrong)

/-- 'carousellaw21.LinkElder': WHATEVER THE INPUT: true; the input reads as it did. -/
def linkElderSpec : ChangeSpec := { name := "linkElder", fn := fun _ => fun
  | [d1, d2] => { results := [.lit (.bool true)], args := [d1, d2] }
  | _ => none }
def linkElderRow : OpenClaim := { program := "ytbkpgkkfkjlnnaa", sum := "a20db281bfd65fbae7d028569d935f2806251e88d677b563b3e515af60bf711b", func := "carousel/carousellaw21.LinkElder", spec := "linkElder", unfollowed := true, recurses := true, apart := false }
def LinkElderSaid : Prop := linkElderRow.holds Try.pinned (OpenSpec.ofChange linkElderSpec)

/-- ITS FALSE NEIGHBOUR: 'it returns false'. Refute it at one input. -/
def linkElderWrong : ChangeSpec := { name := "linkElder", fn := fun _ => fun
  | [d1, d2] => { results := [.lit (.bool false)], args := [d1, d2] }
  | _ => none }
def LinkElderWrongFalsely : Prop := linkElderRow.holds Try.pinned (OpenSpec.ofChange linkElderWrong)

/- THE SECOND FORM. 'bulk': how many values and letters a reading holds, each counted each time it is reached (what is shared counts as often as it is met; a slice's spare places count too). A statement '..UptoSaid' is the law's where the arguments, and the package variables that the reading takes, are together of bulk at most 1048576: NARROWER than '..Said'. Prove '..Said' where nothing that the law and all that it calls make is longer than what came in: it says more and counts as full. Else prove '..UptoSaid'. A law counts once. -/
mutual
def uptoBulk {H : Type} : DataW H → Nat
  | .lit (.string bytes) => bytes.length + 1
  | .lit _ => 1
  | .nil => 1
  | .ptr d => uptoBulk d + 1
  | .slice elems spare => uptoBulkAll elems + uptoBulkAll spare + 1
  | .agg parts => uptoBulkAll parts + 1
  | .iface _ d => uptoBulk d + 1
  | .map entries => uptoBulkEntries entries + 1
  | .held _ => 1
def uptoBulkAll {H : Type} : List (DataW H) → Nat
  | [] => 0
  | d :: r => uptoBulk d + uptoBulkAll r
def uptoBulkEntries {H : Type} : List (Lit × DataW H) → Nat
  | [] => 0
  | x :: r => uptoBulkEntry x + uptoBulkEntries r
def uptoBulkEntry {H : Type} : Lit × DataW H → Nat
  | (.string bytes, d) => bytes.length + uptoBulk d + 1
  | (_, d) => uptoBulk d + 1
 end
def uptoSmall : (H : Type) → List (DataW H) → Bool := fun _ ds => decide (uptoBulkAll ds ≤ 1048576)
def OpenSpec.upto (s : _root_.Go.ChangeSpec) : _root_.Go.OpenSpec := { _root_.Go.OpenSpec.ofChange s with cond := some uptoSmall }

/-- 'carousellaw21.LinkFull', WHERE WHAT IT READS IS OF BULK AT MOST 1048576: true; the input reads as it did. -/
def linkFullUptoRow : OpenClaim := { program := "ytbkpgkkfkjlnnaa", sum := "a20db281bfd65fbae7d028569d935f2806251e88d677b563b3e515af60bf711b", func := "carousel/carousellaw21.LinkFull", spec := "linkFull", apart := false, narrowed := true }
def LinkFullUptoSaid : Prop := linkFullUptoRow.holds Try.pinned (OpenSpec.upto linkFullSpec)

/-- 'carousellaw21.LinkAgain', WHERE WHAT IT READS IS OF BULK AT MOST 1048576: true; the input reads as it did. -/
def linkAgainUptoRow : OpenClaim := { program := "ytbkpgkkfkjlnnaa", sum := "a20db281bfd65fbae7d028569d935f2806251e88d677b563b3e515af60bf711b", func := "carousel/carousellaw21.LinkAgain", spec := "linkAgain", unfollowed := true, recurses := true, apart := false, narrowed := true }
def LinkAgainUptoSaid : Prop := linkAgainUptoRow.holds Try.pinned (OpenSpec.upto linkAgainSpec)

/-- 'carousellaw21.LinkKnown', WHERE WHAT IT READS IS OF BULK AT MOST 1048576: true; the input reads as it did. -/
def linkKnownUptoRow : OpenClaim := { program := "ytbkpgkkfkjlnnaa", sum := "a20db281bfd65fbae7d028569d935f2806251e88d677b563b3e515af60bf711b", func := "carousel/carousellaw21.LinkKnown", spec := "linkKnown", unfollowed := true, recurses := true, apart := false, narrowed := true }
def LinkKnownUptoSaid : Prop := linkKnownUptoRow.holds Try.pinned (OpenSpec.upto linkKnownSpec)

/-- 'carousellaw21.LinkPlays', WHERE WHAT IT READS IS OF BULK AT MOST 1048576: true; the input reads as it did. -/
def linkPlaysUptoRow : OpenClaim := { program := "ytbkpgkkfkjlnnaa", sum := "a20db281bfd65fbae7d028569d935f2806251e88d677b563b3e515af60bf711b", func := "carousel/carousellaw21.LinkPlays", spec := "linkPlays", unfollowed := true, recurses := true, apart := false, narrowed := true }
def LinkPlaysUptoSaid : Prop := linkPlaysUptoRow.holds Try.pinned (OpenSpec.upto linkPlaysSpec)

/-- 'carousellaw21.LinkElder', WHERE WHAT IT READS IS OF BULK AT MOST 1048576: true; the input reads as it did. -/
def linkElderUptoRow : OpenClaim := { program := "ytbkpgkkfkjlnnaa", sum := "a20db281bfd65fbae7d028569d935f2806251e88d677b563b3e515af60bf711b", func := "carousel/carousellaw21.LinkElder", spec := "linkElder", unfollowed := true, recurses := true, apart := false, narrowed := true }
def LinkElderUptoSaid : Prop := linkElderUptoRow.holds Try.pinned (OpenSpec.upto linkElderSpec)

end Rows
end Go.Proofs.Ytbkpgkkfkjlnnaa
