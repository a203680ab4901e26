/-
  No cell of these rows narrows 'for every input' (looked for: loops, veiled, ifaces, maps, wideKeys, modest, calm, conditions, laid).
  DERIVED. THE GIVEN ROWS OF THIS SEAT. 6 by the template 'for every input the law returns true; each argument reads behind the call as it read before'; 0 by the template 'total and deterministic' (their statements: YtmniedinfepmjaaTotals.lean).
  GIVEN WITH THE SEED: the statements are not yours to turn. If you find one false, say at which input.
  Laid BY PROGRAM, IN A SANDBOX (cutbox-rows.mjs): the forced cells as the released guide's own fill.sh prints them over the translation d96cf7496b79f2fa… (all of the seat's roots in one cut). By AI agents, Wed Nov 11 2026. No macro, syntax, notation, axiom, sorry.
-/
import Derived.Test.YtmniedinfepmjaaChecked
import GoSem.Claim
import GoSem.ClaimJoined
import GoSem.ClaimMapViews
import Derived.JoinedTies
import Derived.KernelRfl
namespace Go.Proofs.Ytmniedinfepmjaa
/- THE CELL 'sum', in the pinned program and in every row, IS THE sha256 OF THE DUMP (.gsa) THAT YtmniedinfepmjaaProg.lean LOADS. Nothing in Lean hashes anything: it is a label: what it is worth is what the hold of that sum in a sandbox is worth. -/
noncomputable def Try.pinned : Pinned := { name := "ytmniedinfepmjaa", sum := "d96cf7496b79f2fa765d0532eda2e6d8f9c51aea8d86d605dbca8e896ddbfb78", checked := Try.checked }
namespace Rows
def none {H : Type} : Left H := { results := [], args := [] }

/-- 'mudlarklaw06.MediumTwice': WHATEVER THE INPUT: true; the input reads as it did. -/
def mediumTwiceSpec : ChangeSpec := { name := "mediumTwice", fn := fun _ => fun
  | [d1, d2, d3] => { results := [.lit (.bool true)], args := [d1, d2, d3] }
  | _ => none }
def mediumTwiceRow : OpenClaim := { program := "ytmniedinfepmjaa", sum := "d96cf7496b79f2fa765d0532eda2e6d8f9c51aea8d86d605dbca8e896ddbfb78", func := "mudlark/mudlarklaw06.MediumTwice", spec := "mediumTwice", unfollowed := true, recurses := true, apart := false }
def MediumTwiceSaid : Prop := mediumTwiceRow.holds Try.pinned (OpenSpec.ofChange mediumTwiceSpec)

/-- ITS FALSE NEIGHBOUR: 'it returns false'. Refute it at one input. -/
def mediumTwiceWrong : ChangeSpec := { name := "mediumTwice", fn := fun _ => fun
  | [d1, d2, d3] => { results := [.lit (.bool false)], args := [d1, d2, d3] }
  | _ => none }
def MediumTwiceWrongFalsely : Prop := mediumTwiceRow.holds Try.pinned (OpenSpec.ofChange mediumTwiceWrong)

/-- 'mudlarklaw06.MediumBlocks': WHATEVER THE INPUT: true; the input reads as it did. -/
def mediumBlocksSpec : ChangeSpec := { name := "mediumBlocks", fn := fun _ => fun
  | [d1, d2, d3, d4, d5, d6, d7] => { results := [.lit (.bool true)], args := [d1, d2, d3, d4, d5, d6, d7] }
  | _ => none }
def mediumBlocksRow : OpenClaim := { program := "ytmniedinfepmjaa", sum := "d96cf7496b79f2fa765d0532eda2e6d8f9c51aea8d86d605dbca8e896ddbfb78", func := "mudlark/mudlarklaw06.MediumBlocks", spec := "mediumBlocks", unfollowed := true, recurses := true, apart := false }
def MediumBlocksSaid : Prop := mediumBlocksRow.holds Try.pinned (OpenSpec.ofChange mediumBlocksSpec)

/-- ITS FALSE NEIGHBOUR: 'it returns false'. Refute it at one input. -/
def mediumBlocksWrong : ChangeSpec := { name := "mediumBlocks", fn := fun _ => fun
  | [d1, d2, d3, d4, d5, d6, d7] => { results := [.lit (.bool false)], args := [d1, d2, d3, d4, d5, d6, d7] }
  | _ => none }
def MediumBlocksWrongFalsely : Prop := mediumBlocksRow.holds Try.pinned (OpenSpec.ofChange mediumBlocksWrong)

/-- 'mudlarklaw06.MediumWhole': WHATEVER THE INPUT: true; the input reads as it did. -/
def mediumWholeSpec : ChangeSpec := { name := "mediumWhole", fn := fun _ => fun
  | [d1, d2] => { results := [.lit (.bool true)], args := [d1, d2] }
  | _ => none }
def mediumWholeRow : OpenClaim := { program := "ytmniedinfepmjaa", sum := "d96cf7496b79f2fa765d0532eda2e6d8f9c51aea8d86d605dbca8e896ddbfb78", func := "mudlark/mudlarklaw06.MediumWhole", spec := "mediumWhole", unfollowed := true, recurses := true, apart := false }
def MediumWholeSaid : Prop := mediumWholeRow.holds Try.pinned (OpenSpec.ofChange mediumWholeSpec)

/-- ITS FALSE NEIGHBOUR: 'it returns false'. Refute it at one input. -/
def mediumWholeWrong : ChangeSpec := { name := "mediumWhole", fn := fun _ => fun
  | [d1, d2] => { results := [.lit (.bool false)], args := [d1, d2] }
  | _ => none }
def MediumWholeWrongFalsely : Prop := mediumWholeRow.holds Try.pinned (OpenSpec.ofChange mediumWholeWrong)

/-- 'mudlarklaw06.MediumRest': WHATEVER THE INPUT: true; the input reads as it did. -/
def mediumRestSpec : ChangeSpec := { name := "mediumRest", fn := fun _ => fun
  | [d1, d2, d3, d4] => { results := [.lit (.bool true)], args := [d1, d2, d3, d4] }
  | _ => none }
def mediumRestRow : OpenClaim := { program := "ytmniedinfepmjaa", sum := "d96cf7496b79f2fa765d0532eda2e6d8f9c51aea8d86d605dbca8e896ddbfb78", func := "mudlark/mudlarklaw06.MediumRest", spec := "mediumRest", unfollowed := true, recurses := true, apart := false }
def MediumRestSaid : Prop := mediumRestRow.holds Try.pinned (OpenSpec.ofChange mediumRestSpec)

/-- ITS FALSE NEIGHBOUR: 'it returns false'. Refute it at one input. -/
def mediumRestWrong : ChangeSpec := { name := "mediumRest", fn := fun _ => fun
  | [d1, d2, d3, d4] => { results := [.lit (.bool false)], args := [d1, d2, d3, d4] }
  | _ => none }
def MediumRestWrongFalsely : Prop := mediumRestRow.holds Try.pinned (OpenSpec.ofChange mediumRestWrong)

/-- 'mudlarklaw06.MediumReads': WHATEVER THE INPUT: true; the input reads as it did. -/
def mediumReadsSpec : ChangeSpec := { name := "mediumReads", fn := fun _ => fun
  | [d1, d2, d3, d4, d5, d6, d7] => { results := [.lit (.bool true)], args := [d1, d2, d3, d4, d5, d6, d7] }
  | _ => none }
def mediumReadsRow : OpenClaim := { program := "ytmniedinfepmjaa", sum := "d96cf7496b79f2fa765d0532eda2e6d8f9c51aea8d86d605dbca8e896ddbfb78", func := "mudlark/mudlarklaw06.MediumReads", spec := "mediumReads", unfollowed := true, recurses := true, apart := false }
def MediumReadsSaid : Prop := mediumReadsRow.holds Try.pinned (OpenSpec.ofChange mediumReadsSpec)

/-- ITS FALSE NEIGHBOUR: 'it returns false'. Refute it at one input. -/
def mediumReadsWrong : ChangeSpec := { name := "mediumReads", fn := fun _ => fun
  | [d1, d2, d3, d4, d5, d6, d7] => { results := [.lit (.bool false)], args := [d1, d2, d3, d4, d5, d6, d7] }
  | _ => none }
def MediumReadsWrongFalsely : Prop := mediumReadsRow.holds Try.pinned (OpenSpec.ofChange mediumReadsWrong)

/-- 'mudlarklaw06.MediumPieces': WHATEVER THE INPUT: true; the input reads as it did. -/
def mediumPiecesSpec : ChangeSpec := { name := "mediumPieces", fn := fun _ => fun
  | [d1, d2, d3, d4, d5, d6] => { results := [.lit (.bool true)], args := [d1, d2, d3, d4, d5, d6] }
  | _ => none }
def mediumPiecesRow : OpenClaim := { program := "ytmniedinfepmjaa", sum := "d96cf7496b79f2fa765d0532eda2e6d8f9c51aea8d86d605dbca8e896ddbfb78", func := "mudlark/mudlarklaw06.MediumPieces", spec := "mediumPieces", unfollowed := true, recurses := true, apart := false }
def MediumPiecesSaid : Prop := mediumPiecesRow.holds Try.pinned (OpenSpec.ofChange mediumPiecesSpec)

/-- ITS FALSE NEIGHBOUR: 'it returns false'. Refute it at one input. -/
def mediumPiecesWrong : ChangeSpec := { name := "mediumPieces", fn := fun _ => fun
  | [d1, d2, d3, d4, d5, d6] => { results := [.lit (.bool false)], args := [d1, d2, d3, d4, d5, d6] }
  | _ => none }
def MediumPiecesWrongFalsely : Prop := mediumPiecesRow.holds Try.pinned (OpenSpec.ofChange mediumPiecesWrong)

/- THE SECOND FORM. 'bulk': how many values and letters a reading holds, each counted each time it is reached (what is shared counts as often as it is met; a slice's spare places count too). A statement '..UptoSaid' is the law's where the arguments, and the package variables that the reading takes, are together of bulk at most 1048576: NARROWER than '..Said'. Prove '..Said' where nothing that the law and all that it calls make is longer than what came in: it says more and counts as full. Else prove '..UptoSaid'. A law counts once. -/
mutual
def uptoBulk {H : Type} : DataW H → Nat
  | .lit (.string bytes) => bytes.length + 1
  | .lit _ => 1
  | .nil => 1
  | .ptr d => uptoBulk d + 1
  | .slice elems spare => uptoBulkAll elems + uptoBulkAll spare + 1
  | .agg parts => uptoBulkAll parts + 1
  | .iface _ d => uptoBulk d + 1
  | .map entries => uptoBulkEntries entries + 1
  | .held _ => 1
def uptoBulkAll {H : Type} : List (DataW H) → Nat
  | [] => 0
  | d :: r => uptoBulk d + uptoBulkAll r
def uptoBulkEntries {H : Type} : List (Lit × DataW H) → Nat
  | [] => 0
  | x :: r => uptoBulkEntry x + uptoBulkEntries r
def uptoBulkEntry {H : Type} : Lit × DataW H → Nat
  | (.string bytes, d) => bytes.length + uptoBulk d + 1
  | (_, d) => uptoBulk d + 1
 end
def uptoSmall : (H : Type) → List (DataW H) → Bool := fun _ ds => decide (uptoBulkAll ds ≤ 1048576)
def OpenSpec.upto (s : _root_.Go.ChangeSpec) : _root_.Go.OpenSpec := { _root_.Go.OpenSpec.ofChange s with cond := some uptoSmall }

/-- 'mudlarklaw06.MediumTwice', WHERE WHAT IT READS IS OF BULK AT MOST 1048576: true; the input reads as it did. -/
def mediumTwiceUptoRow : OpenClaim := { program := "ytmniedinfepmjaa", sum := "d96cf7496b79f2fa765d0532eda2e6d8f9c51aea8d86d605dbca8e896ddbfb78", func := "mudlark/mudlarklaw06.MediumTwice", spec := "mediumTwice", unfollowed := true, recurses := true, apart := false, narrowed := true }
def MediumTwiceUptoSaid : Prop := mediumTwiceUptoRow.holds Try.pinned (OpenSpec.upto mediumTwiceSpec)

/-- 'mudlarklaw06.MediumBlocks', WHERE WHAT IT READS IS OF BULK AT MOST 1048576: true; the input reads as it did. -/
def mediumBlocksUptoRow : OpenClaim := { program := "ytmniedinfepmjaa", sum := "d96cf7496b79f2fa765d0532eda2e6d8f9c51aea8d86d605dbca8e896ddbfb78", func := "mudlark/mudlarklaw06.MediumBlocks", spec := "mediumBlocks", unfollowed := true, recurses := true, apart := false, narrowed := true }
def MediumBlocksUptoSaid : Prop := mediumBlocksUptoRow.holds Try.pinned (OpenSpec.upto mediumBlocksSpec)

/-- 'mudlarklaw06.MediumWhole', WHERE WHAT IT READS IS OF BULK AT MOST 1048576: true; the input reads as it did. -/
def mediumWholeUptoRow : OpenClaim := { program := "ytmniedinfepmjaa", sum := "d96cf7496b79f2fa765d0532eda2e6d8f9c51aea8d86d605dbca8e896ddbfb78", func := "mudlark/mudlarklaw06.MediumWhole", spec := "mediumWhole", unfollowed := true, recurses := true, apart := false, narrowed := true }
def MediumWholeUptoSaid : Prop := mediumWholeUptoRow.holds Try.pinned (OpenSpec.upto mediumWholeSpec)

/-- 'mudlarklaw06.MediumRest', WHERE WHAT IT READS IS OF BULK AT MOST 1048576: true; the input reads as it did. -/
def mediumRestUptoRow : OpenClaim := { program := "ytmniedinfepmjaa", sum := "d96cf7496b79f2fa765d0532eda2e6d8f9c51aea8d86d605dbca8e896ddbfb78", func := "mudlark/mudlarklaw06.MediumRest", spec := "mediumRest", unfollowed := true, recurses := true, apart := false, narrowed := true }
def MediumRestUptoSaid : Prop := mediumRestUptoRow.holds Try.pinned (OpenSpec.upto mediumRestSpec)

/-- 'mudlarklaw06.MediumReads', WHERE WHAT IT READS IS OF BULK AT MOST 1048576: true; the input reads as it did. -/
def mediumReadsUptoRow : OpenClaim := { program := "ytmniedinfepmjaa", sum := "d96cf7496b79f2fa765d0532eda2e6d8f9c51aea8d86d605dbca8e896ddbfb78", func := "mudlark/mudlarklaw06.MediumReads", spec := "mediumReads", unfollowed := true, recurses := true, apart := false, narrowed := true }
def MediumReadsUptoSaid : Prop := mediumReadsUptoRow.holds Try.pinned (OpenSpec.upto mediumReadsSpec)

/-- 'mudlarklaw06.MediumPieces', WHERE WHAT IT READS IS OF BULK AT MOST 1048576: true; the input reads as it did. -/
def mediumPiecesUptoRow : OpenClaim := { program := "ytmniedinfepmjaa", sum := "d96cf7496b79f2fa765d0532eda2e6d8f9c51aea8d86d605dbca8e896ddbfb78", func := "mudlark/mudlarklaw06.MediumPieces", spec := "mediumPieces", unfollowed := true, recurses := true, apart := false, narrowed := true }
def MediumPiecesUptoSaid : Prop := mediumPiecesUptoRow.holds Try.pinned (OpenSpec.upto mediumPiecesSpec)

end Rows
end Go.Proofs.Ytmniedinfepmjaa
