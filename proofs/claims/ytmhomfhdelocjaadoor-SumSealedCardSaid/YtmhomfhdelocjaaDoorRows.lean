/-
  NARROWER THAN 'FOR EVERY INPUT', by the rows' own cells (each row's printed sentence says how): SumParts: laid · SumNoughts: laid · SumSums: laid · SumSeals: laid · SumSealed: laid · SumSigned: laid.
  DERIVED. THE GIVEN ROWS OF THIS SEAT. 6 by the template 'for every input the law returns true; each argument reads behind the call as it read before'; 0 by the template 'total and deterministic' (their statements: YtmhomfhdelocjaaDoorTotals.lean).
  GIVEN WITH THE SEED: the statements are not yours to turn. If you find one false, say at which input.
  Laid BY PROGRAM, IN A SANDBOX (cutbox-rows.mjs): the forced cells as the released guide's own fill.sh prints them over the translation a62b39058604ddcd… (all of the seat's roots in one cut). By AI agents, Wed Nov 11 2026. No macro, syntax, notation, axiom, sorry.
-/
import Derived.Test.YtmhomfhdelocjaaDoorChecked
import GoSem.PinnedTables
import GoSem.Claim
import GoSem.ClaimJoined
import GoSem.ClaimMapViews
import Derived.JoinedTies
import Derived.KernelRfl
namespace Go.Proofs.YtmhomfhdelocjaaDoor
/- THE CELL 'sum', in the pinned program and in every row, IS THE sha256 OF THE DUMP (.gsa) THAT YtmhomfhdelocjaaDoorProg.lean LOADS. Nothing in Lean hashes anything: it is a label: what it is worth is what the hold of that sum in a sandbox is worth. -/
noncomputable def Tryd.pinned : Pinned := { name := "ytmhomfhdelocjaadoor", sum := "a62b39058604ddcd0fedf175f1ed90594709f4f43e45dd4731b3459412f000ab", checked := Tryd.checked }
namespace Rows
def none {H : Type} : Left H := { results := [], args := [] }

/- WHAT THE LISTED PACKAGE-LEVEL VARIABLES READ AS WHEN THE CALL BEGINS. Each datum BY PROGRAM (the guide's laid-datum.mjs) off the statement by which the dump's own 'gosem.cut.vars' lays the variable. In a bare row this is a premise. The card (YtmhomfhdelocjaaDoorCards.lean) ties it to the program's text. -/
def laid_unicode_utf8_acceptRanges {H : Type} : DataW H := .agg [.agg [.lit (.int .u8 128), .lit (.int .u8 191)], .agg [.lit (.int .u8 160), .lit (.int .u8 191)], .agg [.lit (.int .u8 128), .lit (.int .u8 159)], .agg [.lit (.int .u8 144), .lit (.int .u8 191)], .agg [.lit (.int .u8 128), .lit (.int .u8 143)], .agg [.lit (.int .u8 0), .lit (.int .u8 0)], .agg [.lit (.int .u8 0), .lit (.int .u8 0)], .agg [.lit (.int .u8 0), .lit (.int .u8 0)], .agg [.lit (.int .u8 0), .lit (.int .u8 0)], .agg [.lit (.int .u8 0), .lit (.int .u8 0)], .agg [.lit (.int .u8 0), .lit (.int .u8 0)], .agg [.lit (.int .u8 0), .lit (.int .u8 0)], .agg [.lit (.int .u8 0), .lit (.int .u8 0)], .agg [.lit (.int .u8 0), .lit (.int .u8 0)], .agg [.lit (.int .u8 0), .lit (.int .u8 0)], .agg [.lit (.int .u8 0), .lit (.int .u8 0)]]
/-- One of Go's own tables, pinned by name: the form's constant. -/
def laid_unicode_utf8_first : DataW Unit := Go.Pinned.utf8First

/-- 'mudlarklaw05.SumParts': WHATEVER THE INPUT: true; the input reads as it did. -/
def sumPartsSpec : ChangeSpec := { name := "sumParts", fn := fun _ => fun
  | [d1, d2, d3, d4] => { results := [.lit (.bool true)], args := [d1, d2, d3, d4] }
  | _ => none }
def sumPartsRow : OpenClaim := { program := "ytmhomfhdelocjaadoor", sum := "a62b39058604ddcd0fedf175f1ed90594709f4f43e45dd4731b3459412f000ab", func := "mudlark/mudlarklaw05.SumParts", spec := "sumParts", unfollowed := true, recurses := true, named := ["unicode/utf8.first", "unicode/utf8.acceptRanges"], apart := false, laid := [("unicode/utf8.acceptRanges", laid_unicode_utf8_acceptRanges), ("unicode/utf8.first", laid_unicode_utf8_first)] }
def SumPartsSaid : Prop := sumPartsRow.holds Tryd.pinned (OpenSpec.ofChange sumPartsSpec)

/-- ITS FALSE NEIGHBOUR: 'it returns false'. Refute it at one input. -/
def sumPartsWrong : ChangeSpec := { name := "sumParts", fn := fun _ => fun
  | [d1, d2, d3, d4] => { results := [.lit (.bool false)], args := [d1, d2, d3, d4] }
  | _ => none }
def SumPartsWrongFalsely : Prop := sumPartsRow.holds Tryd.pinned (OpenSpec.ofChange sumPartsWrong)

/-- 'mudlarklaw05.SumNoughts': WHATEVER THE INPUT: true; the input reads as it did. -/
def sumNoughtsSpec : ChangeSpec := { name := "sumNoughts", fn := fun _ => fun
  | [d1, d2] => { results := [.lit (.bool true)], args := [d1, d2] }
  | _ => none }
def sumNoughtsRow : OpenClaim := { program := "ytmhomfhdelocjaadoor", sum := "a62b39058604ddcd0fedf175f1ed90594709f4f43e45dd4731b3459412f000ab", func := "mudlark/mudlarklaw05.SumNoughts", spec := "sumNoughts", unfollowed := true, recurses := true, named := ["unicode/utf8.first", "unicode/utf8.acceptRanges"], apart := false, laid := [("unicode/utf8.acceptRanges", laid_unicode_utf8_acceptRanges), ("unicode/utf8.first", laid_unicode_utf8_first)] }
def SumNoughtsSaid : Prop := sumNoughtsRow.holds Tryd.pinned (OpenSpec.ofChange sumNoughtsSpec)

/-- ITS FALSE NEIGHBOUR: 'it returns false'. Refute it at one input. -/
def sumNoughtsWrong : ChangeSpec := { name := "sumNoughts", fn := fun _ => fun
  | [d1, d2] => { results := [.lit (.bool false)], args := [d1, d2] }
  | _ => none }
def SumNoughtsWrongFalsely : Prop := sumNoughtsRow.holds Tryd.pinned (OpenSpec.ofChange sumNoughtsWrong)

/-- 'mudlarklaw05.SumSums': WHATEVER THE INPUT: true; the input reads as it did. -/
def sumSumsSpec : ChangeSpec := { name := "sumSums", fn := fun _ => fun
  | [d1, d2, d3, d4, d5] => { results := [.lit (.bool true)], args := [d1, d2, d3, d4, d5] }
  | _ => none }
def sumSumsRow : OpenClaim := { program := "ytmhomfhdelocjaadoor", sum := "a62b39058604ddcd0fedf175f1ed90594709f4f43e45dd4731b3459412f000ab", func := "mudlark/mudlarklaw05.SumSums", spec := "sumSums", unfollowed := true, recurses := true, named := ["unicode/utf8.first", "unicode/utf8.acceptRanges"], apart := false, laid := [("unicode/utf8.acceptRanges", laid_unicode_utf8_acceptRanges), ("unicode/utf8.first", laid_unicode_utf8_first)] }
def SumSumsSaid : Prop := sumSumsRow.holds Tryd.pinned (OpenSpec.ofChange sumSumsSpec)

/-- ITS FALSE NEIGHBOUR: 'it returns false'. Refute it at one input. -/
def sumSumsWrong : ChangeSpec := { name := "sumSums", fn := fun _ => fun
  | [d1, d2, d3, d4, d5] => { results := [.lit (.bool false)], args := [d1, d2, d3, d4, d5] }
  | _ => none }
def SumSumsWrongFalsely : Prop := sumSumsRow.holds Tryd.pinned (OpenSpec.ofChange sumSumsWrong)

/-- 'mudlarklaw05.SumSeals': WHATEVER THE INPUT: true; the input reads as it did. -/
def sumSealsSpec : ChangeSpec := { name := "sumSeals", fn := fun _ => fun
  | [d1, d2, d3] => { results := [.lit (.bool true)], args := [d1, d2, d3] }
  | _ => none }
def sumSealsRow : OpenClaim := { program := "ytmhomfhdelocjaadoor", sum := "a62b39058604ddcd0fedf175f1ed90594709f4f43e45dd4731b3459412f000ab", func := "mudlark/mudlarklaw05.SumSeals", spec := "sumSeals", unfollowed := true, recurses := true, named := ["unicode/utf8.first", "unicode/utf8.acceptRanges"], apart := false, laid := [("unicode/utf8.acceptRanges", laid_unicode_utf8_acceptRanges), ("unicode/utf8.first", laid_unicode_utf8_first)] }
def SumSealsSaid : Prop := sumSealsRow.holds Tryd.pinned (OpenSpec.ofChange sumSealsSpec)

/-- ITS FALSE NEIGHBOUR: 'it returns false'. Refute it at one input. -/
def sumSealsWrong : ChangeSpec := { name := "sumSeals", fn := fun _ => fun
  | [d1, d2, d3] => { results := [.lit (.bool false)], args := [d1, d2, d3] }
  | _ => none }
def SumSealsWrongFalsely : Prop := sumSealsRow.holds Tryd.pinned (OpenSpec.ofChange sumSealsWrong)

/-- 'mudlarklaw05.SumSealed': WHATEVER THE INPUT: true; the input reads as it did. -/
def sumSealedSpec : ChangeSpec := { name := "sumSealed", fn := fun _ => fun
  | [d1, d2, d3, d4] => { results := [.lit (.bool true)], args := [d1, d2, d3, d4] }
  | _ => none }
def sumSealedRow : OpenClaim := { program := "ytmhomfhdelocjaadoor", sum := "a62b39058604ddcd0fedf175f1ed90594709f4f43e45dd4731b3459412f000ab", func := "mudlark/mudlarklaw05.SumSealed", spec := "sumSealed", unfollowed := true, recurses := true, named := ["unicode/utf8.first", "unicode/utf8.acceptRanges"], apart := false, laid := [("unicode/utf8.acceptRanges", laid_unicode_utf8_acceptRanges), ("unicode/utf8.first", laid_unicode_utf8_first)] }
def SumSealedSaid : Prop := sumSealedRow.holds Tryd.pinned (OpenSpec.ofChange sumSealedSpec)

/-- ITS FALSE NEIGHBOUR: 'it returns false'. Refute it at one input. -/
def sumSealedWrong : ChangeSpec := { name := "sumSealed", fn := fun _ => fun
  | [d1, d2, d3, d4] => { results := [.lit (.bool false)], args := [d1, d2, d3, d4] }
  | _ => none }
def SumSealedWrongFalsely : Prop := sumSealedRow.holds Tryd.pinned (OpenSpec.ofChange sumSealedWrong)

/-- 'mudlarklaw05.SumSigned': WHATEVER THE INPUT: true; the input reads as it did. -/
def sumSignedSpec : ChangeSpec := { name := "sumSigned", fn := fun _ => fun
  | [d1, d2] => { results := [.lit (.bool true)], args := [d1, d2] }
  | _ => none }
def sumSignedRow : OpenClaim := { program := "ytmhomfhdelocjaadoor", sum := "a62b39058604ddcd0fedf175f1ed90594709f4f43e45dd4731b3459412f000ab", func := "mudlark/mudlarklaw05.SumSigned", spec := "sumSigned", unfollowed := true, recurses := true, named := ["unicode/utf8.first", "unicode/utf8.acceptRanges"], apart := false, laid := [("unicode/utf8.acceptRanges", laid_unicode_utf8_acceptRanges), ("unicode/utf8.first", laid_unicode_utf8_first)] }
def SumSignedSaid : Prop := sumSignedRow.holds Tryd.pinned (OpenSpec.ofChange sumSignedSpec)

/-- ITS FALSE NEIGHBOUR: 'it returns false'. Refute it at one input. -/
def sumSignedWrong : ChangeSpec := { name := "sumSigned", fn := fun _ => fun
  | [d1, d2] => { results := [.lit (.bool false)], args := [d1, d2] }
  | _ => none }
def SumSignedWrongFalsely : Prop := sumSignedRow.holds Tryd.pinned (OpenSpec.ofChange sumSignedWrong)

/- THE SECOND FORM. 'bulk': how many values and letters a reading holds, each counted each time it is reached (what is shared counts as often as it is met; a slice's spare places count too). A statement '..UptoSaid' is the law's where the arguments, and the package variables that the reading takes, are together of bulk at most 1048576: NARROWER than '..Said'. Prove '..Said' where nothing that the law and all that it calls make is longer than what came in: it says more and counts as full. Else prove '..UptoSaid'. A law counts once. -/
mutual
def uptoBulk {H : Type} : DataW H → Nat
  | .lit (.string bytes) => bytes.length + 1
  | .lit _ => 1
  | .nil => 1
  | .ptr d => uptoBulk d + 1
  | .slice elems spare => uptoBulkAll elems + uptoBulkAll spare + 1
  | .agg parts => uptoBulkAll parts + 1
  | .iface _ d => uptoBulk d + 1
  | .map entries => uptoBulkEntries entries + 1
  | .held _ => 1
def uptoBulkAll {H : Type} : List (DataW H) → Nat
  | [] => 0
  | d :: r => uptoBulk d + uptoBulkAll r
def uptoBulkEntries {H : Type} : List (Lit × DataW H) → Nat
  | [] => 0
  | x :: r => uptoBulkEntry x + uptoBulkEntries r
def uptoBulkEntry {H : Type} : Lit × DataW H → Nat
  | (.string bytes, d) => bytes.length + uptoBulk d + 1
  | (_, d) => uptoBulk d + 1
 end
def uptoSmall : (H : Type) → List (DataW H) → Bool := fun _ ds => decide (uptoBulkAll ds ≤ 1048576)
def OpenSpec.upto (s : _root_.Go.ChangeSpec) : _root_.Go.OpenSpec := { _root_.Go.OpenSpec.ofChange s with cond := some uptoSmall }

/-- 'mudlarklaw05.SumParts', WHERE WHAT IT READS IS OF BULK AT MOST 1048576: true; the input reads as it did. -/
def sumPartsUptoRow : OpenClaim := { program := "ytmhomfhdelocjaadoor", sum := "a62b39058604ddcd0fedf175f1ed90594709f4f43e45dd4731b3459412f000ab", func := "mudlark/mudlarklaw05.SumParts", spec := "sumParts", unfollowed := true, recurses := true, named := ["unicode/utf8.first", "unicode/utf8.acceptRanges"], apart := false, laid := [("unicode/utf8.acceptRanges", laid_unicode_utf8_acceptRanges), ("unicode/utf8.first", laid_unicode_utf8_first)], narrowed := true }
def SumPartsUptoSaid : Prop := sumPartsUptoRow.holds Tryd.pinned (OpenSpec.upto sumPartsSpec)

/-- 'mudlarklaw05.SumNoughts', WHERE WHAT IT READS IS OF BULK AT MOST 1048576: true; the input reads as it did. -/
def sumNoughtsUptoRow : OpenClaim := { program := "ytmhomfhdelocjaadoor", sum := "a62b39058604ddcd0fedf175f1ed90594709f4f43e45dd4731b3459412f000ab", func := "mudlark/mudlarklaw05.SumNoughts", spec := "sumNoughts", unfollowed := true, recurses := true, named := ["unicode/utf8.first", "unicode/utf8.acceptRanges"], apart := false, laid := [("unicode/utf8.acceptRanges", laid_unicode_utf8_acceptRanges), ("unicode/utf8.first", laid_unicode_utf8_first)], narrowed := true }
def SumNoughtsUptoSaid : Prop := sumNoughtsUptoRow.holds Tryd.pinned (OpenSpec.upto sumNoughtsSpec)

/-- 'mudlarklaw05.SumSums', WHERE WHAT IT READS IS OF BULK AT MOST 1048576: true; the input reads as it did. -/
def sumSumsUptoRow : OpenClaim := { program := "ytmhomfhdelocjaadoor", sum := "a62b39058604ddcd0fedf175f1ed90594709f4f43e45dd4731b3459412f000ab", func := "mudlark/mudlarklaw05.SumSums", spec := "sumSums", unfollowed := true, recurses := true, named := ["unicode/utf8.first", "unicode/utf8.acceptRanges"], apart := false, laid := [("unicode/utf8.acceptRanges", laid_unicode_utf8_acceptRanges), ("unicode/utf8.first", laid_unicode_utf8_first)], narrowed := true }
def SumSumsUptoSaid : Prop := sumSumsUptoRow.holds Tryd.pinned (OpenSpec.upto sumSumsSpec)

/-- 'mudlarklaw05.SumSeals', WHERE WHAT IT READS IS OF BULK AT MOST 1048576: true; the input reads as it did. -/
def sumSealsUptoRow : OpenClaim := { program := "ytmhomfhdelocjaadoor", sum := "a62b39058604ddcd0fedf175f1ed90594709f4f43e45dd4731b3459412f000ab", func := "mudlark/mudlarklaw05.SumSeals", spec := "sumSeals", unfollowed := true, recurses := true, named := ["unicode/utf8.first", "unicode/utf8.acceptRanges"], apart := false, laid := [("unicode/utf8.acceptRanges", laid_unicode_utf8_acceptRanges), ("unicode/utf8.first", laid_unicode_utf8_first)], narrowed := true }
def SumSealsUptoSaid : Prop := sumSealsUptoRow.holds Tryd.pinned (OpenSpec.upto sumSealsSpec)

/-- 'mudlarklaw05.SumSealed', WHERE WHAT IT READS IS OF BULK AT MOST 1048576: true; the input reads as it did. -/
def sumSealedUptoRow : OpenClaim := { program := "ytmhomfhdelocjaadoor", sum := "a62b39058604ddcd0fedf175f1ed90594709f4f43e45dd4731b3459412f000ab", func := "mudlark/mudlarklaw05.SumSealed", spec := "sumSealed", unfollowed := true, recurses := true, named := ["unicode/utf8.first", "unicode/utf8.acceptRanges"], apart := false, laid := [("unicode/utf8.acceptRanges", laid_unicode_utf8_acceptRanges), ("unicode/utf8.first", laid_unicode_utf8_first)], narrowed := true }
def SumSealedUptoSaid : Prop := sumSealedUptoRow.holds Tryd.pinned (OpenSpec.upto sumSealedSpec)

/-- 'mudlarklaw05.SumSigned', WHERE WHAT IT READS IS OF BULK AT MOST 1048576: true; the input reads as it did. -/
def sumSignedUptoRow : OpenClaim := { program := "ytmhomfhdelocjaadoor", sum := "a62b39058604ddcd0fedf175f1ed90594709f4f43e45dd4731b3459412f000ab", func := "mudlark/mudlarklaw05.SumSigned", spec := "sumSigned", unfollowed := true, recurses := true, named := ["unicode/utf8.first", "unicode/utf8.acceptRanges"], apart := false, laid := [("unicode/utf8.acceptRanges", laid_unicode_utf8_acceptRanges), ("unicode/utf8.first", laid_unicode_utf8_first)], narrowed := true }
def SumSignedUptoSaid : Prop := sumSignedUptoRow.holds Tryd.pinned (OpenSpec.upto sumSignedSpec)

end Rows
end Go.Proofs.YtmhomfhdelocjaaDoor
