/-
  NARROWER THAN 'FOR EVERY INPUT', by the rows' own cells (each row's printed sentence says how): HeadWays: laid · HeadKinds: laid · HeadParts: laid · HeadBack: laid · HeadSpoilt: laid.
  DERIVED. THE GIVEN ROWS OF THIS SEAT. 5 by the template 'for every input the law returns true; each argument reads behind the call as it read before'; 0 by the template 'total and deterministic' (their statements: YtdeolcgabkkocaaDoorTotals.lean).
  GIVEN WITH THE SEED: the statements are not yours to turn. If you find one false, say at which input.
  Laid BY PROGRAM, IN A SANDBOX (cutbox-rows.mjs): the forced cells as the released guide's own fill.sh prints them over the translation fc38ec658621536d… (all of the seat's roots in one cut). By AI agents, Wed Nov 11 2026. No macro, syntax, notation, axiom, sorry.
-/
import Derived.Test.YtdeolcgabkkocaaDoorChecked
import GoSem.PinnedTables
import GoSem.Claim
import GoSem.ClaimJoined
import GoSem.ClaimMapViews
import Derived.JoinedTies
import Derived.KernelRfl
namespace Go.Proofs.YtdeolcgabkkocaaDoor
/- THE CELL 'sum', in the pinned program and in every row, IS THE sha256 OF THE DUMP (.gsa) THAT YtdeolcgabkkocaaDoorProg.lean LOADS. Nothing in Lean hashes anything: it is a label: what it is worth is what the hold of that sum in a sandbox is worth. -/
noncomputable def Tryd.pinned : Pinned := { name := "ytdeolcgabkkocaadoor", sum := "fc38ec658621536d075ebf4d2bcc2bff7610de6716b05e42ffb16da5c3012cf4", checked := Tryd.checked }
namespace Rows
def none {H : Type} : Left H := { results := [], args := [] }

/- WHAT THE LISTED PACKAGE-LEVEL VARIABLES READ AS WHEN THE CALL BEGINS. Each datum BY PROGRAM (the guide's laid-datum.mjs) off the statement by which the dump's own 'gosem.cut.vars' lays the variable. In a bare row this is a premise. The card (YtdeolcgabkkocaaDoorCards.lean) ties it to the program's text. -/
def laid_unicode_utf8_acceptRanges {H : Type} : DataW H := .agg [.agg [.lit (.int .u8 128), .lit (.int .u8 191)], .agg [.lit (.int .u8 160), .lit (.int .u8 191)], .agg [.lit (.int .u8 128), .lit (.int .u8 159)], .agg [.lit (.int .u8 144), .lit (.int .u8 191)], .agg [.lit (.int .u8 128), .lit (.int .u8 143)], .agg [.lit (.int .u8 0), .lit (.int .u8 0)], .agg [.lit (.int .u8 0), .lit (.int .u8 0)], .agg [.lit (.int .u8 0), .lit (.int .u8 0)], .agg [.lit (.int .u8 0), .lit (.int .u8 0)], .agg [.lit (.int .u8 0), .lit (.int .u8 0)], .agg [.lit (.int .u8 0), .lit (.int .u8 0)], .agg [.lit (.int .u8 0), .lit (.int .u8 0)], .agg [.lit (.int .u8 0), .lit (.int .u8 0)], .agg [.lit (.int .u8 0), .lit (.int .u8 0)], .agg [.lit (.int .u8 0), .lit (.int .u8 0)], .agg [.lit (.int .u8 0), .lit (.int .u8 0)]]
def laid_mudlark_head_magic {H : Type} : DataW H := .agg [.lit (.string [0, 0, 0, 0, 0, 0, 0, 0]), .lit (.string [117, 115, 116, 97, 114, 0, 48, 48]), .lit (.string [117, 115, 116, 97, 114, 32, 32, 0])]
/-- One of Go's own tables, pinned by name: the form's constant. -/
def laid_unicode_utf8_first : DataW Unit := Go.Pinned.utf8First

/-- 'mudlarklaw08.HeadWays': WHATEVER THE INPUT: true; the input reads as it did. -/
def headWaysSpec : ChangeSpec := { name := "headWays", fn := fun _ => fun
  | [d1, d2] => { results := [.lit (.bool true)], args := [d1, d2] }
  | _ => none }
def headWaysRow : OpenClaim := { program := "ytdeolcgabkkocaadoor", sum := "fc38ec658621536d075ebf4d2bcc2bff7610de6716b05e42ffb16da5c3012cf4", func := "mudlark/mudlarklaw08.HeadWays", spec := "headWays", inPlace := ["internal/bytealg.IndexByte", "internal/bytealg.Index", "internal/bytealg.IndexByteString"], unfollowed := true, recurses := true, named := ["unicode/utf8.first", "unicode/utf8.acceptRanges", "mudlark/head.magic", "internal/bytealg.MaxLen"], apart := false, laid := [("unicode/utf8.acceptRanges", laid_unicode_utf8_acceptRanges), ("mudlark/head.magic", laid_mudlark_head_magic), ("unicode/utf8.first", laid_unicode_utf8_first)] }
def HeadWaysSaid : Prop := headWaysRow.holds Tryd.pinned (OpenSpec.ofChange headWaysSpec)

/-- ITS FALSE NEIGHBOUR: 'it returns false'. Refute it at one input. -/
def headWaysWrong : ChangeSpec := { name := "headWays", fn := fun _ => fun
  | [d1, d2] => { results := [.lit (.bool false)], args := [d1, d2] }
  | _ => none }
def HeadWaysWrongFalsely : Prop := headWaysRow.holds Tryd.pinned (OpenSpec.ofChange headWaysWrong)

/-- 'mudlarklaw08.HeadKinds': WHATEVER THE INPUT: true; the input reads as it did. -/
def headKindsSpec : ChangeSpec := { name := "headKinds", fn := fun _ => fun
  | [d1, d2] => { results := [.lit (.bool true)], args := [d1, d2] }
  | _ => none }
def headKindsRow : OpenClaim := { program := "ytdeolcgabkkocaadoor", sum := "fc38ec658621536d075ebf4d2bcc2bff7610de6716b05e42ffb16da5c3012cf4", func := "mudlark/mudlarklaw08.HeadKinds", spec := "headKinds", inPlace := ["internal/bytealg.IndexByteString", "internal/bytealg.IndexByte", "internal/bytealg.Index"], unfollowed := true, recurses := true, named := ["mudlark/head.magic", "unicode/utf8.first", "unicode/utf8.acceptRanges", "internal/bytealg.MaxLen"], apart := false, laid := [("unicode/utf8.acceptRanges", laid_unicode_utf8_acceptRanges), ("mudlark/head.magic", laid_mudlark_head_magic), ("unicode/utf8.first", laid_unicode_utf8_first)] }
def HeadKindsSaid : Prop := headKindsRow.holds Tryd.pinned (OpenSpec.ofChange headKindsSpec)

/-- ITS FALSE NEIGHBOUR: 'it returns false'. Refute it at one input. -/
def headKindsWrong : ChangeSpec := { name := "headKinds", fn := fun _ => fun
  | [d1, d2] => { results := [.lit (.bool false)], args := [d1, d2] }
  | _ => none }
def HeadKindsWrongFalsely : Prop := headKindsRow.holds Tryd.pinned (OpenSpec.ofChange headKindsWrong)

/-- 'mudlarklaw08.HeadParts': WHATEVER THE INPUT: true; the input reads as it did. -/
def headPartsSpec : ChangeSpec := { name := "headParts", fn := fun _ => fun
  | [d1, d2, d3, d4, d5, d6] => { results := [.lit (.bool true)], args := [d1, d2, d3, d4, d5, d6] }
  | _ => none }
def headPartsRow : OpenClaim := { program := "ytdeolcgabkkocaadoor", sum := "fc38ec658621536d075ebf4d2bcc2bff7610de6716b05e42ffb16da5c3012cf4", func := "mudlark/mudlarklaw08.HeadParts", spec := "headParts", inPlace := ["internal/bytealg.IndexByte", "internal/bytealg.Index", "internal/bytealg.IndexByteString"], unfollowed := true, recurses := true, named := ["unicode/utf8.first", "unicode/utf8.acceptRanges", "mudlark/head.magic", "internal/bytealg.MaxLen"], apart := false, laid := [("unicode/utf8.acceptRanges", laid_unicode_utf8_acceptRanges), ("mudlark/head.magic", laid_mudlark_head_magic), ("unicode/utf8.first", laid_unicode_utf8_first)] }
def HeadPartsSaid : Prop := headPartsRow.holds Tryd.pinned (OpenSpec.ofChange headPartsSpec)

/-- ITS FALSE NEIGHBOUR: 'it returns false'. Refute it at one input. -/
def headPartsWrong : ChangeSpec := { name := "headParts", fn := fun _ => fun
  | [d1, d2, d3, d4, d5, d6] => { results := [.lit (.bool false)], args := [d1, d2, d3, d4, d5, d6] }
  | _ => none }
def HeadPartsWrongFalsely : Prop := headPartsRow.holds Tryd.pinned (OpenSpec.ofChange headPartsWrong)

/-- 'mudlarklaw08.HeadBack': WHATEVER THE INPUT: true; the input reads as it did. -/
def headBackSpec : ChangeSpec := { name := "headBack", fn := fun _ => fun
  | [d] => { results := [.lit (.bool true)], args := [d] }
  | _ => none }
def headBackRow : OpenClaim := { program := "ytdeolcgabkkocaadoor", sum := "fc38ec658621536d075ebf4d2bcc2bff7610de6716b05e42ffb16da5c3012cf4", func := "mudlark/mudlarklaw08.HeadBack", spec := "headBack", inPlace := ["internal/bytealg.IndexByteString", "internal/bytealg.IndexByte", "internal/bytealg.Index"], unfollowed := true, recurses := true, named := ["mudlark/head.magic", "unicode/utf8.first", "unicode/utf8.acceptRanges", "internal/bytealg.MaxLen"], apart := false, laid := [("unicode/utf8.acceptRanges", laid_unicode_utf8_acceptRanges), ("mudlark/head.magic", laid_mudlark_head_magic), ("unicode/utf8.first", laid_unicode_utf8_first)] }
def HeadBackSaid : Prop := headBackRow.holds Tryd.pinned (OpenSpec.ofChange headBackSpec)

/-- ITS FALSE NEIGHBOUR: 'it returns false'. Refute it at one input. -/
def headBackWrong : ChangeSpec := { name := "headBack", fn := fun _ => fun
  | [d] => { results := [.lit (.bool false)], args := [d] }
  | _ => none }
def HeadBackWrongFalsely : Prop := headBackRow.holds Tryd.pinned (OpenSpec.ofChange headBackWrong)

/-- 'mudlarklaw08.HeadSpoilt': WHATEVER THE INPUT: true; the input reads as it did. -/
def headSpoiltSpec : ChangeSpec := { name := "headSpoilt", fn := fun _ => fun
  | [d1, d2, d3, d4] => { results := [.lit (.bool true)], args := [d1, d2, d3, d4] }
  | _ => none }
def headSpoiltRow : OpenClaim := { program := "ytdeolcgabkkocaadoor", sum := "fc38ec658621536d075ebf4d2bcc2bff7610de6716b05e42ffb16da5c3012cf4", func := "mudlark/mudlarklaw08.HeadSpoilt", spec := "headSpoilt", inPlace := ["internal/bytealg.IndexByteString", "internal/bytealg.IndexByte", "internal/bytealg.Index"], unfollowed := true, recurses := true, named := ["mudlark/head.magic", "unicode/utf8.first", "unicode/utf8.acceptRanges", "internal/bytealg.MaxLen"], apart := false, laid := [("unicode/utf8.acceptRanges", laid_unicode_utf8_acceptRanges), ("mudlark/head.magic", laid_mudlark_head_magic), ("unicode/utf8.first", laid_unicode_utf8_first)] }
def HeadSpoiltSaid : Prop := headSpoiltRow.holds Tryd.pinned (OpenSpec.ofChange headSpoiltSpec)

/-- ITS FALSE NEIGHBOUR: 'it returns false'. Refute it at one input. -/
def headSpoiltWrong : ChangeSpec := { name := "headSpoilt", fn := fun _ => fun
  | [d1, d2, d3, d4] => { results := [.lit (.bool false)], args := [d1, d2, d3, d4] }
  | _ => none }
def HeadSpoiltWrongFalsely : Prop := headSpoiltRow.holds Tryd.pinned (OpenSpec.ofChange headSpoiltWrong)

/- THE SECOND FORM. 'bulk': how many values and letters a reading holds, each counted each time it is reached (what is shared counts as often as it is met; a slice's spare places count too). A statement '..UptoSaid' is the law's where the arguments, and the package variables that the reading takes, are together of bulk at most 1048576: NARROWER than '..Said'. Prove '..Said' where nothing that the law and all that it calls make is longer than what came in: it says more and counts as full. Else prove '..UptoSaid'. A law counts once. -/
mutual
def uptoBulk {H : Type} : DataW H → Nat
  | .lit (.string bytes) => bytes.length + 1
  | .lit _ => 1
  | .nil => 1
  | .ptr d => uptoBulk d + 1
  | .slice elems spare => uptoBulkAll elems + uptoBulkAll spare + 1
  | .agg parts => uptoBulkAll parts + 1
  | .iface _ d => uptoBulk d + 1
  | .map entries => uptoBulkEntries entries + 1
  | .held _ => 1
def uptoBulkAll {H : Type} : List (DataW H) → Nat
  | [] => 0
  | d :: r => uptoBulk d + uptoBulkAll r
def uptoBulkEntries {H : Type} : List (Lit × DataW H) → Nat
  | [] => 0
  | x :: r => uptoBulkEntry x + uptoBulkEntries r
def uptoBulkEntry {H : Type} : Lit × DataW H → Nat
  | (.string bytes, d) => bytes.length + uptoBulk d + 1
  | (_, d) => uptoBulk d + 1
 end
def uptoSmall : (H : Type) → List (DataW H) → Bool := fun _ ds => decide (uptoBulkAll ds ≤ 1048576)
def OpenSpec.upto (s : _root_.Go.ChangeSpec) : _root_.Go.OpenSpec := { _root_.Go.OpenSpec.ofChange s with cond := some uptoSmall }

/-- 'mudlarklaw08.HeadWays', WHERE WHAT IT READS IS OF BULK AT MOST 1048576: true; the input reads as it did. -/
def headWaysUptoRow : OpenClaim := { program := "ytdeolcgabkkocaadoor", sum := "fc38ec658621536d075ebf4d2bcc2bff7610de6716b05e42ffb16da5c3012cf4", func := "mudlark/mudlarklaw08.HeadWays", spec := "headWays", inPlace := ["internal/bytealg.IndexByte", "internal/bytealg.Index", "internal/bytealg.IndexByteString"], unfollowed := true, recurses := true, named := ["unicode/utf8.first", "unicode/utf8.acceptRanges", "mudlark/head.magic", "internal/bytealg.MaxLen"], apart := false, laid := [("unicode/utf8.acceptRanges", laid_unicode_utf8_acceptRanges), ("mudlark/head.magic", laid_mudlark_head_magic), ("unicode/utf8.first", laid_unicode_utf8_first)], narrowed := true }
def HeadWaysUptoSaid : Prop := headWaysUptoRow.holds Tryd.pinned (OpenSpec.upto headWaysSpec)

/-- 'mudlarklaw08.HeadKinds', WHERE WHAT IT READS IS OF BULK AT MOST 1048576: true; the input reads as it did. -/
def headKindsUptoRow : OpenClaim := { program := "ytdeolcgabkkocaadoor", sum := "fc38ec658621536d075ebf4d2bcc2bff7610de6716b05e42ffb16da5c3012cf4", func := "mudlark/mudlarklaw08.HeadKinds", spec := "headKinds", inPlace := ["internal/bytealg.IndexByteString", "internal/bytealg.IndexByte", "internal/bytealg.Index"], unfollowed := true, recurses := true, named := ["mudlark/head.magic", "unicode/utf8.first", "unicode/utf8.acceptRanges", "internal/bytealg.MaxLen"], apart := false, laid := [("unicode/utf8.acceptRanges", laid_unicode_utf8_acceptRanges), ("mudlark/head.magic", laid_mudlark_head_magic), ("unicode/utf8.first", laid_unicode_utf8_first)], narrowed := true }
def HeadKindsUptoSaid : Prop := headKindsUptoRow.holds Tryd.pinned (OpenSpec.upto headKindsSpec)

/-- 'mudlarklaw08.HeadParts', WHERE WHAT IT READS IS OF BULK AT MOST 1048576: true; the input reads as it did. -/
def headPartsUptoRow : OpenClaim := { program := "ytdeolcgabkkocaadoor", sum := "fc38ec658621536d075ebf4d2bcc2bff7610de6716b05e42ffb16da5c3012cf4", func := "mudlark/mudlarklaw08.HeadParts", spec := "headParts", inPlace := ["internal/bytealg.IndexByte", "internal/bytealg.Index", "internal/bytealg.IndexByteString"], unfollowed := true, recurses := true, named := ["unicode/utf8.first", "unicode/utf8.acceptRanges", "mudlark/head.magic", "internal/bytealg.MaxLen"], apart := false, laid := [("unicode/utf8.acceptRanges", laid_unicode_utf8_acceptRanges), ("mudlark/head.magic", laid_mudlark_head_magic), ("unicode/utf8.first", laid_unicode_utf8_first)], narrowed := true }
def HeadPartsUptoSaid : Prop := headPartsUptoRow.holds Tryd.pinned (OpenSpec.upto headPartsSpec)

/-- 'mudlarklaw08.HeadBack', WHERE WHAT IT READS IS OF BULK AT MOST 1048576: true; the input reads as it did. -/
def headBackUptoRow : OpenClaim := { program := "ytdeolcgabkkocaadoor", sum := "fc38ec658621536d075ebf4d2bcc2bff7610de6716b05e42ffb16da5c3012cf4", func := "mudlark/mudlarklaw08.HeadBack", spec := "headBack", inPlace := ["internal/bytealg.IndexByteString", "internal/bytealg.IndexByte", "internal/bytealg.Index"], unfollowed := true, recurses := true, named := ["mudlark/head.magic", "unicode/utf8.first", "unicode/utf8.acceptRanges", "internal/bytealg.MaxLen"], apart := false, laid := [("unicode/utf8.acceptRanges", laid_unicode_utf8_acceptRanges), ("mudlark/head.magic", laid_mudlark_head_magic), ("unicode/utf8.first", laid_unicode_utf8_first)], narrowed := true }
def HeadBackUptoSaid : Prop := headBackUptoRow.holds Tryd.pinned (OpenSpec.upto headBackSpec)

/-- 'mudlarklaw08.HeadSpoilt', WHERE WHAT IT READS IS OF BULK AT MOST 1048576: true; the input reads as it did. -/
def headSpoiltUptoRow : OpenClaim := { program := "ytdeolcgabkkocaadoor", sum := "fc38ec658621536d075ebf4d2bcc2bff7610de6716b05e42ffb16da5c3012cf4", func := "mudlark/mudlarklaw08.HeadSpoilt", spec := "headSpoilt", inPlace := ["internal/bytealg.IndexByteString", "internal/bytealg.IndexByte", "internal/bytealg.Index"], unfollowed := true, recurses := true, named := ["mudlark/head.magic", "unicode/utf8.first", "unicode/utf8.acceptRanges", "internal/bytealg.MaxLen"], apart := false, laid := [("unicode/utf8.acceptRanges", laid_unicode_utf8_acceptRanges), ("mudlark/head.magic", laid_mudlark_head_magic), ("unicode/utf8.first", laid_unicode_utf8_first)], narrowed := true }
def HeadSpoiltUptoSaid : Prop := headSpoiltUptoRow.holds Tryd.pinned (OpenSpec.upto headSpoiltSpec)

end Rows
end Go.Proofs.YtdeolcgabkkocaaDoor
