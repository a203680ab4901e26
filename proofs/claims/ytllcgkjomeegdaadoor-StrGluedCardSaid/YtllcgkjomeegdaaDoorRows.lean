/-
  NARROWER THAN 'FOR EVERY INPUT', by the rows' own cells (each row's printed sentence says how): StrJoins: laid · StrPaths: laid · StrCleans: laid · StrGlued: laid · StrTexts: laid · StrCuts: laid · StrBack: laid.
  DERIVED. THE GIVEN ROWS OF THIS SEAT. 7 by the template 'for every input the law returns true; each argument reads behind the call as it read before'; 0 by the template 'total and deterministic' (their statements: YtllcgkjomeegdaaDoorTotals.lean).
  GIVEN WITH THE SEED: the statements are not yours to turn. If you find one false, say at which input.
  Laid BY PROGRAM, IN A SANDBOX (cutbox-rows.mjs): the forced cells as the released guide's own fill.sh prints them over the translation ee9ad7e6fe32670a… (all of the seat's roots in one cut). By AI agents, Wed Nov 11 2026. No macro, syntax, notation, axiom, sorry.
-/
import Derived.Test.YtllcgkjomeegdaaDoorChecked
import GoSem.PinnedTables
import GoSem.Claim
import GoSem.ClaimJoined
import GoSem.ClaimMapViews
import Derived.JoinedTies
import Derived.KernelRfl
namespace Go.Proofs.YtllcgkjomeegdaaDoor
/- THE CELL 'sum', in the pinned program and in every row, IS THE sha256 OF THE DUMP (.gsa) THAT YtllcgkjomeegdaaDoorProg.lean LOADS. Nothing in Lean hashes anything: it is a label: what it is worth is what the hold of that sum in a sandbox is worth. -/
noncomputable def Tryd.pinned : Pinned := { name := "ytllcgkjomeegdaadoor", sum := "ee9ad7e6fe32670a00e7fb133f432ed790a0f46163e7fa52e0f0b768e4330f6e", checked := Tryd.checked }
namespace Rows
def none {H : Type} : Left H := { results := [], args := [] }

/- WHAT THE LISTED PACKAGE-LEVEL VARIABLES READ AS WHEN THE CALL BEGINS. Each datum BY PROGRAM (the guide's laid-datum.mjs) off the statement by which the dump's own 'gosem.cut.vars' lays the variable. In a bare row this is a premise. The card (YtllcgkjomeegdaaDoorCards.lean) ties it to the program's text. -/
def laid_unicode_utf8_acceptRanges {H : Type} : DataW H := .agg [.agg [.lit (.int .u8 128), .lit (.int .u8 191)], .agg [.lit (.int .u8 160), .lit (.int .u8 191)], .agg [.lit (.int .u8 128), .lit (.int .u8 159)], .agg [.lit (.int .u8 144), .lit (.int .u8 191)], .agg [.lit (.int .u8 128), .lit (.int .u8 143)], .agg [.lit (.int .u8 0), .lit (.int .u8 0)], .agg [.lit (.int .u8 0), .lit (.int .u8 0)], .agg [.lit (.int .u8 0), .lit (.int .u8 0)], .agg [.lit (.int .u8 0), .lit (.int .u8 0)], .agg [.lit (.int .u8 0), .lit (.int .u8 0)], .agg [.lit (.int .u8 0), .lit (.int .u8 0)], .agg [.lit (.int .u8 0), .lit (.int .u8 0)], .agg [.lit (.int .u8 0), .lit (.int .u8 0)], .agg [.lit (.int .u8 0), .lit (.int .u8 0)], .agg [.lit (.int .u8 0), .lit (.int .u8 0)], .agg [.lit (.int .u8 0), .lit (.int .u8 0)]]
/-- One of Go's own tables, pinned by name: the form's constant. -/
def laid_unicode_utf8_first : DataW Unit := Go.Pinned.utf8First

/-- 'mudlarklaw02.StrJoins': WHATEVER THE INPUT: true; the input reads as it did. -/
def strJoinsSpec : ChangeSpec := { name := "strJoins", fn := fun _ => fun
  | [d1, d2] => { results := [.lit (.bool true)], args := [d1, d2] }
  | _ => none }
def strJoinsRow : OpenClaim := { program := "ytllcgkjomeegdaadoor", sum := "ee9ad7e6fe32670a00e7fb133f432ed790a0f46163e7fa52e0f0b768e4330f6e", func := "mudlark/mudlarklaw02.StrJoins", spec := "strJoins", inPlace := ["internal/bytealg.IndexByteString", "internal/bytealg.IndexString", "internal/abi.NoEscape", "internal/bytealg.MakeNoZero"], unfollowed := true, recurses := true, named := ["internal/bytealg.MaxLen", "unicode/utf8.first", "unicode/utf8.acceptRanges"], apart := false, laid := [("unicode/utf8.acceptRanges", laid_unicode_utf8_acceptRanges), ("unicode/utf8.first", laid_unicode_utf8_first)] }
def StrJoinsSaid : Prop := strJoinsRow.holds Tryd.pinned (OpenSpec.ofChange strJoinsSpec)

/-- ITS FALSE NEIGHBOUR: 'it returns false'. Refute it at one input. -/
def strJoinsWrong : ChangeSpec := { name := "strJoins", fn := fun _ => fun
  | [d1, d2] => { results := [.lit (.bool false)], args := [d1, d2] }
  | _ => none }
def StrJoinsWrongFalsely : Prop := strJoinsRow.holds Tryd.pinned (OpenSpec.ofChange strJoinsWrong)

/-- 'mudlarklaw02.StrPaths': WHATEVER THE INPUT: true; the input reads as it did. -/
def strPathsSpec : ChangeSpec := { name := "strPaths", fn := fun _ => fun
  | [d1, d2] => { results := [.lit (.bool true)], args := [d1, d2] }
  | _ => none }
def strPathsRow : OpenClaim := { program := "ytllcgkjomeegdaadoor", sum := "ee9ad7e6fe32670a00e7fb133f432ed790a0f46163e7fa52e0f0b768e4330f6e", func := "mudlark/mudlarklaw02.StrPaths", spec := "strPaths", inPlace := ["internal/bytealg.IndexByteString", "internal/bytealg.IndexString", "internal/abi.NoEscape", "internal/bytealg.MakeNoZero"], unfollowed := true, recurses := true, named := ["internal/bytealg.MaxLen", "unicode/utf8.first", "unicode/utf8.acceptRanges"], apart := false, laid := [("unicode/utf8.acceptRanges", laid_unicode_utf8_acceptRanges), ("unicode/utf8.first", laid_unicode_utf8_first)] }
def StrPathsSaid : Prop := strPathsRow.holds Tryd.pinned (OpenSpec.ofChange strPathsSpec)

/-- ITS FALSE NEIGHBOUR: 'it returns false'. Refute it at one input. -/
def strPathsWrong : ChangeSpec := { name := "strPaths", fn := fun _ => fun
  | [d1, d2] => { results := [.lit (.bool false)], args := [d1, d2] }
  | _ => none }
def StrPathsWrongFalsely : Prop := strPathsRow.holds Tryd.pinned (OpenSpec.ofChange strPathsWrong)

/-- 'mudlarklaw02.StrCleans': WHATEVER THE INPUT: true; the input reads as it did. -/
def strCleansSpec : ChangeSpec := { name := "strCleans", fn := fun _ => fun
  | [d] => { results := [.lit (.bool true)], args := [d] }
  | _ => none }
def strCleansRow : OpenClaim := { program := "ytllcgkjomeegdaadoor", sum := "ee9ad7e6fe32670a00e7fb133f432ed790a0f46163e7fa52e0f0b768e4330f6e", func := "mudlark/mudlarklaw02.StrCleans", spec := "strCleans", inPlace := ["internal/bytealg.IndexByteString", "internal/bytealg.IndexString", "internal/abi.NoEscape", "internal/bytealg.MakeNoZero"], unfollowed := true, recurses := true, named := ["internal/bytealg.MaxLen", "unicode/utf8.first", "unicode/utf8.acceptRanges"], apart := false, laid := [("unicode/utf8.acceptRanges", laid_unicode_utf8_acceptRanges), ("unicode/utf8.first", laid_unicode_utf8_first)] }
def StrCleansSaid : Prop := strCleansRow.holds Tryd.pinned (OpenSpec.ofChange strCleansSpec)

/-- ITS FALSE NEIGHBOUR: 'it returns false'. Refute it at one input. -/
def strCleansWrong : ChangeSpec := { name := "strCleans", fn := fun _ => fun
  | [d] => { results := [.lit (.bool false)], args := [d] }
  | _ => none }
def StrCleansWrongFalsely : Prop := strCleansRow.holds Tryd.pinned (OpenSpec.ofChange strCleansWrong)

/-- 'mudlarklaw02.StrGlued': WHATEVER THE INPUT: true; the input reads as it did. -/
def strGluedSpec : ChangeSpec := { name := "strGlued", fn := fun _ => fun
  | [d1, d2, d3] => { results := [.lit (.bool true)], args := [d1, d2, d3] }
  | _ => none }
def strGluedRow : OpenClaim := { program := "ytllcgkjomeegdaadoor", sum := "ee9ad7e6fe32670a00e7fb133f432ed790a0f46163e7fa52e0f0b768e4330f6e", func := "mudlark/mudlarklaw02.StrGlued", spec := "strGlued", inPlace := ["internal/bytealg.IndexByteString", "internal/bytealg.IndexString", "internal/abi.NoEscape", "internal/bytealg.MakeNoZero"], unfollowed := true, recurses := true, named := ["internal/bytealg.MaxLen", "unicode/utf8.first", "unicode/utf8.acceptRanges"], apart := false, laid := [("unicode/utf8.acceptRanges", laid_unicode_utf8_acceptRanges), ("unicode/utf8.first", laid_unicode_utf8_first)] }
def StrGluedSaid : Prop := strGluedRow.holds Tryd.pinned (OpenSpec.ofChange strGluedSpec)

/-- ITS FALSE NEIGHBOUR: 'it returns false'. Refute it at one input. -/
def strGluedWrong : ChangeSpec := { name := "strGlued", fn := fun _ => fun
  | [d1, d2, d3] => { results := [.lit (.bool false)], args := [d1, d2, d3] }
  | _ => none }
def StrGluedWrongFalsely : Prop := strGluedRow.holds Tryd.pinned (OpenSpec.ofChange strGluedWrong)

/-- 'mudlarklaw02.StrTexts': WHATEVER THE INPUT: true; the input reads as it did. -/
def strTextsSpec : ChangeSpec := { name := "strTexts", fn := fun _ => fun
  | [d1, d2] => { results := [.lit (.bool true)], args := [d1, d2] }
  | _ => none }
def strTextsRow : OpenClaim := { program := "ytllcgkjomeegdaadoor", sum := "ee9ad7e6fe32670a00e7fb133f432ed790a0f46163e7fa52e0f0b768e4330f6e", func := "mudlark/mudlarklaw02.StrTexts", spec := "strTexts", inPlace := ["internal/bytealg.IndexByteString", "internal/bytealg.IndexString", "internal/abi.NoEscape", "internal/bytealg.MakeNoZero"], unfollowed := true, recurses := true, named := ["internal/bytealg.MaxLen", "unicode/utf8.first", "unicode/utf8.acceptRanges"], apart := false, laid := [("unicode/utf8.acceptRanges", laid_unicode_utf8_acceptRanges), ("unicode/utf8.first", laid_unicode_utf8_first)] }
def StrTextsSaid : Prop := strTextsRow.holds Tryd.pinned (OpenSpec.ofChange strTextsSpec)

/-- ITS FALSE NEIGHBOUR: 'it returns false'. Refute it at one input. -/
def strTextsWrong : ChangeSpec := { name := "strTexts", fn := fun _ => fun
  | [d1, d2] => { results := [.lit (.bool false)], args := [d1, d2] }
  | _ => none }
def StrTextsWrongFalsely : Prop := strTextsRow.holds Tryd.pinned (OpenSpec.ofChange strTextsWrong)

/-- 'mudlarklaw02.StrCuts': WHATEVER THE INPUT: true; the input reads as it did. -/
def strCutsSpec : ChangeSpec := { name := "strCuts", fn := fun _ => fun
  | [d1, d2, d3, d4] => { results := [.lit (.bool true)], args := [d1, d2, d3, d4] }
  | _ => none }
def strCutsRow : OpenClaim := { program := "ytllcgkjomeegdaadoor", sum := "ee9ad7e6fe32670a00e7fb133f432ed790a0f46163e7fa52e0f0b768e4330f6e", func := "mudlark/mudlarklaw02.StrCuts", spec := "strCuts", inPlace := ["internal/bytealg.IndexByteString", "internal/bytealg.IndexString", "internal/abi.NoEscape", "internal/bytealg.MakeNoZero", "internal/bytealg.IndexByte", "internal/bytealg.Index"], unfollowed := true, recurses := true, named := ["internal/bytealg.MaxLen", "unicode/utf8.first", "unicode/utf8.acceptRanges"], apart := false, laid := [("unicode/utf8.acceptRanges", laid_unicode_utf8_acceptRanges), ("unicode/utf8.first", laid_unicode_utf8_first)] }
def StrCutsSaid : Prop := strCutsRow.holds Tryd.pinned (OpenSpec.ofChange strCutsSpec)

/-- ITS FALSE NEIGHBOUR: 'it returns false'. Refute it at one input. -/
def strCutsWrong : ChangeSpec := { name := "strCuts", fn := fun _ => fun
  | [d1, d2, d3, d4] => { results := [.lit (.bool false)], args := [d1, d2, d3, d4] }
  | _ => none }
def StrCutsWrongFalsely : Prop := strCutsRow.holds Tryd.pinned (OpenSpec.ofChange strCutsWrong)

/-- 'mudlarklaw02.StrBack': WHATEVER THE INPUT: true; the input reads as it did. -/
def strBackSpec : ChangeSpec := { name := "strBack", fn := fun _ => fun
  | [d1, d2] => { results := [.lit (.bool true)], args := [d1, d2] }
  | _ => none }
def strBackRow : OpenClaim := { program := "ytllcgkjomeegdaadoor", sum := "ee9ad7e6fe32670a00e7fb133f432ed790a0f46163e7fa52e0f0b768e4330f6e", func := "mudlark/mudlarklaw02.StrBack", spec := "strBack", inPlace := ["internal/bytealg.IndexByteString", "internal/bytealg.IndexString", "internal/abi.NoEscape", "internal/bytealg.MakeNoZero", "internal/bytealg.IndexByte", "internal/bytealg.Index"], unfollowed := true, recurses := true, named := ["internal/bytealg.MaxLen", "unicode/utf8.first", "unicode/utf8.acceptRanges"], apart := false, laid := [("unicode/utf8.acceptRanges", laid_unicode_utf8_acceptRanges), ("unicode/utf8.first", laid_unicode_utf8_first)] }
def StrBackSaid : Prop := strBackRow.holds Tryd.pinned (OpenSpec.ofChange strBackSpec)

/-- ITS FALSE NEIGHBOUR: 'it returns false'. Refute it at one input. -/
def strBackWrong : ChangeSpec := { name := "strBack", fn := fun _ => fun
  | [d1, d2] => { results := [.lit (.bool false)], args := [d1, d2] }
  | _ => none }
def StrBackWrongFalsely : Prop := strBackRow.holds Tryd.pinned (OpenSpec.ofChange strBackWrong)

/- THE SECOND FORM. 'bulk': how many values and letters a reading holds, each counted each time it is reached (what is shared counts as often as it is met; a slice's spare places count too). A statement '..UptoSaid' is the law's where the arguments, and the package variables that the reading takes, are together of bulk at most 1048576: NARROWER than '..Said'. Prove '..Said' where nothing that the law and all that it calls make is longer than what came in: it says more and counts as full. Else prove '..UptoSaid'. A law counts once. -/
mutual
def uptoBulk {H : Type} : DataW H → Nat
  | .lit (.string bytes) => bytes.length + 1
  | .lit _ => 1
  | .nil => 1
  | .ptr d => uptoBulk d + 1
  | .slice elems spare => uptoBulkAll elems + uptoBulkAll spare + 1
  | .agg parts => uptoBulkAll parts + 1
  | .iface _ d => uptoBulk d + 1
  | .map entries => uptoBulkEntries entries + 1
  | .held _ => 1
def uptoBulkAll {H : Type} : List (DataW H) → Nat
  | [] => 0
  | d :: r => uptoBulk d + uptoBulkAll r
def uptoBulkEntries {H : Type} : List (Lit × DataW H) → Nat
  | [] => 0
  | x :: r => uptoBulkEntry x + uptoBulkEntries r
def uptoBulkEntry {H : Type} : Lit × DataW H → Nat
  | (.string bytes, d) => bytes.length + uptoBulk d + 1
  | (_, d) => uptoBulk d + 1
 end
def uptoSmall : (H : Type) → List (DataW H) → Bool := fun _ ds => decide (uptoBulkAll ds ≤ 1048576)
def OpenSpec.upto (s : _root_.Go.ChangeSpec) : _root_.Go.OpenSpec := { _root_.Go.OpenSpec.ofChange s with cond := some uptoSmall }

/-- 'mudlarklaw02.StrJoins', WHERE WHAT IT READS IS OF BULK AT MOST 1048576: true; the input reads as it did. -/
def strJoinsUptoRow : OpenClaim := { program := "ytllcgkjomeegdaadoor", sum := "ee9ad7e6fe32670a00e7fb133f432ed790a0f46163e7fa52e0f0b768e4330f6e", func := "mudlark/mudlarklaw02.StrJoins", spec := "strJoins", inPlace := ["internal/bytealg.IndexByteString", "internal/bytealg.IndexString", "internal/abi.NoEscape", "internal/bytealg.MakeNoZero"], unfollowed := true, recurses := true, named := ["internal/bytealg.MaxLen", "unicode/utf8.first", "unicode/utf8.acceptRanges"], apart := false, laid := [("unicode/utf8.acceptRanges", laid_unicode_utf8_acceptRanges), ("unicode/utf8.first", laid_unicode_utf8_first)], narrowed := true }
def StrJoinsUptoSaid : Prop := strJoinsUptoRow.holds Tryd.pinned (OpenSpec.upto strJoinsSpec)

/-- 'mudlarklaw02.StrPaths', WHERE WHAT IT READS IS OF BULK AT MOST 1048576: true; the input reads as it did. -/
def strPathsUptoRow : OpenClaim := { program := "ytllcgkjomeegdaadoor", sum := "ee9ad7e6fe32670a00e7fb133f432ed790a0f46163e7fa52e0f0b768e4330f6e", func := "mudlark/mudlarklaw02.StrPaths", spec := "strPaths", inPlace := ["internal/bytealg.IndexByteString", "internal/bytealg.IndexString", "internal/abi.NoEscape", "internal/bytealg.MakeNoZero"], unfollowed := true, recurses := true, named := ["internal/bytealg.MaxLen", "unicode/utf8.first", "unicode/utf8.acceptRanges"], apart := false, laid := [("unicode/utf8.acceptRanges", laid_unicode_utf8_acceptRanges), ("unicode/utf8.first", laid_unicode_utf8_first)], narrowed := true }
def StrPathsUptoSaid : Prop := strPathsUptoRow.holds Tryd.pinned (OpenSpec.upto strPathsSpec)

/-- 'mudlarklaw02.StrCleans', WHERE WHAT IT READS IS OF BULK AT MOST 1048576: true; the input reads as it did. -/
def strCleansUptoRow : OpenClaim := { program := "ytllcgkjomeegdaadoor", sum := "ee9ad7e6fe32670a00e7fb133f432ed790a0f46163e7fa52e0f0b768e4330f6e", func := "mudlark/mudlarklaw02.StrCleans", spec := "strCleans", inPlace := ["internal/bytealg.IndexByteString", "internal/bytealg.IndexString", "internal/abi.NoEscape", "internal/bytealg.MakeNoZero"], unfollowed := true, recurses := true, named := ["internal/bytealg.MaxLen", "unicode/utf8.first", "unicode/utf8.acceptRanges"], apart := false, laid := [("unicode/utf8.acceptRanges", laid_unicode_utf8_acceptRanges), ("unicode/utf8.first", laid_unicode_utf8_first)], narrowed := true }
def StrCleansUptoSaid : Prop := strCleansUptoRow.holds Tryd.pinned (OpenSpec.upto strCleansSpec)

/-- 'mudlarklaw02.StrGlued', WHERE WHAT IT READS IS OF BULK AT MOST 1048576: true; the input reads as it did. -/
def strGluedUptoRow : OpenClaim := { program := "ytllcgkjomeegdaadoor", sum := "ee9ad7e6fe32670a00e7fb133f432ed790a0f46163e7fa52e0f0b768e4330f6e", func := "mudlark/mudlarklaw02.StrGlued", spec := "strGlued", inPlace := ["internal/bytealg.IndexByteString", "internal/bytealg.IndexString", "internal/abi.NoEscape", "internal/bytealg.MakeNoZero"], unfollowed := true, recurses := true, named := ["internal/bytealg.MaxLen", "unicode/utf8.first", "unicode/utf8.acceptRanges"], apart := false, laid := [("unicode/utf8.acceptRanges", laid_unicode_utf8_acceptRanges), ("unicode/utf8.first", laid_unicode_utf8_first)], narrowed := true }
def StrGluedUptoSaid : Prop := strGluedUptoRow.holds Tryd.pinned (OpenSpec.upto strGluedSpec)

/-- 'mudlarklaw02.StrTexts', WHERE WHAT IT READS IS OF BULK AT MOST 1048576: true; the input reads as it did. -/
def strTextsUptoRow : OpenClaim := { program := "ytllcgkjomeegdaadoor", sum := "ee9ad7e6fe32670a00e7fb133f432ed790a0f46163e7fa52e0f0b768e4330f6e", func := "mudlark/mudlarklaw02.StrTexts", spec := "strTexts", inPlace := ["internal/bytealg.IndexByteString", "internal/bytealg.IndexString", "internal/abi.NoEscape", "internal/bytealg.MakeNoZero"], unfollowed := true, recurses := true, named := ["internal/bytealg.MaxLen", "unicode/utf8.first", "unicode/utf8.acceptRanges"], apart := false, laid := [("unicode/utf8.acceptRanges", laid_unicode_utf8_acceptRanges), ("unicode/utf8.first", laid_unicode_utf8_first)], narrowed := true }
def StrTextsUptoSaid : Prop := strTextsUptoRow.holds Tryd.pinned (OpenSpec.upto strTextsSpec)

/-- 'mudlarklaw02.StrCuts', WHERE WHAT IT READS IS OF BULK AT MOST 1048576: true; the input reads as it did. -/
def strCutsUptoRow : OpenClaim := { program := "ytllcgkjomeegdaadoor", sum := "ee9ad7e6fe32670a00e7fb133f432ed790a0f46163e7fa52e0f0b768e4330f6e", func := "mudlark/mudlarklaw02.StrCuts", spec := "strCuts", inPlace := ["internal/bytealg.IndexByteString", "internal/bytealg.IndexString", "internal/abi.NoEscape", "internal/bytealg.MakeNoZero", "internal/bytealg.IndexByte", "internal/bytealg.Index"], unfollowed := true, recurses := true, named := ["internal/bytealg.MaxLen", "unicode/utf8.first", "unicode/utf8.acceptRanges"], apart := false, laid := [("unicode/utf8.acceptRanges", laid_unicode_utf8_acceptRanges), ("unicode/utf8.first", laid_unicode_utf8_first)], narrowed := true }
def StrCutsUptoSaid : Prop := strCutsUptoRow.holds Tryd.pinned (OpenSpec.upto strCutsSpec)

/-- 'mudlarklaw02.StrBack', WHERE WHAT IT READS IS OF BULK AT MOST 1048576: true; the input reads as it did. -/
def strBackUptoRow : OpenClaim := { program := "ytllcgkjomeegdaadoor", sum := "ee9ad7e6fe32670a00e7fb133f432ed790a0f46163e7fa52e0f0b768e4330f6e", func := "mudlark/mudlarklaw02.StrBack", spec := "strBack", inPlace := ["internal/bytealg.IndexByteString", "internal/bytealg.IndexString", "internal/abi.NoEscape", "internal/bytealg.MakeNoZero", "internal/bytealg.IndexByte", "internal/bytealg.Index"], unfollowed := true, recurses := true, named := ["internal/bytealg.MaxLen", "unicode/utf8.first", "unicode/utf8.acceptRanges"], apart := false, laid := [("unicode/utf8.acceptRanges", laid_unicode_utf8_acceptRanges), ("unicode/utf8.first", laid_unicode_utf8_first)], narrowed := true }
def StrBackUptoSaid : Prop := strBackUptoRow.holds Tryd.pinned (OpenSpec.upto strBackSpec)

end Rows
end Go.Proofs.YtllcgkjomeegdaaDoor
