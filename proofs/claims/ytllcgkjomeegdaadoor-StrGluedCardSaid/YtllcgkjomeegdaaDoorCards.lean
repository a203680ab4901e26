/-
  DERIVED. GIVEN WITH THE SEED: THE CARDS: each row of YtllcgkjomeegdaaDoorRows.lean that lists a variable, with what it lists TIED to the program's text (the seventh form; the later family's looks); each row that meets fmt, with fmt's text TOLD by the authors' own Lean function (tested against real Go, not proved from fmt's source: count such statements apart). THE CARD IS WHAT COUNTS. Prove the row's statement (the work); the ties are given (YtllcgkjomeegdaaDoorTie.lean); close each card by the builder's one call (the guide's Derived/Test/ToyasCard.lean, 'card_holds'). Laid BY PROGRAM, IN A SANDBOX (cutbox-door.mjs). By AI agents, Wed Nov 11 2026. No macro, syntax, notation, axiom, sorry.
-/
import Derived.Test.YtllcgkjomeegdaaDoorRows
import GoSem.ClaimSeven
namespace Go.Proofs.YtllcgkjomeegdaaDoor
namespace Rows

/-- THE TIED CARD OF 'mudlarklaw02.StrJoins'. -/
def strJoinsCard : Claim7 := { stood := { row := strJoinsRow, standIns := [], harness := (true, "a1295fa7af4f83400361ac616bb18fc15c4d4937795950a5a61bb7712e52c169"), looks := false }, kinds := [], alts := [], laidByText := true, laidKinds := [.data, .pinned], laidTests := true, laidLooks := .later }
def StrJoinsCardSaid : Prop := Claim7.holds Tryd.pinned (.plain (OpenSpec.ofChange strJoinsSpec)) strJoinsCard

/-- THE TIED CARD OF 'mudlarklaw02.StrPaths'. -/
def strPathsCard : Claim7 := { stood := { row := strPathsRow, standIns := [], harness := (true, "a1295fa7af4f83400361ac616bb18fc15c4d4937795950a5a61bb7712e52c169"), looks := false }, kinds := [], alts := [], laidByText := true, laidKinds := [.data, .pinned], laidTests := true, laidLooks := .later }
def StrPathsCardSaid : Prop := Claim7.holds Tryd.pinned (.plain (OpenSpec.ofChange strPathsSpec)) strPathsCard

/-- THE TIED CARD OF 'mudlarklaw02.StrCleans'. -/
def strCleansCard : Claim7 := { stood := { row := strCleansRow, standIns := [], harness := (true, "a1295fa7af4f83400361ac616bb18fc15c4d4937795950a5a61bb7712e52c169"), looks := false }, kinds := [], alts := [], laidByText := true, laidKinds := [.data, .pinned], laidTests := true, laidLooks := .later }
def StrCleansCardSaid : Prop := Claim7.holds Tryd.pinned (.plain (OpenSpec.ofChange strCleansSpec)) strCleansCard

/-- THE TIED CARD OF 'mudlarklaw02.StrGlued'. -/
def strGluedCard : Claim7 := { stood := { row := strGluedRow, standIns := [], harness := (true, "a1295fa7af4f83400361ac616bb18fc15c4d4937795950a5a61bb7712e52c169"), looks := false }, kinds := [], alts := [], laidByText := true, laidKinds := [.data, .pinned], laidTests := true, laidLooks := .later }
def StrGluedCardSaid : Prop := Claim7.holds Tryd.pinned (.plain (OpenSpec.ofChange strGluedSpec)) strGluedCard

/-- THE TIED CARD OF 'mudlarklaw02.StrTexts'. -/
def strTextsCard : Claim7 := { stood := { row := strTextsRow, standIns := [], harness := (true, "a1295fa7af4f83400361ac616bb18fc15c4d4937795950a5a61bb7712e52c169"), looks := false }, kinds := [], alts := [], laidByText := true, laidKinds := [.data, .pinned], laidTests := true, laidLooks := .later }
def StrTextsCardSaid : Prop := Claim7.holds Tryd.pinned (.plain (OpenSpec.ofChange strTextsSpec)) strTextsCard

/-- THE TIED CARD OF 'mudlarklaw02.StrCuts'. -/
def strCutsCard : Claim7 := { stood := { row := strCutsRow, standIns := [], harness := (true, "a1295fa7af4f83400361ac616bb18fc15c4d4937795950a5a61bb7712e52c169"), looks := false }, kinds := [], alts := [], laidByText := true, laidKinds := [.data, .pinned], laidTests := true, laidLooks := .later }
def StrCutsCardSaid : Prop := Claim7.holds Tryd.pinned (.plain (OpenSpec.ofChange strCutsSpec)) strCutsCard

/-- THE TIED CARD OF 'mudlarklaw02.StrBack'. -/
def strBackCard : Claim7 := { stood := { row := strBackRow, standIns := [], harness := (true, "a1295fa7af4f83400361ac616bb18fc15c4d4937795950a5a61bb7712e52c169"), looks := false }, kinds := [], alts := [], laidByText := true, laidKinds := [.data, .pinned], laidTests := true, laidLooks := .later }
def StrBackCardSaid : Prop := Claim7.holds Tryd.pinned (.plain (OpenSpec.ofChange strBackSpec)) strBackCard

/-- THE SECOND FORM's CARD OF 'mudlarklaw02.StrJoins'. -/
def strJoinsUptoCard : Claim7 := { stood := { row := strJoinsUptoRow, standIns := [], harness := (true, "a1295fa7af4f83400361ac616bb18fc15c4d4937795950a5a61bb7712e52c169"), looks := false }, kinds := [], alts := [], laidByText := true, laidKinds := [.data, .pinned], laidTests := true, laidLooks := .later }
def StrJoinsUptoCardSaid : Prop := Claim7.holds Tryd.pinned (.plain (OpenSpec.upto strJoinsSpec)) strJoinsUptoCard

/-- THE SECOND FORM's CARD OF 'mudlarklaw02.StrPaths'. -/
def strPathsUptoCard : Claim7 := { stood := { row := strPathsUptoRow, standIns := [], harness := (true, "a1295fa7af4f83400361ac616bb18fc15c4d4937795950a5a61bb7712e52c169"), looks := false }, kinds := [], alts := [], laidByText := true, laidKinds := [.data, .pinned], laidTests := true, laidLooks := .later }
def StrPathsUptoCardSaid : Prop := Claim7.holds Tryd.pinned (.plain (OpenSpec.upto strPathsSpec)) strPathsUptoCard

/-- THE SECOND FORM's CARD OF 'mudlarklaw02.StrCleans'. -/
def strCleansUptoCard : Claim7 := { stood := { row := strCleansUptoRow, standIns := [], harness := (true, "a1295fa7af4f83400361ac616bb18fc15c4d4937795950a5a61bb7712e52c169"), looks := false }, kinds := [], alts := [], laidByText := true, laidKinds := [.data, .pinned], laidTests := true, laidLooks := .later }
def StrCleansUptoCardSaid : Prop := Claim7.holds Tryd.pinned (.plain (OpenSpec.upto strCleansSpec)) strCleansUptoCard

/-- THE SECOND FORM's CARD OF 'mudlarklaw02.StrGlued'. -/
def strGluedUptoCard : Claim7 := { stood := { row := strGluedUptoRow, standIns := [], harness := (true, "a1295fa7af4f83400361ac616bb18fc15c4d4937795950a5a61bb7712e52c169"), looks := false }, kinds := [], alts := [], laidByText := true, laidKinds := [.data, .pinned], laidTests := true, laidLooks := .later }
def StrGluedUptoCardSaid : Prop := Claim7.holds Tryd.pinned (.plain (OpenSpec.upto strGluedSpec)) strGluedUptoCard

/-- THE SECOND FORM's CARD OF 'mudlarklaw02.StrTexts'. -/
def strTextsUptoCard : Claim7 := { stood := { row := strTextsUptoRow, standIns := [], harness := (true, "a1295fa7af4f83400361ac616bb18fc15c4d4937795950a5a61bb7712e52c169"), looks := false }, kinds := [], alts := [], laidByText := true, laidKinds := [.data, .pinned], laidTests := true, laidLooks := .later }
def StrTextsUptoCardSaid : Prop := Claim7.holds Tryd.pinned (.plain (OpenSpec.upto strTextsSpec)) strTextsUptoCard

/-- THE SECOND FORM's CARD OF 'mudlarklaw02.StrCuts'. -/
def strCutsUptoCard : Claim7 := { stood := { row := strCutsUptoRow, standIns := [], harness := (true, "a1295fa7af4f83400361ac616bb18fc15c4d4937795950a5a61bb7712e52c169"), looks := false }, kinds := [], alts := [], laidByText := true, laidKinds := [.data, .pinned], laidTests := true, laidLooks := .later }
def StrCutsUptoCardSaid : Prop := Claim7.holds Tryd.pinned (.plain (OpenSpec.upto strCutsSpec)) strCutsUptoCard

/-- THE SECOND FORM's CARD OF 'mudlarklaw02.StrBack'. -/
def strBackUptoCard : Claim7 := { stood := { row := strBackUptoRow, standIns := [], harness := (true, "a1295fa7af4f83400361ac616bb18fc15c4d4937795950a5a61bb7712e52c169"), looks := false }, kinds := [], alts := [], laidByText := true, laidKinds := [.data, .pinned], laidTests := true, laidLooks := .later }
def StrBackUptoCardSaid : Prop := Claim7.holds Tryd.pinned (.plain (OpenSpec.upto strBackSpec)) strBackUptoCard
end Rows
end Go.Proofs.YtllcgkjomeegdaaDoor
