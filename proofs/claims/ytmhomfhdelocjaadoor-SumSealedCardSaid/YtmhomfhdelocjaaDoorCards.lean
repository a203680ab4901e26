/-
  DERIVED. GIVEN WITH THE SEED: THE CARDS: each row of YtmhomfhdelocjaaDoorRows.lean that lists a variable, with what it lists TIED to the program's text (the seventh form; the later family's looks); each row that meets fmt, with fmt's text TOLD by the authors' own Lean function (tested against real Go, not proved from fmt's source: count such statements apart). THE CARD IS WHAT COUNTS. Prove the row's statement (the work); the ties are given (YtmhomfhdelocjaaDoorTie.lean); close each card by the builder's one call (the guide's Derived/Test/ToyasCard.lean, 'card_holds'). Laid BY PROGRAM, IN A SANDBOX (cutbox-door.mjs). By AI agents, Wed Nov 11 2026. No macro, syntax, notation, axiom, sorry.
-/
import Derived.Test.YtmhomfhdelocjaaDoorRows
import GoSem.ClaimSeven
namespace Go.Proofs.YtmhomfhdelocjaaDoor
namespace Rows

/-- THE TIED CARD OF 'mudlarklaw05.SumParts'. -/
def sumPartsCard : Claim7 := { stood := { row := sumPartsRow, standIns := [], harness := (true, "531ee0f8de38f515e35dabd4748edd36e535b79783d986f1dc6b20e55af8d4ee"), looks := false }, kinds := [], alts := [], laidByText := true, laidKinds := [.data, .pinned], laidTests := true, laidLooks := .later }
def SumPartsCardSaid : Prop := Claim7.holds Tryd.pinned (.plain (OpenSpec.ofChange sumPartsSpec)) sumPartsCard

/-- THE TIED CARD OF 'mudlarklaw05.SumNoughts'. -/
def sumNoughtsCard : Claim7 := { stood := { row := sumNoughtsRow, standIns := [], harness := (true, "531ee0f8de38f515e35dabd4748edd36e535b79783d986f1dc6b20e55af8d4ee"), looks := false }, kinds := [], alts := [], laidByText := true, laidKinds := [.data, .pinned], laidTests := true, laidLooks := .later }
def SumNoughtsCardSaid : Prop := Claim7.holds Tryd.pinned (.plain (OpenSpec.ofChange sumNoughtsSpec)) sumNoughtsCard

/-- THE TIED CARD OF 'mudlarklaw05.SumSums'. -/
def sumSumsCard : Claim7 := { stood := { row := sumSumsRow, standIns := [], harness := (true, "531ee0f8de38f515e35dabd4748edd36e535b79783d986f1dc6b20e55af8d4ee"), looks := false }, kinds := [], alts := [], laidByText := true, laidKinds := [.data, .pinned], laidTests := true, laidLooks := .later }
def SumSumsCardSaid : Prop := Claim7.holds Tryd.pinned (.plain (OpenSpec.ofChange sumSumsSpec)) sumSumsCard

/-- THE TIED CARD OF 'mudlarklaw05.SumSeals'. -/
def sumSealsCard : Claim7 := { stood := { row := sumSealsRow, standIns := [], harness := (true, "531ee0f8de38f515e35dabd4748edd36e535b79783d986f1dc6b20e55af8d4ee"), looks := false }, kinds := [], alts := [], laidByText := true, laidKinds := [.data, .pinned], laidTests := true, laidLooks := .later }
def SumSealsCardSaid : Prop := Claim7.holds Tryd.pinned (.plain (OpenSpec.ofChange sumSealsSpec)) sumSealsCard

/-- THE TIED CARD OF 'mudlarklaw05.SumSealed'. -/
def sumSealedCard : Claim7 := { stood := { row := sumSealedRow, standIns := [], harness := (true, "531ee0f8de38f515e35dabd4748edd36e535b79783d986f1dc6b20e55af8d4ee"), looks := false }, kinds := [], alts := [], laidByText := true, laidKinds := [.data, .pinned], laidTests := true, laidLooks := .later }
def SumSealedCardSaid : Prop := Claim7.holds Tryd.pinned (.plain (OpenSpec.ofChange sumSealedSpec)) sumSealedCard

/-- THE TIED CARD OF 'mudlarklaw05.SumSigned'. -/
def sumSignedCard : Claim7 := { stood := { row := sumSignedRow, standIns := [], harness := (true, "531ee0f8de38f515e35dabd4748edd36e535b79783d986f1dc6b20e55af8d4ee"), looks := false }, kinds := [], alts := [], laidByText := true, laidKinds := [.data, .pinned], laidTests := true, laidLooks := .later }
def SumSignedCardSaid : Prop := Claim7.holds Tryd.pinned (.plain (OpenSpec.ofChange sumSignedSpec)) sumSignedCard

/-- THE SECOND FORM's CARD OF 'mudlarklaw05.SumParts'. -/
def sumPartsUptoCard : Claim7 := { stood := { row := sumPartsUptoRow, standIns := [], harness := (true, "531ee0f8de38f515e35dabd4748edd36e535b79783d986f1dc6b20e55af8d4ee"), looks := false }, kinds := [], alts := [], laidByText := true, laidKinds := [.data, .pinned], laidTests := true, laidLooks := .later }
def SumPartsUptoCardSaid : Prop := Claim7.holds Tryd.pinned (.plain (OpenSpec.upto sumPartsSpec)) sumPartsUptoCard

/-- THE SECOND FORM's CARD OF 'mudlarklaw05.SumNoughts'. -/
def sumNoughtsUptoCard : Claim7 := { stood := { row := sumNoughtsUptoRow, standIns := [], harness := (true, "531ee0f8de38f515e35dabd4748edd36e535b79783d986f1dc6b20e55af8d4ee"), looks := false }, kinds := [], alts := [], laidByText := true, laidKinds := [.data, .pinned], laidTests := true, laidLooks := .later }
def SumNoughtsUptoCardSaid : Prop := Claim7.holds Tryd.pinned (.plain (OpenSpec.upto sumNoughtsSpec)) sumNoughtsUptoCard

/-- THE SECOND FORM's CARD OF 'mudlarklaw05.SumSums'. -/
def sumSumsUptoCard : Claim7 := { stood := { row := sumSumsUptoRow, standIns := [], harness := (true, "531ee0f8de38f515e35dabd4748edd36e535b79783d986f1dc6b20e55af8d4ee"), looks := false }, kinds := [], alts := [], laidByText := true, laidKinds := [.data, .pinned], laidTests := true, laidLooks := .later }
def SumSumsUptoCardSaid : Prop := Claim7.holds Tryd.pinned (.plain (OpenSpec.upto sumSumsSpec)) sumSumsUptoCard

/-- THE SECOND FORM's CARD OF 'mudlarklaw05.SumSeals'. -/
def sumSealsUptoCard : Claim7 := { stood := { row := sumSealsUptoRow, standIns := [], harness := (true, "531ee0f8de38f515e35dabd4748edd36e535b79783d986f1dc6b20e55af8d4ee"), looks := false }, kinds := [], alts := [], laidByText := true, laidKinds := [.data, .pinned], laidTests := true, laidLooks := .later }
def SumSealsUptoCardSaid : Prop := Claim7.holds Tryd.pinned (.plain (OpenSpec.upto sumSealsSpec)) sumSealsUptoCard

/-- THE SECOND FORM's CARD OF 'mudlarklaw05.SumSealed'. -/
def sumSealedUptoCard : Claim7 := { stood := { row := sumSealedUptoRow, standIns := [], harness := (true, "531ee0f8de38f515e35dabd4748edd36e535b79783d986f1dc6b20e55af8d4ee"), looks := false }, kinds := [], alts := [], laidByText := true, laidKinds := [.data, .pinned], laidTests := true, laidLooks := .later }
def SumSealedUptoCardSaid : Prop := Claim7.holds Tryd.pinned (.plain (OpenSpec.upto sumSealedSpec)) sumSealedUptoCard

/-- THE SECOND FORM's CARD OF 'mudlarklaw05.SumSigned'. -/
def sumSignedUptoCard : Claim7 := { stood := { row := sumSignedUptoRow, standIns := [], harness := (true, "531ee0f8de38f515e35dabd4748edd36e535b79783d986f1dc6b20e55af8d4ee"), looks := false }, kinds := [], alts := [], laidByText := true, laidKinds := [.data, .pinned], laidTests := true, laidLooks := .later }
def SumSignedUptoCardSaid : Prop := Claim7.holds Tryd.pinned (.plain (OpenSpec.upto sumSignedSpec)) sumSignedUptoCard
end Rows
end Go.Proofs.YtmhomfhdelocjaaDoor
