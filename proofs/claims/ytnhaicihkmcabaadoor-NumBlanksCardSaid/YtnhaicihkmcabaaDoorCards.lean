/-
  DERIVED. GIVEN WITH THE SEED: THE CARDS: each row of YtnhaicihkmcabaaDoorRows.lean that lists a variable, with what it lists TIED to the program's text (the seventh form; the later family's looks); each row that meets fmt, with fmt's text TOLD by the authors' own Lean function (tested against real Go, not proved from fmt's source: count such statements apart). THE CARD IS WHAT COUNTS. Prove the row's statement (the work); the ties are given (YtnhaicihkmcabaaDoorTie.lean); close each card by the builder's one call (the guide's Derived/Test/ToyasCard.lean, 'card_holds'). Laid BY PROGRAM, IN A SANDBOX (cutbox-door.mjs). By AI agents, Wed Nov 11 2026. No macro, syntax, notation, axiom, sorry.
-/
import Derived.Test.YtnhaicihkmcabaaDoorRows
import GoSem.ClaimSeven
namespace Go.Proofs.YtnhaicihkmcabaaDoor
namespace Rows

/-- THE TIED CARD OF 'mudlarklaw01.NumWide'. -/
def numWideCard : Claim7 := { stood := { row := numWideRow, standIns := [], harness := (true, "186ca4f7e8b7a4e5c59926afc10d9c8e46b5f6a705c52d3a7d3938d6f78721bc"), looks := false }, kinds := [], alts := [], laidByText := true, laidKinds := [.data, .pinned], laidTests := true, laidLooks := .later }
def NumWideCardSaid : Prop := Claim7.holds Tryd.pinned (.plain (OpenSpec.ofChange numWideSpec)) numWideCard

/-- THE TIED CARD OF 'mudlarklaw01.NumSigns'. -/
def numSignsCard : Claim7 := { stood := { row := numSignsRow, standIns := [], harness := (true, "186ca4f7e8b7a4e5c59926afc10d9c8e46b5f6a705c52d3a7d3938d6f78721bc"), looks := false }, kinds := [], alts := [], laidByText := true, laidKinds := [.data, .pinned], laidTests := true, laidLooks := .later }
def NumSignsCardSaid : Prop := Claim7.holds Tryd.pinned (.plain (OpenSpec.ofChange numSignsSpec)) numSignsCard

/-- THE TIED CARD OF 'mudlarklaw01.NumPuts'. -/
def numPutsCard : Claim7 := { stood := { row := numPutsRow, standIns := [], harness := (true, "186ca4f7e8b7a4e5c59926afc10d9c8e46b5f6a705c52d3a7d3938d6f78721bc"), looks := false }, kinds := [], alts := [], laidByText := true, laidKinds := [.data, .pinned], laidTests := true, laidLooks := .later }
def NumPutsCardSaid : Prop := Claim7.holds Tryd.pinned (.plain (OpenSpec.ofChange numPutsSpec)) numPutsCard

/-- THE TIED CARD OF 'mudlarklaw01.NumBlanks'. -/
def numBlanksCard : Claim7 := { stood := { row := numBlanksRow, standIns := [], harness := (true, "186ca4f7e8b7a4e5c59926afc10d9c8e46b5f6a705c52d3a7d3938d6f78721bc"), looks := false }, kinds := [], alts := [], laidByText := true, laidKinds := [.data, .pinned], laidTests := true, laidLooks := .later }
def NumBlanksCardSaid : Prop := Claim7.holds Tryd.pinned (.plain (OpenSpec.ofChange numBlanksSpec)) numBlanksCard

/-- THE TIED CARD OF 'mudlarklaw01.NumParses'. -/
def numParsesCard : Claim7 := { stood := { row := numParsesRow, standIns := [], harness := (true, "186ca4f7e8b7a4e5c59926afc10d9c8e46b5f6a705c52d3a7d3938d6f78721bc"), looks := false }, kinds := [], alts := [], laidByText := true, laidKinds := [.data, .pinned], laidTests := true, laidLooks := .later }
def NumParsesCardSaid : Prop := Claim7.holds Tryd.pinned (.plain (OpenSpec.ofChange numParsesSpec)) numParsesCard

/-- THE TIED CARD OF 'mudlarklaw01.NumBack'. -/
def numBackCard : Claim7 := { stood := { row := numBackRow, standIns := [], harness := (true, "186ca4f7e8b7a4e5c59926afc10d9c8e46b5f6a705c52d3a7d3938d6f78721bc"), looks := false }, kinds := [], alts := [], laidByText := true, laidKinds := [.data, .pinned], laidTests := true, laidLooks := .later }
def NumBackCardSaid : Prop := Claim7.holds Tryd.pinned (.plain (OpenSpec.ofChange numBackSpec)) numBackCard

/-- THE SECOND FORM's CARD OF 'mudlarklaw01.NumWide'. -/
def numWideUptoCard : Claim7 := { stood := { row := numWideUptoRow, standIns := [], harness := (true, "186ca4f7e8b7a4e5c59926afc10d9c8e46b5f6a705c52d3a7d3938d6f78721bc"), looks := false }, kinds := [], alts := [], laidByText := true, laidKinds := [.data, .pinned], laidTests := true, laidLooks := .later }
def NumWideUptoCardSaid : Prop := Claim7.holds Tryd.pinned (.plain (OpenSpec.upto numWideSpec)) numWideUptoCard

/-- THE SECOND FORM's CARD OF 'mudlarklaw01.NumSigns'. -/
def numSignsUptoCard : Claim7 := { stood := { row := numSignsUptoRow, standIns := [], harness := (true, "186ca4f7e8b7a4e5c59926afc10d9c8e46b5f6a705c52d3a7d3938d6f78721bc"), looks := false }, kinds := [], alts := [], laidByText := true, laidKinds := [.data, .pinned], laidTests := true, laidLooks := .later }
def NumSignsUptoCardSaid : Prop := Claim7.holds Tryd.pinned (.plain (OpenSpec.upto numSignsSpec)) numSignsUptoCard

/-- THE SECOND FORM's CARD OF 'mudlarklaw01.NumPuts'. -/
def numPutsUptoCard : Claim7 := { stood := { row := numPutsUptoRow, standIns := [], harness := (true, "186ca4f7e8b7a4e5c59926afc10d9c8e46b5f6a705c52d3a7d3938d6f78721bc"), looks := false }, kinds := [], alts := [], laidByText := true, laidKinds := [.data, .pinned], laidTests := true, laidLooks := .later }
def NumPutsUptoCardSaid : Prop := Claim7.holds Tryd.pinned (.plain (OpenSpec.upto numPutsSpec)) numPutsUptoCard

/-- THE SECOND FORM's CARD OF 'mudlarklaw01.NumBlanks'. -/
def numBlanksUptoCard : Claim7 := { stood := { row := numBlanksUptoRow, standIns := [], harness := (true, "186ca4f7e8b7a4e5c59926afc10d9c8e46b5f6a705c52d3a7d3938d6f78721bc"), looks := false }, kinds := [], alts := [], laidByText := true, laidKinds := [.data, .pinned], laidTests := true, laidLooks := .later }
def NumBlanksUptoCardSaid : Prop := Claim7.holds Tryd.pinned (.plain (OpenSpec.upto numBlanksSpec)) numBlanksUptoCard

/-- THE SECOND FORM's CARD OF 'mudlarklaw01.NumParses'. -/
def numParsesUptoCard : Claim7 := { stood := { row := numParsesUptoRow, standIns := [], harness := (true, "186ca4f7e8b7a4e5c59926afc10d9c8e46b5f6a705c52d3a7d3938d6f78721bc"), looks := false }, kinds := [], alts := [], laidByText := true, laidKinds := [.data, .pinned], laidTests := true, laidLooks := .later }
def NumParsesUptoCardSaid : Prop := Claim7.holds Tryd.pinned (.plain (OpenSpec.upto numParsesSpec)) numParsesUptoCard

/-- THE SECOND FORM's CARD OF 'mudlarklaw01.NumBack'. -/
def numBackUptoCard : Claim7 := { stood := { row := numBackUptoRow, standIns := [], harness := (true, "186ca4f7e8b7a4e5c59926afc10d9c8e46b5f6a705c52d3a7d3938d6f78721bc"), looks := false }, kinds := [], alts := [], laidByText := true, laidKinds := [.data, .pinned], laidTests := true, laidLooks := .later }
def NumBackUptoCardSaid : Prop := Claim7.holds Tryd.pinned (.plain (OpenSpec.upto numBackSpec)) numBackUptoCard
end Rows
end Go.Proofs.YtnhaicihkmcabaaDoor
