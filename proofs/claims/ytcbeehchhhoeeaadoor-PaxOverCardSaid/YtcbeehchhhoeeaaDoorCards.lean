/-
  DERIVED. GIVEN WITH THE SEED: THE CARDS: each row of YtcbeehchhhoeeaaDoorRows.lean that lists a variable, with what it lists TIED to the program's text (the seventh form; the later family's looks); each row that meets fmt, with fmt's text TOLD by the authors' own Lean function (tested against real Go, not proved from fmt's source: count such statements apart). THE CARD IS WHAT COUNTS. Prove the row's statement (the work); the ties are given (YtcbeehchhhoeeaaDoorTie.lean); close each card by the builder's one call (the guide's Derived/Test/ToyasCard.lean, 'card_holds'). Laid BY PROGRAM, IN A SANDBOX (cutbox-door.mjs). By AI agents, Wed Nov 11 2026. No macro, syntax, notation, axiom, sorry.
-/
import Derived.Test.YtcbeehchhhoeeaaDoorRows
import GoSem.ClaimSeven
namespace Go.Proofs.YtcbeehchhhoeeaaDoor
namespace Rows

/-- THE TIED CARD OF 'mudlarklaw03.PaxOdd'. -/
def paxOddCard : Claim7 := { stood := { row := paxOddRow, standIns := [], harness := (true, "7b51a43a22c192fa646752bf85ee86cc206e4dca1f1447492fe7895824dfe94b"), looks := true }, kinds := [], alts := [], laidByText := true, laidKinds := [.data, .data, .data, .sentinel, .sentinel], laidTests := true, laidLooks := .later }
def PaxOddCardSaid : Prop := Claim7.holds Tryd.pinned (.plain (OpenSpec.ofChange paxOddSpec)) paxOddCard

/-- THE TIED CARD OF 'mudlarklaw03.PaxPrints'. -/
def paxPrintsCard : Claim7 := { stood := { row := paxPrintsRow, standIns := [], harness := (true, "7b51a43a22c192fa646752bf85ee86cc206e4dca1f1447492fe7895824dfe94b"), looks := true }, kinds := [], alts := [], laidByText := true, laidKinds := [.data, .data, .data, .sentinel, .sentinel], laidTests := true, laidLooks := .later }
def PaxPrintsCardSaid : Prop := Claim7.holds Tryd.pinned (.plain (OpenSpec.ofChange paxPrintsSpec)) paxPrintsCard

/-- THE TIED CARD OF 'mudlarklaw03.PaxParses'. -/
def paxParsesCard : Claim7 := { stood := { row := paxParsesRow, standIns := [], harness := (true, "7b51a43a22c192fa646752bf85ee86cc206e4dca1f1447492fe7895824dfe94b"), looks := true }, kinds := [], alts := [], laidByText := true, laidKinds := [.data, .data, .data, .sentinel, .sentinel], laidTests := true, laidLooks := .later }
def PaxParsesCardSaid : Prop := Claim7.holds Tryd.pinned (.plain (OpenSpec.ofChange paxParsesSpec)) paxParsesCard

/-- THE TIED CARD OF 'mudlarklaw03.PaxBack'. -/
def paxBackCard : Claim7 := { stood := { row := paxBackRow, standIns := [], harness := (true, "7b51a43a22c192fa646752bf85ee86cc206e4dca1f1447492fe7895824dfe94b"), looks := true }, kinds := [], alts := [], laidByText := true, laidKinds := [.data, .data, .data, .sentinel, .sentinel], laidTests := true, laidLooks := .later }
def PaxBackCardSaid : Prop := Claim7.holds Tryd.pinned (.plain (OpenSpec.ofChange paxBackSpec)) paxBackCard

/-- THE TIED CARD OF 'mudlarklaw03.PaxLong'. -/
def paxLongCard : Claim7 := { stood := { row := paxLongRow, standIns := [], harness := (true, "7b51a43a22c192fa646752bf85ee86cc206e4dca1f1447492fe7895824dfe94b"), looks := true }, kinds := [], alts := [], laidByText := true, laidKinds := [.data, .data, .data, .sentinel, .sentinel], laidTests := true, laidLooks := .later }
def PaxLongCardSaid : Prop := Claim7.holds Tryd.pinned (.plain (OpenSpec.ofChange paxLongSpec)) paxLongCard

/-- THE TIED CARD OF 'mudlarklaw03.PaxJoins'. -/
def paxJoinsCard : Claim7 := { stood := { row := paxJoinsRow, standIns := [], harness := (true, "7b51a43a22c192fa646752bf85ee86cc206e4dca1f1447492fe7895824dfe94b"), looks := true }, kinds := [], alts := [], laidByText := true, laidKinds := [.data, .data, .data, .sentinel, .sentinel], laidTests := true, laidLooks := .later }
def PaxJoinsCardSaid : Prop := Claim7.holds Tryd.pinned (.plain (OpenSpec.ofChange paxJoinsSpec)) paxJoinsCard

/-- THE TIED CARD OF 'mudlarklaw03.PaxMerges'. -/
def paxMergesCard : Claim7 := { stood := { row := paxMergesRow, standIns := [], harness := (true, "7b51a43a22c192fa646752bf85ee86cc206e4dca1f1447492fe7895824dfe94b"), looks := true }, kinds := [], alts := [], laidByText := true, laidKinds := [.data, .data, .data, .sentinel, .sentinel], laidTests := true, laidLooks := .later }
def PaxMergesCardSaid : Prop := Claim7.holds Tryd.pinned (.plain (OpenSpec.ofChange paxMergesSpec)) paxMergesCard

/-- THE TIED CARD OF 'mudlarklaw03.PaxOver'. -/
def paxOverCard : Claim7 := { stood := { row := paxOverRow, standIns := [], harness := (true, "7b51a43a22c192fa646752bf85ee86cc206e4dca1f1447492fe7895824dfe94b"), looks := true }, kinds := [], alts := [], laidByText := true, laidKinds := [.data, .data, .data, .sentinel, .sentinel], laidTests := true, laidLooks := .later }
def PaxOverCardSaid : Prop := Claim7.holds Tryd.pinned (.plain (OpenSpec.ofChange paxOverSpec)) paxOverCard

/-- THE SECOND FORM's CARD OF 'mudlarklaw03.PaxOdd'. -/
def paxOddUptoCard : Claim7 := { stood := { row := paxOddUptoRow, standIns := [], harness := (true, "7b51a43a22c192fa646752bf85ee86cc206e4dca1f1447492fe7895824dfe94b"), looks := true }, kinds := [], alts := [], laidByText := true, laidKinds := [.data, .data, .data, .sentinel, .sentinel], laidTests := true, laidLooks := .later }
def PaxOddUptoCardSaid : Prop := Claim7.holds Tryd.pinned (.plain (OpenSpec.upto paxOddSpec)) paxOddUptoCard

/-- THE SECOND FORM's CARD OF 'mudlarklaw03.PaxPrints'. -/
def paxPrintsUptoCard : Claim7 := { stood := { row := paxPrintsUptoRow, standIns := [], harness := (true, "7b51a43a22c192fa646752bf85ee86cc206e4dca1f1447492fe7895824dfe94b"), looks := true }, kinds := [], alts := [], laidByText := true, laidKinds := [.data, .data, .data, .sentinel, .sentinel], laidTests := true, laidLooks := .later }
def PaxPrintsUptoCardSaid : Prop := Claim7.holds Tryd.pinned (.plain (OpenSpec.upto paxPrintsSpec)) paxPrintsUptoCard

/-- THE SECOND FORM's CARD OF 'mudlarklaw03.PaxParses'. -/
def paxParsesUptoCard : Claim7 := { stood := { row := paxParsesUptoRow, standIns := [], harness := (true, "7b51a43a22c192fa646752bf85ee86cc206e4dca1f1447492fe7895824dfe94b"), looks := true }, kinds := [], alts := [], laidByText := true, laidKinds := [.data, .data, .data, .sentinel, .sentinel], laidTests := true, laidLooks := .later }
def PaxParsesUptoCardSaid : Prop := Claim7.holds Tryd.pinned (.plain (OpenSpec.upto paxParsesSpec)) paxParsesUptoCard

/-- THE SECOND FORM's CARD OF 'mudlarklaw03.PaxBack'. -/
def paxBackUptoCard : Claim7 := { stood := { row := paxBackUptoRow, standIns := [], harness := (true, "7b51a43a22c192fa646752bf85ee86cc206e4dca1f1447492fe7895824dfe94b"), looks := true }, kinds := [], alts := [], laidByText := true, laidKinds := [.data, .data, .data, .sentinel, .sentinel], laidTests := true, laidLooks := .later }
def PaxBackUptoCardSaid : Prop := Claim7.holds Tryd.pinned (.plain (OpenSpec.upto paxBackSpec)) paxBackUptoCard

/-- THE SECOND FORM's CARD OF 'mudlarklaw03.PaxLong'. -/
def paxLongUptoCard : Claim7 := { stood := { row := paxLongUptoRow, standIns := [], harness := (true, "7b51a43a22c192fa646752bf85ee86cc206e4dca1f1447492fe7895824dfe94b"), looks := true }, kinds := [], alts := [], laidByText := true, laidKinds := [.data, .data, .data, .sentinel, .sentinel], laidTests := true, laidLooks := .later }
def PaxLongUptoCardSaid : Prop := Claim7.holds Tryd.pinned (.plain (OpenSpec.upto paxLongSpec)) paxLongUptoCard

/-- THE SECOND FORM's CARD OF 'mudlarklaw03.PaxJoins'. -/
def paxJoinsUptoCard : Claim7 := { stood := { row := paxJoinsUptoRow, standIns := [], harness := (true, "7b51a43a22c192fa646752bf85ee86cc206e4dca1f1447492fe7895824dfe94b"), looks := true }, kinds := [], alts := [], laidByText := true, laidKinds := [.data, .data, .data, .sentinel, .sentinel], laidTests := true, laidLooks := .later }
def PaxJoinsUptoCardSaid : Prop := Claim7.holds Tryd.pinned (.plain (OpenSpec.upto paxJoinsSpec)) paxJoinsUptoCard

/-- THE SECOND FORM's CARD OF 'mudlarklaw03.PaxMerges'. -/
def paxMergesUptoCard : Claim7 := { stood := { row := paxMergesUptoRow, standIns := [], harness := (true, "7b51a43a22c192fa646752bf85ee86cc206e4dca1f1447492fe7895824dfe94b"), looks := true }, kinds := [], alts := [], laidByText := true, laidKinds := [.data, .data, .data, .sentinel, .sentinel], laidTests := true, laidLooks := .later }
def PaxMergesUptoCardSaid : Prop := Claim7.holds Tryd.pinned (.plain (OpenSpec.upto paxMergesSpec)) paxMergesUptoCard

/-- THE SECOND FORM's CARD OF 'mudlarklaw03.PaxOver'. -/
def paxOverUptoCard : Claim7 := { stood := { row := paxOverUptoRow, standIns := [], harness := (true, "7b51a43a22c192fa646752bf85ee86cc206e4dca1f1447492fe7895824dfe94b"), looks := true }, kinds := [], alts := [], laidByText := true, laidKinds := [.data, .data, .data, .sentinel, .sentinel], laidTests := true, laidLooks := .later }
def PaxOverUptoCardSaid : Prop := Claim7.holds Tryd.pinned (.plain (OpenSpec.upto paxOverSpec)) paxOverUptoCard
end Rows
end Go.Proofs.YtcbeehchhhoeeaaDoor
