/-
  DERIVED. GIVEN WITH THE SEED: THE CARDS: each row of YtlnbkmlidmgbaaaDoorRows.lean that lists a variable, with what it lists TIED to the program's text (the seventh form; the later family's looks); each row that meets fmt, with fmt's text TOLD by the authors' own Lean function (tested against real Go, not proved from fmt's source: count such statements apart). THE CARD IS WHAT COUNTS. Prove the row's statement (the work); the ties are given (YtlnbkmlidmgbaaaDoorTie.lean); close each card by the builder's one call (the guide's Derived/Test/ToyasCard.lean, 'card_holds'). Laid BY PROGRAM, IN A SANDBOX (cutbox-door.mjs). By AI agents, Wed Nov 11 2026. No macro, syntax, notation, axiom, sorry.
-/
import Derived.Test.YtlnbkmlidmgbaaaDoorRows
import GoSem.ClaimSeven
namespace Go.Proofs.YtlnbkmlidmgbaaaDoor
namespace Rows

/-- THE TIED CARD OF 'mudlarklaw09.SparseFill'. -/
def sparseFillCard : Claim7 := { stood := { row := sparseFillRow, standIns := [], harness := (true, "3737b25bc928fe9e7425529c37c378f9931385f0c12e2495cd424914900cad4f"), looks := true }, kinds := [], alts := [], laidByText := true, laidKinds := [.data, .data, .data, .data, .sentinel, .sentinel, .pinned], laidTests := true, laidLooks := .later }
def SparseFillCardSaid : Prop := Claim7.holds Tryd.pinned (.plain (OpenSpec.ofChange sparseFillSpec)) sparseFillCard

/-- THE TIED CARD OF 'mudlarklaw09.SparseFront'. -/
def sparseFrontCard : Claim7 := { stood := { row := sparseFrontRow, standIns := [], harness := (true, "3737b25bc928fe9e7425529c37c378f9931385f0c12e2495cd424914900cad4f"), looks := true }, kinds := [], alts := [], laidByText := true, laidKinds := [.data, .data, .data, .data, .sentinel, .sentinel, .pinned], laidTests := true, laidLooks := .later }
def SparseFrontCardSaid : Prop := Claim7.holds Tryd.pinned (.plain (OpenSpec.ofChange sparseFrontSpec)) sparseFrontCard

/-- THE TIED CARD OF 'mudlarklaw09.SparseWhole'. -/
def sparseWholeCard : Claim7 := { stood := { row := sparseWholeRow, standIns := [], harness := (true, "3737b25bc928fe9e7425529c37c378f9931385f0c12e2495cd424914900cad4f"), looks := true }, kinds := [], alts := [], laidByText := true, laidKinds := [.data, .data, .data, .data, .sentinel, .sentinel, .pinned], laidTests := true, laidLooks := .later }
def SparseWholeCardSaid : Prop := Claim7.holds Tryd.pinned (.plain (OpenSpec.ofChange sparseWholeSpec)) sparseWholeCard

/-- THE TIED CARD OF 'mudlarklaw09.SparseExpands'. -/
def sparseExpandsCard : Claim7 := { stood := { row := sparseExpandsRow, standIns := [], harness := (true, "3737b25bc928fe9e7425529c37c378f9931385f0c12e2495cd424914900cad4f"), looks := true }, kinds := [], alts := [], laidByText := true, laidKinds := [.data, .data, .data, .data, .sentinel, .sentinel, .pinned], laidTests := true, laidLooks := .later }
def SparseExpandsCardSaid : Prop := Claim7.holds Tryd.pinned (.plain (OpenSpec.ofChange sparseExpandsSpec)) sparseExpandsCard

/-- THE TIED CARD OF 'mudlarklaw09.SparseTexts'. -/
def sparseTextsCard : Claim7 := { stood := { row := sparseTextsRow, standIns := [], harness := (true, "3737b25bc928fe9e7425529c37c378f9931385f0c12e2495cd424914900cad4f"), looks := true }, kinds := [], alts := [], laidByText := true, laidKinds := [.data, .data, .data, .data, .sentinel, .sentinel, .pinned], laidTests := true, laidLooks := .later }
def SparseTextsCardSaid : Prop := Claim7.holds Tryd.pinned (.plain (OpenSpec.ofChange sparseTextsSpec)) sparseTextsCard

/-- THE TIED CARD OF 'mudlarklaw09.SparseBack'. -/
def sparseBackCard : Claim7 := { stood := { row := sparseBackRow, standIns := [], harness := (true, "3737b25bc928fe9e7425529c37c378f9931385f0c12e2495cd424914900cad4f"), looks := true }, kinds := [], alts := [], laidByText := true, laidKinds := [.data, .data, .data, .data, .sentinel, .sentinel, .pinned], laidTests := true, laidLooks := .later }
def SparseBackCardSaid : Prop := Claim7.holds Tryd.pinned (.plain (OpenSpec.ofChange sparseBackSpec)) sparseBackCard

/-- THE SECOND FORM's CARD OF 'mudlarklaw09.SparseFill'. -/
def sparseFillUptoCard : Claim7 := { stood := { row := sparseFillUptoRow, standIns := [], harness := (true, "3737b25bc928fe9e7425529c37c378f9931385f0c12e2495cd424914900cad4f"), looks := true }, kinds := [], alts := [], laidByText := true, laidKinds := [.data, .data, .data, .data, .sentinel, .sentinel, .pinned], laidTests := true, laidLooks := .later }
def SparseFillUptoCardSaid : Prop := Claim7.holds Tryd.pinned (.plain (OpenSpec.upto sparseFillSpec)) sparseFillUptoCard

/-- THE SECOND FORM's CARD OF 'mudlarklaw09.SparseFront'. -/
def sparseFrontUptoCard : Claim7 := { stood := { row := sparseFrontUptoRow, standIns := [], harness := (true, "3737b25bc928fe9e7425529c37c378f9931385f0c12e2495cd424914900cad4f"), looks := true }, kinds := [], alts := [], laidByText := true, laidKinds := [.data, .data, .data, .data, .sentinel, .sentinel, .pinned], laidTests := true, laidLooks := .later }
def SparseFrontUptoCardSaid : Prop := Claim7.holds Tryd.pinned (.plain (OpenSpec.upto sparseFrontSpec)) sparseFrontUptoCard

/-- THE SECOND FORM's CARD OF 'mudlarklaw09.SparseWhole'. -/
def sparseWholeUptoCard : Claim7 := { stood := { row := sparseWholeUptoRow, standIns := [], harness := (true, "3737b25bc928fe9e7425529c37c378f9931385f0c12e2495cd424914900cad4f"), looks := true }, kinds := [], alts := [], laidByText := true, laidKinds := [.data, .data, .data, .data, .sentinel, .sentinel, .pinned], laidTests := true, laidLooks := .later }
def SparseWholeUptoCardSaid : Prop := Claim7.holds Tryd.pinned (.plain (OpenSpec.upto sparseWholeSpec)) sparseWholeUptoCard

/-- THE SECOND FORM's CARD OF 'mudlarklaw09.SparseExpands'. -/
def sparseExpandsUptoCard : Claim7 := { stood := { row := sparseExpandsUptoRow, standIns := [], harness := (true, "3737b25bc928fe9e7425529c37c378f9931385f0c12e2495cd424914900cad4f"), looks := true }, kinds := [], alts := [], laidByText := true, laidKinds := [.data, .data, .data, .data, .sentinel, .sentinel, .pinned], laidTests := true, laidLooks := .later }
def SparseExpandsUptoCardSaid : Prop := Claim7.holds Tryd.pinned (.plain (OpenSpec.upto sparseExpandsSpec)) sparseExpandsUptoCard

/-- THE SECOND FORM's CARD OF 'mudlarklaw09.SparseTexts'. -/
def sparseTextsUptoCard : Claim7 := { stood := { row := sparseTextsUptoRow, standIns := [], harness := (true, "3737b25bc928fe9e7425529c37c378f9931385f0c12e2495cd424914900cad4f"), looks := true }, kinds := [], alts := [], laidByText := true, laidKinds := [.data, .data, .data, .data, .sentinel, .sentinel, .pinned], laidTests := true, laidLooks := .later }
def SparseTextsUptoCardSaid : Prop := Claim7.holds Tryd.pinned (.plain (OpenSpec.upto sparseTextsSpec)) sparseTextsUptoCard

/-- THE SECOND FORM's CARD OF 'mudlarklaw09.SparseBack'. -/
def sparseBackUptoCard : Claim7 := { stood := { row := sparseBackUptoRow, standIns := [], harness := (true, "3737b25bc928fe9e7425529c37c378f9931385f0c12e2495cd424914900cad4f"), looks := true }, kinds := [], alts := [], laidByText := true, laidKinds := [.data, .data, .data, .data, .sentinel, .sentinel, .pinned], laidTests := true, laidLooks := .later }
def SparseBackUptoCardSaid : Prop := Claim7.holds Tryd.pinned (.plain (OpenSpec.upto sparseBackSpec)) sparseBackUptoCard
end Rows
end Go.Proofs.YtlnbkmlidmgbaaaDoor
