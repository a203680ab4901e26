/-
  DERIVED. GIVEN WITH THE SEED: THE CARDS: each row of YtdeolcgabkkocaaDoorRows.lean that lists a variable, with what it lists TIED to the program's text (the seventh form; the later family's looks); each row that meets fmt, with fmt's text TOLD by the authors' own Lean function (tested against real Go, not proved from fmt's source: count such statements apart). THE CARD IS WHAT COUNTS. Prove the row's statement (the work); the ties are given (YtdeolcgabkkocaaDoorTie.lean); close each card by the builder's one call (the guide's Derived/Test/ToyasCard.lean, 'card_holds'). Laid BY PROGRAM, IN A SANDBOX (cutbox-door.mjs). By AI agents, Wed Nov 11 2026. No macro, syntax, notation, axiom, sorry.
-/
import Derived.Test.YtdeolcgabkkocaaDoorRows
import GoSem.ClaimSeven
namespace Go.Proofs.YtdeolcgabkkocaaDoor
namespace Rows

/-- THE TIED CARD OF 'mudlarklaw08.HeadWays'. -/
def headWaysCard : Claim7 := { stood := { row := headWaysRow, standIns := [], harness := (true, "c3530edf9bfc92dfe97a176879f09021aadaea1141a4e9363507d9eb1bf5cf47"), looks := true }, kinds := [], alts := [], laidByText := true, laidKinds := [.data, .widerDeep, .pinned], laidTests := true, laidLooks := .later }
def HeadWaysCardSaid : Prop := Claim7.holds Tryd.pinned (.plain (OpenSpec.ofChange headWaysSpec)) headWaysCard

/-- THE TIED CARD OF 'mudlarklaw08.HeadKinds'. -/
def headKindsCard : Claim7 := { stood := { row := headKindsRow, standIns := [], harness := (true, "c3530edf9bfc92dfe97a176879f09021aadaea1141a4e9363507d9eb1bf5cf47"), looks := true }, kinds := [], alts := [], laidByText := true, laidKinds := [.data, .widerDeep, .pinned], laidTests := true, laidLooks := .later }
def HeadKindsCardSaid : Prop := Claim7.holds Tryd.pinned (.plain (OpenSpec.ofChange headKindsSpec)) headKindsCard

/-- THE TIED CARD OF 'mudlarklaw08.HeadParts'. -/
def headPartsCard : Claim7 := { stood := { row := headPartsRow, standIns := [], harness := (true, "c3530edf9bfc92dfe97a176879f09021aadaea1141a4e9363507d9eb1bf5cf47"), looks := true }, kinds := [], alts := [], laidByText := true, laidKinds := [.data, .widerDeep, .pinned], laidTests := true, laidLooks := .later }
def HeadPartsCardSaid : Prop := Claim7.holds Tryd.pinned (.plain (OpenSpec.ofChange headPartsSpec)) headPartsCard

/-- THE TIED CARD OF 'mudlarklaw08.HeadBack'. -/
def headBackCard : Claim7 := { stood := { row := headBackRow, standIns := [], harness := (true, "c3530edf9bfc92dfe97a176879f09021aadaea1141a4e9363507d9eb1bf5cf47"), looks := true }, kinds := [], alts := [], laidByText := true, laidKinds := [.data, .widerDeep, .pinned], laidTests := true, laidLooks := .later }
def HeadBackCardSaid : Prop := Claim7.holds Tryd.pinned (.plain (OpenSpec.ofChange headBackSpec)) headBackCard

/-- THE TIED CARD OF 'mudlarklaw08.HeadSpoilt'. -/
def headSpoiltCard : Claim7 := { stood := { row := headSpoiltRow, standIns := [], harness := (true, "c3530edf9bfc92dfe97a176879f09021aadaea1141a4e9363507d9eb1bf5cf47"), looks := true }, kinds := [], alts := [], laidByText := true, laidKinds := [.data, .widerDeep, .pinned], laidTests := true, laidLooks := .later }
def HeadSpoiltCardSaid : Prop := Claim7.holds Tryd.pinned (.plain (OpenSpec.ofChange headSpoiltSpec)) headSpoiltCard

/-- THE SECOND FORM's CARD OF 'mudlarklaw08.HeadWays'. -/
def headWaysUptoCard : Claim7 := { stood := { row := headWaysUptoRow, standIns := [], harness := (true, "c3530edf9bfc92dfe97a176879f09021aadaea1141a4e9363507d9eb1bf5cf47"), looks := true }, kinds := [], alts := [], laidByText := true, laidKinds := [.data, .widerDeep, .pinned], laidTests := true, laidLooks := .later }
def HeadWaysUptoCardSaid : Prop := Claim7.holds Tryd.pinned (.plain (OpenSpec.upto headWaysSpec)) headWaysUptoCard

/-- THE SECOND FORM's CARD OF 'mudlarklaw08.HeadKinds'. -/
def headKindsUptoCard : Claim7 := { stood := { row := headKindsUptoRow, standIns := [], harness := (true, "c3530edf9bfc92dfe97a176879f09021aadaea1141a4e9363507d9eb1bf5cf47"), looks := true }, kinds := [], alts := [], laidByText := true, laidKinds := [.data, .widerDeep, .pinned], laidTests := true, laidLooks := .later }
def HeadKindsUptoCardSaid : Prop := Claim7.holds Tryd.pinned (.plain (OpenSpec.upto headKindsSpec)) headKindsUptoCard

/-- THE SECOND FORM's CARD OF 'mudlarklaw08.HeadParts'. -/
def headPartsUptoCard : Claim7 := { stood := { row := headPartsUptoRow, standIns := [], harness := (true, "c3530edf9bfc92dfe97a176879f09021aadaea1141a4e9363507d9eb1bf5cf47"), looks := true }, kinds := [], alts := [], laidByText := true, laidKinds := [.data, .widerDeep, .pinned], laidTests := true, laidLooks := .later }
def HeadPartsUptoCardSaid : Prop := Claim7.holds Tryd.pinned (.plain (OpenSpec.upto headPartsSpec)) headPartsUptoCard

/-- THE SECOND FORM's CARD OF 'mudlarklaw08.HeadBack'. -/
def headBackUptoCard : Claim7 := { stood := { row := headBackUptoRow, standIns := [], harness := (true, "c3530edf9bfc92dfe97a176879f09021aadaea1141a4e9363507d9eb1bf5cf47"), looks := true }, kinds := [], alts := [], laidByText := true, laidKinds := [.data, .widerDeep, .pinned], laidTests := true, laidLooks := .later }
def HeadBackUptoCardSaid : Prop := Claim7.holds Tryd.pinned (.plain (OpenSpec.upto headBackSpec)) headBackUptoCard

/-- THE SECOND FORM's CARD OF 'mudlarklaw08.HeadSpoilt'. -/
def headSpoiltUptoCard : Claim7 := { stood := { row := headSpoiltUptoRow, standIns := [], harness := (true, "c3530edf9bfc92dfe97a176879f09021aadaea1141a4e9363507d9eb1bf5cf47"), looks := true }, kinds := [], alts := [], laidByText := true, laidKinds := [.data, .widerDeep, .pinned], laidTests := true, laidLooks := .later }
def HeadSpoiltUptoCardSaid : Prop := Claim7.holds Tryd.pinned (.plain (OpenSpec.upto headSpoiltSpec)) headSpoiltUptoCard
end Rows
end Go.Proofs.YtdeolcgabkkocaaDoor
