/-
  DERIVED. GIVEN WITH THE SEED: THE CARDS: each row of YtalfgbdmenccnaaDoorRows.lean that lists a variable, with what it lists TIED to the program's text (the seventh form; the later family's looks); each row that meets fmt, with fmt's text TOLD by the authors' own Lean function (tested against real Go, not proved from fmt's source: count such statements apart). THE CARD IS WHAT COUNTS. Prove the row's statement (the work); the ties are given (YtalfgbdmenccnaaDoorTie.lean); close each card by the builder's one call (the guide's Derived/Test/ToyasCard.lean, 'card_holds'). Laid BY PROGRAM, IN A SANDBOX (cutbox-door.mjs). By AI agents, Wed Nov 11 2026. No macro, syntax, notation, axiom, sorry.
-/
import Derived.Test.YtalfgbdmenccnaaDoorRows
import GoSem.ClaimSeven
namespace Go.Proofs.YtalfgbdmenccnaaDoor
namespace Rows

/-- THE TIED CARD OF 'mudlarklaw04.StampWhole'. -/
def stampWholeCard : Claim7 := { stood := { row := stampWholeRow, standIns := [], harness := (true, "44d90de6367b4f09b287544bf1d10515698512597ab75ae5e99b61e38782d6f8"), looks := true }, kinds := [], alts := [], laidByText := true, laidKinds := [.data, .data, .data, .data, .sentinel, .sentinel, .pinned], laidTests := true, laidLooks := .later }
def StampWholeCardSaid : Prop := Claim7.holds Tryd.pinned (.plain (OpenSpec.ofChange stampWholeSpec)) stampWholeCard

/-- THE TIED CARD OF 'mudlarklaw04.StampTexts'. -/
def stampTextsCard : Claim7 := { stood := { row := stampTextsRow, standIns := [], harness := (true, "44d90de6367b4f09b287544bf1d10515698512597ab75ae5e99b61e38782d6f8"), looks := true }, kinds := [], alts := [], laidByText := true, laidKinds := [.data, .data, .data, .data, .sentinel, .sentinel, .pinned], laidTests := true, laidLooks := .later }
def StampTextsCardSaid : Prop := Claim7.holds Tryd.pinned (.plain (OpenSpec.ofChange stampTextsSpec)) stampTextsCard

/-- THE TIED CARD OF 'mudlarklaw04.StampParses'. -/
def stampParsesCard : Claim7 := { stood := { row := stampParsesRow, standIns := [], harness := (true, "44d90de6367b4f09b287544bf1d10515698512597ab75ae5e99b61e38782d6f8"), looks := true }, kinds := [], alts := [], laidByText := true, laidKinds := [.data, .data, .data, .data, .sentinel, .sentinel, .pinned], laidTests := true, laidLooks := .later }
def StampParsesCardSaid : Prop := Claim7.holds Tryd.pinned (.plain (OpenSpec.ofChange stampParsesSpec)) stampParsesCard

/-- THE TIED CARD OF 'mudlarklaw04.StampBack'. -/
def stampBackCard : Claim7 := { stood := { row := stampBackRow, standIns := [], harness := (true, "44d90de6367b4f09b287544bf1d10515698512597ab75ae5e99b61e38782d6f8"), looks := true }, kinds := [], alts := [], laidByText := true, laidKinds := [.data, .data, .data, .data, .sentinel, .sentinel, .pinned], laidTests := true, laidLooks := .later }
def StampBackCardSaid : Prop := Claim7.holds Tryd.pinned (.plain (OpenSpec.ofChange stampBackSpec)) stampBackCard

/-- THE TIED CARD OF 'mudlarklaw04.StampPrints'. -/
def stampPrintsCard : Claim7 := { stood := { row := stampPrintsRow, standIns := [], harness := (true, "44d90de6367b4f09b287544bf1d10515698512597ab75ae5e99b61e38782d6f8"), looks := true }, kinds := [], alts := [], laidByText := true, laidKinds := [.data, .data, .data, .data, .sentinel, .sentinel, .pinned], laidTests := true, laidLooks := .later }
def StampPrintsCardSaid : Prop := Claim7.holds Tryd.pinned (.plain (OpenSpec.ofChange stampPrintsSpec)) stampPrintsCard

/-- THE TIED CARD OF 'mudlarklaw04.StampOrder'. -/
def stampOrderCard : Claim7 := { stood := { row := stampOrderRow, standIns := [], harness := (true, "44d90de6367b4f09b287544bf1d10515698512597ab75ae5e99b61e38782d6f8"), looks := true }, kinds := [], alts := [], laidByText := true, laidKinds := [.data, .data, .data, .data, .sentinel, .sentinel, .pinned], laidTests := true, laidLooks := .later }
def StampOrderCardSaid : Prop := Claim7.holds Tryd.pinned (.plain (OpenSpec.ofChange stampOrderSpec)) stampOrderCard

/-- THE SECOND FORM's CARD OF 'mudlarklaw04.StampWhole'. -/
def stampWholeUptoCard : Claim7 := { stood := { row := stampWholeUptoRow, standIns := [], harness := (true, "44d90de6367b4f09b287544bf1d10515698512597ab75ae5e99b61e38782d6f8"), looks := true }, kinds := [], alts := [], laidByText := true, laidKinds := [.data, .data, .data, .data, .sentinel, .sentinel, .pinned], laidTests := true, laidLooks := .later }
def StampWholeUptoCardSaid : Prop := Claim7.holds Tryd.pinned (.plain (OpenSpec.upto stampWholeSpec)) stampWholeUptoCard

/-- THE SECOND FORM's CARD OF 'mudlarklaw04.StampTexts'. -/
def stampTextsUptoCard : Claim7 := { stood := { row := stampTextsUptoRow, standIns := [], harness := (true, "44d90de6367b4f09b287544bf1d10515698512597ab75ae5e99b61e38782d6f8"), looks := true }, kinds := [], alts := [], laidByText := true, laidKinds := [.data, .data, .data, .data, .sentinel, .sentinel, .pinned], laidTests := true, laidLooks := .later }
def StampTextsUptoCardSaid : Prop := Claim7.holds Tryd.pinned (.plain (OpenSpec.upto stampTextsSpec)) stampTextsUptoCard

/-- THE SECOND FORM's CARD OF 'mudlarklaw04.StampParses'. -/
def stampParsesUptoCard : Claim7 := { stood := { row := stampParsesUptoRow, standIns := [], harness := (true, "44d90de6367b4f09b287544bf1d10515698512597ab75ae5e99b61e38782d6f8"), looks := true }, kinds := [], alts := [], laidByText := true, laidKinds := [.data, .data, .data, .data, .sentinel, .sentinel, .pinned], laidTests := true, laidLooks := .later }
def StampParsesUptoCardSaid : Prop := Claim7.holds Tryd.pinned (.plain (OpenSpec.upto stampParsesSpec)) stampParsesUptoCard

/-- THE SECOND FORM's CARD OF 'mudlarklaw04.StampBack'. -/
def stampBackUptoCard : Claim7 := { stood := { row := stampBackUptoRow, standIns := [], harness := (true, "44d90de6367b4f09b287544bf1d10515698512597ab75ae5e99b61e38782d6f8"), looks := true }, kinds := [], alts := [], laidByText := true, laidKinds := [.data, .data, .data, .data, .sentinel, .sentinel, .pinned], laidTests := true, laidLooks := .later }
def StampBackUptoCardSaid : Prop := Claim7.holds Tryd.pinned (.plain (OpenSpec.upto stampBackSpec)) stampBackUptoCard

/-- THE SECOND FORM's CARD OF 'mudlarklaw04.StampPrints'. -/
def stampPrintsUptoCard : Claim7 := { stood := { row := stampPrintsUptoRow, standIns := [], harness := (true, "44d90de6367b4f09b287544bf1d10515698512597ab75ae5e99b61e38782d6f8"), looks := true }, kinds := [], alts := [], laidByText := true, laidKinds := [.data, .data, .data, .data, .sentinel, .sentinel, .pinned], laidTests := true, laidLooks := .later }
def StampPrintsUptoCardSaid : Prop := Claim7.holds Tryd.pinned (.plain (OpenSpec.upto stampPrintsSpec)) stampPrintsUptoCard

/-- THE SECOND FORM's CARD OF 'mudlarklaw04.StampOrder'. -/
def stampOrderUptoCard : Claim7 := { stood := { row := stampOrderUptoRow, standIns := [], harness := (true, "44d90de6367b4f09b287544bf1d10515698512597ab75ae5e99b61e38782d6f8"), looks := true }, kinds := [], alts := [], laidByText := true, laidKinds := [.data, .data, .data, .data, .sentinel, .sentinel, .pinned], laidTests := true, laidLooks := .later }
def StampOrderUptoCardSaid : Prop := Claim7.holds Tryd.pinned (.plain (OpenSpec.upto stampOrderSpec)) stampOrderUptoCard
end Rows
end Go.Proofs.YtalfgbdmenccnaaDoor
