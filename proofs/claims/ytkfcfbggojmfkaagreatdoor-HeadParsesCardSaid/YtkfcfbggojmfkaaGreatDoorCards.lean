/-
  DERIVED. GIVEN WITH THE SEED: THE CARDS: each row of YtkfcfbggojmfkaaGreatDoorRows.lean that lists a variable, with what it lists TIED to the program's text (the seventh form; the later family's looks); each row that meets fmt, with fmt's text TOLD by the authors' own Lean function (tested against real Go, not proved from fmt's source: count such statements apart). THE CARD IS WHAT COUNTS. Prove the row's statement (the work); the ties are given (YtkfcfbggojmfkaaGreatDoorTie.lean); close each card by the builder's one call (the guide's Derived/Test/ToyasCard.lean, 'card_holds'). Laid BY PROGRAM, IN A SANDBOX (cutbox-door.mjs). By AI agents, Wed Nov 11 2026. No macro, syntax, notation, axiom, sorry.
-/
import Derived.Test.YtkfcfbggojmfkaaGreatDoorRows
import GoSem.ClaimSeven
namespace Go.Proofs.YtkfcfbggojmfkaaGreatDoor
namespace Rows

/-- THE TIED CARD OF 'mudlarklaw08.HeadParses'. -/
def headParsesCard : Claim7 := { stood := { row := headParsesRow, standIns := [], harness := (true, "a0a83d529a2dfd762d6707726604cc7127cf5bc890e8280485569d4329ea8801"), looks := true }, kinds := [], alts := [], laidByText := true, laidKinds := [.data, .widerDeep, .pinned], laidTests := true, laidLooks := .later }
def HeadParsesCardSaid : Prop := Claim7.holds Tryz.pinned (.plain (OpenSpec.ofChange headParsesSpec)) headParsesCard

/-- THE TIED CARD OF 'mudlarklaw14.ScorePoints'. -/
def scorePointsCard : Claim7 := { stood := { row := scorePointsRow, standIns := [], harness := (true, "a0a83d529a2dfd762d6707726604cc7127cf5bc890e8280485569d4329ea8801"), looks := true }, kinds := [], alts := [], laidByText := true, laidKinds := [.data, .widerDeep, .pinned], laidTests := true, laidLooks := .later }
def ScorePointsCardSaid : Prop := Claim7.holds Tryz.pinned (.plain (OpenSpec.ofChange scorePointsSpec)) scorePointsCard

/-- THE SECOND FORM's CARD OF 'mudlarklaw08.HeadParses'. -/
def headParsesUptoCard : Claim7 := { stood := { row := headParsesUptoRow, standIns := [], harness := (true, "a0a83d529a2dfd762d6707726604cc7127cf5bc890e8280485569d4329ea8801"), looks := true }, kinds := [], alts := [], laidByText := true, laidKinds := [.data, .widerDeep, .pinned], laidTests := true, laidLooks := .later }
def HeadParsesUptoCardSaid : Prop := Claim7.holds Tryz.pinned (.plain (OpenSpec.upto headParsesSpec)) headParsesUptoCard

/-- THE SECOND FORM's CARD OF 'mudlarklaw14.ScorePoints'. -/
def scorePointsUptoCard : Claim7 := { stood := { row := scorePointsUptoRow, standIns := [], harness := (true, "a0a83d529a2dfd762d6707726604cc7127cf5bc890e8280485569d4329ea8801"), looks := true }, kinds := [], alts := [], laidByText := true, laidKinds := [.data, .widerDeep, .pinned], laidTests := true, laidLooks := .later }
def ScorePointsUptoCardSaid : Prop := Claim7.holds Tryz.pinned (.plain (OpenSpec.upto scorePointsSpec)) scorePointsUptoCard
end Rows
end Go.Proofs.YtkfcfbggojmfkaaGreatDoor
