/-
  DERIVED. GIVEN WITH THE SEED: THE CARDS: each row of YtfobaeoccpebeaaGreatDoorRows.lean that lists a variable, with what it lists TIED to the program's text (the seventh form; the later family's looks); each row that meets fmt, with fmt's text TOLD by the authors' own Lean function (tested against real Go, not proved from fmt's source: count such statements apart). THE CARD IS WHAT COUNTS. Prove the row's statement (the work); the ties are given (YtfobaeoccpebeaaGreatDoorTie.lean); close each card by the builder's one call (the guide's Derived/Test/ToyasCard.lean, 'card_holds'). Laid BY PROGRAM, IN A SANDBOX (cutbox-door.mjs). By AI agents, Wed Nov 11 2026. No macro, syntax, notation, axiom, sorry.
-/
import Derived.Test.YtfobaeoccpebeaaGreatDoorRows
import GoSem.ClaimSeven
namespace Go.Proofs.YtfobaeoccpebeaaGreatDoor
namespace Rows

/-- THE TIED CARD OF 'targumlaw05.FloatDecimals'. -/
def floatDecimalsCard : Claim7 := { stood := { row := floatDecimalsRow, standIns := [], harness := (true, "31b4417b76a937c22f92724a6585588ab3ff89f4457d31f64ab78965041047dc"), looks := true }, kinds := [], alts := [], laidByText := true, laidKinds := [.data, .data, .data, .data, .sentinel, .sentinel, .pinned], laidTests := true, laidLooks := .later }
def FloatDecimalsCardSaid : Prop := Claim7.holds Tryz.pinned (.plain (OpenSpec.ofChange floatDecimalsSpec)) floatDecimalsCard

/-- THE TIED CARD OF 'targumlaw05.FloatBits'. -/
def floatBitsCard : Claim7 := { stood := { row := floatBitsRow, standIns := [], harness := (true, "31b4417b76a937c22f92724a6585588ab3ff89f4457d31f64ab78965041047dc"), looks := true }, kinds := [], alts := [], laidByText := true, laidKinds := [.data, .data, .data, .data, .sentinel, .sentinel, .pinned], laidTests := true, laidLooks := .later }
def FloatBitsCardSaid : Prop := Claim7.holds Tryz.pinned (.plain (OpenSpec.ofChange floatBitsSpec)) floatBitsCard

/-- THE TIED CARD OF 'targumlaw05.FloatTurns'. -/
def floatTurnsCard : Claim7 := { stood := { row := floatTurnsRow, standIns := [], harness := (true, "31b4417b76a937c22f92724a6585588ab3ff89f4457d31f64ab78965041047dc"), looks := true }, kinds := [], alts := [], laidByText := true, laidKinds := [.data, .data, .data, .data, .sentinel, .sentinel, .pinned], laidTests := true, laidLooks := .later }
def FloatTurnsCardSaid : Prop := Claim7.holds Tryz.pinned (.plain (OpenSpec.ofChange floatTurnsSpec)) floatTurnsCard

/-- THE TIED CARD OF 'targumlaw05.FloatSigns'. -/
def floatSignsCard : Claim7 := { stood := { row := floatSignsRow, standIns := [], harness := (true, "31b4417b76a937c22f92724a6585588ab3ff89f4457d31f64ab78965041047dc"), looks := true }, kinds := [], alts := [], laidByText := true, laidKinds := [.data, .data, .data, .data, .sentinel, .sentinel, .pinned], laidTests := true, laidLooks := .later }
def FloatSignsCardSaid : Prop := Claim7.holds Tryz.pinned (.plain (OpenSpec.ofChange floatSignsSpec)) floatSignsCard

/-- THE TIED CARD OF 'targumlaw05.FloatWays'. -/
def floatWaysCard : Claim7 := { stood := { row := floatWaysRow, standIns := [], harness := (true, "31b4417b76a937c22f92724a6585588ab3ff89f4457d31f64ab78965041047dc"), looks := true }, kinds := [], alts := [], laidByText := true, laidKinds := [.data, .data, .data, .data, .sentinel, .sentinel, .pinned], laidTests := true, laidLooks := .later }
def FloatWaysCardSaid : Prop := Claim7.holds Tryz.pinned (.plain (OpenSpec.ofChange floatWaysSpec)) floatWaysCard

/-- THE TIED CARD OF 'targumlaw05.FloatWidths'. -/
def floatWidthsCard : Claim7 := { stood := { row := floatWidthsRow, standIns := [], harness := (true, "31b4417b76a937c22f92724a6585588ab3ff89f4457d31f64ab78965041047dc"), looks := true }, kinds := [], alts := [], laidByText := true, laidKinds := [.data, .data, .data, .data, .sentinel, .sentinel, .pinned], laidTests := true, laidLooks := .later }
def FloatWidthsCardSaid : Prop := Claim7.holds Tryz.pinned (.plain (OpenSpec.ofChange floatWidthsSpec)) floatWidthsCard

/-- THE TIED CARD OF 'targumlaw05.FloatBack'. -/
def floatBackCard : Claim7 := { stood := { row := floatBackRow, standIns := [], harness := (true, "31b4417b76a937c22f92724a6585588ab3ff89f4457d31f64ab78965041047dc"), looks := true }, kinds := [], alts := [], laidByText := true, laidKinds := [.data, .data, .data, .data, .sentinel, .sentinel, .pinned], laidTests := true, laidLooks := .later }
def FloatBackCardSaid : Prop := Claim7.holds Tryz.pinned (.plain (OpenSpec.ofChange floatBackSpec)) floatBackCard

/-- THE TIED CARD OF 'targumlaw05.FloatWholes'. -/
def floatWholesCard : Claim7 := { stood := { row := floatWholesRow, standIns := [], harness := (true, "31b4417b76a937c22f92724a6585588ab3ff89f4457d31f64ab78965041047dc"), looks := true }, kinds := [], alts := [], laidByText := true, laidKinds := [.data, .data, .data, .data, .sentinel, .sentinel, .pinned], laidTests := true, laidLooks := .later }
def FloatWholesCardSaid : Prop := Claim7.holds Tryz.pinned (.plain (OpenSpec.ofChange floatWholesSpec)) floatWholesCard

/-- THE SECOND FORM's CARD OF 'targumlaw05.FloatDecimals'. -/
def floatDecimalsUptoCard : Claim7 := { stood := { row := floatDecimalsUptoRow, standIns := [], harness := (true, "31b4417b76a937c22f92724a6585588ab3ff89f4457d31f64ab78965041047dc"), looks := true }, kinds := [], alts := [], laidByText := true, laidKinds := [.data, .data, .data, .data, .sentinel, .sentinel, .pinned], laidTests := true, laidLooks := .later }
def FloatDecimalsUptoCardSaid : Prop := Claim7.holds Tryz.pinned (.plain (OpenSpec.upto floatDecimalsSpec)) floatDecimalsUptoCard

/-- THE SECOND FORM's CARD OF 'targumlaw05.FloatBits'. -/
def floatBitsUptoCard : Claim7 := { stood := { row := floatBitsUptoRow, standIns := [], harness := (true, "31b4417b76a937c22f92724a6585588ab3ff89f4457d31f64ab78965041047dc"), looks := true }, kinds := [], alts := [], laidByText := true, laidKinds := [.data, .data, .data, .data, .sentinel, .sentinel, .pinned], laidTests := true, laidLooks := .later }
def FloatBitsUptoCardSaid : Prop := Claim7.holds Tryz.pinned (.plain (OpenSpec.upto floatBitsSpec)) floatBitsUptoCard

/-- THE SECOND FORM's CARD OF 'targumlaw05.FloatTurns'. -/
def floatTurnsUptoCard : Claim7 := { stood := { row := floatTurnsUptoRow, standIns := [], harness := (true, "31b4417b76a937c22f92724a6585588ab3ff89f4457d31f64ab78965041047dc"), looks := true }, kinds := [], alts := [], laidByText := true, laidKinds := [.data, .data, .data, .data, .sentinel, .sentinel, .pinned], laidTests := true, laidLooks := .later }
def FloatTurnsUptoCardSaid : Prop := Claim7.holds Tryz.pinned (.plain (OpenSpec.upto floatTurnsSpec)) floatTurnsUptoCard

/-- THE SECOND FORM's CARD OF 'targumlaw05.FloatSigns'. -/
def floatSignsUptoCard : Claim7 := { stood := { row := floatSignsUptoRow, standIns := [], harness := (true, "31b4417b76a937c22f92724a6585588ab3ff89f4457d31f64ab78965041047dc"), looks := true }, kinds := [], alts := [], laidByText := true, laidKinds := [.data, .data, .data, .data, .sentinel, .sentinel, .pinned], laidTests := true, laidLooks := .later }
def FloatSignsUptoCardSaid : Prop := Claim7.holds Tryz.pinned (.plain (OpenSpec.upto floatSignsSpec)) floatSignsUptoCard

/-- THE SECOND FORM's CARD OF 'targumlaw05.FloatWays'. -/
def floatWaysUptoCard : Claim7 := { stood := { row := floatWaysUptoRow, standIns := [], harness := (true, "31b4417b76a937c22f92724a6585588ab3ff89f4457d31f64ab78965041047dc"), looks := true }, kinds := [], alts := [], laidByText := true, laidKinds := [.data, .data, .data, .data, .sentinel, .sentinel, .pinned], laidTests := true, laidLooks := .later }
def FloatWaysUptoCardSaid : Prop := Claim7.holds Tryz.pinned (.plain (OpenSpec.upto floatWaysSpec)) floatWaysUptoCard

/-- THE SECOND FORM's CARD OF 'targumlaw05.FloatWidths'. -/
def floatWidthsUptoCard : Claim7 := { stood := { row := floatWidthsUptoRow, standIns := [], harness := (true, "31b4417b76a937c22f92724a6585588ab3ff89f4457d31f64ab78965041047dc"), looks := true }, kinds := [], alts := [], laidByText := true, laidKinds := [.data, .data, .data, .data, .sentinel, .sentinel, .pinned], laidTests := true, laidLooks := .later }
def FloatWidthsUptoCardSaid : Prop := Claim7.holds Tryz.pinned (.plain (OpenSpec.upto floatWidthsSpec)) floatWidthsUptoCard

/-- THE SECOND FORM's CARD OF 'targumlaw05.FloatBack'. -/
def floatBackUptoCard : Claim7 := { stood := { row := floatBackUptoRow, standIns := [], harness := (true, "31b4417b76a937c22f92724a6585588ab3ff89f4457d31f64ab78965041047dc"), looks := true }, kinds := [], alts := [], laidByText := true, laidKinds := [.data, .data, .data, .data, .sentinel, .sentinel, .pinned], laidTests := true, laidLooks := .later }
def FloatBackUptoCardSaid : Prop := Claim7.holds Tryz.pinned (.plain (OpenSpec.upto floatBackSpec)) floatBackUptoCard

/-- THE SECOND FORM's CARD OF 'targumlaw05.FloatWholes'. -/
def floatWholesUptoCard : Claim7 := { stood := { row := floatWholesUptoRow, standIns := [], harness := (true, "31b4417b76a937c22f92724a6585588ab3ff89f4457d31f64ab78965041047dc"), looks := true }, kinds := [], alts := [], laidByText := true, laidKinds := [.data, .data, .data, .data, .sentinel, .sentinel, .pinned], laidTests := true, laidLooks := .later }
def FloatWholesUptoCardSaid : Prop := Claim7.holds Tryz.pinned (.plain (OpenSpec.upto floatWholesSpec)) floatWholesUptoCard
end Rows
end Go.Proofs.YtfobaeoccpebeaaGreatDoor
