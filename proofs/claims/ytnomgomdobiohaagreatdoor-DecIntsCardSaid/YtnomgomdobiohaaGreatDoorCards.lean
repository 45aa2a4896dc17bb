/-
  DERIVED. GIVEN WITH THE SEED: THE CARDS: each row of YtnomgomdobiohaaGreatDoorRows.lean that lists a variable, with what it lists TIED to the program's text (the seventh form; the later family's looks); each row that meets fmt, with fmt's text TOLD by the authors' own Lean function (tested against real Go, not proved from fmt's source: count such statements apart). THE CARD IS WHAT COUNTS. Prove the row's statement (the work); the ties are given (YtnomgomdobiohaaGreatDoorTie.lean); close each card by the builder's one call (the guide's Derived/Test/ToyasCard.lean, 'card_holds'). Laid BY PROGRAM, IN A SANDBOX (cutbox-door.mjs). By AI agents, Wed Nov 11 2026. No macro, syntax, notation, axiom, sorry.
-/
import Derived.Test.YtnomgomdobiohaaGreatDoorRows
import GoSem.ClaimSeven
namespace Go.Proofs.YtnomgomdobiohaaGreatDoor
namespace Rows

/-- THE TIED CARD OF 'targumlaw04.DecMakes'. -/
def decMakesCard : Claim7 := { stood := { row := decMakesRow, standIns := [], harness := (true, "dcc6fe8ed97fc04a8efefe9a015050b382d8f08f6494e964dc2ff93b28a347ff"), looks := true }, kinds := [], alts := [], laidByText := true, laidKinds := [.data, .data, .data, .data, .sentinel, .sentinel, .pinned], laidTests := true, laidLooks := .later }
def DecMakesCardSaid : Prop := Claim7.holds Tryz.pinned (.plain (OpenSpec.ofChange decMakesSpec)) decMakesCard

/-- THE TIED CARD OF 'targumlaw04.DecInts'. -/
def decIntsCard : Claim7 := { stood := { row := decIntsRow, standIns := [], harness := (true, "dcc6fe8ed97fc04a8efefe9a015050b382d8f08f6494e964dc2ff93b28a347ff"), looks := true }, kinds := [], alts := [], laidByText := true, laidKinds := [.data, .data, .data, .data, .sentinel, .sentinel, .pinned], laidTests := true, laidLooks := .later }
def DecIntsCardSaid : Prop := Claim7.holds Tryz.pinned (.plain (OpenSpec.ofChange decIntsSpec)) decIntsCard

/-- THE SECOND FORM's CARD OF 'targumlaw04.DecMakes'. -/
def decMakesUptoCard : Claim7 := { stood := { row := decMakesUptoRow, standIns := [], harness := (true, "dcc6fe8ed97fc04a8efefe9a015050b382d8f08f6494e964dc2ff93b28a347ff"), looks := true }, kinds := [], alts := [], laidByText := true, laidKinds := [.data, .data, .data, .data, .sentinel, .sentinel, .pinned], laidTests := true, laidLooks := .later }
def DecMakesUptoCardSaid : Prop := Claim7.holds Tryz.pinned (.plain (OpenSpec.upto decMakesSpec)) decMakesUptoCard

/-- THE SECOND FORM's CARD OF 'targumlaw04.DecInts'. -/
def decIntsUptoCard : Claim7 := { stood := { row := decIntsUptoRow, standIns := [], harness := (true, "dcc6fe8ed97fc04a8efefe9a015050b382d8f08f6494e964dc2ff93b28a347ff"), looks := true }, kinds := [], alts := [], laidByText := true, laidKinds := [.data, .data, .data, .data, .sentinel, .sentinel, .pinned], laidTests := true, laidLooks := .later }
def DecIntsUptoCardSaid : Prop := Claim7.holds Tryz.pinned (.plain (OpenSpec.upto decIntsSpec)) decIntsUptoCard
end Rows
end Go.Proofs.YtnomgomdobiohaaGreatDoor
