/-
  DERIVED. GIVEN WITH THE SEED: THE CARDS: each row of YtdfoajclakjelaaGreatDoorRows.lean that lists a variable, with what it lists TIED to the program's text (the seventh form; the later family's looks); each row that meets fmt, with fmt's text TOLD by the authors' own Lean function (tested against real Go, not proved from fmt's source: count such statements apart). THE CARD IS WHAT COUNTS. Prove the row's statement (the work); the ties are given (YtdfoajclakjelaaGreatDoorTie.lean); close each card by the builder's one call (the guide's Derived/Test/ToyasCard.lean, 'card_holds'). Laid BY PROGRAM, IN A SANDBOX (cutbox-door.mjs). By AI agents, Wed Nov 11 2026. No macro, syntax, notation, axiom, sorry.
-/
import Derived.Test.YtdfoajclakjelaaGreatDoorRows
import GoSem.ClaimSeven
namespace Go.Proofs.YtdfoajclakjelaaGreatDoor
namespace Rows

/-- THE TIED CARD OF 'targumlaw06.TreeChecks'. -/
def treeChecksCard : Claim7 := { stood := { row := treeChecksRow, standIns := [], harness := (true, "8b17dc9a8cf35428e5962f7bf7a8a66583b40d20f7c117e0ebaf37378325bc5d"), looks := true }, kinds := [], alts := [], laidByText := true, laidKinds := [.data, .data, .data, .data, .sentinel, .sentinel, .sentinel, .sentinel, .pinned], laidTests := true, laidLooks := .later }
def TreeChecksCardSaid : Prop := Claim7.holds Tryz.pinned (.plain (OpenSpec.ofChange treeChecksSpec)) treeChecksCard

/-- THE TIED CARD OF 'targumlaw06.TreeSame'. -/
def treeSameCard : Claim7 := { stood := { row := treeSameRow, standIns := [], harness := (true, "8b17dc9a8cf35428e5962f7bf7a8a66583b40d20f7c117e0ebaf37378325bc5d"), looks := true }, kinds := [], alts := [], laidByText := true, laidKinds := [.data, .data, .data, .data, .sentinel, .sentinel, .sentinel, .sentinel, .pinned], laidTests := true, laidLooks := .later }
def TreeSameCardSaid : Prop := Claim7.holds Tryz.pinned (.plain (OpenSpec.ofChange treeSameSpec)) treeSameCard

/-- THE TIED CARD OF 'targumlaw06.TreeParts'. -/
def treePartsCard : Claim7 := { stood := { row := treePartsRow, standIns := [], harness := (true, "8b17dc9a8cf35428e5962f7bf7a8a66583b40d20f7c117e0ebaf37378325bc5d"), looks := true }, kinds := [], alts := [], laidByText := true, laidKinds := [.data, .data, .data, .data, .sentinel, .sentinel, .sentinel, .sentinel, .pinned], laidTests := true, laidLooks := .later }
def TreePartsCardSaid : Prop := Claim7.holds Tryz.pinned (.plain (OpenSpec.ofChange treePartsSpec)) treePartsCard

/-- THE TIED CARD OF 'targumlaw06.TreeForms'. -/
def treeFormsCard : Claim7 := { stood := { row := treeFormsRow, standIns := [], harness := (true, "8b17dc9a8cf35428e5962f7bf7a8a66583b40d20f7c117e0ebaf37378325bc5d"), looks := true }, kinds := [], alts := [], laidByText := true, laidKinds := [.data, .data, .data, .data, .sentinel, .sentinel, .sentinel, .sentinel, .pinned], laidTests := true, laidLooks := .later }
def TreeFormsCardSaid : Prop := Claim7.holds Tryz.pinned (.plain (OpenSpec.ofChange treeFormsSpec)) treeFormsCard

/-- THE TIED CARD OF 'targumlaw06.TreeSums'. -/
def treeSumsCard : Claim7 := { stood := { row := treeSumsRow, standIns := [], harness := (true, "8b17dc9a8cf35428e5962f7bf7a8a66583b40d20f7c117e0ebaf37378325bc5d"), looks := true }, kinds := [], alts := [], laidByText := true, laidKinds := [.data, .data, .data, .data, .sentinel, .sentinel, .sentinel, .sentinel, .pinned], laidTests := true, laidLooks := .later }
def TreeSumsCardSaid : Prop := Claim7.holds Tryz.pinned (.plain (OpenSpec.ofChange treeSumsSpec)) treeSumsCard

/-- THE TIED CARD OF 'targumlaw06.TreeWraps'. -/
def treeWrapsCard : Claim7 := { stood := { row := treeWrapsRow, standIns := [], harness := (true, "8b17dc9a8cf35428e5962f7bf7a8a66583b40d20f7c117e0ebaf37378325bc5d"), looks := true }, kinds := [], alts := [], laidByText := true, laidKinds := [.data, .data, .data, .data, .sentinel, .sentinel, .sentinel, .sentinel, .pinned], laidTests := true, laidLooks := .later }
def TreeWrapsCardSaid : Prop := Claim7.holds Tryz.pinned (.plain (OpenSpec.ofChange treeWrapsSpec)) treeWrapsCard

/-- THE TIED CARD OF 'targumlaw06.TreeClones'. -/
def treeClonesCard : Claim7 := { stood := { row := treeClonesRow, standIns := [], harness := (true, "8b17dc9a8cf35428e5962f7bf7a8a66583b40d20f7c117e0ebaf37378325bc5d"), looks := true }, kinds := [], alts := [], laidByText := true, laidKinds := [.data, .data, .data, .data, .sentinel, .sentinel, .sentinel, .sentinel, .pinned], laidTests := true, laidLooks := .later }
def TreeClonesCardSaid : Prop := Claim7.holds Tryz.pinned (.plain (OpenSpec.ofChange treeClonesSpec)) treeClonesCard

/-- THE SECOND FORM's CARD OF 'targumlaw06.TreeChecks'. -/
def treeChecksUptoCard : Claim7 := { stood := { row := treeChecksUptoRow, standIns := [], harness := (true, "8b17dc9a8cf35428e5962f7bf7a8a66583b40d20f7c117e0ebaf37378325bc5d"), looks := true }, kinds := [], alts := [], laidByText := true, laidKinds := [.data, .data, .data, .data, .sentinel, .sentinel, .sentinel, .sentinel, .pinned], laidTests := true, laidLooks := .later }
def TreeChecksUptoCardSaid : Prop := Claim7.holds Tryz.pinned (.plain (OpenSpec.upto treeChecksSpec)) treeChecksUptoCard

/-- THE SECOND FORM's CARD OF 'targumlaw06.TreeSame'. -/
def treeSameUptoCard : Claim7 := { stood := { row := treeSameUptoRow, standIns := [], harness := (true, "8b17dc9a8cf35428e5962f7bf7a8a66583b40d20f7c117e0ebaf37378325bc5d"), looks := true }, kinds := [], alts := [], laidByText := true, laidKinds := [.data, .data, .data, .data, .sentinel, .sentinel, .sentinel, .sentinel, .pinned], laidTests := true, laidLooks := .later }
def TreeSameUptoCardSaid : Prop := Claim7.holds Tryz.pinned (.plain (OpenSpec.upto treeSameSpec)) treeSameUptoCard

/-- THE SECOND FORM's CARD OF 'targumlaw06.TreeParts'. -/
def treePartsUptoCard : Claim7 := { stood := { row := treePartsUptoRow, standIns := [], harness := (true, "8b17dc9a8cf35428e5962f7bf7a8a66583b40d20f7c117e0ebaf37378325bc5d"), looks := true }, kinds := [], alts := [], laidByText := true, laidKinds := [.data, .data, .data, .data, .sentinel, .sentinel, .sentinel, .sentinel, .pinned], laidTests := true, laidLooks := .later }
def TreePartsUptoCardSaid : Prop := Claim7.holds Tryz.pinned (.plain (OpenSpec.upto treePartsSpec)) treePartsUptoCard

/-- THE SECOND FORM's CARD OF 'targumlaw06.TreeForms'. -/
def treeFormsUptoCard : Claim7 := { stood := { row := treeFormsUptoRow, standIns := [], harness := (true, "8b17dc9a8cf35428e5962f7bf7a8a66583b40d20f7c117e0ebaf37378325bc5d"), looks := true }, kinds := [], alts := [], laidByText := true, laidKinds := [.data, .data, .data, .data, .sentinel, .sentinel, .sentinel, .sentinel, .pinned], laidTests := true, laidLooks := .later }
def TreeFormsUptoCardSaid : Prop := Claim7.holds Tryz.pinned (.plain (OpenSpec.upto treeFormsSpec)) treeFormsUptoCard

/-- THE SECOND FORM's CARD OF 'targumlaw06.TreeSums'. -/
def treeSumsUptoCard : Claim7 := { stood := { row := treeSumsUptoRow, standIns := [], harness := (true, "8b17dc9a8cf35428e5962f7bf7a8a66583b40d20f7c117e0ebaf37378325bc5d"), looks := true }, kinds := [], alts := [], laidByText := true, laidKinds := [.data, .data, .data, .data, .sentinel, .sentinel, .sentinel, .sentinel, .pinned], laidTests := true, laidLooks := .later }
def TreeSumsUptoCardSaid : Prop := Claim7.holds Tryz.pinned (.plain (OpenSpec.upto treeSumsSpec)) treeSumsUptoCard

/-- THE SECOND FORM's CARD OF 'targumlaw06.TreeWraps'. -/
def treeWrapsUptoCard : Claim7 := { stood := { row := treeWrapsUptoRow, standIns := [], harness := (true, "8b17dc9a8cf35428e5962f7bf7a8a66583b40d20f7c117e0ebaf37378325bc5d"), looks := true }, kinds := [], alts := [], laidByText := true, laidKinds := [.data, .data, .data, .data, .sentinel, .sentinel, .sentinel, .sentinel, .pinned], laidTests := true, laidLooks := .later }
def TreeWrapsUptoCardSaid : Prop := Claim7.holds Tryz.pinned (.plain (OpenSpec.upto treeWrapsSpec)) treeWrapsUptoCard

/-- THE SECOND FORM's CARD OF 'targumlaw06.TreeClones'. -/
def treeClonesUptoCard : Claim7 := { stood := { row := treeClonesUptoRow, standIns := [], harness := (true, "8b17dc9a8cf35428e5962f7bf7a8a66583b40d20f7c117e0ebaf37378325bc5d"), looks := true }, kinds := [], alts := [], laidByText := true, laidKinds := [.data, .data, .data, .data, .sentinel, .sentinel, .sentinel, .sentinel, .pinned], laidTests := true, laidLooks := .later }
def TreeClonesUptoCardSaid : Prop := Claim7.holds Tryz.pinned (.plain (OpenSpec.upto treeClonesSpec)) treeClonesUptoCard
end Rows
end Go.Proofs.YtdfoajclakjelaaGreatDoor
