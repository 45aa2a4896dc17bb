/-
  DERIVED. GIVEN WITH THE SEED: THE CARDS: each row of YtdppcpiepippoaaDoorRows.lean that lists a variable, with what it lists TIED to the program's text (the seventh form; the later family's looks); each row that meets fmt, with fmt's text TOLD by the authors' own Lean function (tested against real Go, not proved from fmt's source: count such statements apart). THE CARD IS WHAT COUNTS. Prove the row's statement (the work); the ties are given (YtdppcpiepippoaaDoorTie.lean); close each card by the builder's one call (the guide's Derived/Test/ToyasCard.lean, 'card_holds'). Laid BY PROGRAM, IN A SANDBOX (cutbox-door.mjs). By AI agents, Wed Nov 11 2026. No macro, syntax, notation, axiom, sorry.
-/
import Derived.Test.YtdppcpiepippoaaDoorRows
import GoSem.ClaimSeven
namespace Go.Proofs.YtdppcpiepippoaaDoor
namespace Rows

/-- THE TIED CARD OF 'targumlaw01.NatProducts'. -/
def natProductsCard : Claim7 := { stood := { row := natProductsRow, standIns := [], harness := (true, "b3d1b883d95d8f2186f9d57a90ab01f5e0a041a4e3ac28e568a89b1034cd538b"), looks := true }, kinds := [], alts := [], laidByText := true, laidKinds := [.data, .data, .data, .data, .sentinel, .sentinel, .pinned], laidTests := true, laidLooks := .later }
def NatProductsCardSaid : Prop := Claim7.holds Tryd.pinned (.plain (OpenSpec.ofChange natProductsSpec)) natProductsCard

/-- THE TIED CARD OF 'targumlaw01.NatPowers'. -/
def natPowersCard : Claim7 := { stood := { row := natPowersRow, standIns := [], harness := (true, "b3d1b883d95d8f2186f9d57a90ab01f5e0a041a4e3ac28e568a89b1034cd538b"), looks := true }, kinds := [], alts := [], laidByText := true, laidKinds := [.data, .data, .data, .data, .sentinel, .sentinel, .pinned], laidTests := true, laidLooks := .later }
def NatPowersCardSaid : Prop := Claim7.holds Tryd.pinned (.plain (OpenSpec.ofChange natPowersSpec)) natPowersCard

/-- THE TIED CARD OF 'targumlaw01.NatRests'. -/
def natRestsCard : Claim7 := { stood := { row := natRestsRow, standIns := [], harness := (true, "b3d1b883d95d8f2186f9d57a90ab01f5e0a041a4e3ac28e568a89b1034cd538b"), looks := true }, kinds := [], alts := [], laidByText := true, laidKinds := [.data, .data, .data, .data, .sentinel, .sentinel, .pinned], laidTests := true, laidLooks := .later }
def NatRestsCardSaid : Prop := Claim7.holds Tryd.pinned (.plain (OpenSpec.ofChange natRestsSpec)) natRestsCard

/-- THE TIED CARD OF 'targumlaw01.NatBack'. -/
def natBackCard : Claim7 := { stood := { row := natBackRow, standIns := [], harness := (true, "b3d1b883d95d8f2186f9d57a90ab01f5e0a041a4e3ac28e568a89b1034cd538b"), looks := true }, kinds := [], alts := [], laidByText := true, laidKinds := [.data, .data, .data, .data, .sentinel, .sentinel, .pinned], laidTests := true, laidLooks := .later }
def NatBackCardSaid : Prop := Claim7.holds Tryd.pinned (.plain (OpenSpec.ofChange natBackSpec)) natBackCard

/-- THE TIED CARD OF 'targumlaw01.NatOrder'. -/
def natOrderCard : Claim7 := { stood := { row := natOrderRow, standIns := [], harness := (true, "b3d1b883d95d8f2186f9d57a90ab01f5e0a041a4e3ac28e568a89b1034cd538b"), looks := true }, kinds := [], alts := [], laidByText := true, laidKinds := [.data, .data, .data, .data, .sentinel, .sentinel, .pinned], laidTests := true, laidLooks := .later }
def NatOrderCardSaid : Prop := Claim7.holds Tryd.pinned (.plain (OpenSpec.ofChange natOrderSpec)) natOrderCard

/-- THE TIED CARD OF 'targumlaw01.NatTurns'. -/
def natTurnsCard : Claim7 := { stood := { row := natTurnsRow, standIns := [], harness := (true, "b3d1b883d95d8f2186f9d57a90ab01f5e0a041a4e3ac28e568a89b1034cd538b"), looks := true }, kinds := [], alts := [], laidByText := true, laidKinds := [.data, .data, .data, .data, .sentinel, .sentinel, .pinned], laidTests := true, laidLooks := .later }
def NatTurnsCardSaid : Prop := Claim7.holds Tryd.pinned (.plain (OpenSpec.ofChange natTurnsSpec)) natTurnsCard

/-- THE SECOND FORM's CARD OF 'targumlaw01.NatProducts'. -/
def natProductsUptoCard : Claim7 := { stood := { row := natProductsUptoRow, standIns := [], harness := (true, "b3d1b883d95d8f2186f9d57a90ab01f5e0a041a4e3ac28e568a89b1034cd538b"), looks := true }, kinds := [], alts := [], laidByText := true, laidKinds := [.data, .data, .data, .data, .sentinel, .sentinel, .pinned], laidTests := true, laidLooks := .later }
def NatProductsUptoCardSaid : Prop := Claim7.holds Tryd.pinned (.plain (OpenSpec.upto natProductsSpec)) natProductsUptoCard

/-- THE SECOND FORM's CARD OF 'targumlaw01.NatPowers'. -/
def natPowersUptoCard : Claim7 := { stood := { row := natPowersUptoRow, standIns := [], harness := (true, "b3d1b883d95d8f2186f9d57a90ab01f5e0a041a4e3ac28e568a89b1034cd538b"), looks := true }, kinds := [], alts := [], laidByText := true, laidKinds := [.data, .data, .data, .data, .sentinel, .sentinel, .pinned], laidTests := true, laidLooks := .later }
def NatPowersUptoCardSaid : Prop := Claim7.holds Tryd.pinned (.plain (OpenSpec.upto natPowersSpec)) natPowersUptoCard

/-- THE SECOND FORM's CARD OF 'targumlaw01.NatRests'. -/
def natRestsUptoCard : Claim7 := { stood := { row := natRestsUptoRow, standIns := [], harness := (true, "b3d1b883d95d8f2186f9d57a90ab01f5e0a041a4e3ac28e568a89b1034cd538b"), looks := true }, kinds := [], alts := [], laidByText := true, laidKinds := [.data, .data, .data, .data, .sentinel, .sentinel, .pinned], laidTests := true, laidLooks := .later }
def NatRestsUptoCardSaid : Prop := Claim7.holds Tryd.pinned (.plain (OpenSpec.upto natRestsSpec)) natRestsUptoCard

/-- THE SECOND FORM's CARD OF 'targumlaw01.NatBack'. -/
def natBackUptoCard : Claim7 := { stood := { row := natBackUptoRow, standIns := [], harness := (true, "b3d1b883d95d8f2186f9d57a90ab01f5e0a041a4e3ac28e568a89b1034cd538b"), looks := true }, kinds := [], alts := [], laidByText := true, laidKinds := [.data, .data, .data, .data, .sentinel, .sentinel, .pinned], laidTests := true, laidLooks := .later }
def NatBackUptoCardSaid : Prop := Claim7.holds Tryd.pinned (.plain (OpenSpec.upto natBackSpec)) natBackUptoCard

/-- THE SECOND FORM's CARD OF 'targumlaw01.NatOrder'. -/
def natOrderUptoCard : Claim7 := { stood := { row := natOrderUptoRow, standIns := [], harness := (true, "b3d1b883d95d8f2186f9d57a90ab01f5e0a041a4e3ac28e568a89b1034cd538b"), looks := true }, kinds := [], alts := [], laidByText := true, laidKinds := [.data, .data, .data, .data, .sentinel, .sentinel, .pinned], laidTests := true, laidLooks := .later }
def NatOrderUptoCardSaid : Prop := Claim7.holds Tryd.pinned (.plain (OpenSpec.upto natOrderSpec)) natOrderUptoCard

/-- THE SECOND FORM's CARD OF 'targumlaw01.NatTurns'. -/
def natTurnsUptoCard : Claim7 := { stood := { row := natTurnsUptoRow, standIns := [], harness := (true, "b3d1b883d95d8f2186f9d57a90ab01f5e0a041a4e3ac28e568a89b1034cd538b"), looks := true }, kinds := [], alts := [], laidByText := true, laidKinds := [.data, .data, .data, .data, .sentinel, .sentinel, .pinned], laidTests := true, laidLooks := .later }
def NatTurnsUptoCardSaid : Prop := Claim7.holds Tryd.pinned (.plain (OpenSpec.upto natTurnsSpec)) natTurnsUptoCard
end Rows
end Go.Proofs.YtdppcpiepippoaaDoor
