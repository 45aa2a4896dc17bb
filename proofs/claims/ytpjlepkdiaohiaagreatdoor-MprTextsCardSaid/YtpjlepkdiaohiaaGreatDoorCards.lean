/-
  DERIVED. GIVEN WITH THE SEED: THE CARDS: each row of YtpjlepkdiaohiaaGreatDoorRows.lean that lists a variable, with what it lists TIED to the program's text (the seventh form; the later family's looks); each row that meets fmt, with fmt's text TOLD by the authors' own Lean function (tested against real Go, not proved from fmt's source: count such statements apart). THE CARD IS WHAT COUNTS. Prove the row's statement (the work); the ties are given (YtpjlepkdiaohiaaGreatDoorTie.lean); close each card by the builder's one call (the guide's Derived/Test/ToyasCard.lean, 'card_holds'). Laid BY PROGRAM, IN A SANDBOX (cutbox-door.mjs). By AI agents, Wed Nov 11 2026. No macro, syntax, notation, axiom, sorry.
-/
import Derived.Test.YtpjlepkdiaohiaaGreatDoorRows
import GoSem.ClaimSeven
namespace Go.Proofs.YtpjlepkdiaohiaaGreatDoor
namespace Rows

/-- THE TIED CARD OF 'targumlaw15.MpwApart'. -/
def mpwApartCard : Claim7 := { stood := { row := mpwApartRow, standIns := [], harness := (true, "b7f87d38bf0b4b99480bc6bbb0c6ddb2016aa51fa6232ae0b420bea3e5382503"), looks := true }, kinds := [], alts := [], laidByText := true, laidKinds := [.data, .data, .data, .data, .sentinel, .sentinel, .sentinel, .sentinel, .pinned], laidTests := true, laidLooks := .later }
def MpwApartCardSaid : Prop := Claim7.holds Tryz.pinned (.plain (OpenSpec.ofChange mpwApartSpec)) mpwApartCard

/-- THE TIED CARD OF 'targumlaw15.MpwWrites'. -/
def mpwWritesCard : Claim7 := { stood := { row := mpwWritesRow, standIns := [], harness := (true, "b7f87d38bf0b4b99480bc6bbb0c6ddb2016aa51fa6232ae0b420bea3e5382503"), looks := true }, kinds := [], alts := [], laidByText := true, laidKinds := [.data, .data, .data, .data, .sentinel, .sentinel, .sentinel, .sentinel, .pinned], laidTests := true, laidLooks := .later }
def MpwWritesCardSaid : Prop := Claim7.holds Tryz.pinned (.plain (OpenSpec.ofChange mpwWritesSpec)) mpwWritesCard

/-- THE TIED CARD OF 'targumlaw15.MpwNumbers'. -/
def mpwNumbersCard : Claim7 := { stood := { row := mpwNumbersRow, standIns := [], harness := (true, "b7f87d38bf0b4b99480bc6bbb0c6ddb2016aa51fa6232ae0b420bea3e5382503"), looks := true }, kinds := [], alts := [], laidByText := true, laidKinds := [.data, .data, .data, .data, .sentinel, .sentinel, .sentinel, .sentinel, .pinned], laidTests := true, laidLooks := .later }
def MpwNumbersCardSaid : Prop := Claim7.holds Tryz.pinned (.plain (OpenSpec.ofChange mpwNumbersSpec)) mpwNumbersCard

/-- THE TIED CARD OF 'targumlaw15.MpwSizes'. -/
def mpwSizesCard : Claim7 := { stood := { row := mpwSizesRow, standIns := [], harness := (true, "b7f87d38bf0b4b99480bc6bbb0c6ddb2016aa51fa6232ae0b420bea3e5382503"), looks := true }, kinds := [], alts := [], laidByText := true, laidKinds := [.data, .data, .data, .data, .sentinel, .sentinel, .sentinel, .sentinel, .pinned], laidTests := true, laidLooks := .later }
def MpwSizesCardSaid : Prop := Claim7.holds Tryz.pinned (.plain (OpenSpec.ofChange mpwSizesSpec)) mpwSizesCard

/-- THE TIED CARD OF 'targumlaw15.MpwTexts'. -/
def mpwTextsCard : Claim7 := { stood := { row := mpwTextsRow, standIns := [], harness := (true, "b7f87d38bf0b4b99480bc6bbb0c6ddb2016aa51fa6232ae0b420bea3e5382503"), looks := true }, kinds := [], alts := [], laidByText := true, laidKinds := [.data, .data, .data, .data, .sentinel, .sentinel, .sentinel, .sentinel, .pinned], laidTests := true, laidLooks := .later }
def MpwTextsCardSaid : Prop := Claim7.holds Tryz.pinned (.plain (OpenSpec.ofChange mpwTextsSpec)) mpwTextsCard

/-- THE TIED CARD OF 'targumlaw14.MprFits'. -/
def mprFitsCard : Claim7 := { stood := { row := mprFitsRow, standIns := [], harness := (true, "b7f87d38bf0b4b99480bc6bbb0c6ddb2016aa51fa6232ae0b420bea3e5382503"), looks := true }, kinds := [], alts := [], laidByText := true, laidKinds := [.data, .data, .data, .data, .sentinel, .sentinel, .sentinel, .sentinel, .sentinel, .sentinel, .sentinel, .pinned], laidTests := true, laidLooks := .later }
def MprFitsCardSaid : Prop := Claim7.holds Tryz.pinned (.plain (OpenSpec.ofChange mprFitsSpec)) mprFitsCard

/-- THE TIED CARD OF 'targumlaw14.MprBehind'. -/
def mprBehindCard : Claim7 := { stood := { row := mprBehindRow, standIns := [], harness := (true, "b7f87d38bf0b4b99480bc6bbb0c6ddb2016aa51fa6232ae0b420bea3e5382503"), looks := true }, kinds := [], alts := [], laidByText := true, laidKinds := [.data, .data, .data, .data, .sentinel, .sentinel, .sentinel, .sentinel, .sentinel, .sentinel, .sentinel, .pinned], laidTests := true, laidLooks := .later }
def MprBehindCardSaid : Prop := Claim7.holds Tryz.pinned (.plain (OpenSpec.ofChange mprBehindSpec)) mprBehindCard

/-- THE TIED CARD OF 'targumlaw14.MprNumbers'. -/
def mprNumbersCard : Claim7 := { stood := { row := mprNumbersRow, standIns := [], harness := (true, "b7f87d38bf0b4b99480bc6bbb0c6ddb2016aa51fa6232ae0b420bea3e5382503"), looks := true }, kinds := [], alts := [], laidByText := true, laidKinds := [.data, .data, .data, .data, .sentinel, .sentinel, .sentinel, .sentinel, .sentinel, .sentinel, .sentinel, .pinned], laidTests := true, laidLooks := .later }
def MprNumbersCardSaid : Prop := Claim7.holds Tryz.pinned (.plain (OpenSpec.ofChange mprNumbersSpec)) mprNumbersCard

/-- THE TIED CARD OF 'targumlaw14.MprTexts'. -/
def mprTextsCard : Claim7 := { stood := { row := mprTextsRow, standIns := [], harness := (true, "b7f87d38bf0b4b99480bc6bbb0c6ddb2016aa51fa6232ae0b420bea3e5382503"), looks := true }, kinds := [], alts := [], laidByText := true, laidKinds := [.data, .data, .data, .data, .sentinel, .sentinel, .sentinel, .sentinel, .sentinel, .sentinel, .sentinel, .pinned], laidTests := true, laidLooks := .later }
def MprTextsCardSaid : Prop := Claim7.holds Tryz.pinned (.plain (OpenSpec.ofChange mprTextsSpec)) mprTextsCard

/-- THE TIED CARD OF 'targumlaw14.MprLists'. -/
def mprListsCard : Claim7 := { stood := { row := mprListsRow, standIns := [], harness := (true, "b7f87d38bf0b4b99480bc6bbb0c6ddb2016aa51fa6232ae0b420bea3e5382503"), looks := true }, kinds := [], alts := [], laidByText := true, laidKinds := [.data, .data, .data, .data, .sentinel, .sentinel, .sentinel, .sentinel, .sentinel, .sentinel, .sentinel, .pinned], laidTests := true, laidLooks := .later }
def MprListsCardSaid : Prop := Claim7.holds Tryz.pinned (.plain (OpenSpec.ofChange mprListsSpec)) mprListsCard

/-- THE TIED CARD OF 'targumlaw15.MpwBack'. -/
def mpwBackCard : Claim7 := { stood := { row := mpwBackRow, standIns := [], harness := (true, "b7f87d38bf0b4b99480bc6bbb0c6ddb2016aa51fa6232ae0b420bea3e5382503"), looks := true }, kinds := [], alts := [], laidByText := true, laidKinds := [.data, .data, .data, .data, .sentinel, .sentinel, .sentinel, .sentinel, .sentinel, .sentinel, .sentinel, .pinned], laidTests := true, laidLooks := .later }
def MpwBackCardSaid : Prop := Claim7.holds Tryz.pinned (.plain (OpenSpec.ofChange mpwBackSpec)) mpwBackCard

/-- THE TIED CARD OF 'targumlaw15.MpwTurns'. -/
def mpwTurnsCard : Claim7 := { stood := { row := mpwTurnsRow, standIns := [], harness := (true, "b7f87d38bf0b4b99480bc6bbb0c6ddb2016aa51fa6232ae0b420bea3e5382503"), looks := true }, kinds := [], alts := [], laidByText := true, laidKinds := [.data, .data, .data, .data, .sentinel, .sentinel, .sentinel, .sentinel, .sentinel, .sentinel, .sentinel, .pinned], laidTests := true, laidLooks := .later }
def MpwTurnsCardSaid : Prop := Claim7.holds Tryz.pinned (.plain (OpenSpec.ofChange mpwTurnsSpec)) mpwTurnsCard

/-- THE SECOND FORM's CARD OF 'targumlaw15.MpwApart'. -/
def mpwApartUptoCard : Claim7 := { stood := { row := mpwApartUptoRow, standIns := [], harness := (true, "b7f87d38bf0b4b99480bc6bbb0c6ddb2016aa51fa6232ae0b420bea3e5382503"), looks := true }, kinds := [], alts := [], laidByText := true, laidKinds := [.data, .data, .data, .data, .sentinel, .sentinel, .sentinel, .sentinel, .pinned], laidTests := true, laidLooks := .later }
def MpwApartUptoCardSaid : Prop := Claim7.holds Tryz.pinned (.plain (OpenSpec.upto mpwApartSpec)) mpwApartUptoCard

/-- THE SECOND FORM's CARD OF 'targumlaw15.MpwWrites'. -/
def mpwWritesUptoCard : Claim7 := { stood := { row := mpwWritesUptoRow, standIns := [], harness := (true, "b7f87d38bf0b4b99480bc6bbb0c6ddb2016aa51fa6232ae0b420bea3e5382503"), looks := true }, kinds := [], alts := [], laidByText := true, laidKinds := [.data, .data, .data, .data, .sentinel, .sentinel, .sentinel, .sentinel, .pinned], laidTests := true, laidLooks := .later }
def MpwWritesUptoCardSaid : Prop := Claim7.holds Tryz.pinned (.plain (OpenSpec.upto mpwWritesSpec)) mpwWritesUptoCard

/-- THE SECOND FORM's CARD OF 'targumlaw15.MpwNumbers'. -/
def mpwNumbersUptoCard : Claim7 := { stood := { row := mpwNumbersUptoRow, standIns := [], harness := (true, "b7f87d38bf0b4b99480bc6bbb0c6ddb2016aa51fa6232ae0b420bea3e5382503"), looks := true }, kinds := [], alts := [], laidByText := true, laidKinds := [.data, .data, .data, .data, .sentinel, .sentinel, .sentinel, .sentinel, .pinned], laidTests := true, laidLooks := .later }
def MpwNumbersUptoCardSaid : Prop := Claim7.holds Tryz.pinned (.plain (OpenSpec.upto mpwNumbersSpec)) mpwNumbersUptoCard

/-- THE SECOND FORM's CARD OF 'targumlaw15.MpwSizes'. -/
def mpwSizesUptoCard : Claim7 := { stood := { row := mpwSizesUptoRow, standIns := [], harness := (true, "b7f87d38bf0b4b99480bc6bbb0c6ddb2016aa51fa6232ae0b420bea3e5382503"), looks := true }, kinds := [], alts := [], laidByText := true, laidKinds := [.data, .data, .data, .data, .sentinel, .sentinel, .sentinel, .sentinel, .pinned], laidTests := true, laidLooks := .later }
def MpwSizesUptoCardSaid : Prop := Claim7.holds Tryz.pinned (.plain (OpenSpec.upto mpwSizesSpec)) mpwSizesUptoCard

/-- THE SECOND FORM's CARD OF 'targumlaw15.MpwTexts'. -/
def mpwTextsUptoCard : Claim7 := { stood := { row := mpwTextsUptoRow, standIns := [], harness := (true, "b7f87d38bf0b4b99480bc6bbb0c6ddb2016aa51fa6232ae0b420bea3e5382503"), looks := true }, kinds := [], alts := [], laidByText := true, laidKinds := [.data, .data, .data, .data, .sentinel, .sentinel, .sentinel, .sentinel, .pinned], laidTests := true, laidLooks := .later }
def MpwTextsUptoCardSaid : Prop := Claim7.holds Tryz.pinned (.plain (OpenSpec.upto mpwTextsSpec)) mpwTextsUptoCard

/-- THE SECOND FORM's CARD OF 'targumlaw14.MprFits'. -/
def mprFitsUptoCard : Claim7 := { stood := { row := mprFitsUptoRow, standIns := [], harness := (true, "b7f87d38bf0b4b99480bc6bbb0c6ddb2016aa51fa6232ae0b420bea3e5382503"), looks := true }, kinds := [], alts := [], laidByText := true, laidKinds := [.data, .data, .data, .data, .sentinel, .sentinel, .sentinel, .sentinel, .sentinel, .sentinel, .sentinel, .pinned], laidTests := true, laidLooks := .later }
def MprFitsUptoCardSaid : Prop := Claim7.holds Tryz.pinned (.plain (OpenSpec.upto mprFitsSpec)) mprFitsUptoCard

/-- THE SECOND FORM's CARD OF 'targumlaw14.MprBehind'. -/
def mprBehindUptoCard : Claim7 := { stood := { row := mprBehindUptoRow, standIns := [], harness := (true, "b7f87d38bf0b4b99480bc6bbb0c6ddb2016aa51fa6232ae0b420bea3e5382503"), looks := true }, kinds := [], alts := [], laidByText := true, laidKinds := [.data, .data, .data, .data, .sentinel, .sentinel, .sentinel, .sentinel, .sentinel, .sentinel, .sentinel, .pinned], laidTests := true, laidLooks := .later }
def MprBehindUptoCardSaid : Prop := Claim7.holds Tryz.pinned (.plain (OpenSpec.upto mprBehindSpec)) mprBehindUptoCard

/-- THE SECOND FORM's CARD OF 'targumlaw14.MprNumbers'. -/
def mprNumbersUptoCard : Claim7 := { stood := { row := mprNumbersUptoRow, standIns := [], harness := (true, "b7f87d38bf0b4b99480bc6bbb0c6ddb2016aa51fa6232ae0b420bea3e5382503"), looks := true }, kinds := [], alts := [], laidByText := true, laidKinds := [.data, .data, .data, .data, .sentinel, .sentinel, .sentinel, .sentinel, .sentinel, .sentinel, .sentinel, .pinned], laidTests := true, laidLooks := .later }
def MprNumbersUptoCardSaid : Prop := Claim7.holds Tryz.pinned (.plain (OpenSpec.upto mprNumbersSpec)) mprNumbersUptoCard

/-- THE SECOND FORM's CARD OF 'targumlaw14.MprTexts'. -/
def mprTextsUptoCard : Claim7 := { stood := { row := mprTextsUptoRow, standIns := [], harness := (true, "b7f87d38bf0b4b99480bc6bbb0c6ddb2016aa51fa6232ae0b420bea3e5382503"), looks := true }, kinds := [], alts := [], laidByText := true, laidKinds := [.data, .data, .data, .data, .sentinel, .sentinel, .sentinel, .sentinel, .sentinel, .sentinel, .sentinel, .pinned], laidTests := true, laidLooks := .later }
def MprTextsUptoCardSaid : Prop := Claim7.holds Tryz.pinned (.plain (OpenSpec.upto mprTextsSpec)) mprTextsUptoCard

/-- THE SECOND FORM's CARD OF 'targumlaw14.MprLists'. -/
def mprListsUptoCard : Claim7 := { stood := { row := mprListsUptoRow, standIns := [], harness := (true, "b7f87d38bf0b4b99480bc6bbb0c6ddb2016aa51fa6232ae0b420bea3e5382503"), looks := true }, kinds := [], alts := [], laidByText := true, laidKinds := [.data, .data, .data, .data, .sentinel, .sentinel, .sentinel, .sentinel, .sentinel, .sentinel, .sentinel, .pinned], laidTests := true, laidLooks := .later }
def MprListsUptoCardSaid : Prop := Claim7.holds Tryz.pinned (.plain (OpenSpec.upto mprListsSpec)) mprListsUptoCard

/-- THE SECOND FORM's CARD OF 'targumlaw15.MpwBack'. -/
def mpwBackUptoCard : Claim7 := { stood := { row := mpwBackUptoRow, standIns := [], harness := (true, "b7f87d38bf0b4b99480bc6bbb0c6ddb2016aa51fa6232ae0b420bea3e5382503"), looks := true }, kinds := [], alts := [], laidByText := true, laidKinds := [.data, .data, .data, .data, .sentinel, .sentinel, .sentinel, .sentinel, .sentinel, .sentinel, .sentinel, .pinned], laidTests := true, laidLooks := .later }
def MpwBackUptoCardSaid : Prop := Claim7.holds Tryz.pinned (.plain (OpenSpec.upto mpwBackSpec)) mpwBackUptoCard

/-- THE SECOND FORM's CARD OF 'targumlaw15.MpwTurns'. -/
def mpwTurnsUptoCard : Claim7 := { stood := { row := mpwTurnsUptoRow, standIns := [], harness := (true, "b7f87d38bf0b4b99480bc6bbb0c6ddb2016aa51fa6232ae0b420bea3e5382503"), looks := true }, kinds := [], alts := [], laidByText := true, laidKinds := [.data, .data, .data, .data, .sentinel, .sentinel, .sentinel, .sentinel, .sentinel, .sentinel, .sentinel, .pinned], laidTests := true, laidLooks := .later }
def MpwTurnsUptoCardSaid : Prop := Claim7.holds Tryz.pinned (.plain (OpenSpec.upto mpwTurnsSpec)) mpwTurnsUptoCard
end Rows
end Go.Proofs.YtpjlepkdiaohiaaGreatDoor
