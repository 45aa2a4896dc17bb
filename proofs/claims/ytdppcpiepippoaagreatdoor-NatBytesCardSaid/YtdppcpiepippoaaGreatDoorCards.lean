/-
  DERIVED. GIVEN WITH THE SEED: THE CARDS: each row of YtdppcpiepippoaaGreatDoorRows.lean that lists a variable, with what it lists TIED to the program's text (the seventh form; the later family's looks); each row that meets fmt, with fmt's text TOLD by the authors' own Lean function (tested against real Go, not proved from fmt's source: count such statements apart). THE CARD IS WHAT COUNTS. Prove the row's statement (the work); the ties are given (YtdppcpiepippoaaGreatDoorTie.lean); close each card by the builder's one call (the guide's Derived/Test/ToyasCard.lean, 'card_holds'). Laid BY PROGRAM, IN A SANDBOX (cutbox-door.mjs). By AI agents, Wed Nov 11 2026. No macro, syntax, notation, axiom, sorry.
-/
import Derived.Test.YtdppcpiepippoaaGreatDoorRows
import GoSem.ClaimSeven
namespace Go.Proofs.YtdppcpiepippoaaGreatDoor
namespace Rows

/-- THE TIED CARD OF 'targumlaw01.NatBytes'. -/
def natBytesCard : Claim7 := { stood := { row := natBytesRow, standIns := [], harness := (true, "bea137b409cec930520e360467e57fe446518194ee7a0dd45062fc5c3ee9e383"), looks := true }, kinds := [], alts := [], laidByText := true, laidKinds := [.data, .data, .data, .data, .sentinel, .sentinel, .pinned], laidTests := true, laidLooks := .later }
def NatBytesCardSaid : Prop := Claim7.holds Tryz.pinned (.plain (OpenSpec.ofChange natBytesSpec)) natBytesCard

/-- THE TIED CARD OF 'targumlaw01.NatSums'. -/
def natSumsCard : Claim7 := { stood := { row := natSumsRow, standIns := [], harness := (true, "bea137b409cec930520e360467e57fe446518194ee7a0dd45062fc5c3ee9e383"), looks := true }, kinds := [], alts := [], laidByText := true, laidKinds := [.data, .data, .data, .data, .sentinel, .sentinel, .pinned], laidTests := true, laidLooks := .later }
def NatSumsCardSaid : Prop := Claim7.holds Tryz.pinned (.plain (OpenSpec.ofChange natSumsSpec)) natSumsCard

/-- THE SECOND FORM's CARD OF 'targumlaw01.NatBytes'. -/
def natBytesUptoCard : Claim7 := { stood := { row := natBytesUptoRow, standIns := [], harness := (true, "bea137b409cec930520e360467e57fe446518194ee7a0dd45062fc5c3ee9e383"), looks := true }, kinds := [], alts := [], laidByText := true, laidKinds := [.data, .data, .data, .data, .sentinel, .sentinel, .pinned], laidTests := true, laidLooks := .later }
def NatBytesUptoCardSaid : Prop := Claim7.holds Tryz.pinned (.plain (OpenSpec.upto natBytesSpec)) natBytesUptoCard

/-- THE SECOND FORM's CARD OF 'targumlaw01.NatSums'. -/
def natSumsUptoCard : Claim7 := { stood := { row := natSumsUptoRow, standIns := [], harness := (true, "bea137b409cec930520e360467e57fe446518194ee7a0dd45062fc5c3ee9e383"), looks := true }, kinds := [], alts := [], laidByText := true, laidKinds := [.data, .data, .data, .data, .sentinel, .sentinel, .pinned], laidTests := true, laidLooks := .later }
def NatSumsUptoCardSaid : Prop := Claim7.holds Tryz.pinned (.plain (OpenSpec.upto natSumsSpec)) natSumsUptoCard
end Rows
end Go.Proofs.YtdppcpiepippoaaGreatDoor
