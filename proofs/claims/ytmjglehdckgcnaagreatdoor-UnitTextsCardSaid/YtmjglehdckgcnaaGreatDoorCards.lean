/-
  DERIVED. GIVEN WITH THE SEED: THE CARDS: each row of YtmjglehdckgcnaaGreatDoorRows.lean that lists a variable, with what it lists TIED to the program's text (the seventh form; the later family's looks); each row that meets fmt, with fmt's text TOLD by the authors' own Lean function (tested against real Go, not proved from fmt's source: count such statements apart). THE CARD IS WHAT COUNTS. Prove the row's statement (the work); the ties are given (YtmjglehdckgcnaaGreatDoorTie.lean); close each card by the builder's one call (the guide's Derived/Test/ToyasCard.lean, 'card_holds'). Laid BY PROGRAM, IN A SANDBOX (cutbox-door.mjs). By AI agents, Wed Nov 11 2026. No macro, syntax, notation, axiom, sorry.
-/
import Derived.Test.YtmjglehdckgcnaaGreatDoorRows
import GoSem.ClaimSeven
namespace Go.Proofs.YtmjglehdckgcnaaGreatDoor
namespace Rows

/-- THE TIED CARD OF 'spilelaw03.UnitTexts'. -/
def unitTextsCard : Claim7 := { stood := { row := unitTextsRow, standIns := [], harness := (true, "8df6e1ded1657b97b5e9154a1d8779e020c5cf3963d15ec6a659e8be19cace08"), looks := true }, kinds := [], alts := [], laidByText := true, laidKinds := [.data, .data, .data, .data, .sentinel, .sentinel, .pinned], laidTests := true, laidLooks := .later }
def UnitTextsCardSaid : Prop := Claim7.holds Tryz.pinned (.plain (OpenSpec.ofChange unitTextsSpec)) unitTextsCard

/-- THE SECOND FORM's CARD OF 'spilelaw03.UnitTexts'. -/
def unitTextsUptoCard : Claim7 := { stood := { row := unitTextsUptoRow, standIns := [], harness := (true, "8df6e1ded1657b97b5e9154a1d8779e020c5cf3963d15ec6a659e8be19cace08"), looks := true }, kinds := [], alts := [], laidByText := true, laidKinds := [.data, .data, .data, .data, .sentinel, .sentinel, .pinned], laidTests := true, laidLooks := .later }
def UnitTextsUptoCardSaid : Prop := Claim7.holds Tryz.pinned (.plain (OpenSpec.upto unitTextsSpec)) unitTextsUptoCard
end Rows
end Go.Proofs.YtmjglehdckgcnaaGreatDoor
