/-
  DERIVED. GIVEN WITH THE SEED: THE CARDS: each row of YtoofoicocfnfoaaDoorRows.lean that lists a variable, with what it lists TIED to the program's text (the seventh form; the later family's looks); each row that meets fmt, with fmt's text TOLD by the authors' own Lean function (tested against real Go, not proved from fmt's source: count such statements apart). THE CARD IS WHAT COUNTS. Prove the row's statement (the work); the ties are given (YtoofoicocfnfoaaDoorTie.lean); close each card by the builder's one call (the guide's Derived/Test/ToyasCard.lean, 'card_holds'). Laid BY PROGRAM, IN A SANDBOX (cutbox-door.mjs). By AI agents, Wed Nov 11 2026. No macro, syntax, notation, axiom, sorry.
-/
import Derived.Test.YtoofoicocfnfoaaDoorRows
import GoSem.ClaimSeven
namespace Go.Proofs.YtoofoicocfnfoaaDoor
namespace Rows

/-- THE TIED CARD OF 'spilelaw16.DensityFaults'. -/
def densityFaultsCard : Claim7 := { stood := { row := densityFaultsRow, standIns := [], harness := (true, "d9fa5d4542b48e79648329d3495f6539d36b662583432034243887fb958e9878"), looks := true }, kinds := [], alts := [], laidByText := true, laidKinds := [.data, .data, .data], laidTests := true, laidLooks := .later }
def DensityFaultsCardSaid : Prop := Claim7.holds Tryd.pinned (.plain (OpenSpec.ofChange densityFaultsSpec)) densityFaultsCard

/-- THE TIED CARD OF 'spilelaw16.DensityChecks'. -/
def densityChecksCard : Claim7 := { stood := { row := densityChecksRow, standIns := [], harness := (true, "d9fa5d4542b48e79648329d3495f6539d36b662583432034243887fb958e9878"), looks := true }, kinds := [], alts := [], laidByText := true, laidKinds := [.data, .data, .data], laidTests := true, laidLooks := .later }
def DensityChecksCardSaid : Prop := Claim7.holds Tryd.pinned (.plain (OpenSpec.ofChange densityChecksSpec)) densityChecksCard

/-- THE TIED CARD OF 'spilelaw16.DensityMerges'. -/
def densityMergesCard : Claim7 := { stood := { row := densityMergesRow, standIns := [], harness := (true, "d9fa5d4542b48e79648329d3495f6539d36b662583432034243887fb958e9878"), looks := true }, kinds := [], alts := [], laidByText := true, laidKinds := [.data, .data, .data], laidTests := true, laidLooks := .later }
def DensityMergesCardSaid : Prop := Claim7.holds Tryd.pinned (.plain (OpenSpec.ofChange densityMergesSpec)) densityMergesCard

/-- THE TIED CARD OF 'spilelaw16.DensityBetween'. -/
def densityBetweenCard : Claim7 := { stood := { row := densityBetweenRow, standIns := [], harness := (true, "d9fa5d4542b48e79648329d3495f6539d36b662583432034243887fb958e9878"), looks := true }, kinds := [], alts := [], laidByText := true, laidKinds := [.data, .data, .data], laidTests := true, laidLooks := .later }
def DensityBetweenCardSaid : Prop := Claim7.holds Tryd.pinned (.plain (OpenSpec.ofChange densityBetweenSpec)) densityBetweenCard

/-- THE TIED CARD OF 'spilelaw16.DensityKeeps'. -/
def densityKeepsCard : Claim7 := { stood := { row := densityKeepsRow, standIns := [], harness := (true, "d9fa5d4542b48e79648329d3495f6539d36b662583432034243887fb958e9878"), looks := true }, kinds := [], alts := [], laidByText := true, laidKinds := [.data, .data, .data], laidTests := true, laidLooks := .later }
def DensityKeepsCardSaid : Prop := Claim7.holds Tryd.pinned (.plain (OpenSpec.ofChange densityKeepsSpec)) densityKeepsCard

/-- THE TIED CARD OF 'spilelaw16.DensityTexts'. -/
def densityTextsCard : Claim7 := { stood := { row := densityTextsRow, standIns := [], harness := (true, "d9fa5d4542b48e79648329d3495f6539d36b662583432034243887fb958e9878"), looks := true }, kinds := [], alts := [], laidByText := true, laidKinds := [.data, .data, .data, .data, .sentinel, .sentinel, .pinned], laidTests := true, laidLooks := .later }
def DensityTextsCardSaid : Prop := Claim7.holds Tryd.pinned (.plain (OpenSpec.ofChange densityTextsSpec)) densityTextsCard

/-- THE TIED CARD OF 'spilelaw16.DensityBack'. -/
def densityBackCard : Claim7 := { stood := { row := densityBackRow, standIns := [], harness := (true, "d9fa5d4542b48e79648329d3495f6539d36b662583432034243887fb958e9878"), looks := true }, kinds := [], alts := [], laidByText := true, laidKinds := [.data, .data, .data, .data, .sentinel, .sentinel, .pinned], laidTests := true, laidLooks := .later }
def DensityBackCardSaid : Prop := Claim7.holds Tryd.pinned (.plain (OpenSpec.ofChange densityBackSpec)) densityBackCard

/-- THE SECOND FORM's CARD OF 'spilelaw16.DensityFaults'. -/
def densityFaultsUptoCard : Claim7 := { stood := { row := densityFaultsUptoRow, standIns := [], harness := (true, "d9fa5d4542b48e79648329d3495f6539d36b662583432034243887fb958e9878"), looks := true }, kinds := [], alts := [], laidByText := true, laidKinds := [.data, .data, .data], laidTests := true, laidLooks := .later }
def DensityFaultsUptoCardSaid : Prop := Claim7.holds Tryd.pinned (.plain (OpenSpec.upto densityFaultsSpec)) densityFaultsUptoCard

/-- THE SECOND FORM's CARD OF 'spilelaw16.DensityChecks'. -/
def densityChecksUptoCard : Claim7 := { stood := { row := densityChecksUptoRow, standIns := [], harness := (true, "d9fa5d4542b48e79648329d3495f6539d36b662583432034243887fb958e9878"), looks := true }, kinds := [], alts := [], laidByText := true, laidKinds := [.data, .data, .data], laidTests := true, laidLooks := .later }
def DensityChecksUptoCardSaid : Prop := Claim7.holds Tryd.pinned (.plain (OpenSpec.upto densityChecksSpec)) densityChecksUptoCard

/-- THE SECOND FORM's CARD OF 'spilelaw16.DensityMerges'. -/
def densityMergesUptoCard : Claim7 := { stood := { row := densityMergesUptoRow, standIns := [], harness := (true, "d9fa5d4542b48e79648329d3495f6539d36b662583432034243887fb958e9878"), looks := true }, kinds := [], alts := [], laidByText := true, laidKinds := [.data, .data, .data], laidTests := true, laidLooks := .later }
def DensityMergesUptoCardSaid : Prop := Claim7.holds Tryd.pinned (.plain (OpenSpec.upto densityMergesSpec)) densityMergesUptoCard

/-- THE SECOND FORM's CARD OF 'spilelaw16.DensityBetween'. -/
def densityBetweenUptoCard : Claim7 := { stood := { row := densityBetweenUptoRow, standIns := [], harness := (true, "d9fa5d4542b48e79648329d3495f6539d36b662583432034243887fb958e9878"), looks := true }, kinds := [], alts := [], laidByText := true, laidKinds := [.data, .data, .data], laidTests := true, laidLooks := .later }
def DensityBetweenUptoCardSaid : Prop := Claim7.holds Tryd.pinned (.plain (OpenSpec.upto densityBetweenSpec)) densityBetweenUptoCard

/-- THE SECOND FORM's CARD OF 'spilelaw16.DensityKeeps'. -/
def densityKeepsUptoCard : Claim7 := { stood := { row := densityKeepsUptoRow, standIns := [], harness := (true, "d9fa5d4542b48e79648329d3495f6539d36b662583432034243887fb958e9878"), looks := true }, kinds := [], alts := [], laidByText := true, laidKinds := [.data, .data, .data], laidTests := true, laidLooks := .later }
def DensityKeepsUptoCardSaid : Prop := Claim7.holds Tryd.pinned (.plain (OpenSpec.upto densityKeepsSpec)) densityKeepsUptoCard

/-- THE SECOND FORM's CARD OF 'spilelaw16.DensityTexts'. -/
def densityTextsUptoCard : Claim7 := { stood := { row := densityTextsUptoRow, standIns := [], harness := (true, "d9fa5d4542b48e79648329d3495f6539d36b662583432034243887fb958e9878"), looks := true }, kinds := [], alts := [], laidByText := true, laidKinds := [.data, .data, .data, .data, .sentinel, .sentinel, .pinned], laidTests := true, laidLooks := .later }
def DensityTextsUptoCardSaid : Prop := Claim7.holds Tryd.pinned (.plain (OpenSpec.upto densityTextsSpec)) densityTextsUptoCard

/-- THE SECOND FORM's CARD OF 'spilelaw16.DensityBack'. -/
def densityBackUptoCard : Claim7 := { stood := { row := densityBackUptoRow, standIns := [], harness := (true, "d9fa5d4542b48e79648329d3495f6539d36b662583432034243887fb958e9878"), looks := true }, kinds := [], alts := [], laidByText := true, laidKinds := [.data, .data, .data, .data, .sentinel, .sentinel, .pinned], laidTests := true, laidLooks := .later }
def DensityBackUptoCardSaid : Prop := Claim7.holds Tryd.pinned (.plain (OpenSpec.upto densityBackSpec)) densityBackUptoCard
end Rows
end Go.Proofs.YtoofoicocfnfoaaDoor
