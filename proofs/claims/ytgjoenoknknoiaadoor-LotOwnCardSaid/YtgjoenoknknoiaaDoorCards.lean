/-
  DERIVED. GIVEN WITH THE SEED: THE CARDS: each row of YtgjoenoknknoiaaDoorRows.lean that lists a variable, with what it lists TIED to the program's text (the seventh form; the later family's looks); each row that meets fmt, with fmt's text TOLD by the authors' own Lean function (tested against real Go, not proved from fmt's source: count such statements apart). THE CARD IS WHAT COUNTS. Prove the row's statement (the work); the ties are given (YtgjoenoknknoiaaDoorTie.lean); close each card by the builder's one call (the guide's Derived/Test/ToyasCard.lean, 'card_holds'). Laid BY PROGRAM, IN A SANDBOX (cutbox-door.mjs). By AI agents, Wed Nov 11 2026. No macro, syntax, notation, axiom, sorry.
-/
import Derived.Test.YtgjoenoknknoiaaDoorRows
import GoSem.ClaimSeven
namespace Go.Proofs.YtgjoenoknknoiaaDoor
namespace Rows

/-- THE TIED CARD OF 'spilelaw22.LotSums'. -/
def lotSumsCard : Claim7 := { stood := { row := lotSumsRow, standIns := [], harness := (true, "6d3d5d07b3fa15e36186e74d1341de65e21d118781572820ba764e384a48d39d"), looks := true }, kinds := [], alts := [], laidByText := true, laidKinds := [.data, .data, .data], laidTests := true, laidLooks := .later }
def LotSumsCardSaid : Prop := Claim7.holds Tryd.pinned (.plain (OpenSpec.ofChange lotSumsSpec)) lotSumsCard

/-- THE TIED CARD OF 'spilelaw22.LotChecks'. -/
def lotChecksCard : Claim7 := { stood := { row := lotChecksRow, standIns := [], harness := (true, "6d3d5d07b3fa15e36186e74d1341de65e21d118781572820ba764e384a48d39d"), looks := true }, kinds := [], alts := [], laidByText := true, laidKinds := [.data, .data, .data], laidTests := true, laidLooks := .later }
def LotChecksCardSaid : Prop := Claim7.holds Tryd.pinned (.plain (OpenSpec.ofChange lotChecksSpec)) lotChecksCard

/-- THE TIED CARD OF 'spilelaw22.LotPuts'. -/
def lotPutsCard : Claim7 := { stood := { row := lotPutsRow, standIns := [], harness := (true, "6d3d5d07b3fa15e36186e74d1341de65e21d118781572820ba764e384a48d39d"), looks := true }, kinds := [], alts := [], laidByText := true, laidKinds := [.data, .data, .data], laidTests := true, laidLooks := .later }
def LotPutsCardSaid : Prop := Claim7.holds Tryd.pinned (.plain (OpenSpec.ofChange lotPutsSpec)) lotPutsCard

/-- THE TIED CARD OF 'spilelaw22.LotPlaces'. -/
def lotPlacesCard : Claim7 := { stood := { row := lotPlacesRow, standIns := [], harness := (true, "6d3d5d07b3fa15e36186e74d1341de65e21d118781572820ba764e384a48d39d"), looks := true }, kinds := [], alts := [], laidByText := true, laidKinds := [.data, .data, .data], laidTests := true, laidLooks := .later }
def LotPlacesCardSaid : Prop := Claim7.holds Tryd.pinned (.plain (OpenSpec.ofChange lotPlacesSpec)) lotPlacesCard

/-- THE TIED CARD OF 'spilelaw22.LotOwn'. -/
def lotOwnCard : Claim7 := { stood := { row := lotOwnRow, standIns := [], harness := (true, "6d3d5d07b3fa15e36186e74d1341de65e21d118781572820ba764e384a48d39d"), looks := true }, kinds := [], alts := [], laidByText := true, laidKinds := [.data, .data, .data], laidTests := true, laidLooks := .later }
def LotOwnCardSaid : Prop := Claim7.holds Tryd.pinned (.plain (OpenSpec.ofChange lotOwnSpec)) lotOwnCard

/-- THE TIED CARD OF 'spilelaw22.LotTexts'. -/
def lotTextsCard : Claim7 := { stood := { row := lotTextsRow, standIns := [], harness := (true, "6d3d5d07b3fa15e36186e74d1341de65e21d118781572820ba764e384a48d39d"), looks := true }, kinds := [], alts := [], laidByText := true, laidKinds := [.data, .data, .data, .data, .sentinel, .sentinel, .pinned], laidTests := true, laidLooks := .later }
def LotTextsCardSaid : Prop := Claim7.holds Tryd.pinned (.plain (OpenSpec.ofChange lotTextsSpec)) lotTextsCard

/-- THE TIED CARD OF 'spilelaw22.LotBack'. -/
def lotBackCard : Claim7 := { stood := { row := lotBackRow, standIns := [], harness := (true, "6d3d5d07b3fa15e36186e74d1341de65e21d118781572820ba764e384a48d39d"), looks := true }, kinds := [], alts := [], laidByText := true, laidKinds := [.data, .data, .data, .data, .sentinel, .sentinel, .pinned], laidTests := true, laidLooks := .later }
def LotBackCardSaid : Prop := Claim7.holds Tryd.pinned (.plain (OpenSpec.ofChange lotBackSpec)) lotBackCard

/-- THE SECOND FORM's CARD OF 'spilelaw22.LotSums'. -/
def lotSumsUptoCard : Claim7 := { stood := { row := lotSumsUptoRow, standIns := [], harness := (true, "6d3d5d07b3fa15e36186e74d1341de65e21d118781572820ba764e384a48d39d"), looks := true }, kinds := [], alts := [], laidByText := true, laidKinds := [.data, .data, .data], laidTests := true, laidLooks := .later }
def LotSumsUptoCardSaid : Prop := Claim7.holds Tryd.pinned (.plain (OpenSpec.upto lotSumsSpec)) lotSumsUptoCard

/-- THE SECOND FORM's CARD OF 'spilelaw22.LotChecks'. -/
def lotChecksUptoCard : Claim7 := { stood := { row := lotChecksUptoRow, standIns := [], harness := (true, "6d3d5d07b3fa15e36186e74d1341de65e21d118781572820ba764e384a48d39d"), looks := true }, kinds := [], alts := [], laidByText := true, laidKinds := [.data, .data, .data], laidTests := true, laidLooks := .later }
def LotChecksUptoCardSaid : Prop := Claim7.holds Tryd.pinned (.plain (OpenSpec.upto lotChecksSpec)) lotChecksUptoCard

/-- THE SECOND FORM's CARD OF 'spilelaw22.LotPuts'. -/
def lotPutsUptoCard : Claim7 := { stood := { row := lotPutsUptoRow, standIns := [], harness := (true, "6d3d5d07b3fa15e36186e74d1341de65e21d118781572820ba764e384a48d39d"), looks := true }, kinds := [], alts := [], laidByText := true, laidKinds := [.data, .data, .data], laidTests := true, laidLooks := .later }
def LotPutsUptoCardSaid : Prop := Claim7.holds Tryd.pinned (.plain (OpenSpec.upto lotPutsSpec)) lotPutsUptoCard

/-- THE SECOND FORM's CARD OF 'spilelaw22.LotPlaces'. -/
def lotPlacesUptoCard : Claim7 := { stood := { row := lotPlacesUptoRow, standIns := [], harness := (true, "6d3d5d07b3fa15e36186e74d1341de65e21d118781572820ba764e384a48d39d"), looks := true }, kinds := [], alts := [], laidByText := true, laidKinds := [.data, .data, .data], laidTests := true, laidLooks := .later }
def LotPlacesUptoCardSaid : Prop := Claim7.holds Tryd.pinned (.plain (OpenSpec.upto lotPlacesSpec)) lotPlacesUptoCard

/-- THE SECOND FORM's CARD OF 'spilelaw22.LotOwn'. -/
def lotOwnUptoCard : Claim7 := { stood := { row := lotOwnUptoRow, standIns := [], harness := (true, "6d3d5d07b3fa15e36186e74d1341de65e21d118781572820ba764e384a48d39d"), looks := true }, kinds := [], alts := [], laidByText := true, laidKinds := [.data, .data, .data], laidTests := true, laidLooks := .later }
def LotOwnUptoCardSaid : Prop := Claim7.holds Tryd.pinned (.plain (OpenSpec.upto lotOwnSpec)) lotOwnUptoCard

/-- THE SECOND FORM's CARD OF 'spilelaw22.LotTexts'. -/
def lotTextsUptoCard : Claim7 := { stood := { row := lotTextsUptoRow, standIns := [], harness := (true, "6d3d5d07b3fa15e36186e74d1341de65e21d118781572820ba764e384a48d39d"), looks := true }, kinds := [], alts := [], laidByText := true, laidKinds := [.data, .data, .data, .data, .sentinel, .sentinel, .pinned], laidTests := true, laidLooks := .later }
def LotTextsUptoCardSaid : Prop := Claim7.holds Tryd.pinned (.plain (OpenSpec.upto lotTextsSpec)) lotTextsUptoCard

/-- THE SECOND FORM's CARD OF 'spilelaw22.LotBack'. -/
def lotBackUptoCard : Claim7 := { stood := { row := lotBackUptoRow, standIns := [], harness := (true, "6d3d5d07b3fa15e36186e74d1341de65e21d118781572820ba764e384a48d39d"), looks := true }, kinds := [], alts := [], laidByText := true, laidKinds := [.data, .data, .data, .data, .sentinel, .sentinel, .pinned], laidTests := true, laidLooks := .later }
def LotBackUptoCardSaid : Prop := Claim7.holds Tryd.pinned (.plain (OpenSpec.upto lotBackSpec)) lotBackUptoCard
end Rows
end Go.Proofs.YtgjoenoknknoiaaDoor
