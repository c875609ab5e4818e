/-
  DERIVED. GIVEN WITH THE SEED: THE CARDS: each row of YtmjglehdckgcnaaDoorRows.lean that lists a variable, with what it lists TIED to the program's text (the seventh form; the later family's looks); each row that meets fmt, with fmt's text TOLD by the authors' own Lean function (tested against real Go, not proved from fmt's source: count such statements apart). THE CARD IS WHAT COUNTS. Prove the row's statement (the work); the ties are given (YtmjglehdckgcnaaDoorTie.lean); close each card by the builder's one call (the guide's Derived/Test/ToyasCard.lean, 'card_holds'). Laid BY PROGRAM, IN A SANDBOX (cutbox-door.mjs). By AI agents, Wed Nov 11 2026. No macro, syntax, notation, axiom, sorry.
-/
import Derived.Test.YtmjglehdckgcnaaDoorRows
import GoSem.ClaimSeven
namespace Go.Proofs.YtmjglehdckgcnaaDoor
namespace Rows

/-- THE TIED CARD OF 'spilelaw03.UnitChecks'. -/
def unitChecksCard : Claim7 := { stood := { row := unitChecksRow, standIns := [], harness := (true, "276fe12706730ef75e144c1b8015c43b64ad7a3e181f65b1d21f8f3c42191b50"), looks := true }, kinds := [], alts := [], laidByText := true, laidKinds := [.data, .data, .data, .data, .sentinel, .sentinel, .pinned], laidTests := true, laidLooks := .later }
def UnitChecksCardSaid : Prop := Claim7.holds Tryd.pinned (.plain (OpenSpec.ofChange unitChecksSpec)) unitChecksCard

/-- THE TIED CARD OF 'spilelaw03.UnitBack'. -/
def unitBackCard : Claim7 := { stood := { row := unitBackRow, standIns := [], harness := (true, "276fe12706730ef75e144c1b8015c43b64ad7a3e181f65b1d21f8f3c42191b50"), looks := true }, kinds := [], alts := [], laidByText := true, laidKinds := [.data, .data, .data, .data, .sentinel, .sentinel, .pinned], laidTests := true, laidLooks := .later }
def UnitBackCardSaid : Prop := Claim7.holds Tryd.pinned (.plain (OpenSpec.ofChange unitBackSpec)) unitBackCard

/-- THE TIED CARD OF 'spilelaw03.UnitAgain'. -/
def unitAgainCard : Claim7 := { stood := { row := unitAgainRow, standIns := [], harness := (true, "276fe12706730ef75e144c1b8015c43b64ad7a3e181f65b1d21f8f3c42191b50"), looks := true }, kinds := [], alts := [], laidByText := true, laidKinds := [.data, .data, .data, .data, .sentinel, .sentinel, .pinned], laidTests := true, laidLooks := .later }
def UnitAgainCardSaid : Prop := Claim7.holds Tryd.pinned (.plain (OpenSpec.ofChange unitAgainSpec)) unitAgainCard

/-- THE TIED CARD OF 'spilelaw03.UnitBest'. -/
def unitBestCard : Claim7 := { stood := { row := unitBestRow, standIns := [], harness := (true, "276fe12706730ef75e144c1b8015c43b64ad7a3e181f65b1d21f8f3c42191b50"), looks := true }, kinds := [], alts := [], laidByText := true, laidKinds := [.data, .data, .data, .data, .sentinel, .sentinel, .pinned], laidTests := true, laidLooks := .later }
def UnitBestCardSaid : Prop := Claim7.holds Tryd.pinned (.plain (OpenSpec.ofChange unitBestSpec)) unitBestCard

/-- THE TIED CARD OF 'spilelaw03.UnitSums'. -/
def unitSumsCard : Claim7 := { stood := { row := unitSumsRow, standIns := [], harness := (true, "276fe12706730ef75e144c1b8015c43b64ad7a3e181f65b1d21f8f3c42191b50"), looks := true }, kinds := [], alts := [], laidByText := true, laidKinds := [.data, .data, .data, .data, .sentinel, .sentinel, .pinned], laidTests := true, laidLooks := .later }
def UnitSumsCardSaid : Prop := Claim7.holds Tryd.pinned (.plain (OpenSpec.ofChange unitSumsSpec)) unitSumsCard

/-- THE TIED CARD OF 'spilelaw03.UnitOrder'. -/
def unitOrderCard : Claim7 := { stood := { row := unitOrderRow, standIns := [], harness := (true, "276fe12706730ef75e144c1b8015c43b64ad7a3e181f65b1d21f8f3c42191b50"), looks := true }, kinds := [], alts := [], laidByText := true, laidKinds := [.data, .data, .data, .data, .sentinel, .sentinel, .pinned], laidTests := true, laidLooks := .later }
def UnitOrderCardSaid : Prop := Claim7.holds Tryd.pinned (.plain (OpenSpec.ofChange unitOrderSpec)) unitOrderCard

/-- THE SECOND FORM's CARD OF 'spilelaw03.UnitChecks'. -/
def unitChecksUptoCard : Claim7 := { stood := { row := unitChecksUptoRow, standIns := [], harness := (true, "276fe12706730ef75e144c1b8015c43b64ad7a3e181f65b1d21f8f3c42191b50"), looks := true }, kinds := [], alts := [], laidByText := true, laidKinds := [.data, .data, .data, .data, .sentinel, .sentinel, .pinned], laidTests := true, laidLooks := .later }
def UnitChecksUptoCardSaid : Prop := Claim7.holds Tryd.pinned (.plain (OpenSpec.upto unitChecksSpec)) unitChecksUptoCard

/-- THE SECOND FORM's CARD OF 'spilelaw03.UnitBack'. -/
def unitBackUptoCard : Claim7 := { stood := { row := unitBackUptoRow, standIns := [], harness := (true, "276fe12706730ef75e144c1b8015c43b64ad7a3e181f65b1d21f8f3c42191b50"), looks := true }, kinds := [], alts := [], laidByText := true, laidKinds := [.data, .data, .data, .data, .sentinel, .sentinel, .pinned], laidTests := true, laidLooks := .later }
def UnitBackUptoCardSaid : Prop := Claim7.holds Tryd.pinned (.plain (OpenSpec.upto unitBackSpec)) unitBackUptoCard

/-- THE SECOND FORM's CARD OF 'spilelaw03.UnitAgain'. -/
def unitAgainUptoCard : Claim7 := { stood := { row := unitAgainUptoRow, standIns := [], harness := (true, "276fe12706730ef75e144c1b8015c43b64ad7a3e181f65b1d21f8f3c42191b50"), looks := true }, kinds := [], alts := [], laidByText := true, laidKinds := [.data, .data, .data, .data, .sentinel, .sentinel, .pinned], laidTests := true, laidLooks := .later }
def UnitAgainUptoCardSaid : Prop := Claim7.holds Tryd.pinned (.plain (OpenSpec.upto unitAgainSpec)) unitAgainUptoCard

/-- THE SECOND FORM's CARD OF 'spilelaw03.UnitBest'. -/
def unitBestUptoCard : Claim7 := { stood := { row := unitBestUptoRow, standIns := [], harness := (true, "276fe12706730ef75e144c1b8015c43b64ad7a3e181f65b1d21f8f3c42191b50"), looks := true }, kinds := [], alts := [], laidByText := true, laidKinds := [.data, .data, .data, .data, .sentinel, .sentinel, .pinned], laidTests := true, laidLooks := .later }
def UnitBestUptoCardSaid : Prop := Claim7.holds Tryd.pinned (.plain (OpenSpec.upto unitBestSpec)) unitBestUptoCard

/-- THE SECOND FORM's CARD OF 'spilelaw03.UnitSums'. -/
def unitSumsUptoCard : Claim7 := { stood := { row := unitSumsUptoRow, standIns := [], harness := (true, "276fe12706730ef75e144c1b8015c43b64ad7a3e181f65b1d21f8f3c42191b50"), looks := true }, kinds := [], alts := [], laidByText := true, laidKinds := [.data, .data, .data, .data, .sentinel, .sentinel, .pinned], laidTests := true, laidLooks := .later }
def UnitSumsUptoCardSaid : Prop := Claim7.holds Tryd.pinned (.plain (OpenSpec.upto unitSumsSpec)) unitSumsUptoCard

/-- THE SECOND FORM's CARD OF 'spilelaw03.UnitOrder'. -/
def unitOrderUptoCard : Claim7 := { stood := { row := unitOrderUptoRow, standIns := [], harness := (true, "276fe12706730ef75e144c1b8015c43b64ad7a3e181f65b1d21f8f3c42191b50"), looks := true }, kinds := [], alts := [], laidByText := true, laidKinds := [.data, .data, .data, .data, .sentinel, .sentinel, .pinned], laidTests := true, laidLooks := .later }
def UnitOrderUptoCardSaid : Prop := Claim7.holds Tryd.pinned (.plain (OpenSpec.upto unitOrderSpec)) unitOrderUptoCard
end Rows
end Go.Proofs.YtmjglehdckgcnaaDoor
