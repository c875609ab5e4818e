/-
  DERIVED. GIVEN WITH THE SEED: THE CARDS: each row of YtholbmidciapdaaGreatDoorRows.lean that lists a variable, with what it lists TIED to the program's text (the seventh form; the later family's looks); each row that meets fmt, with fmt's text TOLD by the authors' own Lean function (tested against real Go, not proved from fmt's source: count such statements apart). THE CARD IS WHAT COUNTS. Prove the row's statement (the work); the ties are given (YtholbmidciapdaaGreatDoorTie.lean); close each card by the builder's one call (the guide's Derived/Test/ToyasCard.lean, 'card_holds'). Laid BY PROGRAM, IN A SANDBOX (cutbox-door.mjs). By AI agents, Wed Nov 11 2026. No macro, syntax, notation, axiom, sorry.
-/
import Derived.Test.YtholbmidciapdaaGreatDoorRows
import GoSem.ClaimSeven
namespace Go.Proofs.YtholbmidciapdaaGreatDoor
namespace Rows

/-- THE TIED CARD OF 'spilelaw46.TariffChecks'. -/
def tariffChecksCard : Claim7 := { stood := { row := tariffChecksRow, standIns := [], harness := (true, "e915a9bdfe9e1389aaf186e88c341004cfdabf0ce269b5d3aa2c8944f7f7b486"), looks := true }, kinds := [], alts := [], laidByText := true, laidKinds := [.data, .data, .data, .data, .sentinel, .sentinel, .widerDeep, .pinned], laidTests := true, laidLooks := .later }
def TariffChecksCardSaid : Prop := Claim7.holds Tryz.pinned (.plain (OpenSpec.ofChange tariffChecksSpec)) tariffChecksCard

/-- THE TIED CARD OF 'spilelaw46.TariffRates'. -/
def tariffRatesCard : Claim7 := { stood := { row := tariffRatesRow, standIns := [], harness := (true, "e915a9bdfe9e1389aaf186e88c341004cfdabf0ce269b5d3aa2c8944f7f7b486"), looks := true }, kinds := [], alts := [], laidByText := true, laidKinds := [.data, .data, .data, .data, .sentinel, .sentinel, .widerDeep, .pinned], laidTests := true, laidLooks := .later }
def TariffRatesCardSaid : Prop := Claim7.holds Tryz.pinned (.plain (OpenSpec.ofChange tariffRatesSpec)) tariffRatesCard

/-- THE TIED CARD OF 'spilelaw46.TariffDuties'. -/
def tariffDutiesCard : Claim7 := { stood := { row := tariffDutiesRow, standIns := [], harness := (true, "e915a9bdfe9e1389aaf186e88c341004cfdabf0ce269b5d3aa2c8944f7f7b486"), looks := true }, kinds := [], alts := [], laidByText := true, laidKinds := [.data, .data, .data, .data, .sentinel, .sentinel, .widerDeep, .pinned], laidTests := true, laidLooks := .later }
def TariffDutiesCardSaid : Prop := Claim7.holds Tryz.pinned (.plain (OpenSpec.ofChange tariffDutiesSpec)) tariffDutiesCard

/-- THE TIED CARD OF 'spilelaw46.TariffTexts'. -/
def tariffTextsCard : Claim7 := { stood := { row := tariffTextsRow, standIns := [], harness := (true, "e915a9bdfe9e1389aaf186e88c341004cfdabf0ce269b5d3aa2c8944f7f7b486"), looks := true }, kinds := [], alts := [], laidByText := true, laidKinds := [.data, .data, .data, .data, .sentinel, .sentinel, .widerDeep, .pinned], laidTests := true, laidLooks := .later }
def TariffTextsCardSaid : Prop := Claim7.holds Tryz.pinned (.plain (OpenSpec.ofChange tariffTextsSpec)) tariffTextsCard

/-- THE TIED CARD OF 'spilelaw46.TariffGrows'. -/
def tariffGrowsCard : Claim7 := { stood := { row := tariffGrowsRow, standIns := [], harness := (true, "e915a9bdfe9e1389aaf186e88c341004cfdabf0ce269b5d3aa2c8944f7f7b486"), looks := true }, kinds := [], alts := [], laidByText := true, laidKinds := [.data, .data, .data, .data, .sentinel, .sentinel, .widerDeep, .pinned], laidTests := true, laidLooks := .later }
def TariffGrowsCardSaid : Prop := Claim7.holds Tryz.pinned (.plain (OpenSpec.ofChange tariffGrowsSpec)) tariffGrowsCard

/-- THE TIED CARD OF 'spilelaw46.TariffLater'. -/
def tariffLaterCard : Claim7 := { stood := { row := tariffLaterRow, standIns := [], harness := (true, "e915a9bdfe9e1389aaf186e88c341004cfdabf0ce269b5d3aa2c8944f7f7b486"), looks := true }, kinds := [], alts := [], laidByText := true, laidKinds := [.data, .data, .data, .data, .sentinel, .sentinel, .widerDeep, .pinned], laidTests := true, laidLooks := .later }
def TariffLaterCardSaid : Prop := Claim7.holds Tryz.pinned (.plain (OpenSpec.ofChange tariffLaterSpec)) tariffLaterCard

/-- THE TIED CARD OF 'spilelaw46.TariffBack'. -/
def tariffBackCard : Claim7 := { stood := { row := tariffBackRow, standIns := [], harness := (true, "e915a9bdfe9e1389aaf186e88c341004cfdabf0ce269b5d3aa2c8944f7f7b486"), looks := true }, kinds := [], alts := [], laidByText := true, laidKinds := [.data, .data, .data, .data, .sentinel, .sentinel, .widerDeep, .pinned], laidTests := true, laidLooks := .later }
def TariffBackCardSaid : Prop := Claim7.holds Tryz.pinned (.plain (OpenSpec.ofChange tariffBackSpec)) tariffBackCard

/-- THE TIED CARD OF 'spilelaw46.TariffNear'. -/
def tariffNearCard : Claim7 := { stood := { row := tariffNearRow, standIns := [], harness := (true, "e915a9bdfe9e1389aaf186e88c341004cfdabf0ce269b5d3aa2c8944f7f7b486"), looks := true }, kinds := [], alts := [], laidByText := true, laidKinds := [.data, .data, .data, .data, .sentinel, .sentinel, .widerDeep, .pinned], laidTests := true, laidLooks := .later }
def TariffNearCardSaid : Prop := Claim7.holds Tryz.pinned (.plain (OpenSpec.ofChange tariffNearSpec)) tariffNearCard

/-- THE SECOND FORM's CARD OF 'spilelaw46.TariffChecks'. -/
def tariffChecksUptoCard : Claim7 := { stood := { row := tariffChecksUptoRow, standIns := [], harness := (true, "e915a9bdfe9e1389aaf186e88c341004cfdabf0ce269b5d3aa2c8944f7f7b486"), looks := true }, kinds := [], alts := [], laidByText := true, laidKinds := [.data, .data, .data, .data, .sentinel, .sentinel, .widerDeep, .pinned], laidTests := true, laidLooks := .later }
def TariffChecksUptoCardSaid : Prop := Claim7.holds Tryz.pinned (.plain (OpenSpec.upto tariffChecksSpec)) tariffChecksUptoCard

/-- THE SECOND FORM's CARD OF 'spilelaw46.TariffRates'. -/
def tariffRatesUptoCard : Claim7 := { stood := { row := tariffRatesUptoRow, standIns := [], harness := (true, "e915a9bdfe9e1389aaf186e88c341004cfdabf0ce269b5d3aa2c8944f7f7b486"), looks := true }, kinds := [], alts := [], laidByText := true, laidKinds := [.data, .data, .data, .data, .sentinel, .sentinel, .widerDeep, .pinned], laidTests := true, laidLooks := .later }
def TariffRatesUptoCardSaid : Prop := Claim7.holds Tryz.pinned (.plain (OpenSpec.upto tariffRatesSpec)) tariffRatesUptoCard

/-- THE SECOND FORM's CARD OF 'spilelaw46.TariffDuties'. -/
def tariffDutiesUptoCard : Claim7 := { stood := { row := tariffDutiesUptoRow, standIns := [], harness := (true, "e915a9bdfe9e1389aaf186e88c341004cfdabf0ce269b5d3aa2c8944f7f7b486"), looks := true }, kinds := [], alts := [], laidByText := true, laidKinds := [.data, .data, .data, .data, .sentinel, .sentinel, .widerDeep, .pinned], laidTests := true, laidLooks := .later }
def TariffDutiesUptoCardSaid : Prop := Claim7.holds Tryz.pinned (.plain (OpenSpec.upto tariffDutiesSpec)) tariffDutiesUptoCard

/-- THE SECOND FORM's CARD OF 'spilelaw46.TariffTexts'. -/
def tariffTextsUptoCard : Claim7 := { stood := { row := tariffTextsUptoRow, standIns := [], harness := (true, "e915a9bdfe9e1389aaf186e88c341004cfdabf0ce269b5d3aa2c8944f7f7b486"), looks := true }, kinds := [], alts := [], laidByText := true, laidKinds := [.data, .data, .data, .data, .sentinel, .sentinel, .widerDeep, .pinned], laidTests := true, laidLooks := .later }
def TariffTextsUptoCardSaid : Prop := Claim7.holds Tryz.pinned (.plain (OpenSpec.upto tariffTextsSpec)) tariffTextsUptoCard

/-- THE SECOND FORM's CARD OF 'spilelaw46.TariffGrows'. -/
def tariffGrowsUptoCard : Claim7 := { stood := { row := tariffGrowsUptoRow, standIns := [], harness := (true, "e915a9bdfe9e1389aaf186e88c341004cfdabf0ce269b5d3aa2c8944f7f7b486"), looks := true }, kinds := [], alts := [], laidByText := true, laidKinds := [.data, .data, .data, .data, .sentinel, .sentinel, .widerDeep, .pinned], laidTests := true, laidLooks := .later }
def TariffGrowsUptoCardSaid : Prop := Claim7.holds Tryz.pinned (.plain (OpenSpec.upto tariffGrowsSpec)) tariffGrowsUptoCard

/-- THE SECOND FORM's CARD OF 'spilelaw46.TariffLater'. -/
def tariffLaterUptoCard : Claim7 := { stood := { row := tariffLaterUptoRow, standIns := [], harness := (true, "e915a9bdfe9e1389aaf186e88c341004cfdabf0ce269b5d3aa2c8944f7f7b486"), looks := true }, kinds := [], alts := [], laidByText := true, laidKinds := [.data, .data, .data, .data, .sentinel, .sentinel, .widerDeep, .pinned], laidTests := true, laidLooks := .later }
def TariffLaterUptoCardSaid : Prop := Claim7.holds Tryz.pinned (.plain (OpenSpec.upto tariffLaterSpec)) tariffLaterUptoCard

/-- THE SECOND FORM's CARD OF 'spilelaw46.TariffBack'. -/
def tariffBackUptoCard : Claim7 := { stood := { row := tariffBackUptoRow, standIns := [], harness := (true, "e915a9bdfe9e1389aaf186e88c341004cfdabf0ce269b5d3aa2c8944f7f7b486"), looks := true }, kinds := [], alts := [], laidByText := true, laidKinds := [.data, .data, .data, .data, .sentinel, .sentinel, .widerDeep, .pinned], laidTests := true, laidLooks := .later }
def TariffBackUptoCardSaid : Prop := Claim7.holds Tryz.pinned (.plain (OpenSpec.upto tariffBackSpec)) tariffBackUptoCard

/-- THE SECOND FORM's CARD OF 'spilelaw46.TariffNear'. -/
def tariffNearUptoCard : Claim7 := { stood := { row := tariffNearUptoRow, standIns := [], harness := (true, "e915a9bdfe9e1389aaf186e88c341004cfdabf0ce269b5d3aa2c8944f7f7b486"), looks := true }, kinds := [], alts := [], laidByText := true, laidKinds := [.data, .data, .data, .data, .sentinel, .sentinel, .widerDeep, .pinned], laidTests := true, laidLooks := .later }
def TariffNearUptoCardSaid : Prop := Claim7.holds Tryz.pinned (.plain (OpenSpec.upto tariffNearSpec)) tariffNearUptoCard
end Rows
end Go.Proofs.YtholbmidciapdaaGreatDoor
