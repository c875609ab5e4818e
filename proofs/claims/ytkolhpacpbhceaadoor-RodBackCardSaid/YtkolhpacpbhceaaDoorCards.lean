/-
  DERIVED. GIVEN WITH THE SEED: THE CARDS: each row of YtkolhpacpbhceaaDoorRows.lean that lists a variable, with what it lists TIED to the program's text (the seventh form; the later family's looks); each row that meets fmt, with fmt's text TOLD by the authors' own Lean function (tested against real Go, not proved from fmt's source: count such statements apart). THE CARD IS WHAT COUNTS. Prove the row's statement (the work); the ties are given (YtkolhpacpbhceaaDoorTie.lean); close each card by the builder's one call (the guide's Derived/Test/ToyasCard.lean, 'card_holds'). Laid BY PROGRAM, IN A SANDBOX (cutbox-door.mjs). By AI agents, Wed Nov 11 2026. No macro, syntax, notation, axiom, sorry.
-/
import Derived.Test.YtkolhpacpbhceaaDoorRows
import GoSem.ClaimSeven
namespace Go.Proofs.YtkolhpacpbhceaaDoor
namespace Rows

/-- THE TIED CARD OF 'spilelaw14.RodMakes'. -/
def rodMakesCard : Claim7 := { stood := { row := rodMakesRow, standIns := [], harness := (true, "ffac5e0cc8868b2e00f9950da871680f8663d7526cb1afae6a9e6c162e8ee000"), looks := false }, kinds := [], alts := [], laidByText := true, laidKinds := [.data, .data, .data], laidTests := true, laidLooks := .later }
def RodMakesCardSaid : Prop := Claim7.holds Tryd.pinned (.plain (OpenSpec.ofChange rodMakesSpec)) rodMakesCard

/-- THE TIED CARD OF 'spilelaw14.RodReads'. -/
def rodReadsCard : Claim7 := { stood := { row := rodReadsRow, standIns := [], harness := (true, "ffac5e0cc8868b2e00f9950da871680f8663d7526cb1afae6a9e6c162e8ee000"), looks := false }, kinds := [], alts := [], laidByText := true, laidKinds := [.data, .data, .data], laidTests := true, laidLooks := .later }
def RodReadsCardSaid : Prop := Claim7.holds Tryd.pinned (.plain (OpenSpec.ofChange rodReadsSpec)) rodReadsCard

/-- THE TIED CARD OF 'spilelaw14.RodTexts'. -/
def rodTextsCard : Claim7 := { stood := { row := rodTextsRow, standIns := [], harness := (true, "ffac5e0cc8868b2e00f9950da871680f8663d7526cb1afae6a9e6c162e8ee000"), looks := false }, kinds := [], alts := [], laidByText := true, laidKinds := [.data, .data, .data], laidTests := true, laidLooks := .later }
def RodTextsCardSaid : Prop := Claim7.holds Tryd.pinned (.plain (OpenSpec.ofChange rodTextsSpec)) rodTextsCard

/-- THE TIED CARD OF 'spilelaw14.RodExact'. -/
def rodExactCard : Claim7 := { stood := { row := rodExactRow, standIns := [], harness := (true, "ffac5e0cc8868b2e00f9950da871680f8663d7526cb1afae6a9e6c162e8ee000"), looks := false }, kinds := [], alts := [], laidByText := true, laidKinds := [.data, .data, .data], laidTests := true, laidLooks := .later }
def RodExactCardSaid : Prop := Claim7.holds Tryd.pinned (.plain (OpenSpec.ofChange rodExactSpec)) rodExactCard

/-- THE TIED CARD OF 'spilelaw14.RodEncloses'. -/
def rodEnclosesCard : Claim7 := { stood := { row := rodEnclosesRow, standIns := [], harness := (true, "ffac5e0cc8868b2e00f9950da871680f8663d7526cb1afae6a9e6c162e8ee000"), looks := false }, kinds := [], alts := [], laidByText := true, laidKinds := [.data, .data, .data], laidTests := true, laidLooks := .later }
def RodEnclosesCardSaid : Prop := Claim7.holds Tryd.pinned (.plain (OpenSpec.ofChange rodEnclosesSpec)) rodEnclosesCard

/-- THE TIED CARD OF 'spilelaw14.RodBack'. -/
def rodBackCard : Claim7 := { stood := { row := rodBackRow, standIns := [], harness := (true, "ffac5e0cc8868b2e00f9950da871680f8663d7526cb1afae6a9e6c162e8ee000"), looks := false }, kinds := [], alts := [], laidByText := true, laidKinds := [.data, .data, .data], laidTests := true, laidLooks := .later }
def RodBackCardSaid : Prop := Claim7.holds Tryd.pinned (.plain (OpenSpec.ofChange rodBackSpec)) rodBackCard

/-- THE TIED CARD OF 'spilelaw14.RodCoarser'. -/
def rodCoarserCard : Claim7 := { stood := { row := rodCoarserRow, standIns := [], harness := (true, "ffac5e0cc8868b2e00f9950da871680f8663d7526cb1afae6a9e6c162e8ee000"), looks := false }, kinds := [], alts := [], laidByText := true, laidKinds := [.data, .data, .data], laidTests := true, laidLooks := .later }
def RodCoarserCardSaid : Prop := Claim7.holds Tryd.pinned (.plain (OpenSpec.ofChange rodCoarserSpec)) rodCoarserCard

/-- THE SECOND FORM's CARD OF 'spilelaw14.RodMakes'. -/
def rodMakesUptoCard : Claim7 := { stood := { row := rodMakesUptoRow, standIns := [], harness := (true, "ffac5e0cc8868b2e00f9950da871680f8663d7526cb1afae6a9e6c162e8ee000"), looks := false }, kinds := [], alts := [], laidByText := true, laidKinds := [.data, .data, .data], laidTests := true, laidLooks := .later }
def RodMakesUptoCardSaid : Prop := Claim7.holds Tryd.pinned (.plain (OpenSpec.upto rodMakesSpec)) rodMakesUptoCard

/-- THE SECOND FORM's CARD OF 'spilelaw14.RodReads'. -/
def rodReadsUptoCard : Claim7 := { stood := { row := rodReadsUptoRow, standIns := [], harness := (true, "ffac5e0cc8868b2e00f9950da871680f8663d7526cb1afae6a9e6c162e8ee000"), looks := false }, kinds := [], alts := [], laidByText := true, laidKinds := [.data, .data, .data], laidTests := true, laidLooks := .later }
def RodReadsUptoCardSaid : Prop := Claim7.holds Tryd.pinned (.plain (OpenSpec.upto rodReadsSpec)) rodReadsUptoCard

/-- THE SECOND FORM's CARD OF 'spilelaw14.RodTexts'. -/
def rodTextsUptoCard : Claim7 := { stood := { row := rodTextsUptoRow, standIns := [], harness := (true, "ffac5e0cc8868b2e00f9950da871680f8663d7526cb1afae6a9e6c162e8ee000"), looks := false }, kinds := [], alts := [], laidByText := true, laidKinds := [.data, .data, .data], laidTests := true, laidLooks := .later }
def RodTextsUptoCardSaid : Prop := Claim7.holds Tryd.pinned (.plain (OpenSpec.upto rodTextsSpec)) rodTextsUptoCard

/-- THE SECOND FORM's CARD OF 'spilelaw14.RodExact'. -/
def rodExactUptoCard : Claim7 := { stood := { row := rodExactUptoRow, standIns := [], harness := (true, "ffac5e0cc8868b2e00f9950da871680f8663d7526cb1afae6a9e6c162e8ee000"), looks := false }, kinds := [], alts := [], laidByText := true, laidKinds := [.data, .data, .data], laidTests := true, laidLooks := .later }
def RodExactUptoCardSaid : Prop := Claim7.holds Tryd.pinned (.plain (OpenSpec.upto rodExactSpec)) rodExactUptoCard

/-- THE SECOND FORM's CARD OF 'spilelaw14.RodEncloses'. -/
def rodEnclosesUptoCard : Claim7 := { stood := { row := rodEnclosesUptoRow, standIns := [], harness := (true, "ffac5e0cc8868b2e00f9950da871680f8663d7526cb1afae6a9e6c162e8ee000"), looks := false }, kinds := [], alts := [], laidByText := true, laidKinds := [.data, .data, .data], laidTests := true, laidLooks := .later }
def RodEnclosesUptoCardSaid : Prop := Claim7.holds Tryd.pinned (.plain (OpenSpec.upto rodEnclosesSpec)) rodEnclosesUptoCard

/-- THE SECOND FORM's CARD OF 'spilelaw14.RodBack'. -/
def rodBackUptoCard : Claim7 := { stood := { row := rodBackUptoRow, standIns := [], harness := (true, "ffac5e0cc8868b2e00f9950da871680f8663d7526cb1afae6a9e6c162e8ee000"), looks := false }, kinds := [], alts := [], laidByText := true, laidKinds := [.data, .data, .data], laidTests := true, laidLooks := .later }
def RodBackUptoCardSaid : Prop := Claim7.holds Tryd.pinned (.plain (OpenSpec.upto rodBackSpec)) rodBackUptoCard

/-- THE SECOND FORM's CARD OF 'spilelaw14.RodCoarser'. -/
def rodCoarserUptoCard : Claim7 := { stood := { row := rodCoarserUptoRow, standIns := [], harness := (true, "ffac5e0cc8868b2e00f9950da871680f8663d7526cb1afae6a9e6c162e8ee000"), looks := false }, kinds := [], alts := [], laidByText := true, laidKinds := [.data, .data, .data], laidTests := true, laidLooks := .later }
def RodCoarserUptoCardSaid : Prop := Claim7.holds Tryd.pinned (.plain (OpenSpec.upto rodCoarserSpec)) rodCoarserUptoCard
end Rows
end Go.Proofs.YtkolhpacpbhceaaDoor
