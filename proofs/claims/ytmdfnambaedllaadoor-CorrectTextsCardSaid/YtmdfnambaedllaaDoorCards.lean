/-
  DERIVED. GIVEN WITH THE SEED: THE CARDS: each row of YtmdfnambaedllaaDoorRows.lean that lists a variable, with what it lists TIED to the program's text (the seventh form; the later family's looks); each row that meets fmt, with fmt's text TOLD by the authors' own Lean function (tested against real Go, not proved from fmt's source: count such statements apart). THE CARD IS WHAT COUNTS. Prove the row's statement (the work); the ties are given (YtmdfnambaedllaaDoorTie.lean); close each card by the builder's one call (the guide's Derived/Test/ToyasCard.lean, 'card_holds'). Laid BY PROGRAM, IN A SANDBOX (cutbox-door.mjs). By AI agents, Wed Nov 11 2026. No macro, syntax, notation, axiom, sorry.
-/
import Derived.Test.YtmdfnambaedllaaDoorRows
import GoSem.ClaimSeven
namespace Go.Proofs.YtmdfnambaedllaaDoor
namespace Rows

/-- THE TIED CARD OF 'spilelaw19.CorrectRanges'. -/
def correctRangesCard : Claim7 := { stood := { row := correctRangesRow, standIns := [], harness := (true, "43761afd2ec77655b7605f986a4f9a4256ebde91a38a7a669bad47d42540965e"), looks := true }, kinds := [], alts := [], laidByText := true, laidKinds := [.data, .data, .data], laidTests := true, laidLooks := .later }
def CorrectRangesCardSaid : Prop := Claim7.holds Tryd.pinned (.plain (OpenSpec.ofChange correctRangesSpec)) correctRangesCard

/-- THE TIED CARD OF 'spilelaw19.CorrectFalls'. -/
def correctFallsCard : Claim7 := { stood := { row := correctFallsRow, standIns := [], harness := (true, "43761afd2ec77655b7605f986a4f9a4256ebde91a38a7a669bad47d42540965e"), looks := true }, kinds := [], alts := [], laidByText := true, laidKinds := [.data, .data, .data], laidTests := true, laidLooks := .later }
def CorrectFallsCardSaid : Prop := Claim7.holds Tryd.pinned (.plain (OpenSpec.ofChange correctFallsSpec)) correctFallsCard

/-- THE TIED CARD OF 'spilelaw19.CorrectEncloses'. -/
def correctEnclosesCard : Claim7 := { stood := { row := correctEnclosesRow, standIns := [], harness := (true, "43761afd2ec77655b7605f986a4f9a4256ebde91a38a7a669bad47d42540965e"), looks := true }, kinds := [], alts := [], laidByText := true, laidKinds := [.data, .data, .data], laidTests := true, laidLooks := .later }
def CorrectEnclosesCardSaid : Prop := Claim7.holds Tryd.pinned (.plain (OpenSpec.ofChange correctEnclosesSpec)) correctEnclosesCard

/-- THE TIED CARD OF 'spilelaw19.CorrectReads'. -/
def correctReadsCard : Claim7 := { stood := { row := correctReadsRow, standIns := [], harness := (true, "43761afd2ec77655b7605f986a4f9a4256ebde91a38a7a669bad47d42540965e"), looks := true }, kinds := [], alts := [], laidByText := true, laidKinds := [.data, .data, .data], laidTests := true, laidLooks := .later }
def CorrectReadsCardSaid : Prop := Claim7.holds Tryd.pinned (.plain (OpenSpec.ofChange correctReadsSpec)) correctReadsCard

/-- THE TIED CARD OF 'spilelaw19.CorrectUndoes'. -/
def correctUndoesCard : Claim7 := { stood := { row := correctUndoesRow, standIns := [], harness := (true, "43761afd2ec77655b7605f986a4f9a4256ebde91a38a7a669bad47d42540965e"), looks := true }, kinds := [], alts := [], laidByText := true, laidKinds := [.data, .data, .data], laidTests := true, laidLooks := .later }
def CorrectUndoesCardSaid : Prop := Claim7.holds Tryd.pinned (.plain (OpenSpec.ofChange correctUndoesSpec)) correctUndoesCard

/-- THE TIED CARD OF 'spilelaw19.CorrectTexts'. -/
def correctTextsCard : Claim7 := { stood := { row := correctTextsRow, standIns := [], harness := (true, "43761afd2ec77655b7605f986a4f9a4256ebde91a38a7a669bad47d42540965e"), looks := true }, kinds := [], alts := [], laidByText := true, laidKinds := [.data, .data, .data, .data, .sentinel, .sentinel, .pinned], laidTests := true, laidLooks := .later }
def CorrectTextsCardSaid : Prop := Claim7.holds Tryd.pinned (.plain (OpenSpec.ofChange correctTextsSpec)) correctTextsCard

/-- THE TIED CARD OF 'spilelaw19.CorrectBack'. -/
def correctBackCard : Claim7 := { stood := { row := correctBackRow, standIns := [], harness := (true, "43761afd2ec77655b7605f986a4f9a4256ebde91a38a7a669bad47d42540965e"), looks := true }, kinds := [], alts := [], laidByText := true, laidKinds := [.data, .data, .data, .data, .sentinel, .sentinel, .pinned], laidTests := true, laidLooks := .later }
def CorrectBackCardSaid : Prop := Claim7.holds Tryd.pinned (.plain (OpenSpec.ofChange correctBackSpec)) correctBackCard

/-- THE SECOND FORM's CARD OF 'spilelaw19.CorrectRanges'. -/
def correctRangesUptoCard : Claim7 := { stood := { row := correctRangesUptoRow, standIns := [], harness := (true, "43761afd2ec77655b7605f986a4f9a4256ebde91a38a7a669bad47d42540965e"), looks := true }, kinds := [], alts := [], laidByText := true, laidKinds := [.data, .data, .data], laidTests := true, laidLooks := .later }
def CorrectRangesUptoCardSaid : Prop := Claim7.holds Tryd.pinned (.plain (OpenSpec.upto correctRangesSpec)) correctRangesUptoCard

/-- THE SECOND FORM's CARD OF 'spilelaw19.CorrectFalls'. -/
def correctFallsUptoCard : Claim7 := { stood := { row := correctFallsUptoRow, standIns := [], harness := (true, "43761afd2ec77655b7605f986a4f9a4256ebde91a38a7a669bad47d42540965e"), looks := true }, kinds := [], alts := [], laidByText := true, laidKinds := [.data, .data, .data], laidTests := true, laidLooks := .later }
def CorrectFallsUptoCardSaid : Prop := Claim7.holds Tryd.pinned (.plain (OpenSpec.upto correctFallsSpec)) correctFallsUptoCard

/-- THE SECOND FORM's CARD OF 'spilelaw19.CorrectEncloses'. -/
def correctEnclosesUptoCard : Claim7 := { stood := { row := correctEnclosesUptoRow, standIns := [], harness := (true, "43761afd2ec77655b7605f986a4f9a4256ebde91a38a7a669bad47d42540965e"), looks := true }, kinds := [], alts := [], laidByText := true, laidKinds := [.data, .data, .data], laidTests := true, laidLooks := .later }
def CorrectEnclosesUptoCardSaid : Prop := Claim7.holds Tryd.pinned (.plain (OpenSpec.upto correctEnclosesSpec)) correctEnclosesUptoCard

/-- THE SECOND FORM's CARD OF 'spilelaw19.CorrectReads'. -/
def correctReadsUptoCard : Claim7 := { stood := { row := correctReadsUptoRow, standIns := [], harness := (true, "43761afd2ec77655b7605f986a4f9a4256ebde91a38a7a669bad47d42540965e"), looks := true }, kinds := [], alts := [], laidByText := true, laidKinds := [.data, .data, .data], laidTests := true, laidLooks := .later }
def CorrectReadsUptoCardSaid : Prop := Claim7.holds Tryd.pinned (.plain (OpenSpec.upto correctReadsSpec)) correctReadsUptoCard

/-- THE SECOND FORM's CARD OF 'spilelaw19.CorrectUndoes'. -/
def correctUndoesUptoCard : Claim7 := { stood := { row := correctUndoesUptoRow, standIns := [], harness := (true, "43761afd2ec77655b7605f986a4f9a4256ebde91a38a7a669bad47d42540965e"), looks := true }, kinds := [], alts := [], laidByText := true, laidKinds := [.data, .data, .data], laidTests := true, laidLooks := .later }
def CorrectUndoesUptoCardSaid : Prop := Claim7.holds Tryd.pinned (.plain (OpenSpec.upto correctUndoesSpec)) correctUndoesUptoCard

/-- THE SECOND FORM's CARD OF 'spilelaw19.CorrectTexts'. -/
def correctTextsUptoCard : Claim7 := { stood := { row := correctTextsUptoRow, standIns := [], harness := (true, "43761afd2ec77655b7605f986a4f9a4256ebde91a38a7a669bad47d42540965e"), looks := true }, kinds := [], alts := [], laidByText := true, laidKinds := [.data, .data, .data, .data, .sentinel, .sentinel, .pinned], laidTests := true, laidLooks := .later }
def CorrectTextsUptoCardSaid : Prop := Claim7.holds Tryd.pinned (.plain (OpenSpec.upto correctTextsSpec)) correctTextsUptoCard

/-- THE SECOND FORM's CARD OF 'spilelaw19.CorrectBack'. -/
def correctBackUptoCard : Claim7 := { stood := { row := correctBackUptoRow, standIns := [], harness := (true, "43761afd2ec77655b7605f986a4f9a4256ebde91a38a7a669bad47d42540965e"), looks := true }, kinds := [], alts := [], laidByText := true, laidKinds := [.data, .data, .data, .data, .sentinel, .sentinel, .pinned], laidTests := true, laidLooks := .later }
def CorrectBackUptoCardSaid : Prop := Claim7.holds Tryd.pinned (.plain (OpenSpec.upto correctBackSpec)) correctBackUptoCard
end Rows
end Go.Proofs.YtmdfnambaedllaaDoor
