/-
  DERIVED. GIVEN WITH THE SEED: THE CARDS: each row of YtnhmlneebnkjcaaDoorRows.lean that lists a variable, with what it lists TIED to the program's text (the seventh form; the later family's looks); each row that meets fmt, with fmt's text TOLD by the authors' own Lean function (tested against real Go, not proved from fmt's source: count such statements apart). THE CARD IS WHAT COUNTS. Prove the row's statement (the work); the ties are given (YtnhmlneebnkjcaaDoorTie.lean); close each card by the builder's one call (the guide's Derived/Test/ToyasCard.lean, 'card_holds'). Laid BY PROGRAM, IN A SANDBOX (cutbox-door.mjs). By AI agents, Wed Nov 11 2026. No macro, syntax, notation, axiom, sorry.
-/
import Derived.Test.YtnhmlneebnkjcaaDoorRows
import GoSem.ClaimSeven
namespace Go.Proofs.YtnhmlneebnkjcaaDoor
namespace Rows

/-- THE TIED CARD OF 'spilelaw09.CaskChecks'. -/
def caskChecksCard : Claim7 := { stood := { row := caskChecksRow, standIns := [], harness := (true, "a11ba1a8ff04589e84bf96506875e99c97846a736c580a21adffadd5e088390c"), looks := false }, kinds := [], alts := [], laidByText := true, laidKinds := [.data, .data, .data, .data, .pinned], laidTests := true, laidLooks := .later }
def CaskChecksCardSaid : Prop := Claim7.holds Tryd.pinned (.plain (OpenSpec.ofChange caskChecksSpec)) caskChecksCard

/-- THE TIED CARD OF 'spilelaw09.CaskPrints'. -/
def caskPrintsCard : Claim7 := { stood := { row := caskPrintsRow, standIns := [], harness := (true, "a11ba1a8ff04589e84bf96506875e99c97846a736c580a21adffadd5e088390c"), looks := false }, kinds := [], alts := [], laidByText := true, laidKinds := [.data, .data, .data, .data, .pinned], laidTests := true, laidLooks := .later }
def CaskPrintsCardSaid : Prop := Claim7.holds Tryd.pinned (.plain (OpenSpec.ofChange caskPrintsSpec)) caskPrintsCard

/-- THE TIED CARD OF 'spilelaw09.CaskReads'. -/
def caskReadsCard : Claim7 := { stood := { row := caskReadsRow, standIns := [], harness := (true, "a11ba1a8ff04589e84bf96506875e99c97846a736c580a21adffadd5e088390c"), looks := false }, kinds := [], alts := [], laidByText := true, laidKinds := [.data, .data, .data, .data, .pinned], laidTests := true, laidLooks := .later }
def CaskReadsCardSaid : Prop := Claim7.holds Tryd.pinned (.plain (OpenSpec.ofChange caskReadsSpec)) caskReadsCard

/-- THE TIED CARD OF 'spilelaw09.CaskBack'. -/
def caskBackCard : Claim7 := { stood := { row := caskBackRow, standIns := [], harness := (true, "a11ba1a8ff04589e84bf96506875e99c97846a736c580a21adffadd5e088390c"), looks := false }, kinds := [], alts := [], laidByText := true, laidKinds := [.data, .data, .data, .data, .pinned], laidTests := true, laidLooks := .later }
def CaskBackCardSaid : Prop := Claim7.holds Tryd.pinned (.plain (OpenSpec.ofChange caskBackSpec)) caskBackCard

/-- THE TIED CARD OF 'spilelaw09.CaskAgain'. -/
def caskAgainCard : Claim7 := { stood := { row := caskAgainRow, standIns := [], harness := (true, "a11ba1a8ff04589e84bf96506875e99c97846a736c580a21adffadd5e088390c"), looks := false }, kinds := [], alts := [], laidByText := true, laidKinds := [.data, .data, .data, .data, .pinned], laidTests := true, laidLooks := .later }
def CaskAgainCardSaid : Prop := Claim7.holds Tryd.pinned (.plain (OpenSpec.ofChange caskAgainSpec)) caskAgainCard

/-- THE TIED CARD OF 'spilelaw09.CaskJoined'. -/
def caskJoinedCard : Claim7 := { stood := { row := caskJoinedRow, standIns := [], harness := (true, "a11ba1a8ff04589e84bf96506875e99c97846a736c580a21adffadd5e088390c"), looks := false }, kinds := [], alts := [], laidByText := true, laidKinds := [.data, .data, .data, .data, .pinned], laidTests := true, laidLooks := .later }
def CaskJoinedCardSaid : Prop := Claim7.holds Tryd.pinned (.plain (OpenSpec.ofChange caskJoinedSpec)) caskJoinedCard

/-- THE TIED CARD OF 'spilelaw09.CaskFinds'. -/
def caskFindsCard : Claim7 := { stood := { row := caskFindsRow, standIns := [], harness := (true, "a11ba1a8ff04589e84bf96506875e99c97846a736c580a21adffadd5e088390c"), looks := false }, kinds := [], alts := [], laidByText := true, laidKinds := [.data, .data, .data, .data, .pinned], laidTests := true, laidLooks := .later }
def CaskFindsCardSaid : Prop := Claim7.holds Tryd.pinned (.plain (OpenSpec.ofChange caskFindsSpec)) caskFindsCard

/-- THE SECOND FORM's CARD OF 'spilelaw09.CaskChecks'. -/
def caskChecksUptoCard : Claim7 := { stood := { row := caskChecksUptoRow, standIns := [], harness := (true, "a11ba1a8ff04589e84bf96506875e99c97846a736c580a21adffadd5e088390c"), looks := false }, kinds := [], alts := [], laidByText := true, laidKinds := [.data, .data, .data, .data, .pinned], laidTests := true, laidLooks := .later }
def CaskChecksUptoCardSaid : Prop := Claim7.holds Tryd.pinned (.plain (OpenSpec.upto caskChecksSpec)) caskChecksUptoCard

/-- THE SECOND FORM's CARD OF 'spilelaw09.CaskPrints'. -/
def caskPrintsUptoCard : Claim7 := { stood := { row := caskPrintsUptoRow, standIns := [], harness := (true, "a11ba1a8ff04589e84bf96506875e99c97846a736c580a21adffadd5e088390c"), looks := false }, kinds := [], alts := [], laidByText := true, laidKinds := [.data, .data, .data, .data, .pinned], laidTests := true, laidLooks := .later }
def CaskPrintsUptoCardSaid : Prop := Claim7.holds Tryd.pinned (.plain (OpenSpec.upto caskPrintsSpec)) caskPrintsUptoCard

/-- THE SECOND FORM's CARD OF 'spilelaw09.CaskReads'. -/
def caskReadsUptoCard : Claim7 := { stood := { row := caskReadsUptoRow, standIns := [], harness := (true, "a11ba1a8ff04589e84bf96506875e99c97846a736c580a21adffadd5e088390c"), looks := false }, kinds := [], alts := [], laidByText := true, laidKinds := [.data, .data, .data, .data, .pinned], laidTests := true, laidLooks := .later }
def CaskReadsUptoCardSaid : Prop := Claim7.holds Tryd.pinned (.plain (OpenSpec.upto caskReadsSpec)) caskReadsUptoCard

/-- THE SECOND FORM's CARD OF 'spilelaw09.CaskBack'. -/
def caskBackUptoCard : Claim7 := { stood := { row := caskBackUptoRow, standIns := [], harness := (true, "a11ba1a8ff04589e84bf96506875e99c97846a736c580a21adffadd5e088390c"), looks := false }, kinds := [], alts := [], laidByText := true, laidKinds := [.data, .data, .data, .data, .pinned], laidTests := true, laidLooks := .later }
def CaskBackUptoCardSaid : Prop := Claim7.holds Tryd.pinned (.plain (OpenSpec.upto caskBackSpec)) caskBackUptoCard

/-- THE SECOND FORM's CARD OF 'spilelaw09.CaskAgain'. -/
def caskAgainUptoCard : Claim7 := { stood := { row := caskAgainUptoRow, standIns := [], harness := (true, "a11ba1a8ff04589e84bf96506875e99c97846a736c580a21adffadd5e088390c"), looks := false }, kinds := [], alts := [], laidByText := true, laidKinds := [.data, .data, .data, .data, .pinned], laidTests := true, laidLooks := .later }
def CaskAgainUptoCardSaid : Prop := Claim7.holds Tryd.pinned (.plain (OpenSpec.upto caskAgainSpec)) caskAgainUptoCard

/-- THE SECOND FORM's CARD OF 'spilelaw09.CaskJoined'. -/
def caskJoinedUptoCard : Claim7 := { stood := { row := caskJoinedUptoRow, standIns := [], harness := (true, "a11ba1a8ff04589e84bf96506875e99c97846a736c580a21adffadd5e088390c"), looks := false }, kinds := [], alts := [], laidByText := true, laidKinds := [.data, .data, .data, .data, .pinned], laidTests := true, laidLooks := .later }
def CaskJoinedUptoCardSaid : Prop := Claim7.holds Tryd.pinned (.plain (OpenSpec.upto caskJoinedSpec)) caskJoinedUptoCard

/-- THE SECOND FORM's CARD OF 'spilelaw09.CaskFinds'. -/
def caskFindsUptoCard : Claim7 := { stood := { row := caskFindsUptoRow, standIns := [], harness := (true, "a11ba1a8ff04589e84bf96506875e99c97846a736c580a21adffadd5e088390c"), looks := false }, kinds := [], alts := [], laidByText := true, laidKinds := [.data, .data, .data, .data, .pinned], laidTests := true, laidLooks := .later }
def CaskFindsUptoCardSaid : Prop := Claim7.holds Tryd.pinned (.plain (OpenSpec.upto caskFindsSpec)) caskFindsUptoCard
end Rows
end Go.Proofs.YtnhmlneebnkjcaaDoor
