/-
  NARROWER THAN 'FOR EVERY INPUT', by the rows' own cells (each row's printed sentence says how): TariffChecks: laid · TariffRates: laid · TariffDuties: laid · TariffTexts: laid · TariffGrows: laid · TariffLater: laid · TariffBack: laid · TariffNear: laid.
  DERIVED. THE GIVEN ROWS OF THIS SEAT. 8 by the template 'for every input the law returns true; each argument reads behind the call as it read before'; 0 by the template 'total and deterministic' (their statements: YtholbmidciapdaaGreatDoorTotals.lean).
  GIVEN WITH THE SEED: the statements are not yours to turn. If you find one false, say at which input.
  Laid BY PROGRAM, IN A SANDBOX (cutbox-rows.mjs): the forced cells as the released guide's own fill.sh prints them over the translation 32f0eea4996e653b… (all of the seat's roots in one cut). By AI agents, Wed Nov 11 2026. No macro, syntax, notation, axiom, sorry.
-/
import Derived.Test.YtholbmidciapdaaGreatDoorChecked
import GoSem.PinnedTables
import GoSem.Claim
import GoSem.ClaimJoined
import GoSem.ClaimMapViews
import Derived.JoinedTies
import Derived.KernelRfl
namespace Go.Proofs.YtholbmidciapdaaGreatDoor
/- THE CELL 'sum', in the pinned program and in every row, IS THE sha256 OF THE DUMP (.gsa) THAT YtholbmidciapdaaGreatDoorProg.lean LOADS. Nothing in Lean hashes anything: it is a label: what it is worth is what the hold of that sum in a sandbox is worth. -/
noncomputable def Tryz.pinned : Pinned := { name := "ytholbmidciapdaagreatdoor", sum := "32f0eea4996e653b4b7c8e7e4153f6b6b890398df228b90fa8c7f779d664b3e8", checked := Tryz.checked }
namespace Rows
def none {H : Type} : Left H := { results := [], args := [] }

/- WHAT THE LISTED PACKAGE-LEVEL VARIABLES READ AS WHEN THE CALL BEGINS. Each datum BY PROGRAM (the guide's laid-datum.mjs) off the statement by which the dump's own 'gosem.cut.vars' lays the variable. In a bare row this is a premise. The card (YtholbmidciapdaaGreatDoorCards.lean) ties it to the program's text. -/
def laid_math_bits_deBruijn32tab {H : Type} : DataW H := .agg [.lit (.int .u8 0), .lit (.int .u8 1), .lit (.int .u8 28), .lit (.int .u8 2), .lit (.int .u8 29), .lit (.int .u8 14), .lit (.int .u8 24), .lit (.int .u8 3), .lit (.int .u8 30), .lit (.int .u8 22), .lit (.int .u8 20), .lit (.int .u8 15), .lit (.int .u8 25), .lit (.int .u8 17), .lit (.int .u8 4), .lit (.int .u8 8), .lit (.int .u8 31), .lit (.int .u8 27), .lit (.int .u8 13), .lit (.int .u8 23), .lit (.int .u8 21), .lit (.int .u8 19), .lit (.int .u8 16), .lit (.int .u8 7), .lit (.int .u8 26), .lit (.int .u8 12), .lit (.int .u8 18), .lit (.int .u8 6), .lit (.int .u8 11), .lit (.int .u8 5), .lit (.int .u8 10), .lit (.int .u8 9)]
def laid_math_bits_deBruijn64tab {H : Type} : DataW H := .agg [.lit (.int .u8 0), .lit (.int .u8 1), .lit (.int .u8 56), .lit (.int .u8 2), .lit (.int .u8 57), .lit (.int .u8 49), .lit (.int .u8 28), .lit (.int .u8 3), .lit (.int .u8 61), .lit (.int .u8 58), .lit (.int .u8 42), .lit (.int .u8 50), .lit (.int .u8 38), .lit (.int .u8 29), .lit (.int .u8 17), .lit (.int .u8 4), .lit (.int .u8 62), .lit (.int .u8 47), .lit (.int .u8 59), .lit (.int .u8 36), .lit (.int .u8 45), .lit (.int .u8 43), .lit (.int .u8 51), .lit (.int .u8 22), .lit (.int .u8 53), .lit (.int .u8 39), .lit (.int .u8 33), .lit (.int .u8 30), .lit (.int .u8 24), .lit (.int .u8 18), .lit (.int .u8 12), .lit (.int .u8 5), .lit (.int .u8 63), .lit (.int .u8 55), .lit (.int .u8 48), .lit (.int .u8 27), .lit (.int .u8 60), .lit (.int .u8 41), .lit (.int .u8 37), .lit (.int .u8 16), .lit (.int .u8 46), .lit (.int .u8 35), .lit (.int .u8 44), .lit (.int .u8 21), .lit (.int .u8 52), .lit (.int .u8 32), .lit (.int .u8 23), .lit (.int .u8 11), .lit (.int .u8 54), .lit (.int .u8 26), .lit (.int .u8 40), .lit (.int .u8 15), .lit (.int .u8 34), .lit (.int .u8 20), .lit (.int .u8 31), .lit (.int .u8 10), .lit (.int .u8 25), .lit (.int .u8 14), .lit (.int .u8 19), .lit (.int .u8 9), .lit (.int .u8 13), .lit (.int .u8 8), .lit (.int .u8 7), .lit (.int .u8 6)]
def laid_internal_strconv_uint64pow10 {H : Type} : DataW H := .agg [.lit (.int .u64 1), .lit (.int .u64 10), .lit (.int .u64 100), .lit (.int .u64 1000), .lit (.int .u64 10000), .lit (.int .u64 100000), .lit (.int .u64 1000000), .lit (.int .u64 10000000), .lit (.int .u64 100000000), .lit (.int .u64 1000000000), .lit (.int .u64 10000000000), .lit (.int .u64 100000000000), .lit (.int .u64 1000000000000), .lit (.int .u64 10000000000000), .lit (.int .u64 100000000000000), .lit (.int .u64 1000000000000000), .lit (.int .u64 10000000000000000), .lit (.int .u64 100000000000000000), .lit (.int .u64 1000000000000000000), .lit (.int .u64 10000000000000000000)]
def laid_unicode_utf8_acceptRanges {H : Type} : DataW H := .agg [.agg [.lit (.int .u8 128), .lit (.int .u8 191)], .agg [.lit (.int .u8 160), .lit (.int .u8 191)], .agg [.lit (.int .u8 128), .lit (.int .u8 159)], .agg [.lit (.int .u8 144), .lit (.int .u8 191)], .agg [.lit (.int .u8 128), .lit (.int .u8 143)], .agg [.lit (.int .u8 0), .lit (.int .u8 0)], .agg [.lit (.int .u8 0), .lit (.int .u8 0)], .agg [.lit (.int .u8 0), .lit (.int .u8 0)], .agg [.lit (.int .u8 0), .lit (.int .u8 0)], .agg [.lit (.int .u8 0), .lit (.int .u8 0)], .agg [.lit (.int .u8 0), .lit (.int .u8 0)], .agg [.lit (.int .u8 0), .lit (.int .u8 0)], .agg [.lit (.int .u8 0), .lit (.int .u8 0)], .agg [.lit (.int .u8 0), .lit (.int .u8 0)], .agg [.lit (.int .u8 0), .lit (.int .u8 0)], .agg [.lit (.int .u8 0), .lit (.int .u8 0)]]
def laid_strconv_ErrRange {H : Type} : DataW H := .iface "*errors.errorString" (.ptr (.agg [.lit (.string [118, 97, 108, 117, 101, 32, 111, 117, 116, 32, 111, 102, 32, 114, 97, 110, 103, 101])]))
def laid_strconv_ErrSyntax {H : Type} : DataW H := .iface "*errors.errorString" (.ptr (.agg [.lit (.string [105, 110, 118, 97, 108, 105, 100, 32, 115, 121, 110, 116, 97, 120])]))
def laid_spile_tariff_words {H : Type} : DataW H := .agg [.lit (.string []), .lit (.string [100, 111, 119, 110]), .lit (.string [117, 112]), .lit (.string [104, 97, 108, 102, 45, 117, 112]), .lit (.string [104, 97, 108, 102, 45, 101, 118, 101, 110])]
/-- One of Go's own tables, pinned by name: the form's constant. -/
def laid_unicode_utf8_first : DataW Unit := Go.Pinned.utf8First

/-- 'spilelaw46.TariffChecks': WHATEVER THE INPUT: true; the input reads as it did. -/
def tariffChecksSpec : ChangeSpec := { name := "tariffChecks", fn := fun _ => fun
  | [d1, d2] => { results := [.lit (.bool true)], args := [d1, d2] }
  | _ => none }
def tariffChecksRow : OpenClaim := { program := "ytholbmidciapdaagreatdoor", sum := "32f0eea4996e653b4b7c8e7e4153f6b6b890398df228b90fa8c7f779d664b3e8", func := "spile/spilelaw46.TariffChecks", spec := "tariffChecks", inPlace := ["internal/abi.NoEscape", "internal/bytealg.IndexByteString", "internal/bytealg.IndexString", "internal/bytealg.CountString", "slices.overlaps[spile/api.Rate]"], unfollowed := true, recurses := true, named := ["spile/tariff.words", "internal/strconv.uint64pow10", "math/bits.deBruijn32tab", "math/bits.deBruijn64tab", "internal/bytealg.MaxLen", "unicode/utf8.first", "unicode/utf8.acceptRanges", "strconv.ErrSyntax", "strconv.ErrRange"], apart := false, laid := [("math/bits.deBruijn32tab", laid_math_bits_deBruijn32tab), ("math/bits.deBruijn64tab", laid_math_bits_deBruijn64tab), ("internal/strconv.uint64pow10", laid_internal_strconv_uint64pow10), ("unicode/utf8.acceptRanges", laid_unicode_utf8_acceptRanges), ("strconv.ErrRange", laid_strconv_ErrRange), ("strconv.ErrSyntax", laid_strconv_ErrSyntax), ("spile/tariff.words", laid_spile_tariff_words), ("unicode/utf8.first", laid_unicode_utf8_first)] }
def TariffChecksSaid : Prop := tariffChecksRow.holds Tryz.pinned (OpenSpec.ofChange tariffChecksSpec)

/-- ITS FALSE NEIGHBOUR: 'it returns false'. Refute it at one input. -/
def tariffChecksWrong : ChangeSpec := { name := "tariffChecks", fn := fun _ => fun
  | [d1, d2] => { results := [.lit (.bool false)], args := [d1, d2] }
  | _ => none }
def TariffChecksWrongFalsely : Prop := tariffChecksRow.holds Tryz.pinned (OpenSpec.ofChange tariffChecksWrong)

/-- 'spilelaw46.TariffRates': WHATEVER THE INPUT: true; the input reads as it did. -/
def tariffRatesSpec : ChangeSpec := { name := "tariffRates", fn := fun _ => fun
  | [d1, d2, d3, d4] => { results := [.lit (.bool true)], args := [d1, d2, d3, d4] }
  | _ => none }
def tariffRatesRow : OpenClaim := { program := "ytholbmidciapdaagreatdoor", sum := "32f0eea4996e653b4b7c8e7e4153f6b6b890398df228b90fa8c7f779d664b3e8", func := "spile/spilelaw46.TariffRates", spec := "tariffRates", inPlace := ["internal/abi.NoEscape", "internal/bytealg.IndexByteString", "internal/bytealg.IndexString", "internal/bytealg.CountString", "slices.overlaps[spile/api.Rate]"], unfollowed := true, recurses := true, named := ["spile/tariff.words", "internal/strconv.uint64pow10", "math/bits.deBruijn32tab", "math/bits.deBruijn64tab", "internal/bytealg.MaxLen", "unicode/utf8.first", "unicode/utf8.acceptRanges", "strconv.ErrSyntax", "strconv.ErrRange"], apart := false, laid := [("math/bits.deBruijn32tab", laid_math_bits_deBruijn32tab), ("math/bits.deBruijn64tab", laid_math_bits_deBruijn64tab), ("internal/strconv.uint64pow10", laid_internal_strconv_uint64pow10), ("unicode/utf8.acceptRanges", laid_unicode_utf8_acceptRanges), ("strconv.ErrRange", laid_strconv_ErrRange), ("strconv.ErrSyntax", laid_strconv_ErrSyntax), ("spile/tariff.words", laid_spile_tariff_words), ("unicode/utf8.first", laid_unicode_utf8_first)] }
def TariffRatesSaid : Prop := tariffRatesRow.holds Tryz.pinned (OpenSpec.ofChange tariffRatesSpec)

/-- ITS FALSE NEIGHBOUR: 'it returns false'. Refute it at one input. -/
def tariffRatesWrong : ChangeSpec := { name := "tariffRates", fn := fun _ => fun
  | [d1, d2, d3, d4] => { results := [.lit (.bool false)], args := [d1, d2, d3, d4] }
  | _ => none }
def TariffRatesWrongFalsely : Prop := tariffRatesRow.holds Tryz.pinned (OpenSpec.ofChange tariffRatesWrong)

/-- 'spilelaw46.TariffDuties': WHATEVER THE INPUT: true; the input reads as it did. -/
def tariffDutiesSpec : ChangeSpec := { name := "tariffDuties", fn := fun _ => fun
  | [d1, d2, d3, d4] => { results := [.lit (.bool true)], args := [d1, d2, d3, d4] }
  | _ => none }
def tariffDutiesRow : OpenClaim := { program := "ytholbmidciapdaagreatdoor", sum := "32f0eea4996e653b4b7c8e7e4153f6b6b890398df228b90fa8c7f779d664b3e8", func := "spile/spilelaw46.TariffDuties", spec := "tariffDuties", inPlace := ["internal/abi.NoEscape", "internal/bytealg.IndexByteString", "internal/bytealg.IndexString", "internal/bytealg.CountString", "slices.overlaps[spile/api.Rate]"], unfollowed := true, recurses := true, named := ["spile/tariff.words", "internal/strconv.uint64pow10", "math/bits.deBruijn32tab", "math/bits.deBruijn64tab", "internal/bytealg.MaxLen", "unicode/utf8.first", "unicode/utf8.acceptRanges", "strconv.ErrSyntax", "strconv.ErrRange"], apart := false, laid := [("math/bits.deBruijn32tab", laid_math_bits_deBruijn32tab), ("math/bits.deBruijn64tab", laid_math_bits_deBruijn64tab), ("internal/strconv.uint64pow10", laid_internal_strconv_uint64pow10), ("unicode/utf8.acceptRanges", laid_unicode_utf8_acceptRanges), ("strconv.ErrRange", laid_strconv_ErrRange), ("strconv.ErrSyntax", laid_strconv_ErrSyntax), ("spile/tariff.words", laid_spile_tariff_words), ("unicode/utf8.first", laid_unicode_utf8_first)] }
def TariffDutiesSaid : Prop := tariffDutiesRow.holds Tryz.pinned (OpenSpec.ofChange tariffDutiesSpec)

/-- ITS FALSE NEIGHBOUR: 'it returns false'. Refute it at one input. -/
def tariffDutiesWrong : ChangeSpec := { name := "tariffDuties", fn := fun _ => fun
  | [d1, d2, d3, d4] => { results := [.lit (.bool false)], args := [d1, d2, d3, d4] }
  | _ => none }
def TariffDutiesWrongFalsely : Prop := tariffDutiesRow.holds Tryz.pinned (OpenSpec.ofChange tariffDutiesWrong)

/-- 'spilelaw46.TariffTexts': WHATEVER THE INPUT: true; the input reads as it did. -/
def tariffTextsSpec : ChangeSpec := { name := "tariffTexts", fn := fun _ => fun
  | [d1, d2] => { results := [.lit (.bool true)], args := [d1, d2] }
  | _ => none }
def tariffTextsRow : OpenClaim := { program := "ytholbmidciapdaagreatdoor", sum := "32f0eea4996e653b4b7c8e7e4153f6b6b890398df228b90fa8c7f779d664b3e8", func := "spile/spilelaw46.TariffTexts", spec := "tariffTexts", inPlace := ["internal/abi.NoEscape", "internal/bytealg.IndexByteString", "internal/bytealg.IndexString", "internal/bytealg.CountString", "slices.overlaps[spile/api.Rate]"], unfollowed := true, recurses := true, named := ["spile/tariff.words", "internal/strconv.uint64pow10", "math/bits.deBruijn32tab", "math/bits.deBruijn64tab", "internal/bytealg.MaxLen", "unicode/utf8.first", "unicode/utf8.acceptRanges", "strconv.ErrSyntax", "strconv.ErrRange"], apart := false, laid := [("math/bits.deBruijn32tab", laid_math_bits_deBruijn32tab), ("math/bits.deBruijn64tab", laid_math_bits_deBruijn64tab), ("internal/strconv.uint64pow10", laid_internal_strconv_uint64pow10), ("unicode/utf8.acceptRanges", laid_unicode_utf8_acceptRanges), ("strconv.ErrRange", laid_strconv_ErrRange), ("strconv.ErrSyntax", laid_strconv_ErrSyntax), ("spile/tariff.words", laid_spile_tariff_words), ("unicode/utf8.first", laid_unicode_utf8_first)] }
def TariffTextsSaid : Prop := tariffTextsRow.holds Tryz.pinned (OpenSpec.ofChange tariffTextsSpec)

/-- ITS FALSE NEIGHBOUR: 'it returns false'. Refute it at one input. -/
def tariffTextsWrong : ChangeSpec := { name := "tariffTexts", fn := fun _ => fun
  | [d1, d2] => { results := [.lit (.bool false)], args := [d1, d2] }
  | _ => none }
def TariffTextsWrongFalsely : Prop := tariffTextsRow.holds Tryz.pinned (OpenSpec.ofChange tariffTextsWrong)

/-- 'spilelaw46.TariffGrows': WHATEVER THE INPUT: true; the input reads as it did. -/
def tariffGrowsSpec : ChangeSpec := { name := "tariffGrows", fn := fun _ => fun
  | [d1, d2, d3, d4, d5, d6] => { results := [.lit (.bool true)], args := [d1, d2, d3, d4, d5, d6] }
  | _ => none }
def tariffGrowsRow : OpenClaim := { program := "ytholbmidciapdaagreatdoor", sum := "32f0eea4996e653b4b7c8e7e4153f6b6b890398df228b90fa8c7f779d664b3e8", func := "spile/spilelaw46.TariffGrows", spec := "tariffGrows", inPlace := ["internal/abi.NoEscape", "internal/bytealg.IndexByteString", "internal/bytealg.IndexString", "internal/bytealg.CountString", "slices.overlaps[spile/api.Rate]"], unfollowed := true, recurses := true, named := ["spile/tariff.words", "internal/strconv.uint64pow10", "math/bits.deBruijn32tab", "math/bits.deBruijn64tab", "internal/bytealg.MaxLen", "unicode/utf8.first", "unicode/utf8.acceptRanges", "strconv.ErrSyntax", "strconv.ErrRange"], apart := false, laid := [("math/bits.deBruijn32tab", laid_math_bits_deBruijn32tab), ("math/bits.deBruijn64tab", laid_math_bits_deBruijn64tab), ("internal/strconv.uint64pow10", laid_internal_strconv_uint64pow10), ("unicode/utf8.acceptRanges", laid_unicode_utf8_acceptRanges), ("strconv.ErrRange", laid_strconv_ErrRange), ("strconv.ErrSyntax", laid_strconv_ErrSyntax), ("spile/tariff.words", laid_spile_tariff_words), ("unicode/utf8.first", laid_unicode_utf8_first)] }
def TariffGrowsSaid : Prop := tariffGrowsRow.holds Tryz.pinned (OpenSpec.ofChange tariffGrowsSpec)

/-- ITS FALSE NEIGHBOUR: 'it returns false'. Refute it at one input. -/
def tariffGrowsWrong : ChangeSpec := { name := "tariffGrows", fn := fun _ => fun
  | [d1, d2, d3, d4, d5, d6] => { results := [.lit (.bool false)], args := [d1, d2, d3, d4, d5, d6] }
  | _ => none }
def TariffGrowsWrongFalsely : Prop := tariffGrowsRow.holds Tryz.pinned (OpenSpec.ofChange tariffGrowsWrong)

/-- 'spilelaw46.TariffLater': WHATEVER THE INPUT: true; the input reads as it did. -/
def tariffLaterSpec : ChangeSpec := { name := "tariffLater", fn := fun _ => fun
  | [d1, d2, d3, d4, d5] => { results := [.lit (.bool true)], args := [d1, d2, d3, d4, d5] }
  | _ => none }
def tariffLaterRow : OpenClaim := { program := "ytholbmidciapdaagreatdoor", sum := "32f0eea4996e653b4b7c8e7e4153f6b6b890398df228b90fa8c7f779d664b3e8", func := "spile/spilelaw46.TariffLater", spec := "tariffLater", inPlace := ["internal/abi.NoEscape", "internal/bytealg.IndexByteString", "internal/bytealg.IndexString", "internal/bytealg.CountString", "slices.overlaps[spile/api.Rate]"], unfollowed := true, recurses := true, named := ["spile/tariff.words", "internal/strconv.uint64pow10", "math/bits.deBruijn32tab", "math/bits.deBruijn64tab", "internal/bytealg.MaxLen", "unicode/utf8.first", "unicode/utf8.acceptRanges", "strconv.ErrSyntax", "strconv.ErrRange"], apart := false, laid := [("math/bits.deBruijn32tab", laid_math_bits_deBruijn32tab), ("math/bits.deBruijn64tab", laid_math_bits_deBruijn64tab), ("internal/strconv.uint64pow10", laid_internal_strconv_uint64pow10), ("unicode/utf8.acceptRanges", laid_unicode_utf8_acceptRanges), ("strconv.ErrRange", laid_strconv_ErrRange), ("strconv.ErrSyntax", laid_strconv_ErrSyntax), ("spile/tariff.words", laid_spile_tariff_words), ("unicode/utf8.first", laid_unicode_utf8_first)] }
def TariffLaterSaid : Prop := tariffLaterRow.holds Tryz.pinned (OpenSpec.ofChange tariffLaterSpec)

/-- ITS FALSE NEIGHBOUR: 'it returns false'. Refute it at one input. -/
def tariffLaterWrong : ChangeSpec := { name := "tariffLater", fn := fun _ => fun
  | [d1, d2, d3, d4, d5] => { results := [.lit (.bool false)], args := [d1, d2, d3, d4, d5] }
  | _ => none }
def TariffLaterWrongFalsely : Prop := tariffLaterRow.holds Tryz.pinned (OpenSpec.ofChange tariffLaterWrong)

/-- 'spilelaw46.TariffBack': WHATEVER THE INPUT: true; the input reads as it did. -/
def tariffBackSpec : ChangeSpec := { name := "tariffBack", fn := fun _ => fun
  | [d1, d2] => { results := [.lit (.bool true)], args := [d1, d2] }
  | _ => none }
def tariffBackRow : OpenClaim := { program := "ytholbmidciapdaagreatdoor", sum := "32f0eea4996e653b4b7c8e7e4153f6b6b890398df228b90fa8c7f779d664b3e8", func := "spile/spilelaw46.TariffBack", spec := "tariffBack", inPlace := ["internal/abi.NoEscape", "internal/bytealg.IndexByteString", "internal/bytealg.IndexString", "internal/bytealg.CountString", "slices.overlaps[spile/api.Rate]"], unfollowed := true, recurses := true, named := ["spile/tariff.words", "internal/strconv.uint64pow10", "math/bits.deBruijn32tab", "math/bits.deBruijn64tab", "internal/bytealg.MaxLen", "unicode/utf8.first", "unicode/utf8.acceptRanges", "strconv.ErrSyntax", "strconv.ErrRange"], apart := false, laid := [("math/bits.deBruijn32tab", laid_math_bits_deBruijn32tab), ("math/bits.deBruijn64tab", laid_math_bits_deBruijn64tab), ("internal/strconv.uint64pow10", laid_internal_strconv_uint64pow10), ("unicode/utf8.acceptRanges", laid_unicode_utf8_acceptRanges), ("strconv.ErrRange", laid_strconv_ErrRange), ("strconv.ErrSyntax", laid_strconv_ErrSyntax), ("spile/tariff.words", laid_spile_tariff_words), ("unicode/utf8.first", laid_unicode_utf8_first)] }
def TariffBackSaid : Prop := tariffBackRow.holds Tryz.pinned (OpenSpec.ofChange tariffBackSpec)

/-- ITS FALSE NEIGHBOUR: 'it returns false'. Refute it at one input. -/
def tariffBackWrong : ChangeSpec := { name := "tariffBack", fn := fun _ => fun
  | [d1, d2] => { results := [.lit (.bool false)], args := [d1, d2] }
  | _ => none }
def TariffBackWrongFalsely : Prop := tariffBackRow.holds Tryz.pinned (OpenSpec.ofChange tariffBackWrong)

/-- 'spilelaw46.TariffNear': WHATEVER THE INPUT: true; the input reads as it did. -/
def tariffNearSpec : ChangeSpec := { name := "tariffNear", fn := fun _ => fun
  | [d1, d2, d3, d4] => { results := [.lit (.bool true)], args := [d1, d2, d3, d4] }
  | _ => none }
def tariffNearRow : OpenClaim := { program := "ytholbmidciapdaagreatdoor", sum := "32f0eea4996e653b4b7c8e7e4153f6b6b890398df228b90fa8c7f779d664b3e8", func := "spile/spilelaw46.TariffNear", spec := "tariffNear", inPlace := ["internal/abi.NoEscape", "internal/bytealg.IndexByteString", "internal/bytealg.IndexString", "internal/bytealg.CountString", "slices.overlaps[spile/api.Rate]", "math/bits.Sub64"], unfollowed := true, recurses := true, named := ["spile/tariff.words", "internal/strconv.uint64pow10", "math/bits.deBruijn32tab", "math/bits.deBruijn64tab", "internal/bytealg.MaxLen", "unicode/utf8.first", "unicode/utf8.acceptRanges", "strconv.ErrSyntax", "strconv.ErrRange"], apart := false, laid := [("math/bits.deBruijn32tab", laid_math_bits_deBruijn32tab), ("math/bits.deBruijn64tab", laid_math_bits_deBruijn64tab), ("internal/strconv.uint64pow10", laid_internal_strconv_uint64pow10), ("unicode/utf8.acceptRanges", laid_unicode_utf8_acceptRanges), ("strconv.ErrRange", laid_strconv_ErrRange), ("strconv.ErrSyntax", laid_strconv_ErrSyntax), ("spile/tariff.words", laid_spile_tariff_words), ("unicode/utf8.first", laid_unicode_utf8_first)] }
def TariffNearSaid : Prop := tariffNearRow.holds Tryz.pinned (OpenSpec.ofChange tariffNearSpec)

/-- ITS FALSE NEIGHBOUR: 'it returns false'. Refute it at one input. -/
def tariffNearWrong : ChangeSpec := { name := "tariffNear", fn := fun _ => fun
  | [d1, d2, d3, d4] => { results := [.lit (.bool false)], args := [d1, d2, d3, d4] }
  | _ => none }
def TariffNearWrongFalsely : Prop := tariffNearRow.holds Tryz.pinned (OpenSpec.ofChange tariffNearWrong)

/- THE SECOND FORM. 'bulk': how many values and letters a reading holds, each counted each time it is reached (what is shared counts as often as it is met; a slice's spare places count too). A statement '..UptoSaid' is the law's where the arguments, and the package variables that the reading takes, are together of bulk at most 1048576: NARROWER than '..Said'. Prove '..Said' where nothing that the law and all that it calls make is longer than what came in: it says more and counts as full. Else prove '..UptoSaid'. A law counts once. -/
mutual
def uptoBulk {H : Type} : DataW H → Nat
  | .lit (.string bytes) => bytes.length + 1
  | .lit _ => 1
  | .nil => 1
  | .ptr d => uptoBulk d + 1
  | .slice elems spare => uptoBulkAll elems + uptoBulkAll spare + 1
  | .agg parts => uptoBulkAll parts + 1
  | .iface _ d => uptoBulk d + 1
  | .map entries => uptoBulkEntries entries + 1
  | .held _ => 1
def uptoBulkAll {H : Type} : List (DataW H) → Nat
  | [] => 0
  | d :: r => uptoBulk d + uptoBulkAll r
def uptoBulkEntries {H : Type} : List (Lit × DataW H) → Nat
  | [] => 0
  | x :: r => uptoBulkEntry x + uptoBulkEntries r
def uptoBulkEntry {H : Type} : Lit × DataW H → Nat
  | (.string bytes, d) => bytes.length + uptoBulk d + 1
  | (_, d) => uptoBulk d + 1
 end
def uptoSmall : (H : Type) → List (DataW H) → Bool := fun _ ds => decide (uptoBulkAll ds ≤ 1048576)
def OpenSpec.upto (s : _root_.Go.ChangeSpec) : _root_.Go.OpenSpec := { _root_.Go.OpenSpec.ofChange s with cond := some uptoSmall }

/-- 'spilelaw46.TariffChecks', WHERE WHAT IT READS IS OF BULK AT MOST 1048576: true; the input reads as it did. -/
def tariffChecksUptoRow : OpenClaim := { program := "ytholbmidciapdaagreatdoor", sum := "32f0eea4996e653b4b7c8e7e4153f6b6b890398df228b90fa8c7f779d664b3e8", func := "spile/spilelaw46.TariffChecks", spec := "tariffChecks", inPlace := ["internal/abi.NoEscape", "internal/bytealg.IndexByteString", "internal/bytealg.IndexString", "internal/bytealg.CountString", "slices.overlaps[spile/api.Rate]"], unfollowed := true, recurses := true, named := ["spile/tariff.words", "internal/strconv.uint64pow10", "math/bits.deBruijn32tab", "math/bits.deBruijn64tab", "internal/bytealg.MaxLen", "unicode/utf8.first", "unicode/utf8.acceptRanges", "strconv.ErrSyntax", "strconv.ErrRange"], apart := false, laid := [("math/bits.deBruijn32tab", laid_math_bits_deBruijn32tab), ("math/bits.deBruijn64tab", laid_math_bits_deBruijn64tab), ("internal/strconv.uint64pow10", laid_internal_strconv_uint64pow10), ("unicode/utf8.acceptRanges", laid_unicode_utf8_acceptRanges), ("strconv.ErrRange", laid_strconv_ErrRange), ("strconv.ErrSyntax", laid_strconv_ErrSyntax), ("spile/tariff.words", laid_spile_tariff_words), ("unicode/utf8.first", laid_unicode_utf8_first)], narrowed := true }
def TariffChecksUptoSaid : Prop := tariffChecksUptoRow.holds Tryz.pinned (OpenSpec.upto tariffChecksSpec)

/-- 'spilelaw46.TariffRates', WHERE WHAT IT READS IS OF BULK AT MOST 1048576: true; the input reads as it did. -/
def tariffRatesUptoRow : OpenClaim := { program := "ytholbmidciapdaagreatdoor", sum := "32f0eea4996e653b4b7c8e7e4153f6b6b890398df228b90fa8c7f779d664b3e8", func := "spile/spilelaw46.TariffRates", spec := "tariffRates", inPlace := ["internal/abi.NoEscape", "internal/bytealg.IndexByteString", "internal/bytealg.IndexString", "internal/bytealg.CountString", "slices.overlaps[spile/api.Rate]"], unfollowed := true, recurses := true, named := ["spile/tariff.words", "internal/strconv.uint64pow10", "math/bits.deBruijn32tab", "math/bits.deBruijn64tab", "internal/bytealg.MaxLen", "unicode/utf8.first", "unicode/utf8.acceptRanges", "strconv.ErrSyntax", "strconv.ErrRange"], apart := false, laid := [("math/bits.deBruijn32tab", laid_math_bits_deBruijn32tab), ("math/bits.deBruijn64tab", laid_math_bits_deBruijn64tab), ("internal/strconv.uint64pow10", laid_internal_strconv_uint64pow10), ("unicode/utf8.acceptRanges", laid_unicode_utf8_acceptRanges), ("strconv.ErrRange", laid_strconv_ErrRange), ("strconv.ErrSyntax", laid_strconv_ErrSyntax), ("spile/tariff.words", laid_spile_tariff_words), ("unicode/utf8.first", laid_unicode_utf8_first)], narrowed := true }
def TariffRatesUptoSaid : Prop := tariffRatesUptoRow.holds Tryz.pinned (OpenSpec.upto tariffRatesSpec)

/-- 'spilelaw46.TariffDuties', WHERE WHAT IT READS IS OF BULK AT MOST 1048576: true; the input reads as it did. -/
def tariffDutiesUptoRow : OpenClaim := { program := "ytholbmidciapdaagreatdoor", sum := "32f0eea4996e653b4b7c8e7e4153f6b6b890398df228b90fa8c7f779d664b3e8", func := "spile/spilelaw46.TariffDuties", spec := "tariffDuties", inPlace := ["internal/abi.NoEscape", "internal/bytealg.IndexByteString", "internal/bytealg.IndexString", "internal/bytealg.CountString", "slices.overlaps[spile/api.Rate]"], unfollowed := true, recurses := true, named := ["spile/tariff.words", "internal/strconv.uint64pow10", "math/bits.deBruijn32tab", "math/bits.deBruijn64tab", "internal/bytealg.MaxLen", "unicode/utf8.first", "unicode/utf8.acceptRanges", "strconv.ErrSyntax", "strconv.ErrRange"], apart := false, laid := [("math/bits.deBruijn32tab", laid_math_bits_deBruijn32tab), ("math/bits.deBruijn64tab", laid_math_bits_deBruijn64tab), ("internal/strconv.uint64pow10", laid_internal_strconv_uint64pow10), ("unicode/utf8.acceptRanges", laid_unicode_utf8_acceptRanges), ("strconv.ErrRange", laid_strconv_ErrRange), ("strconv.ErrSyntax", laid_strconv_ErrSyntax), ("spile/tariff.words", laid_spile_tariff_words), ("unicode/utf8.first", laid_unicode_utf8_first)], narrowed := true }
def TariffDutiesUptoSaid : Prop := tariffDutiesUptoRow.holds Tryz.pinned (OpenSpec.upto tariffDutiesSpec)

/-- 'spilelaw46.TariffTexts', WHERE WHAT IT READS IS OF BULK AT MOST 1048576: true; the input reads as it did. -/
def tariffTextsUptoRow : OpenClaim := { program := "ytholbmidciapdaagreatdoor", sum := "32f0eea4996e653b4b7c8e7e4153f6b6b890398df228b90fa8c7f779d664b3e8", func := "spile/spilelaw46.TariffTexts", spec := "tariffTexts", inPlace := ["internal/abi.NoEscape", "internal/bytealg.IndexByteString", "internal/bytealg.IndexString", "internal/bytealg.CountString", "slices.overlaps[spile/api.Rate]"], unfollowed := true, recurses := true, named := ["spile/tariff.words", "internal/strconv.uint64pow10", "math/bits.deBruijn32tab", "math/bits.deBruijn64tab", "internal/bytealg.MaxLen", "unicode/utf8.first", "unicode/utf8.acceptRanges", "strconv.ErrSyntax", "strconv.ErrRange"], apart := false, laid := [("math/bits.deBruijn32tab", laid_math_bits_deBruijn32tab), ("math/bits.deBruijn64tab", laid_math_bits_deBruijn64tab), ("internal/strconv.uint64pow10", laid_internal_strconv_uint64pow10), ("unicode/utf8.acceptRanges", laid_unicode_utf8_acceptRanges), ("strconv.ErrRange", laid_strconv_ErrRange), ("strconv.ErrSyntax", laid_strconv_ErrSyntax), ("spile/tariff.words", laid_spile_tariff_words), ("unicode/utf8.first", laid_unicode_utf8_first)], narrowed := true }
def TariffTextsUptoSaid : Prop := tariffTextsUptoRow.holds Tryz.pinned (OpenSpec.upto tariffTextsSpec)

/-- 'spilelaw46.TariffGrows', WHERE WHAT IT READS IS OF BULK AT MOST 1048576: true; the input reads as it did. -/
def tariffGrowsUptoRow : OpenClaim := { program := "ytholbmidciapdaagreatdoor", sum := "32f0eea4996e653b4b7c8e7e4153f6b6b890398df228b90fa8c7f779d664b3e8", func := "spile/spilelaw46.TariffGrows", spec := "tariffGrows", inPlace := ["internal/abi.NoEscape", "internal/bytealg.IndexByteString", "internal/bytealg.IndexString", "internal/bytealg.CountString", "slices.overlaps[spile/api.Rate]"], unfollowed := true, recurses := true, named := ["spile/tariff.words", "internal/strconv.uint64pow10", "math/bits.deBruijn32tab", "math/bits.deBruijn64tab", "internal/bytealg.MaxLen", "unicode/utf8.first", "unicode/utf8.acceptRanges", "strconv.ErrSyntax", "strconv.ErrRange"], apart := false, laid := [("math/bits.deBruijn32tab", laid_math_bits_deBruijn32tab), ("math/bits.deBruijn64tab", laid_math_bits_deBruijn64tab), ("internal/strconv.uint64pow10", laid_internal_strconv_uint64pow10), ("unicode/utf8.acceptRanges", laid_unicode_utf8_acceptRanges), ("strconv.ErrRange", laid_strconv_ErrRange), ("strconv.ErrSyntax", laid_strconv_ErrSyntax), ("spile/tariff.words", laid_spile_tariff_words), ("unicode/utf8.first", laid_unicode_utf8_first)], narrowed := true }
def TariffGrowsUptoSaid : Prop := tariffGrowsUptoRow.holds Tryz.pinned (OpenSpec.upto tariffGrowsSpec)

/-- 'spilelaw46.TariffLater', WHERE WHAT IT READS IS OF BULK AT MOST 1048576: true; the input reads as it did. -/
def tariffLaterUptoRow : OpenClaim := { program := "ytholbmidciapdaagreatdoor", sum := "32f0eea4996e653b4b7c8e7e4153f6b6b890398df228b90fa8c7f779d664b3e8", func := "spile/spilelaw46.TariffLater", spec := "tariffLater", inPlace := ["internal/abi.NoEscape", "internal/bytealg.IndexByteString", "internal/bytealg.IndexString", "internal/bytealg.CountString", "slices.overlaps[spile/api.Rate]"], unfollowed := true, recurses := true, named := ["spile/tariff.words", "internal/strconv.uint64pow10", "math/bits.deBruijn32tab", "math/bits.deBruijn64tab", "internal/bytealg.MaxLen", "unicode/utf8.first", "unicode/utf8.acceptRanges", "strconv.ErrSyntax", "strconv.ErrRange"], apart := false, laid := [("math/bits.deBruijn32tab", laid_math_bits_deBruijn32tab), ("math/bits.deBruijn64tab", laid_math_bits_deBruijn64tab), ("internal/strconv.uint64pow10", laid_internal_strconv_uint64pow10), ("unicode/utf8.acceptRanges", laid_unicode_utf8_acceptRanges), ("strconv.ErrRange", laid_strconv_ErrRange), ("strconv.ErrSyntax", laid_strconv_ErrSyntax), ("spile/tariff.words", laid_spile_tariff_words), ("unicode/utf8.first", laid_unicode_utf8_first)], narrowed := true }
def TariffLaterUptoSaid : Prop := tariffLaterUptoRow.holds Tryz.pinned (OpenSpec.upto tariffLaterSpec)

/-- 'spilelaw46.TariffBack', WHERE WHAT IT READS IS OF BULK AT MOST 1048576: true; the input reads as it did. -/
def tariffBackUptoRow : OpenClaim := { program := "ytholbmidciapdaagreatdoor", sum := "32f0eea4996e653b4b7c8e7e4153f6b6b890398df228b90fa8c7f779d664b3e8", func := "spile/spilelaw46.TariffBack", spec := "tariffBack", inPlace := ["internal/abi.NoEscape", "internal/bytealg.IndexByteString", "internal/bytealg.IndexString", "internal/bytealg.CountString", "slices.overlaps[spile/api.Rate]"], unfollowed := true, recurses := true, named := ["spile/tariff.words", "internal/strconv.uint64pow10", "math/bits.deBruijn32tab", "math/bits.deBruijn64tab", "internal/bytealg.MaxLen", "unicode/utf8.first", "unicode/utf8.acceptRanges", "strconv.ErrSyntax", "strconv.ErrRange"], apart := false, laid := [("math/bits.deBruijn32tab", laid_math_bits_deBruijn32tab), ("math/bits.deBruijn64tab", laid_math_bits_deBruijn64tab), ("internal/strconv.uint64pow10", laid_internal_strconv_uint64pow10), ("unicode/utf8.acceptRanges", laid_unicode_utf8_acceptRanges), ("strconv.ErrRange", laid_strconv_ErrRange), ("strconv.ErrSyntax", laid_strconv_ErrSyntax), ("spile/tariff.words", laid_spile_tariff_words), ("unicode/utf8.first", laid_unicode_utf8_first)], narrowed := true }
def TariffBackUptoSaid : Prop := tariffBackUptoRow.holds Tryz.pinned (OpenSpec.upto tariffBackSpec)

/-- 'spilelaw46.TariffNear', WHERE WHAT IT READS IS OF BULK AT MOST 1048576: true; the input reads as it did. -/
def tariffNearUptoRow : OpenClaim := { program := "ytholbmidciapdaagreatdoor", sum := "32f0eea4996e653b4b7c8e7e4153f6b6b890398df228b90fa8c7f779d664b3e8", func := "spile/spilelaw46.TariffNear", spec := "tariffNear", inPlace := ["internal/abi.NoEscape", "internal/bytealg.IndexByteString", "internal/bytealg.IndexString", "internal/bytealg.CountString", "slices.overlaps[spile/api.Rate]", "math/bits.Sub64"], unfollowed := true, recurses := true, named := ["spile/tariff.words", "internal/strconv.uint64pow10", "math/bits.deBruijn32tab", "math/bits.deBruijn64tab", "internal/bytealg.MaxLen", "unicode/utf8.first", "unicode/utf8.acceptRanges", "strconv.ErrSyntax", "strconv.ErrRange"], apart := false, laid := [("math/bits.deBruijn32tab", laid_math_bits_deBruijn32tab), ("math/bits.deBruijn64tab", laid_math_bits_deBruijn64tab), ("internal/strconv.uint64pow10", laid_internal_strconv_uint64pow10), ("unicode/utf8.acceptRanges", laid_unicode_utf8_acceptRanges), ("strconv.ErrRange", laid_strconv_ErrRange), ("strconv.ErrSyntax", laid_strconv_ErrSyntax), ("spile/tariff.words", laid_spile_tariff_words), ("unicode/utf8.first", laid_unicode_utf8_first)], narrowed := true }
def TariffNearUptoSaid : Prop := tariffNearUptoRow.holds Tryz.pinned (OpenSpec.upto tariffNearSpec)

end Rows
end Go.Proofs.YtholbmidciapdaaGreatDoor
