/-
  NARROWER THAN 'FOR EVERY INPUT', by the rows' own cells (each row's printed sentence says how): RodMakes: laid · RodReads: laid · RodTexts: laid · RodExact: laid · RodEncloses: laid · RodBack: laid · RodCoarser: laid.
  DERIVED. THE GIVEN ROWS OF THIS SEAT. 7 by the template 'for every input the law returns true; each argument reads behind the call as it read before'; 0 by the template 'total and deterministic' (their statements: YtkolhpacpbhceaaDoorTotals.lean).
  GIVEN WITH THE SEED: the statements are not yours to turn. If you find one false, say at which input.
  Laid BY PROGRAM, IN A SANDBOX (cutbox-rows.mjs): the forced cells as the released guide's own fill.sh prints them over the translation 200197a725d7c762… (all of the seat's roots in one cut). By AI agents, Wed Nov 11 2026. No macro, syntax, notation, axiom, sorry.
-/
import Derived.Test.YtkolhpacpbhceaaDoorChecked
import GoSem.Claim
import GoSem.ClaimJoined
import GoSem.ClaimMapViews
import Derived.JoinedTies
import Derived.KernelRfl
namespace Go.Proofs.YtkolhpacpbhceaaDoor
/- THE CELL 'sum', in the pinned program and in every row, IS THE sha256 OF THE DUMP (.gsa) THAT YtkolhpacpbhceaaDoorProg.lean LOADS. Nothing in Lean hashes anything: it is a label: what it is worth is what the hold of that sum in a sandbox is worth. -/
noncomputable def Tryd.pinned : Pinned := { name := "ytkolhpacpbhceaadoor", sum := "200197a725d7c76215fbaa2a0fa30fd355af0e4b1c11bacf68e69185a3de5b5b", checked := Tryd.checked }
namespace Rows
def none {H : Type} : Left H := { results := [], args := [] }

/- WHAT THE LISTED PACKAGE-LEVEL VARIABLES READ AS WHEN THE CALL BEGINS. Each datum BY PROGRAM (the guide's laid-datum.mjs) off the statement by which the dump's own 'gosem.cut.vars' lays the variable. In a bare row this is a premise. The card (YtkolhpacpbhceaaDoorCards.lean) ties it to the program's text. -/
def laid_math_bits_deBruijn32tab {H : Type} : DataW H := .agg [.lit (.int .u8 0), .lit (.int .u8 1), .lit (.int .u8 28), .lit (.int .u8 2), .lit (.int .u8 29), .lit (.int .u8 14), .lit (.int .u8 24), .lit (.int .u8 3), .lit (.int .u8 30), .lit (.int .u8 22), .lit (.int .u8 20), .lit (.int .u8 15), .lit (.int .u8 25), .lit (.int .u8 17), .lit (.int .u8 4), .lit (.int .u8 8), .lit (.int .u8 31), .lit (.int .u8 27), .lit (.int .u8 13), .lit (.int .u8 23), .lit (.int .u8 21), .lit (.int .u8 19), .lit (.int .u8 16), .lit (.int .u8 7), .lit (.int .u8 26), .lit (.int .u8 12), .lit (.int .u8 18), .lit (.int .u8 6), .lit (.int .u8 11), .lit (.int .u8 5), .lit (.int .u8 10), .lit (.int .u8 9)]
def laid_math_bits_deBruijn64tab {H : Type} : DataW H := .agg [.lit (.int .u8 0), .lit (.int .u8 1), .lit (.int .u8 56), .lit (.int .u8 2), .lit (.int .u8 57), .lit (.int .u8 49), .lit (.int .u8 28), .lit (.int .u8 3), .lit (.int .u8 61), .lit (.int .u8 58), .lit (.int .u8 42), .lit (.int .u8 50), .lit (.int .u8 38), .lit (.int .u8 29), .lit (.int .u8 17), .lit (.int .u8 4), .lit (.int .u8 62), .lit (.int .u8 47), .lit (.int .u8 59), .lit (.int .u8 36), .lit (.int .u8 45), .lit (.int .u8 43), .lit (.int .u8 51), .lit (.int .u8 22), .lit (.int .u8 53), .lit (.int .u8 39), .lit (.int .u8 33), .lit (.int .u8 30), .lit (.int .u8 24), .lit (.int .u8 18), .lit (.int .u8 12), .lit (.int .u8 5), .lit (.int .u8 63), .lit (.int .u8 55), .lit (.int .u8 48), .lit (.int .u8 27), .lit (.int .u8 60), .lit (.int .u8 41), .lit (.int .u8 37), .lit (.int .u8 16), .lit (.int .u8 46), .lit (.int .u8 35), .lit (.int .u8 44), .lit (.int .u8 21), .lit (.int .u8 52), .lit (.int .u8 32), .lit (.int .u8 23), .lit (.int .u8 11), .lit (.int .u8 54), .lit (.int .u8 26), .lit (.int .u8 40), .lit (.int .u8 15), .lit (.int .u8 34), .lit (.int .u8 20), .lit (.int .u8 31), .lit (.int .u8 10), .lit (.int .u8 25), .lit (.int .u8 14), .lit (.int .u8 19), .lit (.int .u8 9), .lit (.int .u8 13), .lit (.int .u8 8), .lit (.int .u8 7), .lit (.int .u8 6)]
def laid_internal_strconv_uint64pow10 {H : Type} : DataW H := .agg [.lit (.int .u64 1), .lit (.int .u64 10), .lit (.int .u64 100), .lit (.int .u64 1000), .lit (.int .u64 10000), .lit (.int .u64 100000), .lit (.int .u64 1000000), .lit (.int .u64 10000000), .lit (.int .u64 100000000), .lit (.int .u64 1000000000), .lit (.int .u64 10000000000), .lit (.int .u64 100000000000), .lit (.int .u64 1000000000000), .lit (.int .u64 10000000000000), .lit (.int .u64 100000000000000), .lit (.int .u64 1000000000000000), .lit (.int .u64 10000000000000000), .lit (.int .u64 100000000000000000), .lit (.int .u64 1000000000000000000), .lit (.int .u64 10000000000000000000)]

/-- 'spilelaw14.RodMakes': WHATEVER THE INPUT: true; the input reads as it did. -/
def rodMakesSpec : ChangeSpec := { name := "rodMakes", fn := fun _ => fun
  | [d1, d2] => { results := [.lit (.bool true)], args := [d1, d2] }
  | _ => none }
def rodMakesRow : OpenClaim := { program := "ytkolhpacpbhceaadoor", sum := "200197a725d7c76215fbaa2a0fa30fd355af0e4b1c11bacf68e69185a3de5b5b", func := "spile/spilelaw14.RodMakes", spec := "rodMakes", inPlace := ["internal/abi.NoEscape", "internal/bytealg.IndexByteString", "internal/bytealg.IndexString"], unfollowed := true, recurses := true, named := ["internal/strconv.uint64pow10", "math/bits.deBruijn32tab", "math/bits.deBruijn64tab", "internal/bytealg.MaxLen"], apart := false, laid := [("math/bits.deBruijn32tab", laid_math_bits_deBruijn32tab), ("math/bits.deBruijn64tab", laid_math_bits_deBruijn64tab), ("internal/strconv.uint64pow10", laid_internal_strconv_uint64pow10)] }
def RodMakesSaid : Prop := rodMakesRow.holds Tryd.pinned (OpenSpec.ofChange rodMakesSpec)

/-- ITS FALSE NEIGHBOUR: 'it returns false'. Refute it at one input. -/
def rodMakesWrong : ChangeSpec := { name := "rodMakes", fn := fun _ => fun
  | [d1, d2] => { results := [.lit (.bool false)], args := [d1, d2] }
  | _ => none }
def RodMakesWrongFalsely : Prop := rodMakesRow.holds Tryd.pinned (OpenSpec.ofChange rodMakesWrong)

/-- 'spilelaw14.RodReads': WHATEVER THE INPUT: true; the input reads as it did. -/
def rodReadsSpec : ChangeSpec := { name := "rodReads", fn := fun _ => fun
  | [d1, d2, d3, d4] => { results := [.lit (.bool true)], args := [d1, d2, d3, d4] }
  | _ => none }
def rodReadsRow : OpenClaim := { program := "ytkolhpacpbhceaadoor", sum := "200197a725d7c76215fbaa2a0fa30fd355af0e4b1c11bacf68e69185a3de5b5b", func := "spile/spilelaw14.RodReads", spec := "rodReads", inPlace := ["internal/abi.NoEscape", "internal/bytealg.IndexByteString", "internal/bytealg.IndexString"], unfollowed := true, recurses := true, named := ["internal/strconv.uint64pow10", "math/bits.deBruijn32tab", "math/bits.deBruijn64tab", "internal/bytealg.MaxLen"], apart := false, laid := [("math/bits.deBruijn32tab", laid_math_bits_deBruijn32tab), ("math/bits.deBruijn64tab", laid_math_bits_deBruijn64tab), ("internal/strconv.uint64pow10", laid_internal_strconv_uint64pow10)] }
def RodReadsSaid : Prop := rodReadsRow.holds Tryd.pinned (OpenSpec.ofChange rodReadsSpec)

/-- ITS FALSE NEIGHBOUR: 'it returns false'. Refute it at one input. -/
def rodReadsWrong : ChangeSpec := { name := "rodReads", fn := fun _ => fun
  | [d1, d2, d3, d4] => { results := [.lit (.bool false)], args := [d1, d2, d3, d4] }
  | _ => none }
def RodReadsWrongFalsely : Prop := rodReadsRow.holds Tryd.pinned (OpenSpec.ofChange rodReadsWrong)

/-- 'spilelaw14.RodTexts': WHATEVER THE INPUT: true; the input reads as it did. -/
def rodTextsSpec : ChangeSpec := { name := "rodTexts", fn := fun _ => fun
  | [d1, d2] => { results := [.lit (.bool true)], args := [d1, d2] }
  | _ => none }
def rodTextsRow : OpenClaim := { program := "ytkolhpacpbhceaadoor", sum := "200197a725d7c76215fbaa2a0fa30fd355af0e4b1c11bacf68e69185a3de5b5b", func := "spile/spilelaw14.RodTexts", spec := "rodTexts", inPlace := ["internal/abi.NoEscape", "internal/bytealg.IndexByteString", "internal/bytealg.IndexString"], unfollowed := true, recurses := true, named := ["internal/strconv.uint64pow10", "math/bits.deBruijn32tab", "math/bits.deBruijn64tab", "internal/bytealg.MaxLen"], apart := false, laid := [("math/bits.deBruijn32tab", laid_math_bits_deBruijn32tab), ("math/bits.deBruijn64tab", laid_math_bits_deBruijn64tab), ("internal/strconv.uint64pow10", laid_internal_strconv_uint64pow10)] }
def RodTextsSaid : Prop := rodTextsRow.holds Tryd.pinned (OpenSpec.ofChange rodTextsSpec)

/-- ITS FALSE NEIGHBOUR: 'it returns false'. Refute it at one input. -/
def rodTextsWrong : ChangeSpec := { name := "rodTexts", fn := fun _ => fun
  | [d1, d2] => { results := [.lit (.bool false)], args := [d1, d2] }
  | _ => none }
def RodTextsWrongFalsely : Prop := rodTextsRow.holds Tryd.pinned (OpenSpec.ofChange rodTextsWrong)

/-- 'spilelaw14.RodExact': WHATEVER THE INPUT: true; the input reads as it did. -/
def rodExactSpec : ChangeSpec := { name := "rodExact", fn := fun _ => fun
  | [d1, d2] => { results := [.lit (.bool true)], args := [d1, d2] }
  | _ => none }
def rodExactRow : OpenClaim := { program := "ytkolhpacpbhceaadoor", sum := "200197a725d7c76215fbaa2a0fa30fd355af0e4b1c11bacf68e69185a3de5b5b", func := "spile/spilelaw14.RodExact", spec := "rodExact", inPlace := ["internal/abi.NoEscape", "internal/bytealg.IndexByteString", "internal/bytealg.IndexString"], unfollowed := true, recurses := true, named := ["internal/strconv.uint64pow10", "math/bits.deBruijn32tab", "math/bits.deBruijn64tab", "internal/bytealg.MaxLen"], apart := false, laid := [("math/bits.deBruijn32tab", laid_math_bits_deBruijn32tab), ("math/bits.deBruijn64tab", laid_math_bits_deBruijn64tab), ("internal/strconv.uint64pow10", laid_internal_strconv_uint64pow10)] }
def RodExactSaid : Prop := rodExactRow.holds Tryd.pinned (OpenSpec.ofChange rodExactSpec)

/-- ITS FALSE NEIGHBOUR: 'it returns false'. Refute it at one input. -/
def rodExactWrong : ChangeSpec := { name := "rodExact", fn := fun _ => fun
  | [d1, d2] => { results := [.lit (.bool false)], args := [d1, d2] }
  | _ => none }
def RodExactWrongFalsely : Prop := rodExactRow.holds Tryd.pinned (OpenSpec.ofChange rodExactWrong)

/-- 'spilelaw14.RodEncloses': WHATEVER THE INPUT: true; the input reads as it did. -/
def rodEnclosesSpec : ChangeSpec := { name := "rodEncloses", fn := fun _ => fun
  | [d1, d2, d3] => { results := [.lit (.bool true)], args := [d1, d2, d3] }
  | _ => none }
def rodEnclosesRow : OpenClaim := { program := "ytkolhpacpbhceaadoor", sum := "200197a725d7c76215fbaa2a0fa30fd355af0e4b1c11bacf68e69185a3de5b5b", func := "spile/spilelaw14.RodEncloses", spec := "rodEncloses", inPlace := ["internal/abi.NoEscape", "internal/bytealg.IndexByteString", "internal/bytealg.IndexString"], unfollowed := true, recurses := true, named := ["internal/strconv.uint64pow10", "math/bits.deBruijn32tab", "math/bits.deBruijn64tab", "internal/bytealg.MaxLen"], apart := false, laid := [("math/bits.deBruijn32tab", laid_math_bits_deBruijn32tab), ("math/bits.deBruijn64tab", laid_math_bits_deBruijn64tab), ("internal/strconv.uint64pow10", laid_internal_strconv_uint64pow10)] }
def RodEnclosesSaid : Prop := rodEnclosesRow.holds Tryd.pinned (OpenSpec.ofChange rodEnclosesSpec)

/-- ITS FALSE NEIGHBOUR: 'it returns false'. Refute it at one input. -/
def rodEnclosesWrong : ChangeSpec := { name := "rodEncloses", fn := fun _ => fun
  | [d1, d2, d3] => { results := [.lit (.bool false)], args := [d1, d2, d3] }
  | _ => none }
def RodEnclosesWrongFalsely : Prop := rodEnclosesRow.holds Tryd.pinned (OpenSpec.ofChange rodEnclosesWrong)

/-- 'spilelaw14.RodBack': WHATEVER THE INPUT: true; the input reads as it did. -/
def rodBackSpec : ChangeSpec := { name := "rodBack", fn := fun _ => fun
  | [d1, d2] => { results := [.lit (.bool true)], args := [d1, d2] }
  | _ => none }
def rodBackRow : OpenClaim := { program := "ytkolhpacpbhceaadoor", sum := "200197a725d7c76215fbaa2a0fa30fd355af0e4b1c11bacf68e69185a3de5b5b", func := "spile/spilelaw14.RodBack", spec := "rodBack", inPlace := ["internal/abi.NoEscape", "internal/bytealg.IndexByteString", "internal/bytealg.IndexString"], unfollowed := true, recurses := true, named := ["internal/strconv.uint64pow10", "math/bits.deBruijn32tab", "math/bits.deBruijn64tab", "internal/bytealg.MaxLen"], apart := false, laid := [("math/bits.deBruijn32tab", laid_math_bits_deBruijn32tab), ("math/bits.deBruijn64tab", laid_math_bits_deBruijn64tab), ("internal/strconv.uint64pow10", laid_internal_strconv_uint64pow10)] }
def RodBackSaid : Prop := rodBackRow.holds Tryd.pinned (OpenSpec.ofChange rodBackSpec)

/-- ITS FALSE NEIGHBOUR: 'it returns false'. Refute it at one input. -/
def rodBackWrong : ChangeSpec := { name := "rodBack", fn := fun _ => fun
  | [d1, d2] => { results := [.lit (.bool false)], args := [d1, d2] }
  | _ => none }
def RodBackWrongFalsely : Prop := rodBackRow.holds Tryd.pinned (OpenSpec.ofChange rodBackWrong)

/-- 'spilelaw14.RodCoarser': WHATEVER THE INPUT: true; the input reads as it did. -/
def rodCoarserSpec : ChangeSpec := { name := "rodCoarser", fn := fun _ => fun
  | [d1, d2, d3] => { results := [.lit (.bool true)], args := [d1, d2, d3] }
  | _ => none }
def rodCoarserRow : OpenClaim := { program := "ytkolhpacpbhceaadoor", sum := "200197a725d7c76215fbaa2a0fa30fd355af0e4b1c11bacf68e69185a3de5b5b", func := "spile/spilelaw14.RodCoarser", spec := "rodCoarser", inPlace := ["internal/abi.NoEscape", "internal/bytealg.IndexByteString", "internal/bytealg.IndexString"], unfollowed := true, recurses := true, named := ["internal/strconv.uint64pow10", "math/bits.deBruijn32tab", "math/bits.deBruijn64tab", "internal/bytealg.MaxLen"], apart := false, laid := [("math/bits.deBruijn32tab", laid_math_bits_deBruijn32tab), ("math/bits.deBruijn64tab", laid_math_bits_deBruijn64tab), ("internal/strconv.uint64pow10", laid_internal_strconv_uint64pow10)] }
def RodCoarserSaid : Prop := rodCoarserRow.holds Tryd.pinned (OpenSpec.ofChange rodCoarserSpec)

/-- ITS FALSE NEIGHBOUR: 'it returns false'. Refute it at one input. -/
def rodCoarserWrong : ChangeSpec := { name := "rodCoarser", fn := fun _ => fun
  | [d1, d2, d3] => { results := [.lit (.bool false)], args := [d1, d2, d3] }
  | _ => none }
def RodCoarserWrongFalsely : Prop := rodCoarserRow.holds Tryd.pinned (OpenSpec.ofChange rodCoarserWrong)

/- THE SECOND FORM. 'bulk': how many values and letters a reading holds, each counted each time it is reached (what is shared counts as often as it is met; a slice's spare places count too). A statement '..UptoSaid' is the law's where the arguments, and the package variables that the reading takes, are together of bulk at most 1048576: NARROWER than '..Said'. Prove '..Said' where nothing that the law and all that it calls make is longer than what came in: it says more and counts as full. Else prove '..UptoSaid'. A law counts once. -/
mutual
def uptoBulk {H : Type} : DataW H → Nat
  | .lit (.string bytes) => bytes.length + 1
  | .lit _ => 1
  | .nil => 1
  | .ptr d => uptoBulk d + 1
  | .slice elems spare => uptoBulkAll elems + uptoBulkAll spare + 1
  | .agg parts => uptoBulkAll parts + 1
  | .iface _ d => uptoBulk d + 1
  | .map entries => uptoBulkEntries entries + 1
  | .held _ => 1
def uptoBulkAll {H : Type} : List (DataW H) → Nat
  | [] => 0
  | d :: r => uptoBulk d + uptoBulkAll r
def uptoBulkEntries {H : Type} : List (Lit × DataW H) → Nat
  | [] => 0
  | x :: r => uptoBulkEntry x + uptoBulkEntries r
def uptoBulkEntry {H : Type} : Lit × DataW H → Nat
  | (.string bytes, d) => bytes.length + uptoBulk d + 1
  | (_, d) => uptoBulk d + 1
 end
def uptoSmall : (H : Type) → List (DataW H) → Bool := fun _ ds => decide (uptoBulkAll ds ≤ 1048576)
def OpenSpec.upto (s : _root_.Go.ChangeSpec) : _root_.Go.OpenSpec := { _root_.Go.OpenSpec.ofChange s with cond := some uptoSmall }

/-- 'spilelaw14.RodMakes', WHERE WHAT IT READS IS OF BULK AT MOST 1048576: true; the input reads as it did. -/
def rodMakesUptoRow : OpenClaim := { program := "ytkolhpacpbhceaadoor", sum := "200197a725d7c76215fbaa2a0fa30fd355af0e4b1c11bacf68e69185a3de5b5b", func := "spile/spilelaw14.RodMakes", spec := "rodMakes", inPlace := ["internal/abi.NoEscape", "internal/bytealg.IndexByteString", "internal/bytealg.IndexString"], unfollowed := true, recurses := true, named := ["internal/strconv.uint64pow10", "math/bits.deBruijn32tab", "math/bits.deBruijn64tab", "internal/bytealg.MaxLen"], apart := false, laid := [("math/bits.deBruijn32tab", laid_math_bits_deBruijn32tab), ("math/bits.deBruijn64tab", laid_math_bits_deBruijn64tab), ("internal/strconv.uint64pow10", laid_internal_strconv_uint64pow10)], narrowed := true }
def RodMakesUptoSaid : Prop := rodMakesUptoRow.holds Tryd.pinned (OpenSpec.upto rodMakesSpec)

/-- 'spilelaw14.RodReads', WHERE WHAT IT READS IS OF BULK AT MOST 1048576: true; the input reads as it did. -/
def rodReadsUptoRow : OpenClaim := { program := "ytkolhpacpbhceaadoor", sum := "200197a725d7c76215fbaa2a0fa30fd355af0e4b1c11bacf68e69185a3de5b5b", func := "spile/spilelaw14.RodReads", spec := "rodReads", inPlace := ["internal/abi.NoEscape", "internal/bytealg.IndexByteString", "internal/bytealg.IndexString"], unfollowed := true, recurses := true, named := ["internal/strconv.uint64pow10", "math/bits.deBruijn32tab", "math/bits.deBruijn64tab", "internal/bytealg.MaxLen"], apart := false, laid := [("math/bits.deBruijn32tab", laid_math_bits_deBruijn32tab), ("math/bits.deBruijn64tab", laid_math_bits_deBruijn64tab), ("internal/strconv.uint64pow10", laid_internal_strconv_uint64pow10)], narrowed := true }
def RodReadsUptoSaid : Prop := rodReadsUptoRow.holds Tryd.pinned (OpenSpec.upto rodReadsSpec)

/-- 'spilelaw14.RodTexts', WHERE WHAT IT READS IS OF BULK AT MOST 1048576: true; the input reads as it did. -/
def rodTextsUptoRow : OpenClaim := { program := "ytkolhpacpbhceaadoor", sum := "200197a725d7c76215fbaa2a0fa30fd355af0e4b1c11bacf68e69185a3de5b5b", func := "spile/spilelaw14.RodTexts", spec := "rodTexts", inPlace := ["internal/abi.NoEscape", "internal/bytealg.IndexByteString", "internal/bytealg.IndexString"], unfollowed := true, recurses := true, named := ["internal/strconv.uint64pow10", "math/bits.deBruijn32tab", "math/bits.deBruijn64tab", "internal/bytealg.MaxLen"], apart := false, laid := [("math/bits.deBruijn32tab", laid_math_bits_deBruijn32tab), ("math/bits.deBruijn64tab", laid_math_bits_deBruijn64tab), ("internal/strconv.uint64pow10", laid_internal_strconv_uint64pow10)], narrowed := true }
def RodTextsUptoSaid : Prop := rodTextsUptoRow.holds Tryd.pinned (OpenSpec.upto rodTextsSpec)

/-- 'spilelaw14.RodExact', WHERE WHAT IT READS IS OF BULK AT MOST 1048576: true; the input reads as it did. -/
def rodExactUptoRow : OpenClaim := { program := "ytkolhpacpbhceaadoor", sum := "200197a725d7c76215fbaa2a0fa30fd355af0e4b1c11bacf68e69185a3de5b5b", func := "spile/spilelaw14.RodExact", spec := "rodExact", inPlace := ["internal/abi.NoEscape", "internal/bytealg.IndexByteString", "internal/bytealg.IndexString"], unfollowed := true, recurses := true, named := ["internal/strconv.uint64pow10", "math/bits.deBruijn32tab", "math/bits.deBruijn64tab", "internal/bytealg.MaxLen"], apart := false, laid := [("math/bits.deBruijn32tab", laid_math_bits_deBruijn32tab), ("math/bits.deBruijn64tab", laid_math_bits_deBruijn64tab), ("internal/strconv.uint64pow10", laid_internal_strconv_uint64pow10)], narrowed := true }
def RodExactUptoSaid : Prop := rodExactUptoRow.holds Tryd.pinned (OpenSpec.upto rodExactSpec)

/-- 'spilelaw14.RodEncloses', WHERE WHAT IT READS IS OF BULK AT MOST 1048576: true; the input reads as it did. -/
def rodEnclosesUptoRow : OpenClaim := { program := "ytkolhpacpbhceaadoor", sum := "200197a725d7c76215fbaa2a0fa30fd355af0e4b1c11bacf68e69185a3de5b5b", func := "spile/spilelaw14.RodEncloses", spec := "rodEncloses", inPlace := ["internal/abi.NoEscape", "internal/bytealg.IndexByteString", "internal/bytealg.IndexString"], unfollowed := true, recurses := true, named := ["internal/strconv.uint64pow10", "math/bits.deBruijn32tab", "math/bits.deBruijn64tab", "internal/bytealg.MaxLen"], apart := false, laid := [("math/bits.deBruijn32tab", laid_math_bits_deBruijn32tab), ("math/bits.deBruijn64tab", laid_math_bits_deBruijn64tab), ("internal/strconv.uint64pow10", laid_internal_strconv_uint64pow10)], narrowed := true }
def RodEnclosesUptoSaid : Prop := rodEnclosesUptoRow.holds Tryd.pinned (OpenSpec.upto rodEnclosesSpec)

/-- 'spilelaw14.RodBack', WHERE WHAT IT READS IS OF BULK AT MOST 1048576: true; the input reads as it did. -/
def rodBackUptoRow : OpenClaim := { program := "ytkolhpacpbhceaadoor", sum := "200197a725d7c76215fbaa2a0fa30fd355af0e4b1c11bacf68e69185a3de5b5b", func := "spile/spilelaw14.RodBack", spec := "rodBack", inPlace := ["internal/abi.NoEscape", "internal/bytealg.IndexByteString", "internal/bytealg.IndexString"], unfollowed := true, recurses := true, named := ["internal/strconv.uint64pow10", "math/bits.deBruijn32tab", "math/bits.deBruijn64tab", "internal/bytealg.MaxLen"], apart := false, laid := [("math/bits.deBruijn32tab", laid_math_bits_deBruijn32tab), ("math/bits.deBruijn64tab", laid_math_bits_deBruijn64tab), ("internal/strconv.uint64pow10", laid_internal_strconv_uint64pow10)], narrowed := true }
def RodBackUptoSaid : Prop := rodBackUptoRow.holds Tryd.pinned (OpenSpec.upto rodBackSpec)

/-- 'spilelaw14.RodCoarser', WHERE WHAT IT READS IS OF BULK AT MOST 1048576: true; the input reads as it did. -/
def rodCoarserUptoRow : OpenClaim := { program := "ytkolhpacpbhceaadoor", sum := "200197a725d7c76215fbaa2a0fa30fd355af0e4b1c11bacf68e69185a3de5b5b", func := "spile/spilelaw14.RodCoarser", spec := "rodCoarser", inPlace := ["internal/abi.NoEscape", "internal/bytealg.IndexByteString", "internal/bytealg.IndexString"], unfollowed := true, recurses := true, named := ["internal/strconv.uint64pow10", "math/bits.deBruijn32tab", "math/bits.deBruijn64tab", "internal/bytealg.MaxLen"], apart := false, laid := [("math/bits.deBruijn32tab", laid_math_bits_deBruijn32tab), ("math/bits.deBruijn64tab", laid_math_bits_deBruijn64tab), ("internal/strconv.uint64pow10", laid_internal_strconv_uint64pow10)], narrowed := true }
def RodCoarserUptoSaid : Prop := rodCoarserUptoRow.holds Tryd.pinned (OpenSpec.upto rodCoarserSpec)

end Rows
end Go.Proofs.YtkolhpacpbhceaaDoor
