/-
A part of what these laws rest on: contracts of the functions that they reach, and plain lemmas.
-/
import Derived.Test.YtmdfnambaedllaaDoorGridBaseF
set_option linter.unusedVariables false
set_option linter.unusedSimpArgs false
namespace Go.Proofs.YtmdfnambaedllaaDoorW.PrintWords
open Go.RowKit
def bt (s : ByteArray) (i : Int) : Int := if h : i.toNat < s.size then ((s[i.toNat]'h).toNat : Int) else 0
end Go.Proofs.YtmdfnambaedllaaDoorW.PrintWords
