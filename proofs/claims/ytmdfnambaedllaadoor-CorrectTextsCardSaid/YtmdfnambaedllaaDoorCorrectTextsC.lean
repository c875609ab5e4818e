/-
A part of what these laws rest on: contracts of the functions that they reach, and plain lemmas.
-/
import Derived.Shelf.Strconv.Atoi
import Derived.Shelf.Strconv.Itoa0
import Derived.Shelf.Strconv.Itoa1
import Derived.Shelf.LaysM
import Derived.Shelf.Strconv.Itoa2
import Derived.Shelf.Strconv.Itoa3
import Derived.Shelf.Strconv.AtoiErrFast
import Derived.Shelf.Strconv.ParseIntEmpty
import Derived.Shelf.Strconv.AtoiFail
import Derived.Shelf.Strconv.Clone
import Derived.Shelf.Strconv.SyntaxError
import Derived.Shelf.LaysC
import Derived.Shelf.Strconv.ToError
import Derived.Shelf.Strconv.Lower
import Derived.Shelf.Strconv.ParseUint10
import Derived.Shelf.Strconv.ParseUint10Empty
import Derived.Shelf.Strconv.ParseUint10Any
import Derived.Shelf.Strconv.ParseInt10
import Derived.Shelf.Strconv.AtoiLong
import Derived.Shelf.Strconv.AtoiInnerAll
import Derived.Shelf.Strconv.RangeError
import Derived.Shelf.Strconv.ToErrorRange
import Derived.Shelf.Strconv.AtoiAll
import Derived.Shelf.Strconv.ErrVarAll
import Derived.Shelf.Strings.Search1
import Derived.Shelf.Strings.Search2
import Derived.Shelf.Strings.Search3
import Derived.Shelf.Strings.Cut
import Derived.Shelf.Strings.Count
import Derived.Shelf.Strings.Shaped
import Derived.Shelf.Strings.Split
import Derived.Shelf.Strings.SplitShaped
import Derived.Shelf.Unicode.DecodeSlow
import Derived.Test.YtmdfnambaedllaaDoorCorrectTextsB
set_option linter.unusedVariables false
set_option linter.unusedSimpArgs false
namespace Go.Proofs.YtmdfnambaedllaaDoor.Pr
open Go.RowKit Go.Proofs.YtmdfnambaedllaaDoorW.PrintWords Go.Proofs.YtmdfnambaedllaaDoorW.PrintLast Go.Proofs.YtmdfnambaedllaaDoorW.PrintMore Go.Proofs.YtmdfnambaedllaaDoor.X
attribute [local go_sem] kJ kH zAS zAR uF uE kI kG   -- for this text's walks alone
set_option linter.unusedVariables false
set_option linter.unusedSimpArgs false
def wT.f (k : Nat) (l0_0 : List Int) (l0_1 : List Int) (l0_2 : List (List Int)) (a1 : Int) (a2 : Int) : Option (Int × Bool) := (qU.f k l0_0 a1).bind fun bt133 => ((qU.f k l0_1 a2).bind fun bt135 => (if bt133.2 = true then (if bt135.2 = true then (if 0 ≤ bt133.1 then (if bt133.1 < (l0_2.length : Int) then (if 0 ≤ bt135.1 then (if bt135.1 < ((zW l0_2 bt133.1).length : Int) then (if 0 ≤ (wrap64 (bt135.1 + 1)) then (if (wrap64 (bt135.1 + 1)) < ((zW l0_2 bt133.1).length : Int) then (if 0 ≤ (wrap64 (bt133.1 + 1)) then (if (wrap64 (bt133.1 + 1)) < (l0_2.length : Int) then (if bt135.1 < ((zW l0_2 (wrap64 (bt133.1 + 1))).length : Int) then (if (wrap64 (bt135.1 + 1)) < ((zW l0_2 (wrap64 (bt133.1 + 1))).length : Int) then (if bt135.1 < (l0_1.length : Int) then (if (wrap64 (bt135.1 + 1)) < (l0_1.length : Int) then (if (wrap64 (bt133.1 + 1)) < (l0_0.length : Int) then (if bt133.1 < (l0_0.length : Int) then (if (wrap64 (2 * (wrap64 ((wrap64 ((rd l0_0 (wrap64 (bt133.1 + 1))) - (rd l0_0 bt133.1))) * (wrap64 ((rd l0_1 (wrap64 (bt135.1 + 1))) - (rd l0_1 bt135.1))))))) = 0 then (none) else (some (wrap64 (Int.tdiv (wrap64 ((wrap64 (2 * (wrap64 ((wrap64 ((wrap64 ((rd l0_0 (wrap64 (bt133.1 + 1))) - a1)) * (wrap64 ((wrap64 ((wrap64 ((rd l0_1 (wrap64 (bt135.1 + 1))) - a2)) * (rd (zW l0_2 bt133.1) bt135.1))) + (wrap64 ((wrap64 (a2 - (rd l0_1 bt135.1))) * (rd (zW l0_2 bt133.1) (wrap64 (bt135.1 + 1))))))))) + (wrap64 ((wrap64 (a1 - (rd l0_0 bt133.1))) * (wrap64 ((wrap64 ((wrap64 ((rd l0_1 (wrap64 (bt135.1 + 1))) - a2)) * (rd (zW l0_2 (wrap64 (bt133.1 + 1))) bt135.1))) + (wrap64 ((wrap64 (a2 - (rd l0_1 bt135.1))) * (rd (zW l0_2 (wrap64 (bt133.1 + 1))) (wrap64 (bt135.1 + 1))))))))))))) + (wrap64 ((wrap64 ((rd l0_0 (wrap64 (bt133.1 + 1))) - (rd l0_0 bt133.1))) * (wrap64 ((rd l0_1 (wrap64 (bt135.1 + 1))) - (rd l0_1 bt135.1))))))) (wrap64 (2 * (wrap64 ((wrap64 ((rd l0_0 (wrap64 (bt133.1 + 1))) - (rd l0_0 bt133.1))) * (wrap64 ((rd l0_1 (wrap64 (bt135.1 + 1))) - (rd l0_1 bt135.1)))))))), true))) else (none)) else (none)) else (none)) else (none)) else (none)) else (none)) else (none)) else (none)) else (none)) else (none)) else (none)) else (none)) else (none)) else (none)) else (some (0, false))) else (some (0, false))))
def wT.T5 : Bool × List (List Nat × List Nat) := (true, [([], []), ([0], [0]), ([], []), ([1, 2], [1, 2]), ([3], [3]), ([], []), ([4, 5], [4, 5]), ([6], [6]), ([], []), ([8], [8]), ([], []), ([9, 10], [9, 10]), ([11], [11]), ([], []), ([13], [13]), ([12, 14], [12, 14]), ([15], [15]), ([7, 16], [7, 16]), ([], []), ([18], [18]), ([], []), ([20], [20]), ([19, 21], [19, 21]), ([22], [22]), ([], []), ([23, 24], [23, 24]), ([25], [25]), ([], []), ([27], [27]), ([], []), ([29], [29]), ([28, 30], [28, 30]), ([31], [31]), ([], []), ([33], [33]), ([32, 34], [32, 34]), ([35], [35]), ([26, 36], [26, 36]), ([17, 37], [17, 37]), ([], []), ([39, 38, 0, 1, 2, 3, 4, 5, 6, 7, 8, 9, 10, 11, 12, 13, 14, 15, 16, 17, 18, 19, 20, 21, 22, 23, 24, 25, 26, 27, 28, 29, 30, 31, 32, 33, 34, 35, 36, 37, 38, 39], [38, 39])])
def wT.B5 : List Nat := [0, 1, 0, 7, 15, 0, 63, 127, 0, 256, 0, 1792, 3840, 0, 8192, 32512, 65280, 131071, 0, 262144, 0, 1048576, 3932160, 8126464, 0, 33292288, 66846720, 0, 134217728, 0, 536870912, 2013265920, 4160749568, 0, 8589934592, 34225520640, 68585259008, 137438691328, 274877906943, 0, 1099511627775]
theorem wT.tab5 : rtab .any (opsOf Tryd.f26 5) = wT.T5 := by kernel_rfl
theorem wT.bits5 : zCI wT.T5.2 wT.B5 = true := by kernel_rfl
def wT.T6 : Bool × List (List Nat × List Nat) := (true, [([], []), ([], []), ([1], [1]), ([], []), ([2, 3], [2, 3]), ([4], [4]), ([0, 5], [0, 5]), ([], []), ([7], [7]), ([], []), ([9], [9]), ([8, 10], [8, 10]), ([11], [11]), ([], []), ([12, 13], [12, 13]), ([6, 0, 1, 2, 3, 4, 5, 6], [6]), ([14, 15, 0, 1, 2, 3, 4, 5, 6, 7, 8, 9, 10, 11, 12, 13, 14, 15], [14])])
def wT.B6 : List Nat := [0, 0, 2, 0, 14, 30, 63, 0, 128, 0, 512, 1920, 3968, 0, 16256, 127, 65535]
theorem wT.tab6 : rtab .any (opsOf Tryd.f26 6) = wT.T6 := by kernel_rfl
theorem wT.bits6 : zCI wT.T6.2 wT.B6 = true := by kernel_rfl
def wT.T9 : Bool × List (List Nat × List Nat) := (true, [([], []), ([0], [0]), ([], []), ([2], [2]), ([1, 3], [1, 3]), ([4], [4]), ([], []), ([5, 6], [5, 6]), ([], []), ([7, 8], [7, 8]), ([], []), ([], []), ([11], [11]), ([], []), ([12, 13], [12, 13]), ([14], [14]), ([10, 15], [10, 15]), ([], []), ([16, 17], [16, 17]), ([9, 18], [9, 18]), ([19, 0, 1, 2, 3, 4, 5, 6, 7, 8, 9, 10, 11, 12, 13, 14, 15, 16, 17, 18, 19], [19])])
def wT.B9 : List Nat := [0, 1, 0, 4, 15, 31, 0, 127, 0, 511, 0, 0, 2048, 0, 14336, 30720, 64512, 0, 261120, 524287, 1048575]
theorem wT.tab9 : rtab .any (opsOf Tryd.f26 9) = wT.T9 := by kernel_rfl
theorem wT.bits9 : zCI wT.T9.2 wT.B9 = true := by kernel_rfl
def wT.T10 : Bool × List (List Nat × List Nat) := (true, [([], []), ([0], [0]), ([], []), ([2], [2]), ([1, 3], [1, 3]), ([4], [4]), ([], []), ([6], [6]), ([], []), ([7, 8], [7, 8]), ([9], [9]), ([5, 10], [5, 10]), ([], []), ([12], [12]), ([], []), ([14], [14]), ([13, 15], [13, 15]), ([16], [16]), ([], []), ([18], [18]), ([], []), ([19, 20], [19, 20]), ([21], [21]), ([17, 22], [17, 22]), ([11, 23], [11, 23]), ([24, 0, 1, 2, 3, 4, 5, 6, 7, 8, 9, 10, 11, 12, 13, 14, 15, 16, 17, 18, 19, 20, 21, 22, 23, 24], [24])])
def wT.B10 : List Nat := [0, 1, 0, 4, 15, 31, 0, 64, 0, 448, 960, 2047, 0, 4096, 0, 16384, 61440, 126976, 0, 262144, 0, 1835008, 3932160, 8384512, 16777215, 33554431]
theorem wT.tab10 : rtab .any (opsOf Tryd.f26 10) = wT.T10 := by kernel_rfl
theorem wT.bits10 : zCI wT.T10.2 wT.B10 = true := by kernel_rfl
set_option maxHeartbeats 8000000 in
set_option maxRecDepth 100000 in
theorem wT.calls (k : Nat) (A0_0 : Option Addr) (c0_0 : Nat) (l0_0 : List Int) (A0_1 : Option Addr) (c0_1 : Nat) (l0_1 : List Int) (A0_2 : Option Addr) (c0_2 : Nat) (l0_2 : List (List Int)) (a1 : Int) (a2 : Int) (r1 : Int) (r2 : Bool) (w : World) (hr0_0 : Kd.C (Kd.int .i64) w A0_0 l0_0.length l0_0) (zAW : l0_0.length ≤ c0_0) (hr0_1 : Kd.C (Kd.int .i64) w A0_1 l0_1.length l0_1) (zAV : l0_1.length ≤ c0_1) (hr0_2 : Kd.C (Kd.slice 3 (Kd.int .i64)) w A0_2 l0_2.length l0_2) (zAU : l0_2.length ≤ c0_2) (h : wT.f k l0_0 l0_1 l0_2 a1 a2 = some (r1, r2)) :
  Calls Tryd.prog 26 #[.agg #[.slice A0_0 l0_0.length c0_0, .slice A0_1 l0_1.length c0_1, .slice A0_2 l0_2.length c0_2], .int .i64 a1, .int .i64 a2] w fun e w' => e = .returned (.tuple #[.int .i64 r1, .bool r2]) ∧ Below w.heap.size w w' := by
 have hu25 := Tryd.underlying25; have hu74 := Tryd.underlying74; have hu75 := Tryd.underlying75; have HR0_0 := zA.mk hr0_0; have HC0_0 := zA.mk zAW; clear hr0_0 zAW; have HR0_1 := zA.mk hr0_1; have HC0_1 := zA.mk zAV; clear hr0_1 zAV; have HR0_2 := zA.mk hr0_2; have HC0_2 := zA.mk zAU; clear hr0_2 zAU; have HB := zA.mk (Below.refl w.heap.size w); have H : ((qU.f k l0_0 a1).bind fun bt133 => ((qU.f k l0_1 a2).bind fun bt135 => (if bt133.2 = true then (if bt135.2 = true then (if 0 ≤ bt133.1 then (if bt133.1 < (l0_2.length : Int) then (if 0 ≤ bt135.1 then (if bt135.1 < ((zW l0_2 bt133.1).length : Int) then (if 0 ≤ (wrap64 (bt135.1 + 1)) then (if (wrap64 (bt135.1 + 1)) < ((zW l0_2 bt133.1).length : Int) then (if 0 ≤ (wrap64 (bt133.1 + 1)) then (if (wrap64 (bt133.1 + 1)) < (l0_2.length : Int) then (if bt135.1 < ((zW l0_2 (wrap64 (bt133.1 + 1))).length : Int) then (if (wrap64 (bt135.1 + 1)) < ((zW l0_2 (wrap64 (bt133.1 + 1))).length : Int) then (if bt135.1 < (l0_1.length : Int) then (if (wrap64 (bt135.1 + 1)) < (l0_1.length : Int) then (if (wrap64 (bt133.1 + 1)) < (l0_0.length : Int) then (if bt133.1 < (l0_0.length : Int) then (if (wrap64 (2 * (wrap64 ((wrap64 ((rd l0_0 (wrap64 (bt133.1 + 1))) - (rd l0_0 bt133.1))) * (wrap64 ((rd l0_1 (wrap64 (bt135.1 + 1))) - (rd l0_1 bt135.1))))))) = 0 then (none) else (some (wrap64 (Int.tdiv (wrap64 ((wrap64 (2 * (wrap64 ((wrap64 ((wrap64 ((rd l0_0 (wrap64 (bt133.1 + 1))) - a1)) * (wrap64 ((wrap64 ((wrap64 ((rd l0_1 (wrap64 (bt135.1 + 1))) - a2)) * (rd (zW l0_2 bt133.1) bt135.1))) + (wrap64 ((wrap64 (a2 - (rd l0_1 bt135.1))) * (rd (zW l0_2 bt133.1) (wrap64 (bt135.1 + 1))))))))) + (wrap64 ((wrap64 (a1 - (rd l0_0 bt133.1))) * (wrap64 ((wrap64 ((wrap64 ((rd l0_1 (wrap64 (bt135.1 + 1))) - a2)) * (rd (zW l0_2 (wrap64 (bt133.1 + 1))) bt135.1))) + (wrap64 ((wrap64 (a2 - (rd l0_1 bt135.1))) * (rd (zW l0_2 (wrap64 (bt133.1 + 1))) (wrap64 (bt135.1 + 1))))))))))))) + (wrap64 ((wrap64 ((rd l0_0 (wrap64 (bt133.1 + 1))) - (rd l0_0 bt133.1))) * (wrap64 ((rd l0_1 (wrap64 (bt135.1 + 1))) - (rd l0_1 bt135.1))))))) (wrap64 (2 * (wrap64 ((wrap64 ((rd l0_0 (wrap64 (bt133.1 + 1))) - (rd l0_0 bt133.1))) * (wrap64 ((rd l0_1 (wrap64 (bt135.1 + 1))) - (rd l0_1 bt135.1)))))))), true))) else (none)) else (none)) else (none)) else (none)) else (none)) else (none)) else (none)) else (none)) else (none)) else (none)) else (none)) else (none)) else (none)) else (none)) else (some (0, false))) else (some (0, false))))) = some (r1, r2) := h; clear h; replace H := Option.bind_eq_some_iff.mp H; obtain ⟨⟨t133, t134⟩, A40, H⟩ := H; replace H : ((qU.f k l0_1 a2).bind fun bt135 => (if t134 = true then (if bt135.2 = true then (if 0 ≤ t133 then (if t133 < (l0_2.length : Int) then (if 0 ≤ bt135.1 then (if bt135.1 < ((zW l0_2 t133).length : Int) then (if 0 ≤ (wrap64 (bt135.1 + 1)) then (if (wrap64 (bt135.1 + 1)) < ((zW l0_2 t133).length : Int) then (if 0 ≤ (wrap64 (t133 + 1)) then (if (wrap64 (t133 + 1)) < (l0_2.length : Int) then (if bt135.1 < ((zW l0_2 (wrap64 (t133 + 1))).length : Int) then (if (wrap64 (bt135.1 + 1)) < ((zW l0_2 (wrap64 (t133 + 1))).length : Int) then (if bt135.1 < (l0_1.length : Int) then (if (wrap64 (bt135.1 + 1)) < (l0_1.length : Int) then (if (wrap64 (t133 + 1)) < (l0_0.length : Int) then (if t133 < (l0_0.length : Int) then (if (wrap64 (2 * (wrap64 ((wrap64 ((rd l0_0 (wrap64 (t133 + 1))) - (rd l0_0 t133))) * (wrap64 ((rd l0_1 (wrap64 (bt135.1 + 1))) - (rd l0_1 bt135.1))))))) = 0 then (none) else (some (wrap64 (Int.tdiv (wrap64 ((wrap64 (2 * (wrap64 ((wrap64 ((wrap64 ((rd l0_0 (wrap64 (t133 + 1))) - a1)) * (wrap64 ((wrap64 ((wrap64 ((rd l0_1 (wrap64 (bt135.1 + 1))) - a2)) * (rd (zW l0_2 t133) bt135.1))) + (wrap64 ((wrap64 (a2 - (rd l0_1 bt135.1))) * (rd (zW l0_2 t133) (wrap64 (bt135.1 + 1))))))))) + (wrap64 ((wrap64 (a1 - (rd l0_0 t133))) * (wrap64 ((wrap64 ((wrap64 ((rd l0_1 (wrap64 (bt135.1 + 1))) - a2)) * (rd (zW l0_2 (wrap64 (t133 + 1))) bt135.1))) + (wrap64 ((wrap64 (a2 - (rd l0_1 bt135.1))) * (rd (zW l0_2 (wrap64 (t133 + 1))) (wrap64 (bt135.1 + 1))))))))))))) + (wrap64 ((wrap64 ((rd l0_0 (wrap64 (t133 + 1))) - (rd l0_0 t133))) * (wrap64 ((rd l0_1 (wrap64 (bt135.1 + 1))) - (rd l0_1 bt135.1))))))) (wrap64 (2 * (wrap64 ((wrap64 ((rd l0_0 (wrap64 (t133 + 1))) - (rd l0_0 t133))) * (wrap64 ((rd l0_1 (wrap64 (bt135.1 + 1))) - (rd l0_1 bt135.1)))))))), true))) else (none)) else (none)) else (none)) else (none)) else (none)) else (none)) else (none)) else (none)) else (none)) else (none)) else (none)) else (none)) else (none)) else (none)) else (some (0, false))) else (some (0, false)))) = some (r1, r2) := H; have A4 := zA.mk A40; clear A40; replace H := Option.bind_eq_some_iff.mp H; obtain ⟨⟨t135, t136⟩, A50, H⟩ := H; replace H : (if t134 = true then (if t136 = true then (if 0 ≤ t133 then (if t133 < (l0_2.length : Int) then (if 0 ≤ t135 then (if t135 < ((zW l0_2 t133).length : Int) then (if 0 ≤ (wrap64 (t135 + 1)) then (if (wrap64 (t135 + 1)) < ((zW l0_2 t133).length : Int) then (if 0 ≤ (wrap64 (t133 + 1)) then (if (wrap64 (t133 + 1)) < (l0_2.length : Int) then (if t135 < ((zW l0_2 (wrap64 (t133 + 1))).length : Int) then (if (wrap64 (t135 + 1)) < ((zW l0_2 (wrap64 (t133 + 1))).length : Int) then (if t135 < (l0_1.length : Int) then (if (wrap64 (t135 + 1)) < (l0_1.length : Int) then (if (wrap64 (t133 + 1)) < (l0_0.length : Int) then (if t133 < (l0_0.length : Int) then (if (wrap64 (2 * (wrap64 ((wrap64 ((rd l0_0 (wrap64 (t133 + 1))) - (rd l0_0 t133))) * (wrap64 ((rd l0_1 (wrap64 (t135 + 1))) - (rd l0_1 t135))))))) = 0 then (none) else (some (wrap64 (Int.tdiv (wrap64 ((wrap64 (2 * (wrap64 ((wrap64 ((wrap64 ((rd l0_0 (wrap64 (t133 + 1))) - a1)) * (wrap64 ((wrap64 ((wrap64 ((rd l0_1 (wrap64 (t135 + 1))) - a2)) * (rd (zW l0_2 t133) t135))) + (wrap64 ((wrap64 (a2 - (rd l0_1 t135))) * (rd (zW l0_2 t133) (wrap64 (t135 + 1))))))))) + (wrap64 ((wrap64 (a1 - (rd l0_0 t133))) * (wrap64 ((wrap64 ((wrap64 ((rd l0_1 (wrap64 (t135 + 1))) - a2)) * (rd (zW l0_2 (wrap64 (t133 + 1))) t135))) + (wrap64 ((wrap64 (a2 - (rd l0_1 t135))) * (rd (zW l0_2 (wrap64 (t133 + 1))) (wrap64 (t135 + 1))))))))))))) + (wrap64 ((wrap64 ((rd l0_0 (wrap64 (t133 + 1))) - (rd l0_0 t133))) * (wrap64 ((rd l0_1 (wrap64 (t135 + 1))) - (rd l0_1 t135))))))) (wrap64 (2 * (wrap64 ((wrap64 ((rd l0_0 (wrap64 (t133 + 1))) - (rd l0_0 t133))) * (wrap64 ((rd l0_1 (wrap64 (t135 + 1))) - (rd l0_1 t135)))))))), true))) else (none)) else (none)) else (none)) else (none)) else (none)) else (none)) else (none)) else (none)) else (none)) else (none)) else (none)) else (none)) else (none)) else (none)) else (some (0, false))) else (some (0, false))) = some (r1, r2) := H; have A5 := zA.mk A50; clear A50; by_cases c6 : t134 = true
 ·
  subst c6; replace H : (if t136 = true then (if 0 ≤ t133 then (if t133 < (l0_2.length : Int) then (if 0 ≤ t135 then (if t135 < ((zW l0_2 t133).length : Int) then (if 0 ≤ (wrap64 (t135 + 1)) then (if (wrap64 (t135 + 1)) < ((zW l0_2 t133).length : Int) then (if 0 ≤ (wrap64 (t133 + 1)) then (if (wrap64 (t133 + 1)) < (l0_2.length : Int) then (if t135 < ((zW l0_2 (wrap64 (t133 + 1))).length : Int) then (if (wrap64 (t135 + 1)) < ((zW l0_2 (wrap64 (t133 + 1))).length : Int) then (if t135 < (l0_1.length : Int) then (if (wrap64 (t135 + 1)) < (l0_1.length : Int) then (if (wrap64 (t133 + 1)) < (l0_0.length : Int) then (if t133 < (l0_0.length : Int) then (if (wrap64 (2 * (wrap64 ((wrap64 ((rd l0_0 (wrap64 (t133 + 1))) - (rd l0_0 t133))) * (wrap64 ((rd l0_1 (wrap64 (t135 + 1))) - (rd l0_1 t135))))))) = 0 then (none) else (some (wrap64 (Int.tdiv (wrap64 ((wrap64 (2 * (wrap64 ((wrap64 ((wrap64 ((rd l0_0 (wrap64 (t133 + 1))) - a1)) * (wrap64 ((wrap64 ((wrap64 ((rd l0_1 (wrap64 (t135 + 1))) - a2)) * (rd (zW l0_2 t133) t135))) + (wrap64 ((wrap64 (a2 - (rd l0_1 t135))) * (rd (zW l0_2 t133) (wrap64 (t135 + 1))))))))) + (wrap64 ((wrap64 (a1 - (rd l0_0 t133))) * (wrap64 ((wrap64 ((wrap64 ((rd l0_1 (wrap64 (t135 + 1))) - a2)) * (rd (zW l0_2 (wrap64 (t133 + 1))) t135))) + (wrap64 ((wrap64 (a2 - (rd l0_1 t135))) * (rd (zW l0_2 (wrap64 (t133 + 1))) (wrap64 (t135 + 1))))))))))))) + (wrap64 ((wrap64 ((rd l0_0 (wrap64 (t133 + 1))) - (rd l0_0 t133))) * (wrap64 ((rd l0_1 (wrap64 (t135 + 1))) - (rd l0_1 t135))))))) (wrap64 (2 * (wrap64 ((wrap64 ((rd l0_0 (wrap64 (t133 + 1))) - (rd l0_0 t133))) * (wrap64 ((rd l0_1 (wrap64 (t135 + 1))) - (rd l0_1 t135)))))))), true))) else (none)) else (none)) else (none)) else (none)) else (none)) else (none)) else (none)) else (none)) else (none)) else (none)) else (none)) else (none)) else (none)) else (none)) else (some (0, false))) = some (r1, r2) := by rw [if_pos rfl] at H; exact H
  by_cases c7 : t136 = true
  ·
   subst c7; replace H : (if 0 ≤ t133 then (if t133 < (l0_2.length : Int) then (if 0 ≤ t135 then (if t135 < ((zW l0_2 t133).length : Int) then (if 0 ≤ (wrap64 (t135 + 1)) then (if (wrap64 (t135 + 1)) < ((zW l0_2 t133).length : Int) then (if 0 ≤ (wrap64 (t133 + 1)) then (if (wrap64 (t133 + 1)) < (l0_2.length : Int) then (if t135 < ((zW l0_2 (wrap64 (t133 + 1))).length : Int) then (if (wrap64 (t135 + 1)) < ((zW l0_2 (wrap64 (t133 + 1))).length : Int) then (if t135 < (l0_1.length : Int) then (if (wrap64 (t135 + 1)) < (l0_1.length : Int) then (if (wrap64 (t133 + 1)) < (l0_0.length : Int) then (if t133 < (l0_0.length : Int) then (if (wrap64 (2 * (wrap64 ((wrap64 ((rd l0_0 (wrap64 (t133 + 1))) - (rd l0_0 t133))) * (wrap64 ((rd l0_1 (wrap64 (t135 + 1))) - (rd l0_1 t135))))))) = 0 then (none) else (some (wrap64 (Int.tdiv (wrap64 ((wrap64 (2 * (wrap64 ((wrap64 ((wrap64 ((rd l0_0 (wrap64 (t133 + 1))) - a1)) * (wrap64 ((wrap64 ((wrap64 ((rd l0_1 (wrap64 (t135 + 1))) - a2)) * (rd (zW l0_2 t133) t135))) + (wrap64 ((wrap64 (a2 - (rd l0_1 t135))) * (rd (zW l0_2 t133) (wrap64 (t135 + 1))))))))) + (wrap64 ((wrap64 (a1 - (rd l0_0 t133))) * (wrap64 ((wrap64 ((wrap64 ((rd l0_1 (wrap64 (t135 + 1))) - a2)) * (rd (zW l0_2 (wrap64 (t133 + 1))) t135))) + (wrap64 ((wrap64 (a2 - (rd l0_1 t135))) * (rd (zW l0_2 (wrap64 (t133 + 1))) (wrap64 (t135 + 1))))))))))))) + (wrap64 ((wrap64 ((rd l0_0 (wrap64 (t133 + 1))) - (rd l0_0 t133))) * (wrap64 ((rd l0_1 (wrap64 (t135 + 1))) - (rd l0_1 t135))))))) (wrap64 (2 * (wrap64 ((wrap64 ((rd l0_0 (wrap64 (t133 + 1))) - (rd l0_0 t133))) * (wrap64 ((rd l0_1 (wrap64 (t135 + 1))) - (rd l0_1 t135)))))))), true))) else (none)) else (none)) else (none)) else (none)) else (none)) else (none)) else (none)) else (none)) else (none)) else (none)) else (none)) else (none)) else (none)) else (none)) = some (r1, r2) := by rw [if_pos rfl] at H; exact H
   by_cases c8 : 0 ≤ t133
   ·
    rw [if_pos c8] at H; have c8b0 : decide (0 ≤ t133) = true := decide_eq_true c8; clear c8; by_cases c9 : t133 < (l0_2.length : Int)
    ·
     rw [if_pos c9] at H; have c9b0 : decide (t133 < (l0_2.length : Int)) = true := decide_eq_true c9; clear c9; by_cases c10 : 0 ≤ t135
     ·
      rw [if_pos c10] at H; have c10b0 : decide (0 ≤ t135) = true := decide_eq_true c10; clear c10; by_cases c11 : t135 < ((zW l0_2 t133).length : Int)
      ·
       rw [if_pos c11] at H; have c11b0 : decide (t135 < ((zW l0_2 t133).length : Int)) = true := decide_eq_true c11; clear c11; obtain ⟨ji12, hji12⟩ : ∃ j_ : Int, (wrap64 (t135 + 1)) = j_ := ⟨_, rfl⟩; replace H : (if 0 ≤ (ji12) then (if (ji12) < ((zW l0_2 t133).length : Int) then (if 0 ≤ (wrap64 (t133 + 1)) then (if (wrap64 (t133 + 1)) < (l0_2.length : Int) then (if t135 < ((zW l0_2 (wrap64 (t133 + 1))).length : Int) then (if (ji12) < ((zW l0_2 (wrap64 (t133 + 1))).length : Int) then (if t135 < (l0_1.length : Int) then (if (ji12) < (l0_1.length : Int) then (if (wrap64 (t133 + 1)) < (l0_0.length : Int) then (if t133 < (l0_0.length : Int) then (if (wrap64 (2 * (wrap64 ((wrap64 ((rd l0_0 (wrap64 (t133 + 1))) - (rd l0_0 t133))) * (wrap64 ((rd l0_1 (ji12)) - (rd l0_1 t135))))))) = 0 then (none) else (some (wrap64 (Int.tdiv (wrap64 ((wrap64 (2 * (wrap64 ((wrap64 ((wrap64 ((rd l0_0 (wrap64 (t133 + 1))) - a1)) * (wrap64 ((wrap64 ((wrap64 ((rd l0_1 (ji12)) - a2)) * (rd (zW l0_2 t133) t135))) + (wrap64 ((wrap64 (a2 - (rd l0_1 t135))) * (rd (zW l0_2 t133) (ji12)))))))) + (wrap64 ((wrap64 (a1 - (rd l0_0 t133))) * (wrap64 ((wrap64 ((wrap64 ((rd l0_1 (ji12)) - a2)) * (rd (zW l0_2 (wrap64 (t133 + 1))) t135))) + (wrap64 ((wrap64 (a2 - (rd l0_1 t135))) * (rd (zW l0_2 (wrap64 (t133 + 1))) (ji12)))))))))))) + (wrap64 ((wrap64 ((rd l0_0 (wrap64 (t133 + 1))) - (rd l0_0 t133))) * (wrap64 ((rd l0_1 (ji12)) - (rd l0_1 t135))))))) (wrap64 (2 * (wrap64 ((wrap64 ((rd l0_0 (wrap64 (t133 + 1))) - (rd l0_0 t133))) * (wrap64 ((rd l0_1 (ji12)) - (rd l0_1 t135)))))))), true))) else (none)) else (none)) else (none)) else (none)) else (none)) else (none)) else (none)) else (none)) else (none)) else (none)) = some (r1, r2) := by first | (rw [hji12] at H; exact H) | (simp only [hji12] at H ⊢; exact H)
       (try rw [hji12] at A4)
       (try rw [hji12] at A5)
       have hji12w : (IntKind.i64.wrap (t135 + 1)) = ji12 := (wX _).trans hji12; by_cases c13 : 0 ≤ (ji12)
       ·
        rw [if_pos c13] at H; have c13b0 : decide (0 ≤ (ji12)) = true := decide_eq_true c13; clear c13; by_cases c14 : (ji12) < ((zW l0_2 t133).length : Int)
        ·
         rw [if_pos c14] at H; have c14b0 : decide ((ji12) < ((zW l0_2 t133).length : Int)) = true := decide_eq_true c14; clear c14; obtain ⟨ji15, hji15⟩ : ∃ j_ : Int, (wrap64 (t133 + 1)) = j_ := ⟨_, rfl⟩; replace H : (if 0 ≤ (ji15) then (if (ji15) < (l0_2.length : Int) then (if t135 < ((zW l0_2 (ji15)).length : Int) then (if (ji12) < ((zW l0_2 (ji15)).length : Int) then (if t135 < (l0_1.length : Int) then (if (ji12) < (l0_1.length : Int) then (if (ji15) < (l0_0.length : Int) then (if t133 < (l0_0.length : Int) then (if (wrap64 (2 * (wrap64 ((wrap64 ((rd l0_0 (ji15)) - (rd l0_0 t133))) * (wrap64 ((rd l0_1 (ji12)) - (rd l0_1 t135))))))) = 0 then (none) else (some (wrap64 (Int.tdiv (wrap64 ((wrap64 (2 * (wrap64 ((wrap64 ((wrap64 ((rd l0_0 (ji15)) - a1)) * (wrap64 ((wrap64 ((wrap64 ((rd l0_1 (ji12)) - a2)) * (rd (zW l0_2 t133) t135))) + (wrap64 ((wrap64 (a2 - (rd l0_1 t135))) * (rd (zW l0_2 t133) (ji12)))))))) + (wrap64 ((wrap64 (a1 - (rd l0_0 t133))) * (wrap64 ((wrap64 ((wrap64 ((rd l0_1 (ji12)) - a2)) * (rd (zW l0_2 (ji15)) t135))) + (wrap64 ((wrap64 (a2 - (rd l0_1 t135))) * (rd (zW l0_2 (ji15)) (ji12)))))))))))) + (wrap64 ((wrap64 ((rd l0_0 (ji15)) - (rd l0_0 t133))) * (wrap64 ((rd l0_1 (ji12)) - (rd l0_1 t135))))))) (wrap64 (2 * (wrap64 ((wrap64 ((rd l0_0 (ji15)) - (rd l0_0 t133))) * (wrap64 ((rd l0_1 (ji12)) - (rd l0_1 t135)))))))), true))) else (none)) else (none)) else (none)) else (none)) else (none)) else (none)) else (none)) else (none)) = some (r1, r2) := by first | (rw [hji15] at H; exact H) | (simp only [hji15] at H ⊢; exact H)
         (try rw [hji15] at A4)
         (try rw [hji15] at A5)
         have hji15w : (IntKind.i64.wrap (t133 + 1)) = ji15 := (wX _).trans hji15; by_cases c16 : 0 ≤ (ji15)
         ·
          rw [if_pos c16] at H; have c16b0 : decide (0 ≤ (ji15)) = true := decide_eq_true c16; clear c16; by_cases c17 : (ji15) < (l0_2.length : Int)
          ·
           rw [if_pos c17] at H; have c17b0 : decide ((ji15) < (l0_2.length : Int)) = true := decide_eq_true c17; clear c17; by_cases c18 : t135 < ((zW l0_2 (ji15)).length : Int)
           ·
            rw [if_pos c18] at H; have c18b0 : decide (t135 < ((zW l0_2 (ji15)).length : Int)) = true := decide_eq_true c18; clear c18; by_cases c19 : (ji12) < ((zW l0_2 (ji15)).length : Int)
            ·
             rw [if_pos c19] at H; have c19b0 : decide ((ji12) < ((zW l0_2 (ji15)).length : Int)) = true := decide_eq_true c19; clear c19; by_cases c20 : t135 < (l0_1.length : Int)
             ·
              rw [if_pos c20] at H; have c20b0 : decide (t135 < (l0_1.length : Int)) = true := decide_eq_true c20; clear c20; by_cases c21 : (ji12) < (l0_1.length : Int)
              ·
               rw [if_pos c21] at H; have c21b0 : decide ((ji12) < (l0_1.length : Int)) = true := decide_eq_true c21; clear c21; by_cases c22 : (ji15) < (l0_0.length : Int)
               ·
                rw [if_pos c22] at H; have c22b0 : decide ((ji15) < (l0_0.length : Int)) = true := decide_eq_true c22; clear c22; by_cases c23 : t133 < (l0_0.length : Int)
                ·
                 rw [if_pos c23] at H; have c23b0 : decide (t133 < (l0_0.length : Int)) = true := decide_eq_true c23; clear c23; by_cases c24 : (wrap64 (2 * (wrap64 ((wrap64 ((rd l0_0 (ji15)) - (rd l0_0 t133))) * (wrap64 ((rd l0_1 (ji12)) - (rd l0_1 t135))))))) = 0
                 · rw [if_pos c24] at H; exact absurd H (by simp)
                 ·
                  rw [if_neg c24] at H; have c24b0 : ((wrap64 (2 * (wrap64 ((wrap64 ((rd l0_0 (ji15)) - (rd l0_0 t133))) * (wrap64 ((rd l0_1 (ji12)) - (rd l0_1 t135))))))) == 0) = false := beq_eq_false_iff_ne.mpr c24; have c24b1 : ((wrap64 (2 * (wrap64 ((wrap64 ((rd l0_0 (ji15)) - (rd l0_0 t133))) * (wrap64 ((rd l0_1 (ji12)) - (rd l0_1 t135))))))) != 0) = true := bne_iff_ne.mpr c24; simp only [Option.some.injEq, Prod.mk.injEq] at H; obtain ⟨rfl, rfl⟩ := H; go_enter Tryd.func26, Tryd.ntmps26
                  try go_wp2_with (first | ((with_reducible refine vH (N := 3) rfl ?_); refine vD ?hg (N := 3) ?hd (cs := #[.slice A0_0 l0_0.length c0_0, .slice A0_1 l0_1.length c0_1, .slice A0_2 l0_2.length c0_2]) (t := 25) ?hr ?_; (case hd => rfl); (case hg => rfl); (case hr => first | (go_simp; done) | (go_simp; rfl)); intro kN hg w25 hbox hb; have n0_ := zA.mk (zG (eG HB.out) hb); have n1_ := zA.mk (hbox); have n2_ := zA.mk ((by rw [hg]; exact (zD (eG HB.out)) : w.heap.size ≤ kN)); have n3_ := zA.mk ((by rw [hg]; exact (zD (eG HB.out)) : w.heap.size ≤ kN)); clear HB; have HB := n0_; have qY := n1_; have GW132 := n2_; have zYP := n3_; have ig132_ := geI zYP; clear n0_ n1_ n2_ n3_; clear hb hbox hg; have zIZ : w25.cell? ⟨kN, 0, none⟩ = some (.slice A0_0 l0_0.length c0_0) := (zC qY.out 0).trans rfl; have zIY : w25.cell? ⟨kN, 1, none⟩ = some (.slice A0_1 l0_1.length c0_1) := (zC qY.out 1).trans rfl; have zIX : w25.cell? ⟨kN, 2, none⟩ = some (.slice A0_2 l0_2.length c0_2) := (zC qY.out 2).trans rfl; have zIM := zB qY.out 0; have zIL := zB qY.out 1; have zIK := zB qY.out 2) | ((with_reducible refine zQ (f := 31) rfl ?_); refine vN (some 23) rfl rfl Tryd.func31 (by kernel_rfl) rfl #[.slice A0_0 l0_0.length c0_0, .int .i64 a1] rfl (by (try simp only [List.map_toArray, List.map_cons, List.map_nil]); first | done | rfl | (simp only [List.length_drop, List.length_take]; rfl)) ?_; (with_reducible refine (qU.calls k _ _ l0_0 a1 t133 true _ ?side1 ?side2 A4.out).mono ?_); (case side1 => repeat (first | exact (Kd.zX HR0_0.out HB.out) | (with_reducible refine Kd.zP ?_ _) | (with_reducible refine Kd.zO ?_ _) | (with_reducible refine Kd.zY ?_))); (case side2 => exact HC0_0.out); rintro e w27 ⟨rfl, hb⟩; refine ⟨_, rfl, ?_⟩; have n0_ := zA.mk (zM (bG qY.out) hb); have n1_ := zA.mk (zG (eG HB.out) hb); clear qY; clear HB; have qY := n0_; have HB := n1_; clear n0_ n1_; (try clear hb); (try clear hb2); (try clear hk); (try clear hi); have zLX : w27.cell? ⟨kN, 0, none⟩ = some (.slice A0_0 l0_0.length c0_0) := (zC qY.out 0).trans rfl; have zLW : w27.cell? ⟨kN, 1, none⟩ = some (.slice A0_1 l0_1.length c0_1) := (zC qY.out 1).trans rfl; have zLV : w27.cell? ⟨kN, 2, none⟩ = some (.slice A0_2 l0_2.length c0_2) := (zC qY.out 2).trans rfl; have zLS := zB qY.out 0; have zLR := zB qY.out 1; have zLQ := zB qY.out 2) | ((with_reducible refine zQ (f := 31) rfl ?_); refine vN (some 30) rfl rfl Tryd.func31 (by kernel_rfl) rfl #[.slice A0_1 l0_1.length c0_1, .int .i64 a2] rfl (by (try simp only [List.map_toArray, List.map_cons, List.map_nil]); first | done | rfl | (simp only [List.length_drop, List.length_take]; rfl)) ?_; (with_reducible refine (qU.calls k _ _ l0_1 a2 t135 true _ ?side1 ?side2 A5.out).mono ?_); (case side1 => repeat (first | exact (Kd.zX HR0_1.out HB.out) | (with_reducible refine Kd.zP ?_ _) | (with_reducible refine Kd.zO ?_ _) | (with_reducible refine Kd.zY ?_))); (case side2 => exact HC0_1.out); rintro e w29 ⟨rfl, hb⟩; refine ⟨_, rfl, ?_⟩; have n0_ := zA.mk (zM (bG qY.out) hb); have n1_ := zA.mk (zG (eG HB.out) hb); clear qY; clear HB; have qY := n0_; have HB := n1_; clear n0_ n1_; (try clear hb); (try clear hb2); (try clear hk); (try clear hi)))
                  have n0_ := zA.mk (zBW qY.out); have n1_ := zA.mk (kC HB.out); clear qY; clear HB; have qY := n0_; have HB := n1_; clear n0_ n1_; have p137 : 0 ≤ (t133 : Int) := of_decide_eq_true (by first | (with_reducible assumption) | assumption); have q137 : t133 < (l0_2.length : Int) := of_decide_eq_true (by first | (with_reducible assumption) | assumption); obtain ⟨ad137, A137_0, c137_0, e137, zIJ, hl137_0, hi137_0⟩ := kQ HR0_2.out t133 p137 q137; have hw137_0 := zIJ; cases e137; replace zIJ := (HB.out.cell (World.block_lt_of_cell? w _ zIJ)).trans zIJ; have HR137_0 := zA.mk hi137_0; have HC137_0 := zA.mk hl137_0; clear hi137_0 hl137_0; replace p137 := eq_true p137; replace q137 := eq_true q137; have p138 : 0 ≤ (t135 : Int) := of_decide_eq_true (by first | (with_reducible assumption) | assumption); have q138 : t135 < ((zW l0_2 t133).length : Int) := of_decide_eq_true (by first | (with_reducible assumption) | assumption); obtain ⟨ad138, e138, zLO⟩ := Kd.qC HR137_0.out t135 p138 q138; have hw138_0 := zLO; cases e138; replace zLO := (HB.out.cell (World.block_lt_of_cell? w _ zLO)).trans zLO; replace p138 := eq_true p138; replace q138 := eq_true q138; have p139 : 0 ≤ (t133 : Int) := of_decide_eq_true (by first | (with_reducible assumption) | assumption); have q139 : t133 < (l0_2.length : Int) := of_decide_eq_true (by first | (with_reducible assumption) | assumption); obtain ⟨ad139, A139_0, c139_0, e139, zII, hl139_0, hi139_0⟩ := kQ HR0_2.out t133 p139 q139; have hw139_0 := zII; obtain rfl : ad137 = ad139 := (by injection e139); replace zII := (HB.out.cell (World.block_lt_of_cell? w _ zII)).trans zII; have HR139_0 := zA.mk hi139_0; have HC139_0 := zA.mk hl139_0; clear hi139_0 hl139_0; replace p139 := eq_true p139; replace q139 := eq_true q139; have ea_ := Option.some.inj (zIJ.symm.trans zII); injection ea_ with ea_ en_ ec_; subst ea_; subst ec_; clear en_; have p140 : 0 ≤ ((ji12) : Int) := of_decide_eq_true (by first | (with_reducible assumption) | assumption); have q140 : (ji12) < ((zW l0_2 t133).length : Int) := of_decide_eq_true (by first | (with_reducible assumption) | assumption); obtain ⟨ad140, e140, zLN⟩ := Kd.qC HR139_0.out (ji12) p140 q140; have hw140_0 := zLN; obtain rfl : ad138 = ad140 := (by injection e140); replace zLN := (HB.out.cell (World.block_lt_of_cell? w _ zLN)).trans zLN; replace p140 := eq_true p140; replace q140 := eq_true q140; have p141 : 0 ≤ ((ji15) : Int) := of_decide_eq_true (by first | (with_reducible assumption) | assumption); have q141 : (ji15) < (l0_2.length : Int) := of_decide_eq_true (by first | (with_reducible assumption) | assumption); obtain ⟨ad141, A141_0, c141_0, e141, zIH, hl141_0, hi141_0⟩ := kQ HR0_2.out (ji15) p141 q141; have hw141_0 := zIH; obtain rfl : ad137 = ad141 := (by injection e141); replace zIH := (HB.out.cell (World.block_lt_of_cell? w _ zIH)).trans zIH; have HR141_0 := zA.mk hi141_0; have HC141_0 := zA.mk hl141_0; clear hi141_0 hl141_0; replace p141 := eq_true p141; replace q141 := eq_true q141; have p142 : 0 ≤ (t135 : Int) := of_decide_eq_true (by first | (with_reducible assumption) | assumption); have q142 : t135 < ((zW l0_2 (ji15)).length : Int) := of_decide_eq_true (by first | (with_reducible assumption) | assumption); obtain ⟨ad142, e142, zLM⟩ := Kd.qC HR141_0.out t135 p142 q142; have hw142_0 := zLM; cases e142; replace zLM := (HB.out.cell (World.block_lt_of_cell? w _ zLM)).trans zLM; replace p142 := eq_true p142; replace q142 := eq_true q142; have p143 : 0 ≤ ((ji15) : Int) := of_decide_eq_true (by first | (with_reducible assumption) | assumption); have q143 : (ji15) < (l0_2.length : Int) := of_decide_eq_true (by first | (with_reducible assumption) | assumption); obtain ⟨ad143, A143_0, c143_0, e143, zIG, hl143_0, hi143_0⟩ := kQ HR0_2.out (ji15) p143 q143; have hw143_0 := zIG; obtain rfl : ad137 = ad143 := (by injection e143); replace zIG := (HB.out.cell (World.block_lt_of_cell? w _ zIG)).trans zIG; have HR143_0 := zA.mk hi143_0; have HC143_0 := zA.mk hl143_0; clear hi143_0 hl143_0; replace p143 := eq_true p143; replace q143 := eq_true q143; have ea_ := Option.some.inj (zIH.symm.trans zIG); injection ea_ with ea_ en_ ec_; subst ea_; subst ec_; clear en_; have p144 : 0 ≤ ((ji12) : Int) := of_decide_eq_true (by first | (with_reducible assumption) | assumption); have q144 : (ji12) < ((zW l0_2 (ji15)).length : Int) := of_decide_eq_true (by first | (with_reducible assumption) | assumption); obtain ⟨ad144, e144, zLL⟩ := Kd.qC HR143_0.out (ji12) p144 q144; have hw144_0 := zLL; obtain rfl : ad142 = ad144 := (by injection e144); replace zLL := (HB.out.cell (World.block_lt_of_cell? w _ zLL)).trans zLL; replace p144 := eq_true p144; replace q144 := eq_true q144; refine zJS (n := 41) (S := fun w' => w'.cell? ⟨kN, 0, none⟩ = some (.slice A0_0 l0_0.length c0_0) ∧ w'.cell? ⟨kN, 1, none⟩ = some (.slice A0_1 l0_1.length c0_1) ∧ w'.cell? ⟨kN, 2, none⟩ = some (.slice (some ad137) l0_2.length c0_2) ∧ w'.cell? (ad137.add (t133).toNat) = some (.slice (some ad138) (zW l0_2 t133).length c137_0) ∧ w'.cell? (ad138.add (t135).toNat) = some (.int .i64 (rd (zW l0_2 t133) t135)) ∧ w'.cell? (ad137.add (t133).toNat) = some (.slice (some ad138) (zW l0_2 t133).length c137_0) ∧ w'.cell? (ad138.add ((ji12)).toNat) = some (.int .i64 (rd (zW l0_2 t133) (ji12))) ∧ w'.cell? (ad137.add ((ji15)).toNat) = some (.slice (some ad142) (zW l0_2 (ji15)).length c141_0) ∧ w'.cell? (ad142.add (t135).toNat) = some (.int .i64 (rd (zW l0_2 (ji15)) t135)) ∧ w'.cell? (ad137.add ((ji15)).toNat) = some (.slice (some ad142) (zW l0_2 (ji15)).length c141_0) ∧ w'.cell? (ad142.add ((ji12)).toNat) = some (.int .i64 (rd (zW l0_2 (ji15)) (ji12)))) (ds := []) #[false, false, false, false, false, false, false, false, false, false, false, false, false, false, false, false, false, false, false, false, false, false, false, false, false, false, false, false, false, false, false, false, false, false, false, false, false, false, false, false, false] (by kernel_rfl) rfl rfl ⟨(zC qY.out 0).trans rfl, (zC qY.out 1).trans rfl, (zC qY.out 2).trans rfl, ((HB.out.cell (World.block_lt_of_cell? w _ hw137_0)).trans hw137_0), ((HB.out.cell (World.block_lt_of_cell? w _ hw138_0)).trans hw138_0), ((HB.out.cell (World.block_lt_of_cell? w _ hw139_0)).trans hw139_0), ((HB.out.cell (World.block_lt_of_cell? w _ hw140_0)).trans hw140_0), ((HB.out.cell (World.block_lt_of_cell? w _ hw141_0)).trans hw141_0), ((HB.out.cell (World.block_lt_of_cell? w _ hw142_0)).trans hw142_0), ((HB.out.cell (World.block_lt_of_cell? w _ hw143_0)).trans hw143_0), ((HB.out.cell (World.block_lt_of_cell? w _ hw144_0)).trans hw144_0)⟩ (fun hHeld => ?_); refine zCD wT.tab5 wT.bits5 (fun HT_ HW_ => ?_)
                  generalize w29.drew = w30 at qY HB HR137_0 HR139_0 HR141_0 HR143_0 zIJ zLO zII zLN zIH zLM zIG zLL hHeld ⊢; refine qG (i := 0) (N := some 39) (v := ?_) (a' := ?_) #[true, false, false, false, false, false, false, false, false, false, false, false, false, false, false, false, false, false, false, false, false, false, false, false, false, false, false, false, false, false, false, false, false, false, false, false, false, false, false, false, false] rfl rfl (vG HT_.out (by kernel_rfl)) (fun _ _ _ h => h) (Or.inl ⟨by rfl, ?_⟩) ?_ ?_; rotate_left
                  · intro w'; go_simp; with_reducible rfl
                  rotate_left
                  · simp only [Act.put, sIA, sC0, sCS, wX, vB]; rfl
                  refine qG (i := 2) (N := some 41) (v := ?_) (a' := ?_) #[true, false, true, false, false, false, false, false, false, false, false, false, false, false, false, false, false, false, false, false, false, false, false, false, false, false, false, false, false, false, false, false, false, false, false, false, false, false, false, false, false] rfl rfl (vG HT_.out (by kernel_rfl)) (fun _ _ _ h => h) (Or.inl ⟨by rfl, ?_⟩) ?_ ?_; rotate_left
                  · intro w'; go_simp; with_reducible rfl
                  rotate_left
                  · simp only [Act.put, sIA, sC0, sCS, wX, vB]; rfl
                  refine qG (i := 5) (N := some 44) (v := ?_) (a' := ?_) #[true, false, true, false, false, true, false, false, false, false, false, false, false, false, false, false, false, false, false, false, false, false, false, false, false, false, false, false, false, false, false, false, false, false, false, false, false, false, false, false, false] rfl rfl (vG HT_.out (by kernel_rfl)) (fun _ _ _ h => h) (Or.inl ⟨by rfl, ?_⟩) ?_ ?_; rotate_left
                  · intro w'; go_simp; with_reducible rfl
                  rotate_left
                  · simp only [Act.put, sIA, sC0, sCS, wX, vB]; rfl
                  refine qG (i := 8) (N := some 47) (v := ?_) (a' := ?_) #[true, false, true, false, false, true, false, false, true, false, false, false, false, false, false, false, false, false, false, false, false, false, false, false, false, false, false, false, false, false, false, false, false, false, false, false, false, false, false, false, false] rfl rfl (vG HT_.out (by kernel_rfl)) (fun _ _ _ h => h) (Or.inl ⟨by rfl, ?_⟩) ?_ ?_; rotate_left
                  · intro w'; go_simp; with_reducible rfl
                  rotate_left
                  · simp only [Act.put, sIA, sC0, sCS, wX, vB]; rfl
                  refine qG (i := 10) (N := some 49) (v := ?_) (a' := ?_) #[true, false, true, false, false, true, false, false, true, false, true, false, false, false, false, false, false, false, false, false, false, false, false, false, false, false, false, false, false, false, false, false, false, false, false, false, false, false, false, false, false] rfl rfl (vG HT_.out (by kernel_rfl)) (fun _ _ _ h => h) (Or.inl ⟨by rfl, ?_⟩) ?_ ?_; rotate_left
                  · intro w'; go_simp; with_reducible rfl
                  rotate_left
                  · simp only [Act.put, sIA, sC0, sCS, wX, vB]; rfl
                  refine qG (i := 13) (N := some 52) (v := ?_) (a' := ?_) #[true, false, true, false, false, true, false, false, true, false, true, false, false, true, false, false, false, false, false, false, false, false, false, false, false, false, false, false, false, false, false, false, false, false, false, false, false, false, false, false, false] rfl rfl (vG HT_.out (by kernel_rfl)) (fun _ _ _ h => h) (Or.inl ⟨by rfl, ?_⟩) ?_ ?_; rotate_left
                  · intro w'; go_simp; with_reducible rfl
                  rotate_left
                  · simp only [Act.put, sIA, sC0, sCS, wX, vB]; rfl
                  refine qG (i := 14) (N := some 53) (v := ?_) (a' := ?_) #[true, false, true, false, false, true, false, false, true, false, true, false, false, true, true, false, false, false, false, false, false, false, false, false, false, false, false, false, false, false, false, false, false, false, false, false, false, false, false, false, false] rfl rfl (vG HT_.out (by kernel_rfl)) (fun _ _ _ h => h) (Or.inl ⟨by rfl, ?_⟩) ?_ ?_; rotate_left
                  · intro w'; go_simp; with_reducible rfl
                  rotate_left
                  · simp only [Act.put, sIA, sC0, sCS, wX, vB]; rfl
                  refine qG (i := 18) (N := some 57) (v := ?_) (a' := ?_) #[true, false, true, false, false, true, false, false, true, false, true, false, false, true, true, false, false, false, true, false, false, false, false, false, false, false, false, false, false, false, false, false, false, false, false, false, false, false, false, false, false] rfl rfl (vG HT_.out (by kernel_rfl)) (fun _ _ _ h => h) (Or.inl ⟨by rfl, ?_⟩) ?_ ?_; rotate_left
                  · intro w'; go_simp; with_reducible rfl
                  rotate_left
                  · simp only [Act.put, sIA, sC0, sCS, wX, vB]; rfl
                  refine qG (i := 20) (N := some 59) (v := ?_) (a' := ?_) #[true, false, true, false, false, true, false, false, true, false, true, false, false, true, true, false, false, false, true, false, true, false, false, false, false, false, false, false, false, false, false, false, false, false, false, false, false, false, false, false, false] rfl rfl (vG HT_.out (by kernel_rfl)) (fun _ _ _ h => h) (Or.inl ⟨by rfl, ?_⟩) ?_ ?_; rotate_left
                  · intro w'; go_simp; with_reducible rfl
                  rotate_left
                  · simp only [Act.put, sIA, sC0, sCS, wX, vB]; rfl
                  refine qG (i := 21) (N := some 60) (v := ?_) (a' := ?_) #[true, false, true, false, false, true, false, false, true, false, true, false, false, true, true, false, false, false, true, false, true, true, false, false, false, false, false, false, false, false, false, false, false, false, false, false, false, false, false, false, false] rfl rfl (vG HT_.out (by kernel_rfl)) (fun _ _ _ h => h) (Or.inl ⟨by rfl, ?_⟩) ?_ ?_; rotate_left
                  · intro w'; go_simp; with_reducible rfl
                  rotate_left
                  · simp only [Act.put, sIA, sC0, sCS, wX, vB]; rfl
                  refine qG (i := 24) (N := some 63) (v := ?_) (a' := ?_) #[true, false, true, false, false, true, false, false, true, false, true, false, false, true, true, false, false, false, true, false, true, true, false, false, true, false, false, false, false, false, false, false, false, false, false, false, false, false, false, false, false] rfl rfl (vG HT_.out (by kernel_rfl)) (fun _ _ _ h => h) (Or.inl ⟨by rfl, ?_⟩) ?_ ?_; rotate_left
                  · intro w'; go_simp; with_reducible rfl
                  rotate_left
                  · simp only [Act.put, sIA, sC0, sCS, wX, vB]; rfl
                  refine qG (i := 27) (N := some 66) (v := ?_) (a' := ?_) #[true, false, true, false, false, true, false, false, true, false, true, false, false, true, true, false, false, false, true, false, true, true, false, false, true, false, false, true, false, false, false, false, false, false, false, false, false, false, false, false, false] rfl rfl (vG HT_.out (by kernel_rfl)) (fun _ _ _ h => h) (Or.inl ⟨by rfl, ?_⟩) ?_ ?_; rotate_left
                  · intro w'; go_simp; with_reducible rfl
                  rotate_left
                  · simp only [Act.put, sIA, sC0, sCS, wX, vB]; rfl
                  refine qG (i := 29) (N := some 68) (v := ?_) (a' := ?_) #[true, false, true, false, false, true, false, false, true, false, true, false, false, true, true, false, false, false, true, false, true, true, false, false, true, false, false, true, false, true, false, false, false, false, false, false, false, false, false, false, false] rfl rfl (vG HT_.out (by kernel_rfl)) (fun _ _ _ h => h) (Or.inl ⟨by rfl, ?_⟩) ?_ ?_; rotate_left
                  · intro w'; go_simp; with_reducible rfl
                  rotate_left
                  · simp only [Act.put, sIA, sC0, sCS, wX, vB]; rfl
                  refine qG (i := 30) (N := some 69) (v := ?_) (a' := ?_) #[true, false, true, false, false, true, false, false, true, false, true, false, false, true, true, false, false, false, true, false, true, true, false, false, true, false, false, true, false, true, true, false, false, false, false, false, false, false, false, false, false] rfl rfl (vG HT_.out (by kernel_rfl)) (fun _ _ _ h => h) (Or.inl ⟨by rfl, ?_⟩) ?_ ?_; rotate_left
                  · intro w'; go_simp; with_reducible rfl
                  rotate_left
                  · simp only [Act.put, sIA, sC0, sCS, wX, vB]; rfl
                  refine qG (i := 33) (N := some 72) (v := ?_) (a' := ?_) #[true, false, true, false, false, true, false, false, true, false, true, false, false, true, true, false, false, false, true, false, true, true, false, false, true, false, false, true, false, true, true, false, false, true, false, false, false, false, false, false, false] rfl rfl (vG HT_.out (by kernel_rfl)) (fun _ _ _ h => h) (Or.inl ⟨by rfl, ?_⟩) ?_ ?_; rotate_left
                  · intro w'; go_simp; with_reducible rfl
                  rotate_left
                  · simp only [Act.put, sIA, sC0, sCS, wX, vB]; rfl
                  refine qG (i := 34) (N := some 73) (v := ?_) (a' := ?_) #[true, false, true, false, false, true, false, false, true, false, true, false, false, true, true, false, false, false, true, false, true, true, false, false, true, false, false, true, false, true, true, false, false, true, true, false, false, false, false, false, false] rfl rfl (vG HT_.out (by kernel_rfl)) (fun _ _ _ h => h) (Or.inl ⟨by rfl, ?_⟩) ?_ ?_; rotate_left
                  · intro w'; go_simp; with_reducible rfl
                  rotate_left
                  · simp only [Act.put, sIA, sC0, sCS, wX, vB]; rfl
                  refine kS (i := 1) (N := some 40) (v := ?_) (a' := ?_) #[true, true, true, false, false, true, false, false, true, false, true, false, false, true, true, false, false, false, true, false, true, true, false, false, true, false, false, true, false, true, true, false, false, true, true, false, false, false, false, false, false] rfl rfl (qZ HT_.out HW_.out (by kernel_rfl)) (fun _ _ _ h => h) (Or.inl ⟨by rfl, ?_⟩) hHeld ?_ ?_; rotate_left
                  · rintro w' ⟨s0, s1, s2, s3, s4, s5, s6, s7, s8, s9, s10⟩; go_simp; with_reducible rfl
                  rotate_left
                  · simp only [Act.put, sIA, sC0, sCS, wX, vB]; rfl
                  refine qG (i := 3) (N := some 42) (v := ?_) (a' := ?_) #[true, true, true, true, false, true, false, false, true, false, true, false, false, true, true, false, false, false, true, false, true, true, false, false, true, false, false, true, false, true, true, false, false, true, true, false, false, false, false, false, false] rfl rfl (vG HT_.out (by kernel_rfl)) (fun _ _ _ h => h) (Or.inl ⟨by rfl, ?_⟩) ?_ ?_; rotate_left
                  · intro w'; go_simp; with_reducible rfl
                  rotate_left
                  · simp only [Act.put, sIA, sC0, sCS, wX, vB]; rfl
                  refine kS (i := 4) (N := some 43) (v := ?_) (a' := ?_) #[true, true, true, true, true, true, false, false, true, false, true, false, false, true, true, false, false, false, true, false, true, true, false, false, true, false, false, true, false, true, true, false, false, true, true, false, false, false, false, false, false] rfl rfl (qZ HT_.out HW_.out (by kernel_rfl)) (fun _ _ _ h => h) (Or.inl ⟨by rfl, ?_⟩) hHeld ?_ ?_; rotate_left
                  · rintro w' ⟨s0, s1, s2, s3, s4, s5, s6, s7, s8, s9, s10⟩; go_simp; with_reducible rfl
                  rotate_left
                  · simp only [Act.put, sIA, sC0, sCS, wX, vB]; rfl
                  refine qG (i := 6) (N := some 45) (v := ?_) (a' := ?_) #[true, true, true, true, true, true, true, false, true, false, true, false, false, true, true, false, false, false, true, false, true, true, false, false, true, false, false, true, false, true, true, false, false, true, true, false, false, false, false, false, false] rfl rfl (vG HT_.out (by kernel_rfl)) (fun _ _ _ h => h) (Or.inl ⟨by rfl, ?_⟩) ?_ ?_; rotate_left
                  · intro w'; go_simp; with_reducible rfl
                  rotate_left
                  · simp only [Act.put, sIA, sC0, sCS, wX, vB]; rfl
                  refine kS (i := 7) (N := some 46) (v := ?_) (a' := ?_) #[true, true, true, true, true, true, true, true, true, false, true, false, false, true, true, false, false, false, true, false, true, true, false, false, true, false, false, true, false, true, true, false, false, true, true, false, false, false, false, false, false] rfl rfl (qZ HT_.out HW_.out (by kernel_rfl)) (fun _ _ _ h => h) (Or.inl ⟨by rfl, ?_⟩) hHeld ?_ ?_; rotate_left
                  · rintro w' ⟨s0, s1, s2, s3, s4, s5, s6, s7, s8, s9, s10⟩; go_simp; with_reducible rfl
                  rotate_left
                  · simp only [Act.put, sIA, sC0, sCS, wX, vB]; rfl
                  refine kS (i := 9) (N := some 48) (v := ?_) (a' := ?_) #[true, true, true, true, true, true, true, true, true, true, true, false, false, true, true, false, false, false, true, false, true, true, false, false, true, false, false, true, false, true, true, false, false, true, true, false, false, false, false, false, false] rfl rfl (qZ HT_.out HW_.out (by kernel_rfl)) (fun _ _ _ h => h) (Or.inl ⟨by rfl, ?_⟩) hHeld ?_ ?_; rotate_left
                  · rintro w' ⟨s0, s1, s2, s3, s4, s5, s6, s7, s8, s9, s10⟩; go_simp; with_reducible rfl
                  rotate_left
                  · simp only [Act.put, sIA, sC0, sCS, wX, vB]; rfl
                  refine qG (i := 11) (N := some 50) (v := ?_) (a' := ?_) #[true, true, true, true, true, true, true, true, true, true, true, true, false, true, true, false, false, false, true, false, true, true, false, false, true, false, false, true, false, true, true, false, false, true, true, false, false, false, false, false, false] rfl rfl (vG HT_.out (by kernel_rfl)) (fun _ _ _ h => h) (Or.inl ⟨by rfl, ?_⟩) ?_ ?_; rotate_left
                  · intro w'; go_simp; with_reducible rfl
                  rotate_left
                  · simp only [Act.put, sIA, sC0, sCS, wX, vB]; rfl
                  refine kS (i := 12) (N := some 51) (v := ?_) (a' := ?_) #[true, true, true, true, true, true, true, true, true, true, true, true, true, true, true, false, false, false, true, false, true, true, false, false, true, false, false, true, false, true, true, false, false, true, true, false, false, false, false, false, false] rfl rfl (qZ HT_.out HW_.out (by kernel_rfl)) (fun _ _ _ h => h) (Or.inl ⟨by rfl, ?_⟩) hHeld ?_ ?_; rotate_left
                  · rintro w' ⟨s0, s1, s2, s3, s4, s5, s6, s7, s8, s9, s10⟩; go_simp; with_reducible rfl
                  rotate_left
                  · simp only [Act.put, sIA, sC0, sCS, wX, vB]; rfl
                  refine qG (i := 15) (N := some 54) (v := ?_) (a' := ?_) #[true, true, true, true, true, true, true, true, true, true, true, true, true, true, true, true, false, false, true, false, true, true, false, false, true, false, false, true, false, true, true, false, false, true, true, false, false, false, false, false, false] rfl rfl (vG HT_.out (by kernel_rfl)) (fun _ _ _ h => h) (Or.inl ⟨by rfl, ?_⟩) ?_ ?_; rotate_left
                  · intro w'; go_simp; with_reducible rfl
                  rotate_left
                  · simp only [Act.put, sIA, sC0, sCS, wX, vB]; rfl
                  refine kS (i := 16) (N := some 55) (v := ?_) (a' := ?_) #[true, true, true, true, true, true, true, true, true, true, true, true, true, true, true, true, true, false, true, false, true, true, false, false, true, false, false, true, false, true, true, false, false, true, true, false, false, false, false, false, false] rfl rfl (qZ HT_.out HW_.out (by kernel_rfl)) (fun _ _ _ h => h) (Or.inl ⟨by rfl, ?_⟩) hHeld ?_ ?_; rotate_left
                  · rintro w' ⟨s0, s1, s2, s3, s4, s5, s6, s7, s8, s9, s10⟩; go_simp; with_reducible rfl
                  rotate_left
                  · simp only [Act.put, sIA, sC0, sCS, wX, vB]; rfl
                  refine qG (i := 17) (N := some 56) (v := ?_) (a' := ?_) #[true, true, true, true, true, true, true, true, true, true, true, true, true, true, true, true, true, true, true, false, true, true, false, false, true, false, false, true, false, true, true, false, false, true, true, false, false, false, false, false, false] rfl rfl (vG HT_.out (by kernel_rfl)) (fun _ _ _ h => h) (Or.inl ⟨by rfl, ?_⟩) ?_ ?_; rotate_left
                  · intro w'; go_simp; with_reducible rfl
                  rotate_left
                  · simp only [Act.put, sIA, sC0, sCS, wX, vB]; rfl
                  refine kS (i := 19) (N := some 58) (v := ?_) (a' := ?_) #[true, true, true, true, true, true, true, true, true, true, true, true, true, true, true, true, true, true, true, true, true, true, false, false, true, false, false, true, false, true, true, false, false, true, true, false, false, false, false, false, false] rfl rfl (qZ HT_.out HW_.out (by kernel_rfl)) (fun _ _ _ h => h) (Or.inl ⟨by rfl, ?_⟩) hHeld ?_ ?_; rotate_left
                  · rintro w' ⟨s0, s1, s2, s3, s4, s5, s6, s7, s8, s9, s10⟩; go_simp; with_reducible rfl
                  rotate_left
                  · simp only [Act.put, sIA, sC0, sCS, wX, vB]; rfl
                  refine qG (i := 22) (N := some 61) (v := ?_) (a' := ?_) #[true, true, true, true, true, true, true, true, true, true, true, true, true, true, true, true, true, true, true, true, true, true, true, false, true, false, false, true, false, true, true, false, false, true, true, false, false, false, false, false, false] rfl rfl (vG HT_.out (by kernel_rfl)) (fun _ _ _ h => h) (Or.inl ⟨by rfl, ?_⟩) ?_ ?_; rotate_left
                  · intro w'; go_simp; with_reducible rfl
                  rotate_left
                  · simp only [Act.put, sIA, sC0, sCS, wX, vB]; rfl
                  refine kS (i := 23) (N := some 62) (v := ?_) (a' := ?_) #[true, true, true, true, true, true, true, true, true, true, true, true, true, true, true, true, true, true, true, true, true, true, true, true, true, false, false, true, false, true, true, false, false, true, true, false, false, false, false, false, false] rfl rfl (qZ HT_.out HW_.out (by kernel_rfl)) (fun _ _ _ h => h) (Or.inl ⟨by rfl, ?_⟩) hHeld ?_ ?_; rotate_left
                  · rintro w' ⟨s0, s1, s2, s3, s4, s5, s6, s7, s8, s9, s10⟩; go_simp; with_reducible rfl
                  rotate_left
                  · simp only [Act.put, sIA, sC0, sCS, wX, vB]; rfl
                  refine qG (i := 25) (N := some 64) (v := ?_) (a' := ?_) #[true, true, true, true, true, true, true, true, true, true, true, true, true, true, true, true, true, true, true, true, true, true, true, true, true, true, false, true, false, true, true, false, false, true, true, false, false, false, false, false, false] rfl rfl (vG HT_.out (by kernel_rfl)) (fun _ _ _ h => h) (Or.inl ⟨by rfl, ?_⟩) ?_ ?_; rotate_left
                  · intro w'; go_simp; with_reducible rfl
                  rotate_left
                  · simp only [Act.put, sIA, sC0, sCS, wX, vB]; rfl
                  refine kS (i := 26) (N := some 65) (v := ?_) (a' := ?_) #[true, true, true, true, true, true, true, true, true, true, true, true, true, true, true, true, true, true, true, true, true, true, true, true, true, true, true, true, false, true, true, false, false, true, true, false, false, false, false, false, false] rfl rfl (qZ HT_.out HW_.out (by kernel_rfl)) (fun _ _ _ h => h) (Or.inl ⟨by rfl, ?_⟩) hHeld ?_ ?_; rotate_left
                  · rintro w' ⟨s0, s1, s2, s3, s4, s5, s6, s7, s8, s9, s10⟩; go_simp; with_reducible rfl
                  rotate_left
                  · simp only [Act.put, sIA, sC0, sCS, wX, vB]; rfl
                  refine kS (i := 28) (N := some 67) (v := ?_) (a' := ?_) #[true, true, true, true, true, true, true, true, true, true, true, true, true, true, true, true, true, true, true, true, true, true, true, true, true, true, true, true, true, true, true, false, false, true, true, false, false, false, false, false, false] rfl rfl (qZ HT_.out HW_.out (by kernel_rfl)) (fun _ _ _ h => h) (Or.inl ⟨by rfl, ?_⟩) hHeld ?_ ?_; rotate_left
                  · rintro w' ⟨s0, s1, s2, s3, s4, s5, s6, s7, s8, s9, s10⟩; go_simp; with_reducible rfl
                  rotate_left
                  · simp only [Act.put, sIA, sC0, sCS, wX, vB]; rfl
                  refine qG (i := 31) (N := some 70) (v := ?_) (a' := ?_) #[true, true, true, true, true, true, true, true, true, true, true, true, true, true, true, true, true, true, true, true, true, true, true, true, true, true, true, true, true, true, true, true, false, true, true, false, false, false, false, false, false] rfl rfl (vG HT_.out (by kernel_rfl)) (fun _ _ _ h => h) (Or.inl ⟨by rfl, ?_⟩) ?_ ?_; rotate_left
                  · intro w'; go_simp; with_reducible rfl
                  rotate_left
                  · simp only [Act.put, sIA, sC0, sCS, wX, vB]; rfl
                  refine kS (i := 32) (N := some 71) (v := ?_) (a' := ?_) #[true, true, true, true, true, true, true, true, true, true, true, true, true, true, true, true, true, true, true, true, true, true, true, true, true, true, true, true, true, true, true, true, true, true, true, false, false, false, false, false, false] rfl rfl (qZ HT_.out HW_.out (by kernel_rfl)) (fun _ _ _ h => h) (Or.inl ⟨by rfl, ?_⟩) hHeld ?_ ?_; rotate_left
                  · rintro w' ⟨s0, s1, s2, s3, s4, s5, s6, s7, s8, s9, s10⟩; go_simp; with_reducible rfl
                  rotate_left
                  · simp only [Act.put, sIA, sC0, sCS, wX, vB]; rfl
                  refine qG (i := 35) (N := some 74) (v := ?_) (a' := ?_) #[true, true, true, true, true, true, true, true, true, true, true, true, true, true, true, true, true, true, true, true, true, true, true, true, true, true, true, true, true, true, true, true, true, true, true, true, false, false, false, false, false] rfl rfl (vG HT_.out (by kernel_rfl)) (fun _ _ _ h => h) (Or.inl ⟨by rfl, ?_⟩) ?_ ?_; rotate_left
                  · intro w'; go_simp; with_reducible rfl
                  rotate_left
                  · simp only [Act.put, sIA, sC0, sCS, wX, vB]; rfl
                  refine kS (i := 36) (N := some 75) (v := ?_) (a' := ?_) #[true, true, true, true, true, true, true, true, true, true, true, true, true, true, true, true, true, true, true, true, true, true, true, true, true, true, true, true, true, true, true, true, true, true, true, true, true, false, false, false, false] rfl rfl (qZ HT_.out HW_.out (by kernel_rfl)) (fun _ _ _ h => h) (Or.inl ⟨by rfl, ?_⟩) hHeld ?_ ?_; rotate_left
                  · rintro w' ⟨s0, s1, s2, s3, s4, s5, s6, s7, s8, s9, s10⟩; go_simp; with_reducible rfl
                  rotate_left
                  · simp only [Act.put, sIA, sC0, sCS, wX, vB]; rfl
                  refine qG (i := 37) (N := some 76) (v := ?_) (a' := ?_) #[true, true, true, true, true, true, true, true, true, true, true, true, true, true, true, true, true, true, true, true, true, true, true, true, true, true, true, true, true, true, true, true, true, true, true, true, true, true, false, false, false] rfl rfl (vG HT_.out (by kernel_rfl)) (fun _ _ _ h => h) (Or.inl ⟨by rfl, ?_⟩) ?_ ?_; rotate_left
                  · intro w'; go_simp; with_reducible rfl
                  rotate_left
                  · simp only [Act.put, sIA, sC0, sCS, wX, vB]; rfl
                  refine qG (i := 38) (N := some 77) (v := ?_) (a' := ?_) #[true, true, true, true, true, true, true, true, true, true, true, true, true, true, true, true, true, true, true, true, true, true, true, true, true, true, true, true, true, true, true, true, true, true, true, true, true, true, true, false, false] rfl rfl (vG HT_.out (by kernel_rfl)) (fun _ _ _ h => h) (Or.inl ⟨by rfl, ?_⟩) ?_ ?_; rotate_left
                  · intro w'; go_simp; with_reducible rfl
                  rotate_left
                  · simp only [Act.put, sIA, sC0, sCS, wX, vB]; rfl
                  refine one_ (i := 39) (N := some 12) #[true, true, true, true, true, true, true, true, true, true, true, true, true, true, true, true, true, true, true, true, true, true, true, true, true, true, true, true, true, true, true, true, true, true, true, true, true, true, true, true, false] rfl rfl (zDL HT_.out (by kernel_rfl)) (by decide) (fun K hK => ?_); refine zTW ?hg (N := 12) ?hd (cs := #[.int .i64 0, .int .i64 0, .int .i64 0, .int .i64 0]) (t := 75) ?hr ?_; (case hd => rfl); (case hg => rfl); (case hr => first | (go_simp; done) | (go_simp; rfl))
                  intro yI hg w31 hbox hb; have n0_ := zA.mk (zM (bG qY.out) hb); have n1_ := zA.mk (zG (eG HB.out) hb); have n2_ := zA.mk (hbox); have n3_ := zA.mk ((by rw [hg]; exact (zD (eG HB.out)) : w.heap.size ≤ yI)); have n4_ := zA.mk ((by rw [hg]; exact (zD (eG HB.out)) : w.heap.size ≤ yI)); have n5_ := zA.mk ((by rw [hg]; exact Nat.ne_of_lt (yG (bG qY.out)) : kN ≠ yI)); have n6_ := zA.mk ((by rw [hg]; exact Nat.ne_of_gt (yG (bG qY.out)) : yI ≠ kN)); clear qY; clear HB; have qY := n0_; have HB := n1_; have zBR := n2_; have zAX := n3_; have GE145 := n4_; have ig145_ := geI GE145
                  have yP := n5_; have zGB := n6_; clear n0_ n1_ n2_ n3_ n4_ n5_ n6_; clear hb hbox hg; refine hK.out _ _ ⟨(zC qY.out 0).trans rfl, (zC qY.out 1).trans rfl, (zC qY.out 2).trans rfl, ((HB.out.cell (World.block_lt_of_cell? w _ hw137_0)).trans hw137_0), ((HB.out.cell (World.block_lt_of_cell? w _ hw138_0)).trans hw138_0), ((HB.out.cell (World.block_lt_of_cell? w _ hw139_0)).trans hw139_0), ((HB.out.cell (World.block_lt_of_cell? w _ hw140_0)).trans hw140_0), ((HB.out.cell (World.block_lt_of_cell? w _ hw141_0)).trans hw141_0), ((HB.out.cell (World.block_lt_of_cell? w _ hw142_0)).trans hw142_0), ((HB.out.cell (World.block_lt_of_cell? w _ hw143_0)).trans hw143_0), ((HB.out.cell (World.block_lt_of_cell? w _ hw144_0)).trans hw144_0)⟩ (fun hHeld => ?_); clear hK K; refine zEW (a' := ?_) ?_ ?_; rotate_left
                  ·
                   show Act.put _ (some 12) _ = _
                   simp only [Act.put, sIA, sC0, sCS, wX, vB]; rfl
                  refine one_ (i := 40) (N := none) #[true, true, true, true, true, true, true, true, true, true, true, true, true, true, true, true, true, true, true, true, true, true, true, true, true, true, true, true, true, true, true, true, true, true, true, true, true, true, true, true, true] rfl rfl (zDL HT_.out (by kernel_rfl)) (by decide) (fun K hK => ?_); have hs32 : w31.cell? ⟨yI, 0, none⟩ = some (.int .i64 0) := (zC zBR.out 0).trans rfl; have hfs32 := zB zBR.out 0; have hns32_0 := yP.out; have hms32_0 := zGB.out; have hs33 : w31.cell? ⟨yI, 1, none⟩ = some (.int .i64 0) := (zC zBR.out 1).trans rfl; have hfs33 := zB zBR.out 1; have hns33_0 := yP.out; have hms33_0 := zGB.out; have hs34 : w31.cell? ⟨yI, 2, none⟩ = some (.int .i64 0) := (zC zBR.out 2).trans rfl; have hfs34 := zB zBR.out 2; have hns34_0 := yP.out; have hms34_0 := zGB.out; have hs35 : w31.cell? ⟨yI, 3, none⟩ = some (.int .i64 0) := (zC zBR.out 3).trans rfl; have hfs35 := zB zBR.out 3; have hns35_0 := yP.out; have hms35_0 := zGB.out; refine skip_ (w1 := ?_) (by rfl) rfl ?_ ?_; rotate_left
                  · go_simp; rfl
                  refine hK.out _ _ ⟨((cell_far (p := ⟨yI, _, none⟩) yP.out _).trans (((cell_far (p := ⟨yI, _, none⟩) yP.out _).trans (((cell_far (p := ⟨yI, _, none⟩) yP.out _).trans (((cell_far (p := ⟨yI, _, none⟩) yP.out _).trans (hHeld.1)))))))), ((cell_far (p := ⟨yI, _, none⟩) yP.out _).trans (((cell_far (p := ⟨yI, _, none⟩) yP.out _).trans (((cell_far (p := ⟨yI, _, none⟩) yP.out _).trans (((cell_far (p := ⟨yI, _, none⟩) yP.out _).trans (hHeld.2.1)))))))), ((cell_far (p := ⟨yI, _, none⟩) yP.out _).trans (((cell_far (p := ⟨yI, _, none⟩) yP.out _).trans (((cell_far (p := ⟨yI, _, none⟩) yP.out _).trans (((cell_far (p := ⟨yI, _, none⟩) yP.out _).trans (hHeld.2.2.1)))))))), ((cell_far (p := ⟨yI, _, none⟩) (uJ hw137_0 zAX.out) _).trans (((cell_far (p := ⟨yI, _, none⟩) (uJ hw137_0 zAX.out) _).trans (((cell_far (p := ⟨yI, _, none⟩) (uJ hw137_0 zAX.out) _).trans (((cell_far (p := ⟨yI, _, none⟩) (uJ hw137_0 zAX.out) _).trans (hHeld.2.2.2.1)))))))), ((cell_far (p := ⟨yI, _, none⟩) (uJ hw138_0 zAX.out) _).trans (((cell_far (p := ⟨yI, _, none⟩) (uJ hw138_0 zAX.out) _).trans (((cell_far (p := ⟨yI, _, none⟩) (uJ hw138_0 zAX.out) _).trans (((cell_far (p := ⟨yI, _, none⟩) (uJ hw138_0 zAX.out) _).trans (hHeld.2.2.2.2.1)))))))), ((cell_far (p := ⟨yI, _, none⟩) (uJ hw139_0 zAX.out) _).trans (((cell_far (p := ⟨yI, _, none⟩) (uJ hw139_0 zAX.out) _).trans (((cell_far (p := ⟨yI, _, none⟩) (uJ hw139_0 zAX.out) _).trans (((cell_far (p := ⟨yI, _, none⟩) (uJ hw139_0 zAX.out) _).trans (hHeld.2.2.2.2.2.1)))))))), ((cell_far (p := ⟨yI, _, none⟩) (uJ hw140_0 zAX.out) _).trans (((cell_far (p := ⟨yI, _, none⟩) (uJ hw140_0 zAX.out) _).trans (((cell_far (p := ⟨yI, _, none⟩) (uJ hw140_0 zAX.out) _).trans (((cell_far (p := ⟨yI, _, none⟩) (uJ hw140_0 zAX.out) _).trans (hHeld.2.2.2.2.2.2.1)))))))), ((cell_far (p := ⟨yI, _, none⟩) (uJ hw141_0 zAX.out) _).trans (((cell_far (p := ⟨yI, _, none⟩) (uJ hw141_0 zAX.out) _).trans (((cell_far (p := ⟨yI, _, none⟩) (uJ hw141_0 zAX.out) _).trans (((cell_far (p := ⟨yI, _, none⟩) (uJ hw141_0 zAX.out) _).trans (hHeld.2.2.2.2.2.2.2.1)))))))), ((cell_far (p := ⟨yI, _, none⟩) (uJ hw142_0 zAX.out) _).trans (((cell_far (p := ⟨yI, _, none⟩) (uJ hw142_0 zAX.out) _).trans (((cell_far (p := ⟨yI, _, none⟩) (uJ hw142_0 zAX.out) _).trans (((cell_far (p := ⟨yI, _, none⟩) (uJ hw142_0 zAX.out) _).trans (hHeld.2.2.2.2.2.2.2.2.1)))))))), ((cell_far (p := ⟨yI, _, none⟩) (uJ hw143_0 zAX.out) _).trans (((cell_far (p := ⟨yI, _, none⟩) (uJ hw143_0 zAX.out) _).trans (((cell_far (p := ⟨yI, _, none⟩) (uJ hw143_0 zAX.out) _).trans (((cell_far (p := ⟨yI, _, none⟩) (uJ hw143_0 zAX.out) _).trans (hHeld.2.2.2.2.2.2.2.2.2.1)))))))), ((cell_far (p := ⟨yI, _, none⟩) (uJ hw144_0 zAX.out) _).trans (((cell_far (p := ⟨yI, _, none⟩) (uJ hw144_0 zAX.out) _).trans (((cell_far (p := ⟨yI, _, none⟩) (uJ hw144_0 zAX.out) _).trans (((cell_far (p := ⟨yI, _, none⟩) (uJ hw144_0 zAX.out) _).trans (hHeld.2.2.2.2.2.2.2.2.2.2))))))))⟩ (fun hHeld => ?_); clear hK K; refine zQU (zFW HT_.out (by kernel_rfl)) ?_; try go_wp2
                  have n0_ : zA (((((w31.setCell ⟨yI, 0, none⟩ (.int .i64 (rd (zW l0_2 t133) t135))).setCell ⟨yI, 1, none⟩ (.int .i64 (rd (zW l0_2 t133) (ji12)))).setCell ⟨yI, 2, none⟩ (.int .i64 (rd (zW l0_2 (ji15)) t135))).setCell ⟨yI, 3, none⟩ (.int .i64 (rd (zW l0_2 (ji15)) (ji12)))).heap[kN]? = some (.cells #[.slice A0_0 l0_0.length c0_0, .slice A0_1 l0_1.length c0_1, .slice (some ad137) l0_2.length c0_2] 25 (0, 0))) := ⟨by (with_reducible repeat first | apply bN | apply bD | apply bA); refine yL ?_ yP.out _; (with_reducible repeat first | apply bN | apply bD | apply bA); refine yL ?_ yP.out _; (with_reducible repeat first | apply bN | apply bD | apply bA); refine yL ?_ yP.out _; (with_reducible repeat first | apply bN | apply bD | apply bA); refine yL ?_ yP.out _; (with_reducible repeat first | apply bN | apply bD | apply bA); exact qY.out⟩; have n1_ : zA (((((w31.setCell ⟨yI, 0, none⟩ (.int .i64 (rd (zW l0_2 t133) t135))).setCell ⟨yI, 1, none⟩ (.int .i64 (rd (zW l0_2 t133) (ji12)))).setCell ⟨yI, 2, none⟩ (.int .i64 (rd (zW l0_2 (ji15)) t135))).setCell ⟨yI, 3, none⟩ (.int .i64 (rd (zW l0_2 (ji15)) (ji12)))).heap[yI]? = some (.cells #[.int .i64 (rd (zW l0_2 t133) t135), .int .i64 (rd (zW l0_2 t133) (ji12)), .int .i64 (rd (zW l0_2 (ji15)) t135), .int .i64 (rd (zW l0_2 (ji15)) (ji12))] 75 (0, 0))) := ⟨by (with_reducible repeat first | apply bN | apply bD | apply bA); refine vA (cs := #[.int .i64 (rd (zW l0_2 t133) t135), .int .i64 (rd (zW l0_2 t133) (ji12)), .int .i64 (rd (zW l0_2 (ji15)) t135), .int .i64 0]) ?_ 3 _ rfl; (with_reducible repeat first | apply bN | apply bD | apply bA); refine vA (cs := #[.int .i64 (rd (zW l0_2 t133) t135), .int .i64 (rd (zW l0_2 t133) (ji12)), .int .i64 0, .int .i64 0]) ?_ 2 _ rfl; (with_reducible repeat first | apply bN | apply bD | apply bA); refine vA (cs := #[.int .i64 (rd (zW l0_2 t133) t135), .int .i64 0, .int .i64 0, .int .i64 0]) ?_ 1 _ rfl; (with_reducible repeat first | apply bN | apply bD | apply bA); refine vA (cs := #[.int .i64 0, .int .i64 0, .int .i64 0, .int .i64 0]) ?_ 0 _ rfl; (with_reducible repeat first | apply bN | apply bD | apply bA); exact zBR.out⟩; have n2_ : zA (Below w.heap.size w ((((w31.setCell ⟨yI, 0, none⟩ (.int .i64 (rd (zW l0_2 t133) t135))).setCell ⟨yI, 1, none⟩ (.int .i64 (rd (zW l0_2 t133) (ji12)))).setCell ⟨yI, 2, none⟩ (.int .i64 (rd (zW l0_2 (ji15)) t135))).setCell ⟨yI, 3, none⟩ (.int .i64 (rd (zW l0_2 (ji15)) (ji12))))) := ⟨eG HB.out⟩; (try clear qY)
                  (try clear zBR)
                  (try clear HB)
                  generalize ((((w31.setCell ⟨yI, 0, none⟩ (.int .i64 (rd (zW l0_2 t133) t135))).setCell ⟨yI, 1, none⟩ (.int .i64 (rd (zW l0_2 t133) (ji12)))).setCell ⟨yI, 2, none⟩ (.int .i64 (rd (zW l0_2 (ji15)) t135))).setCell ⟨yI, 3, none⟩ (.int .i64 (rd (zW l0_2 (ji15)) (ji12)))) = w36 at n0_ n1_ n2_ ⊢; have qY := n0_; have zBR := n1_; have HB := n2_; clear n0_ n1_ n2_; have n0_ := zA.mk (zBW qY.out); have n1_ := zA.mk (zBW zBR.out); have n2_ := zA.mk (kC HB.out); clear qY; clear zBR; clear HB; have qY := n0_; have zBR := n1_; have HB := n2_; clear n0_ n1_ n2_; have p146 : 0 ≤ (t135 : Int) := of_decide_eq_true (by first | (with_reducible assumption) | assumption); have q146 : t135 < (l0_1.length : Int) := of_decide_eq_true (by first | (with_reducible assumption) | assumption); obtain ⟨ad146, e146, zLK⟩ := Kd.qC HR0_1.out t135 p146 q146; have hw146_0 := zLK; cases e146; replace zLK := (HB.out.cell (World.block_lt_of_cell? w _ zLK)).trans zLK; replace p146 := eq_true p146; replace q146 := eq_true q146; have p147 : 0 ≤ ((ji12) : Int) := of_decide_eq_true (by first | (with_reducible assumption) | assumption); have q147 : (ji12) < (l0_1.length : Int) := of_decide_eq_true (by first | (with_reducible assumption) | assumption); obtain ⟨ad147, e147, zLJ⟩ := Kd.qC HR0_1.out (ji12) p147 q147; have hw147_0 := zLJ; obtain rfl : ad146 = ad147 := (by injection e147); replace zLJ := (HB.out.cell (World.block_lt_of_cell? w _ zLJ)).trans zLJ; replace p147 := eq_true p147; replace q147 := eq_true q147; refine zJS (n := 17) (S := fun w' => w'.cell? ⟨kN, 0, none⟩ = some (.slice A0_0 l0_0.length c0_0) ∧ w'.cell? ⟨kN, 1, none⟩ = some (.slice (some ad146) l0_1.length c0_1) ∧ w'.cell? ⟨kN, 2, none⟩ = some (.slice (some ad137) l0_2.length c0_2) ∧ w'.cell? (ad146.add (t135).toNat) = some (.int .i64 (rd l0_1 t135)) ∧ w'.cell? (ad146.add ((ji12)).toNat) = some (.int .i64 (rd l0_1 (ji12)))) (ds := []) #[false, false, false, false, false, false, false, false, false, false, false, false, false, false, false, false, false] (by kernel_rfl) rfl rfl ⟨(zC qY.out 0).trans rfl, (zC qY.out 1).trans rfl, (zC qY.out 2).trans rfl, ((HB.out.cell (World.block_lt_of_cell? w _ hw146_0)).trans hw146_0), ((HB.out.cell (World.block_lt_of_cell? w _ hw147_0)).trans hw147_0)⟩ (fun hHeld => ?_); refine zCD wT.tab6 wT.bits6 (fun HT_ HW_ => ?_)
                  generalize w36.drew = w37 at qY zBR HB zLK zLJ hHeld ⊢; refine qG (i := 0) (N := some 78) (v := ?_) (a' := ?_) #[true, false, false, false, false, false, false, false, false, false, false, false, false, false, false, false, false] rfl rfl (vG HT_.out (by kernel_rfl)) (fun _ _ _ h => h) (Or.inl ⟨by rfl, ?_⟩) ?_ ?_; rotate_left
                  · intro w'; go_simp; with_reducible rfl
                  rotate_left
                  · simp only [Act.put, sIA, sC0, sCS, wX, vB]; rfl
                  refine qG (i := 1) (N := some 79) (v := ?_) (a' := ?_) #[true, true, false, false, false, false, false, false, false, false, false, false, false, false, false, false, false] rfl rfl (vG HT_.out (by kernel_rfl)) (fun _ _ _ h => h) (Or.inl ⟨by rfl, ?_⟩) ?_ ?_; rotate_left
                  · intro w'; go_simp; with_reducible rfl
                  rotate_left
                  · simp only [Act.put, sIA, sC0, sCS, wX, vB]; rfl
                  refine qG (i := 3) (N := some 81) (v := ?_) (a' := ?_) #[true, true, false, true, false, false, false, false, false, false, false, false, false, false, false, false, false] rfl rfl (vG HT_.out (by kernel_rfl)) (fun _ _ _ h => h) (Or.inl ⟨by rfl, ?_⟩) ?_ ?_; rotate_left
                  · intro w'; go_simp; with_reducible rfl
                  rotate_left
                  · simp only [Act.put, sIA, sC0, sCS, wX, vB]; rfl
                  refine qG (i := 7) (N := some 85) (v := ?_) (a' := ?_) #[true, true, false, true, false, false, false, true, false, false, false, false, false, false, false, false, false] rfl rfl (vG HT_.out (by kernel_rfl)) (fun _ _ _ h => h) (Or.inl ⟨by rfl, ?_⟩) ?_ ?_; rotate_left
                  · intro w'; go_simp; with_reducible rfl
                  rotate_left
                  · simp only [Act.put, sIA, sC0, sCS, wX, vB]; rfl
                  refine qG (i := 9) (N := some 87) (v := ?_) (a' := ?_) #[true, true, false, true, false, false, false, true, false, true, false, false, false, false, false, false, false] rfl rfl (vG HT_.out (by kernel_rfl)) (fun _ _ _ h => h) (Or.inl ⟨by rfl, ?_⟩) ?_ ?_; rotate_left
                  · intro w'; go_simp; with_reducible rfl
                  rotate_left
                  · simp only [Act.put, sIA, sC0, sCS, wX, vB]; rfl
                  refine qG (i := 10) (N := some 88) (v := ?_) (a' := ?_) #[true, true, false, true, false, false, false, true, false, true, true, false, false, false, false, false, false] rfl rfl (vG HT_.out (by kernel_rfl)) (fun _ _ _ h => h) (Or.inl ⟨by rfl, ?_⟩) ?_ ?_; rotate_left
                  · intro w'; go_simp; with_reducible rfl
                  rotate_left
                  · simp only [Act.put, sIA, sC0, sCS, wX, vB]; rfl
                  refine qG (i := 13) (N := some 91) (v := ?_) (a' := ?_) #[true, true, false, true, false, false, false, true, false, true, true, false, false, true, false, false, false] rfl rfl (vG HT_.out (by kernel_rfl)) (fun _ _ _ h => h) (Or.inl ⟨by rfl, ?_⟩) ?_ ?_; rotate_left
                  · intro w'; go_simp; with_reducible rfl
                  rotate_left
                  · simp only [Act.put, sIA, sC0, sCS, wX, vB]; rfl
                  refine kS (i := 2) (N := some 80) (v := ?_) (a' := ?_) #[true, true, true, true, false, false, false, true, false, true, true, false, false, true, false, false, false] rfl rfl (qZ HT_.out HW_.out (by kernel_rfl)) (fun _ _ _ h => h) (Or.inl ⟨by rfl, ?_⟩) hHeld ?_ ?_; rotate_left
                  · rintro w' ⟨s0, s1, s2, s3, s4⟩; go_simp; with_reducible rfl
                  rotate_left
                  · simp only [Act.put, sIA, sC0, sCS, wX, vB]; rfl
                  refine qG (i := 4) (N := some 82) (v := ?_) (a' := ?_) #[true, true, true, true, true, false, false, true, false, true, true, false, false, true, false, false, false] rfl rfl (vG HT_.out (by kernel_rfl)) (fun _ _ _ h => h) (Or.inl ⟨by rfl, ?_⟩) ?_ ?_; rotate_left
                  · intro w'; go_simp; with_reducible rfl
                  rotate_left
                  · simp only [Act.put, sIA, sC0, sCS, wX, vB]; rfl
                  refine kS (i := 5) (N := some 83) (v := ?_) (a' := ?_) #[true, true, true, true, true, true, false, true, false, true, true, false, false, true, false, false, false] rfl rfl (qZ HT_.out HW_.out (by kernel_rfl)) (fun _ _ _ h => h) (Or.inl ⟨by rfl, ?_⟩) hHeld ?_ ?_; rotate_left
                  · rintro w' ⟨s0, s1, s2, s3, s4⟩; go_simp; with_reducible rfl
                  rotate_left
                  · simp only [Act.put, sIA, sC0, sCS, wX, vB]; rfl
                  refine qG (i := 6) (N := some 84) (v := ?_) (a' := ?_) #[true, true, true, true, true, true, true, true, false, true, true, false, false, true, false, false, false] rfl rfl (vG HT_.out (by kernel_rfl)) (fun _ _ _ h => h) (Or.inl ⟨by rfl, ?_⟩) ?_ ?_; rotate_left
                  · intro w'; go_simp; with_reducible rfl
                  rotate_left
                  · simp only [Act.put, sIA, sC0, sCS, wX, vB]; rfl
                  refine qG (i := 15) (N := some 13) (v := ?_) (a' := ?_) #[true, true, true, true, true, true, true, true, false, true, true, false, false, true, false, true, false] rfl rfl (vG HT_.out (by kernel_rfl)) (fun _ _ _ h => h) (Or.inl ⟨by rfl, ?_⟩) ?_ ?_; rotate_left
                  · intro w'; go_simp; with_reducible rfl
                  rotate_left
                  · simp only [Act.put, sIA, sC0, sCS, wX, vB]; rfl
                  refine kS (i := 8) (N := some 86) (v := ?_) (a' := ?_) #[true, true, true, true, true, true, true, true, true, true, true, false, false, true, false, true, false] rfl rfl (qZ HT_.out HW_.out (by kernel_rfl)) (fun _ _ _ h => h) (Or.inl ⟨by rfl, ?_⟩) hHeld ?_ ?_; rotate_left
                  · rintro w' ⟨s0, s1, s2, s3, s4⟩; go_simp; with_reducible rfl
                  rotate_left
                  · simp only [Act.put, sIA, sC0, sCS, wX, vB]; rfl
                  refine qG (i := 11) (N := some 89) (v := ?_) (a' := ?_) #[true, true, true, true, true, true, true, true, true, true, true, true, false, true, false, true, false] rfl rfl (vG HT_.out (by kernel_rfl)) (fun _ _ _ h => h) (Or.inl ⟨by rfl, ?_⟩) ?_ ?_; rotate_left
                  · intro w'; go_simp; with_reducible rfl
                  rotate_left
                  · simp only [Act.put, sIA, sC0, sCS, wX, vB]; rfl
                  refine kS (i := 12) (N := some 90) (v := ?_) (a' := ?_) #[true, true, true, true, true, true, true, true, true, true, true, true, true, true, false, true, false] rfl rfl (qZ HT_.out HW_.out (by kernel_rfl)) (fun _ _ _ h => h) (Or.inl ⟨by rfl, ?_⟩) hHeld ?_ ?_; rotate_left
                  · rintro w' ⟨s0, s1, s2, s3, s4⟩; go_simp; with_reducible rfl
                  rotate_left
                  · simp only [Act.put, sIA, sC0, sCS, wX, vB]; rfl
                  refine qG (i := 14) (N := some 92) (v := ?_) (a' := ?_) #[true, true, true, true, true, true, true, true, true, true, true, true, true, true, true, true, false] rfl rfl (vG HT_.out (by kernel_rfl)) (fun _ _ _ h => h) (Or.inl ⟨by rfl, ?_⟩) ?_ ?_; rotate_left
                  · intro w'; go_simp; with_reducible rfl
                  rotate_left
                  · simp only [Act.put, sIA, sC0, sCS, wX, vB]; rfl
                  refine qG (i := 16) (N := some 14) (v := ?_) (a' := ?_) #[true, true, true, true, true, true, true, true, true, true, true, true, true, true, true, true, true] rfl rfl (vG HT_.out (by kernel_rfl)) (fun _ _ _ h => h) (Or.inl ⟨by rfl, ?_⟩) ?_ ?_; rotate_left
                  · intro w'; go_simp; with_reducible rfl
                  rotate_left
                  · simp only [Act.put, sIA, sC0, sCS, wX, vB]; rfl
                  refine zQU (zFW HT_.out (by kernel_rfl)) ?_; have hnb38 := zGB.out; have hnc38 := yP.out; have hcz39_0 : w37.cell? ⟨yI, 0, none⟩ = some (.int .i64 (rd (zW l0_2 t133) t135)) := (zC zBR.out 0).trans rfl; have hcz39_1 : w37.cell? ⟨yI, 1, none⟩ = some (.int .i64 (rd (zW l0_2 t133) (ji12))) := (zC zBR.out 1).trans rfl; have hcz39_2 : w37.cell? ⟨yI, 2, none⟩ = some (.int .i64 (rd (zW l0_2 (ji15)) t135)) := (zC zBR.out 2).trans rfl; have hcz39_3 : w37.cell? ⟨yI, 3, none⟩ = some (.int .i64 (rd (zW l0_2 (ji15)) (ji12))) := (zC zBR.out 3).trans rfl; have hfz39_0 := zB zBR.out 0; have hfz39_1 := zB zBR.out 1; have hfz39_2 := zB zBR.out 2; have hfz39_3 := zB zBR.out 3; try go_wp2
                  have n0_ := zA.mk (zBW qY.out); have n1_ := zA.mk (zBW zBR.out); have n2_ := zA.mk (kC HB.out); clear qY; clear zBR; clear HB; have qY := n0_; have zBR := n1_; have HB := n2_; clear n0_ n1_ n2_; have p148 : 0 ≤ ((ji15) : Int) := of_decide_eq_true (by first | (with_reducible assumption) | assumption); have q148 : (ji15) < (l0_0.length : Int) := of_decide_eq_true (by first | (with_reducible assumption) | assumption); obtain ⟨ad148, e148, zLI⟩ := Kd.qC HR0_0.out (ji15) p148 q148; have hw148_0 := zLI; cases e148; replace zLI := (HB.out.cell (World.block_lt_of_cell? w _ zLI)).trans zLI; replace p148 := eq_true p148; replace q148 := eq_true q148; have p149 : 0 ≤ (t133 : Int) := of_decide_eq_true (by first | (with_reducible assumption) | assumption); have q149 : t133 < (l0_0.length : Int) := of_decide_eq_true (by first | (with_reducible assumption) | assumption); obtain ⟨ad149, e149, zLH⟩ := Kd.qC HR0_0.out t133 p149 q149; have hw149_0 := zLH; obtain rfl : ad148 = ad149 := (by injection e149); replace zLH := (HB.out.cell (World.block_lt_of_cell? w _ zLH)).trans zLH; replace p149 := eq_true p149; replace q149 := eq_true q149; refine zJS (n := 21) (S := fun w' => w'.cell? ⟨kN, 0, none⟩ = some (.slice (some ad148) l0_0.length c0_0) ∧ w'.cell? ⟨kN, 1, none⟩ = some (.slice (some ad146) l0_1.length c0_1) ∧ w'.cell? ⟨kN, 2, none⟩ = some (.slice (some ad137) l0_2.length c0_2) ∧ w'.cell? (ad148.add ((ji15)).toNat) = some (.int .i64 (rd l0_0 (ji15))) ∧ w'.cell? (ad148.add (t133).toNat) = some (.int .i64 (rd l0_0 t133))) (ds := []) #[false, false, false, false, false, false, false, false, false, false, false, false, false, false, false, false, false, false, false, false, false] (by kernel_rfl) rfl rfl ⟨(zC qY.out 0).trans rfl, (zC qY.out 1).trans rfl, (zC qY.out 2).trans rfl, ((HB.out.cell (World.block_lt_of_cell? w _ hw148_0)).trans hw148_0), ((HB.out.cell (World.block_lt_of_cell? w _ hw149_0)).trans hw149_0)⟩ (fun hHeld => ?_); refine zCD wT.tab9 wT.bits9 (fun HT_ HW_ => ?_)
                  generalize w37.drew = w40 at qY zBR HB zLI zLH hHeld ⊢; refine qG (i := 0) (N := some 115) (v := ?_) (a' := ?_) #[true, false, false, false, false, false, false, false, false, false, false, false, false, false, false, false, false, false, false, false, false] rfl rfl (vG HT_.out (by kernel_rfl)) (fun _ _ _ h => h) (Or.inl ⟨by rfl, ?_⟩) ?_ ?_; rotate_left
                  · intro w'; go_simp; with_reducible rfl
                  rotate_left
                  · simp only [Act.put, sIA, sC0, sCS, wX, vB]; rfl
                  refine qG (i := 2) (N := some 117) (v := ?_) (a' := ?_) #[true, false, true, false, false, false, false, false, false, false, false, false, false, false, false, false, false, false, false, false, false] rfl rfl (vG HT_.out (by kernel_rfl)) (fun _ _ _ h => h) (Or.inl ⟨by rfl, ?_⟩) ?_ ?_; rotate_left
                  · intro w'; go_simp; with_reducible rfl
                  rotate_left
                  · simp only [Act.put, sIA, sC0, sCS, wX, vB]; rfl
                  refine qG (i := 3) (N := some 118) (v := ?_) (a' := ?_) #[true, false, true, true, false, false, false, false, false, false, false, false, false, false, false, false, false, false, false, false, false] rfl rfl (vG HT_.out (by kernel_rfl)) (fun _ _ _ h => h) (Or.inl ⟨by rfl, ?_⟩) ?_ ?_; rotate_left
                  · intro w'; go_simp; with_reducible rfl
                  rotate_left
                  · simp only [Act.put, sIA, sC0, sCS, wX, vB]; rfl
                  refine qG (i := 6) (N := some 121) (v := ?_) (a' := ?_) #[true, false, true, true, false, false, true, false, false, false, false, false, false, false, false, false, false, false, false, false, false] rfl rfl (vG HT_.out (by kernel_rfl)) (fun _ _ _ h => h) (Or.inl ⟨by rfl, ?_⟩) ?_ ?_; rotate_left
                  · intro w'; go_simp; with_reducible rfl
                  rotate_left
                  · simp only [Act.put, sIA, sC0, sCS, wX, vB]; rfl
                  refine qG (i := 8) (N := some 123) (v := ?_) (a' := ?_) #[true, false, true, true, false, false, true, false, true, false, false, false, false, false, false, false, false, false, false, false, false] rfl rfl (vG HT_.out (by kernel_rfl)) (fun _ _ _ h => h) (Or.inl ⟨by rfl, ?_⟩) ?_ ?_; rotate_left
                  · intro w'; go_simp; with_reducible rfl
                  rotate_left
                  · simp only [Act.put, sIA, sC0, sCS, wX, vB]; rfl
                  refine qG (i := 10) (N := some 125) (v := ?_) (a' := ?_) #[true, false, true, true, false, false, true, false, true, false, true, false, false, false, false, false, false, false, false, false, false] rfl rfl (vG HT_.out (by kernel_rfl)) (fun _ _ _ h => h) (Or.inl ⟨by rfl, ?_⟩) ?_ ?_; rotate_left
                  · intro w'; go_simp; with_reducible rfl
                  rotate_left
                  · simp only [Act.put, sIA, sC0, sCS, wX, vB]; rfl
                  refine qG (i := 11) (N := some 126) (v := ?_) (a' := ?_) #[true, false, true, true, false, false, true, false, true, false, true, true, false, false, false, false, false, false, false, false, false] rfl rfl (vG HT_.out (by kernel_rfl)) (fun _ _ _ h => h) (Or.inl ⟨by rfl, ?_⟩) ?_ ?_; rotate_left
                  · intro w'; go_simp; with_reducible rfl
                  rotate_left
                  · simp only [Act.put, sIA, sC0, sCS, wX, vB]; rfl
                  refine qG (i := 13) (N := some 128) (v := ?_) (a' := ?_) #[true, false, true, true, false, false, true, false, true, false, true, true, false, true, false, false, false, false, false, false, false] rfl rfl (vG HT_.out (by kernel_rfl)) (fun _ _ _ h => h) (Or.inl ⟨by rfl, ?_⟩) ?_ ?_; rotate_left
                  · intro w'; go_simp; with_reducible rfl
                  rotate_left
                  · simp only [Act.put, sIA, sC0, sCS, wX, vB]; rfl
                  refine qG (i := 17) (N := some 132) (v := ?_) (a' := ?_) #[true, false, true, true, false, false, true, false, true, false, true, true, false, true, false, false, false, true, false, false, false] rfl rfl (vG HT_.out (by kernel_rfl)) (fun _ _ _ h => h) (Or.inl ⟨by rfl, ?_⟩) ?_ ?_; rotate_left
                  · intro w'; go_simp; with_reducible rfl
                  rotate_left
                  · simp only [Act.put, sIA, sC0, sCS, wX, vB]; rfl
                  refine kS (i := 1) (N := some 116) (v := ?_) (a' := ?_) #[true, true, true, true, false, false, true, false, true, false, true, true, false, true, false, false, false, true, false, false, false] rfl rfl (qZ HT_.out HW_.out (by kernel_rfl)) (fun _ _ _ h => h) (Or.inl ⟨by rfl, ?_⟩) hHeld ?_ ?_; rotate_left
                  · rintro w' ⟨s0, s1, s2, s3, s4⟩; go_simp; with_reducible rfl
                  rotate_left
                  · simp only [Act.put, sIA, sC0, sCS, wX, vB]; rfl
                  refine qG (i := 4) (N := some 119) (v := ?_) (a' := ?_) #[true, true, true, true, true, false, true, false, true, false, true, true, false, true, false, false, false, true, false, false, false] rfl rfl (vG HT_.out (by kernel_rfl)) (fun _ _ _ h => h) (Or.inl ⟨by rfl, ?_⟩) ?_ ?_; rotate_left
                  · intro w'; go_simp; with_reducible rfl
                  rotate_left
                  · simp only [Act.put, sIA, sC0, sCS, wX, vB]; rfl
                  refine kS (i := 5) (N := some 120) (v := ?_) (a' := ?_) #[true, true, true, true, true, true, true, false, true, false, true, true, false, true, false, false, false, true, false, false, false] rfl rfl (qZ HT_.out HW_.out (by kernel_rfl)) (fun _ _ _ h => h) (Or.inl ⟨by rfl, ?_⟩) hHeld ?_ ?_; rotate_left
                  · rintro w' ⟨s0, s1, s2, s3, s4⟩; go_simp; with_reducible rfl
                  rotate_left
                  · simp only [Act.put, sIA, sC0, sCS, wX, vB]; rfl
                  refine qG (i := 7) (N := some 122) (v := ?_) (a' := ?_) #[true, true, true, true, true, true, true, true, true, false, true, true, false, true, false, false, false, true, false, false, false] rfl rfl (vG HT_.out (by kernel_rfl)) (fun _ _ _ h => h) (Or.inl ⟨by rfl, ?_⟩) ?_ ?_; rotate_left
                  · intro w'; go_simp; with_reducible rfl
                  rotate_left
                  · simp only [Act.put, sIA, sC0, sCS, wX, vB]; rfl
                  refine qG (i := 9) (N := some 124) (v := ?_) (a' := ?_) #[true, true, true, true, true, true, true, true, true, true, true, true, false, true, false, false, false, true, false, false, false] rfl rfl (vG HT_.out (by kernel_rfl)) (fun _ _ _ h => h) (Or.inl ⟨by rfl, ?_⟩) ?_ ?_; rotate_left
                  · intro w'; go_simp; with_reducible rfl
                  rotate_left
                  · simp only [Act.put, sIA, sC0, sCS, wX, vB]; rfl
                  refine kS (i := 12) (N := some 127) (v := ?_) (a' := ?_) #[true, true, true, true, true, true, true, true, true, true, true, true, true, true, false, false, false, true, false, false, false] rfl rfl (qZ HT_.out HW_.out (by kernel_rfl)) (fun _ _ _ h => h) (Or.inl ⟨by rfl, ?_⟩) hHeld ?_ ?_; rotate_left
                  · rintro w' ⟨s0, s1, s2, s3, s4⟩; go_simp; with_reducible rfl
                  rotate_left
                  · simp only [Act.put, sIA, sC0, sCS, wX, vB]; rfl
                  refine qG (i := 14) (N := some 129) (v := ?_) (a' := ?_) #[true, true, true, true, true, true, true, true, true, true, true, true, true, true, true, false, false, true, false, false, false] rfl rfl (vG HT_.out (by kernel_rfl)) (fun _ _ _ h => h) (Or.inl ⟨by rfl, ?_⟩) ?_ ?_; rotate_left
                  · intro w'; go_simp; with_reducible rfl
                  rotate_left
                  · simp only [Act.put, sIA, sC0, sCS, wX, vB]; rfl
                  refine kS (i := 15) (N := some 130) (v := ?_) (a' := ?_) #[true, true, true, true, true, true, true, true, true, true, true, true, true, true, true, true, false, true, false, false, false] rfl rfl (qZ HT_.out HW_.out (by kernel_rfl)) (fun _ _ _ h => h) (Or.inl ⟨by rfl, ?_⟩) hHeld ?_ ?_; rotate_left
                  · rintro w' ⟨s0, s1, s2, s3, s4⟩; go_simp; with_reducible rfl
                  rotate_left
                  · simp only [Act.put, sIA, sC0, sCS, wX, vB]; rfl
                  refine qG (i := 16) (N := some 131) (v := ?_) (a' := ?_) #[true, true, true, true, true, true, true, true, true, true, true, true, true, true, true, true, true, true, false, false, false] rfl rfl (vG HT_.out (by kernel_rfl)) (fun _ _ _ h => h) (Or.inl ⟨by rfl, ?_⟩) ?_ ?_; rotate_left
                  · intro w'; go_simp; with_reducible rfl
                  rotate_left
                  · simp only [Act.put, sIA, sC0, sCS, wX, vB]; rfl
                  refine qG (i := 18) (N := some 133) (v := ?_) (a' := ?_) #[true, true, true, true, true, true, true, true, true, true, true, true, true, true, true, true, true, true, true, false, false] rfl rfl (vG HT_.out (by kernel_rfl)) (fun _ _ _ h => h) (Or.inl ⟨by rfl, ?_⟩) ?_ ?_; rotate_left
                  · intro w'; go_simp; with_reducible rfl
                  rotate_left
                  · simp only [Act.put, sIA, sC0, sCS, wX, vB]; rfl
                  refine qG (i := 19) (N := some 134) (v := ?_) (a' := ?_) #[true, true, true, true, true, true, true, true, true, true, true, true, true, true, true, true, true, true, true, true, false] rfl rfl (vG HT_.out (by kernel_rfl)) (fun _ _ _ h => h) (Or.inl ⟨by rfl, ?_⟩) ?_ ?_; rotate_left
                  · intro w'; go_simp; with_reducible rfl
                  rotate_left
                  · simp only [Act.put, sIA, sC0, sCS, wX, vB]; rfl
                  refine qG (i := 20) (N := some 17) (v := ?_) (a' := ?_) #[true, true, true, true, true, true, true, true, true, true, true, true, true, true, true, true, true, true, true, true, true] rfl rfl (vG HT_.out (by kernel_rfl)) (fun _ _ _ h => h) (Or.inl ⟨by rfl, ?_⟩) ?_ ?_; rotate_left
                  · intro w'; go_simp; with_reducible rfl
                  rotate_left
                  · simp only [Act.put, sIA, sC0, sCS, wX, vB]; rfl
                  refine zQU (zFW HT_.out (by kernel_rfl)) ?_; try go_wp2
                  have n0_ := zA.mk (zBW qY.out); have n1_ := zA.mk (zBW zBR.out); have n2_ := zA.mk (kC HB.out); clear qY; clear zBR; clear HB; have qY := n0_; have zBR := n1_; have HB := n2_; clear n0_ n1_ n2_; have p150 : 0 ≤ ((ji15) : Int) := of_decide_eq_true (by first | (with_reducible assumption) | assumption); have q150 : (ji15) < (l0_0.length : Int) := of_decide_eq_true (by first | (with_reducible assumption) | assumption); obtain ⟨ad150, e150, zLG⟩ := Kd.qC HR0_0.out (ji15) p150 q150; have hw150_0 := zLG; obtain rfl : ad148 = ad150 := (by injection e150); replace zLG := (HB.out.cell (World.block_lt_of_cell? w _ zLG)).trans zLG; replace p150 := eq_true p150; replace q150 := eq_true q150; have p151 : 0 ≤ (t133 : Int) := of_decide_eq_true (by first | (with_reducible assumption) | assumption); have q151 : t133 < (l0_0.length : Int) := of_decide_eq_true (by first | (with_reducible assumption) | assumption); obtain ⟨ad151, e151, zLF⟩ := Kd.qC HR0_0.out t133 p151 q151; have hw151_0 := zLF; obtain rfl : ad148 = ad151 := (by injection e151); replace zLF := (HB.out.cell (World.block_lt_of_cell? w _ zLF)).trans zLF; replace p151 := eq_true p151; replace q151 := eq_true q151; have p152 : 0 ≤ ((ji12) : Int) := of_decide_eq_true (by first | (with_reducible assumption) | assumption); have q152 : (ji12) < (l0_1.length : Int) := of_decide_eq_true (by first | (with_reducible assumption) | assumption); obtain ⟨ad152, e152, zLE⟩ := Kd.qC HR0_1.out (ji12) p152 q152; have hw152_0 := zLE; obtain rfl : ad146 = ad152 := (by injection e152); replace zLE := (HB.out.cell (World.block_lt_of_cell? w _ zLE)).trans zLE; replace p152 := eq_true p152; replace q152 := eq_true q152; have p153 : 0 ≤ (t135 : Int) := of_decide_eq_true (by first | (with_reducible assumption) | assumption); have q153 : t135 < (l0_1.length : Int) := of_decide_eq_true (by first | (with_reducible assumption) | assumption); obtain ⟨ad153, e153, zLD⟩ := Kd.qC HR0_1.out t135 p153 q153; have hw153_0 := zLD; obtain rfl : ad146 = ad153 := (by injection e153); replace zLD := (HB.out.cell (World.block_lt_of_cell? w _ zLD)).trans zLD; replace p153 := eq_true p153; replace q153 := eq_true q153; refine zJS (n := 26) (S := fun w' => w'.cell? ⟨kN, 0, none⟩ = some (.slice (some ad148) l0_0.length c0_0) ∧ w'.cell? ⟨kN, 1, none⟩ = some (.slice (some ad146) l0_1.length c0_1) ∧ w'.cell? ⟨kN, 2, none⟩ = some (.slice (some ad137) l0_2.length c0_2) ∧ w'.cell? (ad148.add ((ji15)).toNat) = some (.int .i64 (rd l0_0 (ji15))) ∧ w'.cell? (ad148.add (t133).toNat) = some (.int .i64 (rd l0_0 t133)) ∧ w'.cell? (ad146.add ((ji12)).toNat) = some (.int .i64 (rd l0_1 (ji12))) ∧ w'.cell? (ad146.add (t135).toNat) = some (.int .i64 (rd l0_1 t135))) (ds := []) #[false, false, false, false, false, false, false, false, false, false, false, false, false, false, false, false, false, false, false, false, false, false, false, false, false, false] (by kernel_rfl) rfl rfl ⟨(zC qY.out 0).trans rfl, (zC qY.out 1).trans rfl, (zC qY.out 2).trans rfl, ((HB.out.cell (World.block_lt_of_cell? w _ hw150_0)).trans hw150_0), ((HB.out.cell (World.block_lt_of_cell? w _ hw151_0)).trans hw151_0), ((HB.out.cell (World.block_lt_of_cell? w _ hw152_0)).trans hw152_0), ((HB.out.cell (World.block_lt_of_cell? w _ hw153_0)).trans hw153_0)⟩ (fun hHeld => ?_); refine zCD wT.tab10 wT.bits10 (fun HT_ HW_ => ?_)
                  generalize w40.drew = w41 at qY zBR HB zLG zLF zLE zLD hHeld ⊢; refine qG (i := 0) (N := some 135) (v := ?_) (a' := ?_) #[true, false, false, false, false, false, false, false, false, false, false, false, false, false, false, false, false, false, false, false, false, false, false, false, false, false] rfl rfl (vG HT_.out (by kernel_rfl)) (fun _ _ _ h => h) (Or.inl ⟨by rfl, ?_⟩) ?_ ?_; rotate_left
                  · intro w'; go_simp; with_reducible rfl
                  rotate_left
                  · simp only [Act.put, sIA, sC0, sCS, wX, vB]; rfl
                  refine qG (i := 2) (N := some 137) (v := ?_) (a' := ?_) #[true, false, true, false, false, false, false, false, false, false, false, false, false, false, false, false, false, false, false, false, false, false, false, false, false, false] rfl rfl (vG HT_.out (by kernel_rfl)) (fun _ _ _ h => h) (Or.inl ⟨by rfl, ?_⟩) ?_ ?_; rotate_left
                  · intro w'; go_simp; with_reducible rfl
                  rotate_left
                  · simp only [Act.put, sIA, sC0, sCS, wX, vB]; rfl
                  refine qG (i := 3) (N := some 138) (v := ?_) (a' := ?_) #[true, false, true, true, false, false, false, false, false, false, false, false, false, false, false, false, false, false, false, false, false, false, false, false, false, false] rfl rfl (vG HT_.out (by kernel_rfl)) (fun _ _ _ h => h) (Or.inl ⟨by rfl, ?_⟩) ?_ ?_; rotate_left
                  · intro w'; go_simp; with_reducible rfl
                  rotate_left
                  · simp only [Act.put, sIA, sC0, sCS, wX, vB]; rfl
                  refine qG (i := 6) (N := some 141) (v := ?_) (a' := ?_) #[true, false, true, true, false, false, true, false, false, false, false, false, false, false, false, false, false, false, false, false, false, false, false, false, false, false] rfl rfl (vG HT_.out (by kernel_rfl)) (fun _ _ _ h => h) (Or.inl ⟨by rfl, ?_⟩) ?_ ?_; rotate_left
                  · intro w'; go_simp; with_reducible rfl
                  rotate_left
                  · simp only [Act.put, sIA, sC0, sCS, wX, vB]; rfl
                  refine qG (i := 8) (N := some 143) (v := ?_) (a' := ?_) #[true, false, true, true, false, false, true, false, true, false, false, false, false, false, false, false, false, false, false, false, false, false, false, false, false, false] rfl rfl (vG HT_.out (by kernel_rfl)) (fun _ _ _ h => h) (Or.inl ⟨by rfl, ?_⟩) ?_ ?_; rotate_left
                  · intro w'; go_simp; with_reducible rfl
                  rotate_left
                  · simp only [Act.put, sIA, sC0, sCS, wX, vB]; rfl
                  refine qG (i := 12) (N := some 147) (v := ?_) (a' := ?_) #[true, false, true, true, false, false, true, false, true, false, false, false, true, false, false, false, false, false, false, false, false, false, false, false, false, false] rfl rfl (vG HT_.out (by kernel_rfl)) (fun _ _ _ h => h) (Or.inl ⟨by rfl, ?_⟩) ?_ ?_; rotate_left
                  · intro w'; go_simp; with_reducible rfl
                  rotate_left
                  · simp only [Act.put, sIA, sC0, sCS, wX, vB]; rfl
                  refine qG (i := 14) (N := some 149) (v := ?_) (a' := ?_) #[true, false, true, true, false, false, true, false, true, false, false, false, true, false, true, false, false, false, false, false, false, false, false, false, false, false] rfl rfl (vG HT_.out (by kernel_rfl)) (fun _ _ _ h => h) (Or.inl ⟨by rfl, ?_⟩) ?_ ?_; rotate_left
                  · intro w'; go_simp; with_reducible rfl
                  rotate_left
                  · simp only [Act.put, sIA, sC0, sCS, wX, vB]; rfl
                  refine qG (i := 15) (N := some 150) (v := ?_) (a' := ?_) #[true, false, true, true, false, false, true, false, true, false, false, false, true, false, true, true, false, false, false, false, false, false, false, false, false, false] rfl rfl (vG HT_.out (by kernel_rfl)) (fun _ _ _ h => h) (Or.inl ⟨by rfl, ?_⟩) ?_ ?_; rotate_left
                  · intro w'; go_simp; with_reducible rfl
                  rotate_left
                  · simp only [Act.put, sIA, sC0, sCS, wX, vB]; rfl
                  refine qG (i := 18) (N := some 153) (v := ?_) (a' := ?_) #[true, false, true, true, false, false, true, false, true, false, false, false, true, false, true, true, false, false, true, false, false, false, false, false, false, false] rfl rfl (vG HT_.out (by kernel_rfl)) (fun _ _ _ h => h) (Or.inl ⟨by rfl, ?_⟩) ?_ ?_; rotate_left
                  · intro w'; go_simp; with_reducible rfl
                  rotate_left
                  · simp only [Act.put, sIA, sC0, sCS, wX, vB]; rfl
                  refine qG (i := 20) (N := some 155) (v := ?_) (a' := ?_) #[true, false, true, true, false, false, true, false, true, false, false, false, true, false, true, true, false, false, true, false, true, false, false, false, false, false] rfl rfl (vG HT_.out (by kernel_rfl)) (fun _ _ _ h => h) (Or.inl ⟨by rfl, ?_⟩) ?_ ?_; rotate_left
                  · intro w'; go_simp; with_reducible rfl
                  rotate_left
                  · simp only [Act.put, sIA, sC0, sCS, wX, vB]; rfl
                  refine kS (i := 1) (N := some 136) (v := ?_) (a' := ?_) #[true, true, true, true, false, false, true, false, true, false, false, false, true, false, true, true, false, false, true, false, true, false, false, false, false, false] rfl rfl (qZ HT_.out HW_.out (by kernel_rfl)) (fun _ _ _ h => h) (Or.inl ⟨by rfl, ?_⟩) hHeld ?_ ?_; rotate_left
                  · rintro w' ⟨s0, s1, s2, s3, s4, s5, s6⟩; go_simp; with_reducible rfl
                  rotate_left
                  · simp only [Act.put, sIA, sC0, sCS, wX, vB]; rfl
                  refine qG (i := 4) (N := some 139) (v := ?_) (a' := ?_) #[true, true, true, true, true, false, true, false, true, false, false, false, true, false, true, true, false, false, true, false, true, false, false, false, false, false] rfl rfl (vG HT_.out (by kernel_rfl)) (fun _ _ _ h => h) (Or.inl ⟨by rfl, ?_⟩) ?_ ?_; rotate_left
                  · intro w'; go_simp; with_reducible rfl
                  rotate_left
                  · simp only [Act.put, sIA, sC0, sCS, wX, vB]; rfl
                  refine kS (i := 5) (N := some 140) (v := ?_) (a' := ?_) #[true, true, true, true, true, true, true, false, true, false, false, false, true, false, true, true, false, false, true, false, true, false, false, false, false, false] rfl rfl (qZ HT_.out HW_.out (by kernel_rfl)) (fun _ _ _ h => h) (Or.inl ⟨by rfl, ?_⟩) hHeld ?_ ?_; rotate_left
                  · rintro w' ⟨s0, s1, s2, s3, s4, s5, s6⟩; go_simp; with_reducible rfl
                  rotate_left
                  · simp only [Act.put, sIA, sC0, sCS, wX, vB]; rfl
                  refine kS (i := 7) (N := some 142) (v := ?_) (a' := ?_) #[true, true, true, true, true, true, true, true, true, false, false, false, true, false, true, true, false, false, true, false, true, false, false, false, false, false] rfl rfl (qZ HT_.out HW_.out (by kernel_rfl)) (fun _ _ _ h => h) (Or.inl ⟨by rfl, ?_⟩) hHeld ?_ ?_; rotate_left
                  · rintro w' ⟨s0, s1, s2, s3, s4, s5, s6⟩; go_simp; with_reducible rfl
                  rotate_left
                  · simp only [Act.put, sIA, sC0, sCS, wX, vB]; rfl
                  refine qG (i := 9) (N := some 144) (v := ?_) (a' := ?_) #[true, true, true, true, true, true, true, true, true, true, false, false, true, false, true, true, false, false, true, false, true, false, false, false, false, false] rfl rfl (vG HT_.out (by kernel_rfl)) (fun _ _ _ h => h) (Or.inl ⟨by rfl, ?_⟩) ?_ ?_; rotate_left
                  · intro w'; go_simp; with_reducible rfl
                  rotate_left
                  · simp only [Act.put, sIA, sC0, sCS, wX, vB]; rfl
                  refine kS (i := 10) (N := some 145) (v := ?_) (a' := ?_) #[true, true, true, true, true, true, true, true, true, true, true, false, true, false, true, true, false, false, true, false, true, false, false, false, false, false] rfl rfl (qZ HT_.out HW_.out (by kernel_rfl)) (fun _ _ _ h => h) (Or.inl ⟨by rfl, ?_⟩) hHeld ?_ ?_; rotate_left
                  · rintro w' ⟨s0, s1, s2, s3, s4, s5, s6⟩; go_simp; with_reducible rfl
                  rotate_left
                  · simp only [Act.put, sIA, sC0, sCS, wX, vB]; rfl
                  refine qG (i := 11) (N := some 146) (v := ?_) (a' := ?_) #[true, true, true, true, true, true, true, true, true, true, true, true, true, false, true, true, false, false, true, false, true, false, false, false, false, false] rfl rfl (vG HT_.out (by kernel_rfl)) (fun _ _ _ h => h) (Or.inl ⟨by rfl, ?_⟩) ?_ ?_; rotate_left
                  · intro w'; go_simp; with_reducible rfl
                  rotate_left
                  · simp only [Act.put, sIA, sC0, sCS, wX, vB]; rfl
                  refine kS (i := 13) (N := some 148) (v := ?_) (a' := ?_) #[true, true, true, true, true, true, true, true, true, true, true, true, true, true, true, true, false, false, true, false, true, false, false, false, false, false] rfl rfl (qZ HT_.out HW_.out (by kernel_rfl)) (fun _ _ _ h => h) (Or.inl ⟨by rfl, ?_⟩) hHeld ?_ ?_; rotate_left
                  · rintro w' ⟨s0, s1, s2, s3, s4, s5, s6⟩; go_simp; with_reducible rfl
                  rotate_left
                  · simp only [Act.put, sIA, sC0, sCS, wX, vB]; rfl
                  refine qG (i := 16) (N := some 151) (v := ?_) (a' := ?_) #[true, true, true, true, true, true, true, true, true, true, true, true, true, true, true, true, true, false, true, false, true, false, false, false, false, false] rfl rfl (vG HT_.out (by kernel_rfl)) (fun _ _ _ h => h) (Or.inl ⟨by rfl, ?_⟩) ?_ ?_; rotate_left
                  · intro w'; go_simp; with_reducible rfl
                  rotate_left
                  · simp only [Act.put, sIA, sC0, sCS, wX, vB]; rfl
                  refine kS (i := 17) (N := some 152) (v := ?_) (a' := ?_) #[true, true, true, true, true, true, true, true, true, true, true, true, true, true, true, true, true, true, true, false, true, false, false, false, false, false] rfl rfl (qZ HT_.out HW_.out (by kernel_rfl)) (fun _ _ _ h => h) (Or.inl ⟨by rfl, ?_⟩) hHeld ?_ ?_; rotate_left
                  · rintro w' ⟨s0, s1, s2, s3, s4, s5, s6⟩; go_simp; with_reducible rfl
                  rotate_left
                  · simp only [Act.put, sIA, sC0, sCS, wX, vB]; rfl
                  refine kS (i := 19) (N := some 154) (v := ?_) (a' := ?_) #[true, true, true, true, true, true, true, true, true, true, true, true, true, true, true, true, true, true, true, true, true, false, false, false, false, false] rfl rfl (qZ HT_.out HW_.out (by kernel_rfl)) (fun _ _ _ h => h) (Or.inl ⟨by rfl, ?_⟩) hHeld ?_ ?_; rotate_left
                  · rintro w' ⟨s0, s1, s2, s3, s4, s5, s6⟩; go_simp; with_reducible rfl
                  rotate_left
                  · simp only [Act.put, sIA, sC0, sCS, wX, vB]; rfl
                  refine qG (i := 21) (N := some 156) (v := ?_) (a' := ?_) #[true, true, true, true, true, true, true, true, true, true, true, true, true, true, true, true, true, true, true, true, true, true, false, false, false, false] rfl rfl (vG HT_.out (by kernel_rfl)) (fun _ _ _ h => h) (Or.inl ⟨by rfl, ?_⟩) ?_ ?_; rotate_left
                  · intro w'; go_simp; with_reducible rfl
                  rotate_left
                  · simp only [Act.put, sIA, sC0, sCS, wX, vB]; rfl
                  refine kS (i := 22) (N := some 157) (v := ?_) (a' := ?_) #[true, true, true, true, true, true, true, true, true, true, true, true, true, true, true, true, true, true, true, true, true, true, true, false, false, false] rfl rfl (qZ HT_.out HW_.out (by kernel_rfl)) (fun _ _ _ h => h) (Or.inl ⟨by rfl, ?_⟩) hHeld ?_ ?_; rotate_left
                  · rintro w' ⟨s0, s1, s2, s3, s4, s5, s6⟩; go_simp; with_reducible rfl
                  rotate_left
                  · simp only [Act.put, sIA, sC0, sCS, wX, vB]; rfl
                  refine qG (i := 23) (N := some 158) (v := ?_) (a' := ?_) #[true, true, true, true, true, true, true, true, true, true, true, true, true, true, true, true, true, true, true, true, true, true, true, true, false, false] rfl rfl (vG HT_.out (by kernel_rfl)) (fun _ _ _ h => h) (Or.inl ⟨by rfl, ?_⟩) ?_ ?_; rotate_left
                  · intro w'; go_simp; with_reducible rfl
                  rotate_left
                  · simp only [Act.put, sIA, sC0, sCS, wX, vB]; rfl
                  refine qG (i := 24) (N := some 159) (v := ?_) (a' := ?_) #[true, true, true, true, true, true, true, true, true, true, true, true, true, true, true, true, true, true, true, true, true, true, true, true, true, false] rfl rfl (vG HT_.out (by kernel_rfl)) (fun _ _ _ h => h) (Or.inl ⟨by rfl, ?_⟩) ?_ ?_; rotate_left
                  · intro w'; go_simp; with_reducible rfl
                  rotate_left
                  · simp only [Act.put, sIA, sC0, sCS, wX, vB]; rfl
                  refine qG (i := 25) (N := some 18) (v := ?_) (a' := ?_) #[true, true, true, true, true, true, true, true, true, true, true, true, true, true, true, true, true, true, true, true, true, true, true, true, true, true] rfl rfl (vG HT_.out (by kernel_rfl)) (fun _ _ _ h => h) (Or.inl ⟨by rfl, ?_⟩) ?_ ?_; rotate_left
                  · intro w'; go_simp; with_reducible rfl
                  rotate_left
                  · simp only [Act.put, sIA, sC0, sCS, wX, vB]; rfl
                  refine zQU (zFW HT_.out (by kernel_rfl)) ?_; try go_wp2
                  go_ret2
                  exact ⟨by first | rfl | (simp [zI, zH] <;> rfl) | (simp only [← hji12, ← hji15]; first | rfl | (simp [zI, zH] <;> rfl)) | (simp [*, zI, zH] <;> rfl), eG HB.out⟩
                · rw [if_neg c23] at H; exact absurd H (by simp)
               · rw [if_neg c22] at H; exact absurd H (by simp)
              · rw [if_neg c21] at H; exact absurd H (by simp)
             · rw [if_neg c20] at H; exact absurd H (by simp)
            · rw [if_neg c19] at H; exact absurd H (by simp)
           · rw [if_neg c18] at H; exact absurd H (by simp)
          · rw [if_neg c17] at H; exact absurd H (by simp)
         · rw [if_neg c16] at H; exact absurd H (by simp)
        · rw [if_neg c14] at H; exact absurd H (by simp)
       · rw [if_neg c13] at H; exact absurd H (by simp)
      · rw [if_neg c11] at H; exact absurd H (by simp)
     · rw [if_neg c10] at H; exact absurd H (by simp)
    · rw [if_neg c9] at H; exact absurd H (by simp)
   · rw [if_neg c8] at H; exact absurd H (by simp)
  ·
   replace c7 := Bool.eq_false_iff.mpr c7; subst c7; replace H : (some (0, false)) = some (r1, r2) := by rw [if_neg (show ¬ (false = true) by decide)] at H; exact H
   simp only [Option.some.injEq, Prod.mk.injEq] at H; obtain ⟨rfl, rfl⟩ := H; go_enter Tryd.func26, Tryd.ntmps26
   go_wp2_with (first | ((with_reducible refine vH (N := 3) rfl ?_); refine vD ?hg (N := 3) ?hd (cs := #[.slice A0_0 l0_0.length c0_0, .slice A0_1 l0_1.length c0_1, .slice A0_2 l0_2.length c0_2]) (t := 25) ?hr ?_; (case hd => rfl); (case hg => rfl); (case hr => first | (go_simp; done) | (go_simp; rfl)); intro kN hg w42 hbox hb; have n0_ := zA.mk (zG (eG HB.out) hb); have n1_ := zA.mk (hbox); have n2_ := zA.mk ((by rw [hg]; exact (zD (eG HB.out)) : w.heap.size ≤ kN)); have n3_ := zA.mk ((by rw [hg]; exact (zD (eG HB.out)) : w.heap.size ≤ kN)); clear HB; have HB := n0_; have qY := n1_; have GW132 := n2_; have zYP := n3_; have ig132_ := geI zYP; clear n0_ n1_ n2_ n3_; clear hb hbox hg; have zXE : w42.cell? ⟨kN, 0, none⟩ = some (.slice A0_0 l0_0.length c0_0) := (zC qY.out 0).trans rfl; have zXD : w42.cell? ⟨kN, 1, none⟩ = some (.slice A0_1 l0_1.length c0_1) := (zC qY.out 1).trans rfl; have hcz43_2 : w42.cell? ⟨kN, 2, none⟩ = some (.slice A0_2 l0_2.length c0_2) := (zC qY.out 2).trans rfl; have zWN := zB qY.out 0; have zWM := zB qY.out 1; have hfz43_2 := zB qY.out 2) | ((with_reducible refine zQ (f := 31) rfl ?_); refine vN (some 23) rfl rfl Tryd.func31 (by kernel_rfl) rfl #[.slice A0_0 l0_0.length c0_0, .int .i64 a1] rfl (by (try simp only [List.map_toArray, List.map_cons, List.map_nil]); first | done | rfl | (simp only [List.length_drop, List.length_take]; rfl)) ?_; (with_reducible refine (qU.calls k _ _ l0_0 a1 t133 true _ ?side1 ?side2 A4.out).mono ?_); (case side1 => repeat (first | exact (Kd.zX HR0_0.out HB.out) | (with_reducible refine Kd.zP ?_ _) | (with_reducible refine Kd.zO ?_ _) | (with_reducible refine Kd.zY ?_))); (case side2 => exact HC0_0.out); rintro e w44 ⟨rfl, hb⟩; refine ⟨_, rfl, ?_⟩; have n0_ := zA.mk (zM (bG qY.out) hb); have n1_ := zA.mk (zG (eG HB.out) hb); clear qY; clear HB; have qY := n0_; have HB := n1_; clear n0_ n1_; (try clear hb); (try clear hb2); (try clear hk); (try clear hi); have hcz45_0 : w44.cell? ⟨kN, 0, none⟩ = some (.slice A0_0 l0_0.length c0_0) := (zC qY.out 0).trans rfl; have hcz45_1 : w44.cell? ⟨kN, 1, none⟩ = some (.slice A0_1 l0_1.length c0_1) := (zC qY.out 1).trans rfl; have hcz45_2 : w44.cell? ⟨kN, 2, none⟩ = some (.slice A0_2 l0_2.length c0_2) := (zC qY.out 2).trans rfl; have hfz45_0 := zB qY.out 0; have hfz45_1 := zB qY.out 1; have hfz45_2 := zB qY.out 2) | ((with_reducible refine zQ (f := 31) rfl ?_); refine vN (some 30) rfl rfl Tryd.func31 (by kernel_rfl) rfl #[.slice A0_1 l0_1.length c0_1, .int .i64 a2] rfl (by (try simp only [List.map_toArray, List.map_cons, List.map_nil]); first | done | rfl | (simp only [List.length_drop, List.length_take]; rfl)) ?_; (with_reducible refine (qU.calls k _ _ l0_1 a2 t135 false _ ?side1 ?side2 A5.out).mono ?_); (case side1 => repeat (first | exact (Kd.zX HR0_1.out HB.out) | (with_reducible refine Kd.zP ?_ _) | (with_reducible refine Kd.zO ?_ _) | (with_reducible refine Kd.zY ?_))); (case side2 => exact HC0_1.out); rintro e w46 ⟨rfl, hb⟩; refine ⟨_, rfl, ?_⟩; have n0_ := zA.mk (zM (bG qY.out) hb); have n1_ := zA.mk (zG (eG HB.out) hb); clear qY; clear HB; have qY := n0_; have HB := n1_; clear n0_ n1_; (try clear hb); (try clear hb2); (try clear hk); (try clear hi)))
   go_ret2
   exact ⟨by first | rfl | (simp [zI, zH] <;> rfl) | (simp [*, zI, zH] <;> rfl), eG HB.out⟩
 ·
  replace c6 := Bool.eq_false_iff.mpr c6; subst c6; replace H : (some (0, false)) = some (r1, r2) := by rw [if_neg (show ¬ (false = true) by decide)] at H; exact H
  simp only [Option.some.injEq, Prod.mk.injEq] at H; obtain ⟨rfl, rfl⟩ := H; go_enter Tryd.func26, Tryd.ntmps26
  go_wp2_with (first | ((with_reducible refine vH (N := 3) rfl ?_); refine vD ?hg (N := 3) ?hd (cs := #[.slice A0_0 l0_0.length c0_0, .slice A0_1 l0_1.length c0_1, .slice A0_2 l0_2.length c0_2]) (t := 25) ?hr ?_; (case hd => rfl); (case hg => rfl); (case hr => first | (go_simp; done) | (go_simp; rfl)); intro kN hg w47 hbox hb; have n0_ := zA.mk (zG (eG HB.out) hb); have n1_ := zA.mk (hbox); have n2_ := zA.mk ((by rw [hg]; exact (zD (eG HB.out)) : w.heap.size ≤ kN)); have n3_ := zA.mk ((by rw [hg]; exact (zD (eG HB.out)) : w.heap.size ≤ kN)); clear HB; have HB := n0_; have qY := n1_; have GW132 := n2_; have zYP := n3_; have ig132_ := geI zYP; clear n0_ n1_ n2_ n3_; clear hb hbox hg; have hcz48_0 : w47.cell? ⟨kN, 0, none⟩ = some (.slice A0_0 l0_0.length c0_0) := (zC qY.out 0).trans rfl; have hcz48_1 : w47.cell? ⟨kN, 1, none⟩ = some (.slice A0_1 l0_1.length c0_1) := (zC qY.out 1).trans rfl; have hcz48_2 : w47.cell? ⟨kN, 2, none⟩ = some (.slice A0_2 l0_2.length c0_2) := (zC qY.out 2).trans rfl; have hfz48_0 := zB qY.out 0; have hfz48_1 := zB qY.out 1; have hfz48_2 := zB qY.out 2) | ((with_reducible refine zQ (f := 31) rfl ?_); refine vN (some 23) rfl rfl Tryd.func31 (by kernel_rfl) rfl #[.slice A0_0 l0_0.length c0_0, .int .i64 a1] rfl (by (try simp only [List.map_toArray, List.map_cons, List.map_nil]); first | done | rfl | (simp only [List.length_drop, List.length_take]; rfl)) ?_; (with_reducible refine (qU.calls k _ _ l0_0 a1 t133 false _ ?side1 ?side2 A4.out).mono ?_); (case side1 => repeat (first | exact (Kd.zX HR0_0.out HB.out) | (with_reducible refine Kd.zP ?_ _) | (with_reducible refine Kd.zO ?_ _) | (with_reducible refine Kd.zY ?_))); (case side2 => exact HC0_0.out); rintro e w49 ⟨rfl, hb⟩; refine ⟨_, rfl, ?_⟩; have n0_ := zA.mk (zM (bG qY.out) hb); have n1_ := zA.mk (zG (eG HB.out) hb); clear qY; clear HB; have qY := n0_; have HB := n1_; clear n0_ n1_; (try clear hb); (try clear hb2); (try clear hk); (try clear hi); have hcz50_0 : w49.cell? ⟨kN, 0, none⟩ = some (.slice A0_0 l0_0.length c0_0) := (zC qY.out 0).trans rfl; have hcz50_1 : w49.cell? ⟨kN, 1, none⟩ = some (.slice A0_1 l0_1.length c0_1) := (zC qY.out 1).trans rfl; have hcz50_2 : w49.cell? ⟨kN, 2, none⟩ = some (.slice A0_2 l0_2.length c0_2) := (zC qY.out 2).trans rfl; have hfz50_0 := zB qY.out 0; have hfz50_1 := zB qY.out 1; have hfz50_2 := zB qY.out 2) | ((with_reducible refine zQ (f := 31) rfl ?_); refine vN (some 30) rfl rfl Tryd.func31 (by kernel_rfl) rfl #[.slice A0_1 l0_1.length c0_1, .int .i64 a2] rfl (by (try simp only [List.map_toArray, List.map_cons, List.map_nil]); first | done | rfl | (simp only [List.length_drop, List.length_take]; rfl)) ?_; (with_reducible refine (qU.calls k _ _ l0_1 a2 t135 t136 _ ?side1 ?side2 A5.out).mono ?_); (case side1 => repeat (first | exact (Kd.zX HR0_1.out HB.out) | (with_reducible refine Kd.zP ?_ _) | (with_reducible refine Kd.zO ?_ _) | (with_reducible refine Kd.zY ?_))); (case side2 => exact HC0_1.out); rintro e w51 ⟨rfl, hb⟩; refine ⟨_, rfl, ?_⟩; have n0_ := zA.mk (zM (bG qY.out) hb); have n1_ := zA.mk (zG (eG HB.out) hb); clear qY; clear HB; have qY := n0_; have HB := n1_; clear n0_ n1_; (try clear hb); (try clear hb2); (try clear hk); (try clear hi)))
  go_ret2
  exact ⟨by first | rfl | (simp [zI, zH] <;> rfl) | (simp [*, zI, zH] <;> rfl), eG HB.out⟩
end Go.Proofs.YtmdfnambaedllaaDoor.Pr
namespace Go.Proofs
open Go.Shelf
def Tryd.zRX : Go.Shelf.Ren := ⟨fun | 172 => 75 | 244 => 85 | 245 => 86 | 247 => 93 | 279 => 94 | 280 => 95 | 281 => 96 | 282 => 97 | 287 => 100 | 316 => 101 | 171 => 58 | 205 => 102 | 321 => 103 | 322 => 104 | 243 => 64 | 246 => 70 | 283 => 79 | 284 => 80 | 285 => 81 | 286 => 82 | 129 => 89 | 317 => 88 | 318 => 90 | 319 => 91 | 320 => 92 | 337 => 98 | 338 => 99 | n => n, fun | 9 => 9 | 3 => 3 | 75 => 90 | 76 => 91 | 4 => 4 | 5 => 5 | 167 => 111 | 37 => 100 | 0 => 0 | 85 => 112 | 2 => 2 | 168 => 114 | 53 => 97 | 175 => 122 | 46 => 77 | 210 => 126 | 127 => 132 | 145 => 135 | 143 => 133 | 21 => 21 | 171 => 96 | 173 => 101 | 212 => 108 | 51 => 103 | 20 => 20 | 213 => 109 | 232 => 128 | 233 => 129 | 80 => 136 | n => n, fun | 15 => 4 | 16 => 5 | 17 => 1 | 18 => 6 | 19 => 7 | n => n⟩
theorem Tryd.lays172 : Go.Proofs.Lays.n172 Tryd.prog Tryd.zRX := {
  mixed := by kernel_rfl
  f129 := Tryd.func89.trans (congrArg some (by kernel_rfl))
  f171 := Tryd.func58.trans (congrArg some (by kernel_rfl))
  f172 := Tryd.func75.trans (congrArg some (by kernel_rfl))
  f205 := Tryd.func102.trans (congrArg some (by kernel_rfl))
  f243 := Tryd.func64.trans (congrArg some (by kernel_rfl))
  f244 := Tryd.func85.trans (congrArg some (by kernel_rfl))
  f245 := Tryd.func86.trans (congrArg some (by kernel_rfl))
  f246 := Tryd.func70.trans (congrArg some (by kernel_rfl))
  f247 := Tryd.func93.trans (congrArg some (by kernel_rfl))
  f279 := Tryd.func94.trans (congrArg some (by kernel_rfl))
  f280 := Tryd.func95.trans (congrArg some (by kernel_rfl))
  f281 := Tryd.func96.trans (congrArg some (by kernel_rfl))
  f282 := Tryd.func97.trans (congrArg some (by kernel_rfl))
  f283 := Tryd.func79.trans (congrArg some (by kernel_rfl))
  f284 := Tryd.func80.trans (congrArg some (by kernel_rfl))
  f285 := Tryd.func81.trans (congrArg some (by kernel_rfl))
  f286 := Tryd.func82.trans (congrArg some (by kernel_rfl))
  f287 := Tryd.func100.trans (congrArg some (by kernel_rfl))
  f316 := Tryd.func101.trans (congrArg some (by kernel_rfl))
  f317 := Tryd.func88.trans (congrArg some (by kernel_rfl))
  f318 := Tryd.func90.trans (congrArg some (by kernel_rfl))
  f319 := Tryd.func91.trans (congrArg some (by kernel_rfl))
  f320 := Tryd.func92.trans (congrArg some (by kernel_rfl))
  f321 := Tryd.func103.trans (congrArg some (by kernel_rfl))
  f322 := Tryd.func104.trans (congrArg some (by kernel_rfl))
  f337 := Tryd.func98.trans (congrArg some (by kernel_rfl))
  f338 := Tryd.func99.trans (congrArg some (by kernel_rfl))
  t0 := Tryd.underlying0
  a0 := Tryd.isAgg0
  z0 := Tryd.sizeOf0
  v0 := Tryd.zeroValue0
  t2 := Tryd.underlying2
  a2 := Tryd.isAgg2
  z2 := Tryd.sizeOf2
  v2 := Tryd.zeroValue2
  t3 := Tryd.underlying3
  a3 := Tryd.isAgg3
  z3 := Tryd.sizeOf3
  v3 := Tryd.zeroValue3
  t4 := Tryd.underlying4
  a4 := Tryd.isAgg4
  z4 := Tryd.sizeOf4
  v4 := Tryd.zeroValue4
  t5 := Tryd.underlying5
  a5 := Tryd.isAgg5
  z5 := Tryd.sizeOf5
  v5 := Tryd.zeroValue5
  t9 := Tryd.underlying9
  a9 := Tryd.isAgg9
  z9 := Tryd.sizeOf9
  v9 := Tryd.zeroValue9
  t20 := Tryd.underlying20
  a20 := Tryd.isAgg20
  z20 := Tryd.sizeOf20
  v20 := Tryd.zeroValue20
  t21 := Tryd.underlying21
  a21 := Tryd.isAgg21
  z21 := Tryd.sizeOf21
  v21 := Tryd.zeroValue21
  t37 := Tryd.underlying100
  a37 := Tryd.isAgg100
  z37 := Tryd.sizeOf100
  v37 := Tryd.zeroValue100
  t46 := Tryd.underlying77
  a46 := Tryd.isAgg77
  z46 := Tryd.sizeOf77
  v46 := Tryd.zeroValue77
  t51 := Tryd.underlying103
  a51 := Tryd.isAgg103
  z51 := Tryd.sizeOf103
  v51 := Tryd.zeroValue103
  t53 := Tryd.underlying97
  a53 := Tryd.isAgg97
  z53 := Tryd.sizeOf97
  v53 := Tryd.zeroValue97
  t75 := Tryd.underlying90
  a75 := Tryd.isAgg90
  z75 := Tryd.sizeOf90
  v75 := Tryd.zeroValue90
  t76 := Tryd.underlying91
  a76 := Tryd.isAgg91
  z76 := Tryd.sizeOf91
  v76 := Tryd.zeroValue91
  t85 := Tryd.underlying112
  a85 := Tryd.isAgg112
  z85 := Tryd.sizeOf112
  v85 := Tryd.zeroValue112
  t127 := Tryd.underlying132
  a127 := Tryd.isAgg132
  z127 := Tryd.sizeOf132
  v127 := Tryd.zeroValue132
  t143 := Tryd.underlying133
  a143 := Tryd.isAgg133
  z143 := Tryd.sizeOf133
  v143 := Tryd.zeroValue133
  t145 := Tryd.underlying135
  a145 := Tryd.isAgg135
  z145 := Tryd.sizeOf135
  v145 := Tryd.zeroValue135
  t167 := Tryd.underlying111
  a167 := Tryd.isAgg111
  z167 := Tryd.sizeOf111
  v167 := Tryd.zeroValue111
  t168 := Tryd.underlying114
  a168 := Tryd.isAgg114
  z168 := Tryd.sizeOf114
  v168 := Tryd.zeroValue114
  t171 := Tryd.underlying96
  a171 := Tryd.isAgg96
  z171 := Tryd.sizeOf96
  v171 := Tryd.zeroValue96
  t173 := Tryd.underlying101
  a173 := Tryd.isAgg101
  z173 := Tryd.sizeOf101
  v173 := Tryd.zeroValue101
  t175 := Tryd.underlying122
  a175 := Tryd.isAgg122
  z175 := Tryd.sizeOf122
  v175 := Tryd.zeroValue122
  t210 := Tryd.underlying126
  a210 := Tryd.isAgg126
  z210 := Tryd.sizeOf126
  v210 := Tryd.zeroValue126
  t212 := Tryd.underlying108
  a212 := Tryd.isAgg108
  z212 := Tryd.sizeOf108
  v212 := Tryd.zeroValue108
  t213 := Tryd.underlying109
  a213 := Tryd.isAgg109
  z213 := Tryd.sizeOf109
  t232 := Tryd.underlying128
  a232 := Tryd.isAgg128
  z232 := Tryd.sizeOf128
  v232 := Tryd.zeroValue128
  t233 := Tryd.underlying129
  a233 := Tryd.isAgg129
  z233 := Tryd.sizeOf129
  v233 := Tryd.zeroValue129
  g15 := by kernel_rfl
  g16 := by kernel_rfl
  g17 := by kernel_rfl
  g18 := by kernel_rfl
  g19 := by kernel_rfl }
open Go.RowKit in
/-- strconv.Atoi: "Atoi is equivalent to ParseInt(s, 10, 0), converted to type int.": AT A DECIMAL NUMERAL OF AT MOST 18 BYTES: its value, and a nil error. The world behind the call: the one new row that the library's '[]byte(s)' lays. (LAID: no walk: one application.) -/
theorem Tryd.strconv_Atoi (s : ByteArray) (n : Int) (hl : s.size ≤ 18) (h : Lib.atoi s.data.toList = some n) (w : World) :
    Calls Tryd.prog 75 #[.string s] w fun e w' => e = .returned (.tuple #[.int .i64 n, .nilIface]) ∧ ∃ t, w' = Lib.bytesWorld w 5 t := Any.strconv_Atoi Tryd.lays172 s n hl h w
def Tryd.zQO : Go.Shelf.Ren := ⟨fun | 171 => 58 | 243 => 64 | 246 => 70 | 283 => 79 | 284 => 80 | 285 => 81 | 286 => 82 | 129 => 89 | 317 => 88 | 318 => 90 | 319 => 91 | 320 => 92 | 337 => 98 | 338 => 99 | n => n, fun | 3 => 3 | 9 => 9 | 2 => 2 | 4 => 4 | 171 => 96 | 0 => 0 | 53 => 97 | 37 => 100 | 5 => 5 | 173 => 101 | 212 => 108 | 51 => 103 | 20 => 20 | 213 => 109 | 46 => 77 | 232 => 128 | 233 => 129 | n => n, fun | 17 => 1 | 18 => 6 | 19 => 7 | n => n⟩
theorem Tryd.laysM171 : Go.Proofs.LaysM.n171 Tryd.prog Tryd.zQO := {
  mixed := by kernel_rfl
  f129 := Tryd.func89.trans (congrArg some (by kernel_rfl))
  f171 := Tryd.func58.trans (congrArg some (by kernel_rfl))
  f243 := Tryd.func64.trans (congrArg some (by kernel_rfl))
  f246 := Tryd.func70.trans (congrArg some (by kernel_rfl))
  f283 := Tryd.func79.trans (congrArg some (by kernel_rfl))
  f284 := Tryd.func80.trans (congrArg some (by kernel_rfl))
  f285 := Tryd.func81.trans (congrArg some (by kernel_rfl))
  f286 := Tryd.func82.trans (congrArg some (by kernel_rfl))
  f317 := Tryd.func88.trans (congrArg some (by kernel_rfl))
  f318 := Tryd.func90.trans (congrArg some (by kernel_rfl))
  f319 := Tryd.func91.trans (congrArg some (by kernel_rfl))
  f320 := Tryd.func92.trans (congrArg some (by kernel_rfl))
  f337 := Tryd.func98.trans (congrArg some (by kernel_rfl))
  f338 := Tryd.func99.trans (congrArg some (by kernel_rfl))
  t0 := Tryd.underlying0
  a0 := Tryd.isAgg0
  z0 := Tryd.sizeOf0
  v0 := Tryd.zeroValue0
  t2 := Tryd.underlying2
  a2 := Tryd.isAgg2
  z2 := Tryd.sizeOf2
  v2 := Tryd.zeroValue2
  t3 := Tryd.underlying3
  a3 := Tryd.isAgg3
  z3 := Tryd.sizeOf3
  v3 := Tryd.zeroValue3
  t4 := Tryd.underlying4
  a4 := Tryd.isAgg4
  z4 := Tryd.sizeOf4
  v4 := Tryd.zeroValue4
  t5 := Tryd.underlying5
  a5 := Tryd.isAgg5
  z5 := Tryd.sizeOf5
  v5 := Tryd.zeroValue5
  t9 := Tryd.underlying9
  a9 := Tryd.isAgg9
  z9 := Tryd.sizeOf9
  v9 := Tryd.zeroValue9
  t20 := Tryd.underlying20
  a20 := Tryd.isAgg20
  z20 := Tryd.sizeOf20
  v20 := Tryd.zeroValue20
  t37 := Tryd.underlying100
  a37 := Tryd.isAgg100
  z37 := Tryd.sizeOf100
  v37 := Tryd.zeroValue100
  t46 := Tryd.underlying77
  a46 := Tryd.isAgg77
  z46 := Tryd.sizeOf77
  v46 := Tryd.zeroValue77
  t51 := Tryd.underlying103
  a51 := Tryd.isAgg103
  z51 := Tryd.sizeOf103
  v51 := Tryd.zeroValue103
  t53 := Tryd.underlying97
  a53 := Tryd.isAgg97
  z53 := Tryd.sizeOf97
  v53 := Tryd.zeroValue97
  t171 := Tryd.underlying96
  a171 := Tryd.isAgg96
  z171 := Tryd.sizeOf96
  v171 := Tryd.zeroValue96
  t173 := Tryd.underlying101
  a173 := Tryd.isAgg101
  z173 := Tryd.sizeOf101
  v173 := Tryd.zeroValue101
  t212 := Tryd.underlying108
  a212 := Tryd.isAgg108
  z212 := Tryd.sizeOf108
  v212 := Tryd.zeroValue108
  t213 := Tryd.underlying109
  a213 := Tryd.isAgg109
  z213 := Tryd.sizeOf109
  t232 := Tryd.underlying128
  a232 := Tryd.isAgg128
  z232 := Tryd.sizeOf128
  v232 := Tryd.zeroValue128
  t233 := Tryd.underlying129
  a233 := Tryd.isAgg129
  z233 := Tryd.sizeOf129
  v233 := Tryd.zeroValue129
  g17 := by kernel_rfl
  g18 := by kernel_rfl
  g19 := by kernel_rfl
  i0 := by kernel_rfl
  i2 := by kernel_rfl
  i3 := by kernel_rfl
  i4 := by kernel_rfl
  i5 := by kernel_rfl
  i9 := by kernel_rfl
  i20 := by kernel_rfl
  i37 := by kernel_rfl
  i46 := by kernel_rfl
  i51 := by kernel_rfl
  i53 := by kernel_rfl
  i171 := by kernel_rfl
  i173 := by kernel_rfl
  i212 := by kernel_rfl
  i232 := by kernel_rfl
  i233 := by kernel_rfl
  m17 := by kernel_rfl
  m18 := by kernel_rfl
  m19 := by kernel_rfl }
open Go.RowKit Go.Sort Go.Lib in
/-- strconv.Itoa: "Itoa is equivalent to FormatInt(int64(i), 10).": i's DECIMAL NUMERAL ('Lib.itoa': a '-' where i is negative, then the digits), FOR EVERY int. The world behind the call: the world before it, new blocks behind the heap (the library's 'var a [24]byte'), draws. (LAID: no walk: one application.) -/
theorem Tryd.strconv_Itoa (n : Int) (h0 : -9223372036854775808 ≤ n) (h1 : n ≤ 9223372036854775807) (w : World) (htab : Lib.TabIs Tryd.prog w "internal/strconv.uint64pow10" .u64 Lib.pow10Tab) :
    Calls Tryd.prog 58 #[.int .i64 n] w fun e w' => e = .returned (.string ⟨(Lib.itoa n).toArray⟩) ∧ ∃ k os, w' = grow (w.drewN k) os := Any.strconv_Itoa Tryd.laysM171 n h0 h1 w htab
def Tryd.zQP : Go.Shelf.Ren := ⟨fun | 172 => 75 | 244 => 85 | 245 => 86 | 247 => 93 | 279 => 94 | 280 => 95 | 281 => 96 | 282 => 97 | 287 => 100 | 316 => 101 | 171 => 58 | 205 => 102 | 321 => 103 | 322 => 104 | 243 => 64 | 246 => 70 | 283 => 79 | 284 => 80 | 285 => 81 | 286 => 82 | 129 => 89 | 317 => 88 | 318 => 90 | 319 => 91 | 320 => 92 | 337 => 98 | 338 => 99 | n => n, fun | 9 => 9 | 3 => 3 | 75 => 90 | 76 => 91 | 4 => 4 | 5 => 5 | 167 => 111 | 37 => 100 | 0 => 0 | 85 => 112 | 2 => 2 | 168 => 114 | 53 => 97 | 175 => 122 | 46 => 77 | 210 => 126 | 127 => 132 | 145 => 135 | 143 => 133 | 21 => 21 | 171 => 96 | 173 => 101 | 212 => 108 | 51 => 103 | 20 => 20 | 213 => 109 | 232 => 128 | 233 => 129 | 80 => 136 | n => n, fun | 15 => 4 | 16 => 5 | 17 => 1 | 18 => 6 | 19 => 7 | n => n⟩
theorem Tryd.zNX : Go.Proofs.LaysC.n172 Tryd.prog Tryd.zQP := {
  mixed := by kernel_rfl
  f129 := Tryd.func89.trans (congrArg some (by kernel_rfl))
  f171 := Tryd.func58.trans (congrArg some (by kernel_rfl))
  f172 := Tryd.func75.trans (congrArg some (by kernel_rfl))
  f205 := Tryd.func102.trans (congrArg some (by kernel_rfl))
  f243 := Tryd.func64.trans (congrArg some (by kernel_rfl))
  f244 := Tryd.func85.trans (congrArg some (by kernel_rfl))
  f245 := Tryd.func86.trans (congrArg some (by kernel_rfl))
  f246 := Tryd.func70.trans (congrArg some (by kernel_rfl))
  f247 := Tryd.func93.trans (congrArg some (by kernel_rfl))
  f279 := Tryd.func94.trans (congrArg some (by kernel_rfl))
  f280 := Tryd.func95.trans (congrArg some (by kernel_rfl))
  f281 := Tryd.func96.trans (congrArg some (by kernel_rfl))
  f282 := Tryd.func97.trans (congrArg some (by kernel_rfl))
  f283 := Tryd.func79.trans (congrArg some (by kernel_rfl))
  f284 := Tryd.func80.trans (congrArg some (by kernel_rfl))
  f285 := Tryd.func81.trans (congrArg some (by kernel_rfl))
  f286 := Tryd.func82.trans (congrArg some (by kernel_rfl))
  f287 := Tryd.func100.trans (congrArg some (by kernel_rfl))
  f316 := Tryd.func101.trans (congrArg some (by kernel_rfl))
  f317 := Tryd.func88.trans (congrArg some (by kernel_rfl))
  f318 := Tryd.func90.trans (congrArg some (by kernel_rfl))
  f319 := Tryd.func91.trans (congrArg some (by kernel_rfl))
  f320 := Tryd.func92.trans (congrArg some (by kernel_rfl))
  f321 := Tryd.func103.trans (congrArg some (by kernel_rfl))
  f322 := Tryd.func104.trans (congrArg some (by kernel_rfl))
  f337 := Tryd.func98.trans (congrArg some (by kernel_rfl))
  f338 := Tryd.func99.trans (congrArg some (by kernel_rfl))
  t0 := Tryd.underlying0
  a0 := Tryd.isAgg0
  z0 := Tryd.sizeOf0
  v0 := Tryd.zeroValue0
  t2 := Tryd.underlying2
  a2 := Tryd.isAgg2
  z2 := Tryd.sizeOf2
  v2 := Tryd.zeroValue2
  t3 := Tryd.underlying3
  a3 := Tryd.isAgg3
  z3 := Tryd.sizeOf3
  v3 := Tryd.zeroValue3
  t4 := Tryd.underlying4
  a4 := Tryd.isAgg4
  z4 := Tryd.sizeOf4
  v4 := Tryd.zeroValue4
  t5 := Tryd.underlying5
  a5 := Tryd.isAgg5
  z5 := Tryd.sizeOf5
  v5 := Tryd.zeroValue5
  t9 := Tryd.underlying9
  a9 := Tryd.isAgg9
  z9 := Tryd.sizeOf9
  v9 := Tryd.zeroValue9
  t20 := Tryd.underlying20
  a20 := Tryd.isAgg20
  z20 := Tryd.sizeOf20
  v20 := Tryd.zeroValue20
  t21 := Tryd.underlying21
  a21 := Tryd.isAgg21
  z21 := Tryd.sizeOf21
  v21 := Tryd.zeroValue21
  t37 := Tryd.underlying100
  a37 := Tryd.isAgg100
  z37 := Tryd.sizeOf100
  v37 := Tryd.zeroValue100
  t46 := Tryd.underlying77
  a46 := Tryd.isAgg77
  z46 := Tryd.sizeOf77
  v46 := Tryd.zeroValue77
  t51 := Tryd.underlying103
  a51 := Tryd.isAgg103
  z51 := Tryd.sizeOf103
  v51 := Tryd.zeroValue103
  t53 := Tryd.underlying97
  a53 := Tryd.isAgg97
  z53 := Tryd.sizeOf97
  v53 := Tryd.zeroValue97
  t75 := Tryd.underlying90
  a75 := Tryd.isAgg90
  z75 := Tryd.sizeOf90
  v75 := Tryd.zeroValue90
  t76 := Tryd.underlying91
  a76 := Tryd.isAgg91
  z76 := Tryd.sizeOf91
  v76 := Tryd.zeroValue91
  t85 := Tryd.underlying112
  a85 := Tryd.isAgg112
  z85 := Tryd.sizeOf112
  v85 := Tryd.zeroValue112
  t127 := Tryd.underlying132
  a127 := Tryd.isAgg132
  z127 := Tryd.sizeOf132
  v127 := Tryd.zeroValue132
  t143 := Tryd.underlying133
  a143 := Tryd.isAgg133
  z143 := Tryd.sizeOf133
  v143 := Tryd.zeroValue133
  t145 := Tryd.underlying135
  a145 := Tryd.isAgg135
  z145 := Tryd.sizeOf135
  v145 := Tryd.zeroValue135
  t167 := Tryd.underlying111
  a167 := Tryd.isAgg111
  z167 := Tryd.sizeOf111
  v167 := Tryd.zeroValue111
  t168 := Tryd.underlying114
  a168 := Tryd.isAgg114
  z168 := Tryd.sizeOf114
  v168 := Tryd.zeroValue114
  t171 := Tryd.underlying96
  a171 := Tryd.isAgg96
  z171 := Tryd.sizeOf96
  v171 := Tryd.zeroValue96
  t173 := Tryd.underlying101
  a173 := Tryd.isAgg101
  z173 := Tryd.sizeOf101
  v173 := Tryd.zeroValue101
  t175 := Tryd.underlying122
  a175 := Tryd.isAgg122
  z175 := Tryd.sizeOf122
  v175 := Tryd.zeroValue122
  t210 := Tryd.underlying126
  a210 := Tryd.isAgg126
  z210 := Tryd.sizeOf126
  v210 := Tryd.zeroValue126
  t212 := Tryd.underlying108
  a212 := Tryd.isAgg108
  z212 := Tryd.sizeOf108
  v212 := Tryd.zeroValue108
  t213 := Tryd.underlying109
  a213 := Tryd.isAgg109
  z213 := Tryd.sizeOf109
  t232 := Tryd.underlying128
  a232 := Tryd.isAgg128
  z232 := Tryd.sizeOf128
  v232 := Tryd.zeroValue128
  t233 := Tryd.underlying129
  a233 := Tryd.isAgg129
  z233 := Tryd.sizeOf129
  v233 := Tryd.zeroValue129
  g15 := by kernel_rfl
  g16 := by kernel_rfl
  g17 := by kernel_rfl
  g18 := by kernel_rfl
  g19 := by kernel_rfl
  t80 := Tryd.underlying136
  a80 := Tryd.isAgg136
  z80 := Tryd.sizeOf136
  v80 := Tryd.zeroValue136
  i0 := by kernel_rfl
  i2 := by kernel_rfl
  i3 := by kernel_rfl
  i4 := by kernel_rfl
  i5 := by kernel_rfl
  i9 := by kernel_rfl
  i20 := by kernel_rfl
  i21 := by kernel_rfl
  i37 := by kernel_rfl
  i46 := by kernel_rfl
  i51 := by kernel_rfl
  i53 := by kernel_rfl
  i75 := by kernel_rfl
  i76 := by kernel_rfl
  i80 := by kernel_rfl
  i85 := by kernel_rfl
  i127 := by kernel_rfl
  i143 := by kernel_rfl
  i145 := by kernel_rfl
  i167 := by kernel_rfl
  i168 := by kernel_rfl
  i171 := by kernel_rfl
  i173 := by kernel_rfl
  i175 := by kernel_rfl
  i210 := by kernel_rfl
  i212 := by kernel_rfl
  i232 := by kernel_rfl
  i233 := by kernel_rfl
  m15 := by kernel_rfl
  m16 := by kernel_rfl
  m17 := by kernel_rfl
  m18 := by kernel_rfl
  m19 := by kernel_rfl
  c0 := by kernel_rfl
  c2 := by kernel_rfl
  c3 := by kernel_rfl
  c4 := by kernel_rfl
  c5 := by kernel_rfl
  c9 := by kernel_rfl
  c20 := by kernel_rfl
  c21 := by kernel_rfl
  c37 := by kernel_rfl
  c46 := by kernel_rfl
  c51 := by kernel_rfl
  c53 := by kernel_rfl
  c75 := by kernel_rfl
  c76 := by kernel_rfl
  c80 := by kernel_rfl
  c85 := by kernel_rfl
  c127 := by kernel_rfl
  c143 := by kernel_rfl
  c145 := by kernel_rfl
  c167 := by kernel_rfl
  c168 := by kernel_rfl
  c171 := by kernel_rfl
  c173 := by kernel_rfl
  c175 := by kernel_rfl
  c210 := by kernel_rfl
  c212 := by kernel_rfl
  c213 := by kernel_rfl
  c232 := by kernel_rfl
  c233 := by kernel_rfl }
open Go.RowKit in
/-- strconv.Atoi, AT EVERY STRING THAT SPELLS AN int ('Lib.atoiAll .. = .ok v'; of whatever length: leading zeros count): v, AND NO ERROR. The world: as it was, or with the one new row that '[]byte(..)' lays. (LAID: no walk: one application.) -/
theorem Tryd.strconv_Atoi_ok (s : ByteArray) (hmax : s.size ≤ 9223372036854775806) (v : Int) (h : Lib.atoiAll s.data.toList = .ok v) (w : World) :
    Calls Tryd.prog 75 #[.string s] w fun e w' => e = .returned (.tuple #[.int .i64 v, .nilIface]) ∧ (w' = w ∨ ∃ t, w' = Lib.bytesWorld w 5 t) := Any.strconv_Atoi_ok Tryd.zNX s hmax v h w
open Go.RowKit in
theorem Tryd.strconv_Atoi_syntax_var (s : ByteArray) (hlim : s.size ≤ 281474976710656) (h : Lib.atoiAll s.data.toList = Lib.NumEnd.syntax) (tp : TypeId) (p : Value) (w : World) (hvar : w.var? Tryd.prog "strconv.ErrSyntax" = some #[.iface tp p]) :
    Calls Tryd.prog 75 #[.string s] w fun e w' => ∃ N, e = .returned (.tuple #[.int .i64 0, .iface 114 (.pointer (some ⟨N, 0, none⟩))]) ∧ w.heap.size ≤ N ∧ w'.heap[N]? = some (.cells #[.string ⟨#[65, 116, 111, 105]⟩, .string s, .iface tp p] 126 (0, 0)) ∧ Below w.heap.size w w' := Any.strconv_Atoi_syntax_var Tryd.zNX s hlim h tp p w hvar
open Go.RowKit in
theorem Tryd.strconv_Atoi_range_var (s : ByteArray) (hlim : s.size ≤ 281474976710656) (h : Lib.atoiAll s.data.toList = .range) (tp : TypeId) (p : Value) (w : World) (hvar : w.var? Tryd.prog "strconv.ErrRange" = some #[.iface tp p]) :
    Calls Tryd.prog 75 #[.string s] w fun e w' => ∃ N, e = .returned (.tuple #[.int .i64 (Lib.atoiSat s.data.toList), .iface 114 (.pointer (some ⟨N, 0, none⟩))]) ∧ w.heap.size ≤ N ∧ w'.heap[N]? = some (.cells #[.string ⟨#[65, 116, 111, 105]⟩, .string s, .iface tp p] 126 (0, 0)) ∧ Below w.heap.size w w' := Any.strconv_Atoi_range_var Tryd.zNX s hlim h tp p w hvar
def Tryd.zRZ : Go.Shelf.Ren := ⟨fun | 145 => 46 | 220 => 60 | 219 => 65 | 217 => 71 | 225 => 72 | 224 => 73 | 267 => 74 | 266 => 83 | 314 => 84 | n => n, fun | 9 => 9 | 4 => 4 | 59 => 61 | 3 => 3 | 5 => 5 | 46 => 77 | 146 => 104 | 51 => 103 | n => n, fun | 1 => 0 | n => n⟩
theorem Tryd.lays145 : Go.Proofs.Lays.n145 Tryd.prog Tryd.zRZ := {
  mixed := by kernel_rfl
  f145 := Tryd.func46.trans (congrArg some (by kernel_rfl))
  f217 := Tryd.func71.trans (congrArg some (by kernel_rfl))
  f219 := Tryd.func65.trans (congrArg some (by kernel_rfl))
  f220 := Tryd.func60.trans (congrArg some (by kernel_rfl))
  f224 := Tryd.func73.trans (congrArg some (by kernel_rfl))
  f225 := Tryd.func72.trans (congrArg some (by kernel_rfl))
  f266 := Tryd.func83.trans (congrArg some (by kernel_rfl))
  f267 := Tryd.func74.trans (congrArg some (by kernel_rfl))
  f314 := Tryd.func84.trans (congrArg some (by kernel_rfl))
  t3 := Tryd.underlying3
  a3 := Tryd.isAgg3
  z3 := Tryd.sizeOf3
  v3 := Tryd.zeroValue3
  t4 := Tryd.underlying4
  a4 := Tryd.isAgg4
  z4 := Tryd.sizeOf4
  v4 := Tryd.zeroValue4
  t5 := Tryd.underlying5
  a5 := Tryd.isAgg5
  z5 := Tryd.sizeOf5
  v5 := Tryd.zeroValue5
  t9 := Tryd.underlying9
  a9 := Tryd.isAgg9
  z9 := Tryd.sizeOf9
  v9 := Tryd.zeroValue9
  t46 := Tryd.underlying77
  a46 := Tryd.isAgg77
  z46 := Tryd.sizeOf77
  v46 := Tryd.zeroValue77
  t51 := Tryd.underlying103
  a51 := Tryd.isAgg103
  z51 := Tryd.sizeOf103
  v51 := Tryd.zeroValue103
  t59 := Tryd.underlying61
  a59 := Tryd.isAgg61
  z59 := Tryd.sizeOf61
  v59 := Tryd.zeroValue61
  t146 := Tryd.underlying104
  a146 := Tryd.isAgg104
  z146 := Tryd.sizeOf104
  v146 := Tryd.zeroValue104
  g1 := by kernel_rfl }
open Go.RowKit Go.Lib in
/-- strings.Cut: "Cut slices s around the first instance of sep, returning the text before and after sep. The found result reports whether sep appears in s. If sep does not appear in s, cut returns s, "", false.": IT RETURNS 'Lib.cut s sep'; the world is as it was but for the count of draws. (LAID: no walk: one application.) -/
theorem Tryd.strings_Cut (s sep : ByteArray) (m : Int) (w : World) (hs : s.size < 4294967281) (hm : w.cell? ⟨0, 0, none⟩ = some (.int .i64 m)) :
    Calls Tryd.prog 46 #[.string s, .string sep] w fun e w' => e = .returned (.tuple #[.string ⟨(Lib.cut s.data.toList sep.data.toList).1.toArray⟩, .string ⟨(Lib.cut s.data.toList sep.data.toList).2.1.toArray⟩, .bool (Lib.cut s.data.toList sep.data.toList).2.2]) ∧ ∃ n, w' = w.drewN n := Any.strings_Cut Tryd.lays145 s sep m w hs hm
def Tryd.zRY : Go.Shelf.Ren := ⟨fun | 146 => 48 | 221 => 62 | 268 => 67 | 138 => 68 | 143 => 69 | 195 => 76 | 197 => 77 | 218 => 78 | 219 => 65 | 260 => 87 | 217 => 71 | 225 => 72 | 224 => 73 | 267 => 74 | 266 => 83 | 314 => 84 | n => n, fun | 9 => 9 | 31 => 65 | 3 => 3 | 4 => 4 | 0 => 0 | 105 => 94 | 21 => 21 | 5 => 5 | 46 => 77 | 119 => 117 | 139 => 120 | 138 => 119 | 146 => 104 | 51 => 103 | n => n, fun | 1 => 0 | 3 => 2 | 4 => 3 | n => n⟩
theorem Tryd.lays146 : Go.Proofs.Lays.n146 Tryd.prog Tryd.zRY := {
  mixed := by kernel_rfl
  f138 := Tryd.func68.trans (congrArg some (by kernel_rfl))
  f143 := Tryd.func69.trans (congrArg some (by kernel_rfl))
  f146 := Tryd.func48.trans (congrArg some (by kernel_rfl))
  f195 := Tryd.func76.trans (congrArg some (by kernel_rfl))
  f197 := Tryd.func77.trans (congrArg some (by kernel_rfl))
  f217 := Tryd.func71.trans (congrArg some (by kernel_rfl))
  f218 := Tryd.func78.trans (congrArg some (by kernel_rfl))
  f219 := Tryd.func65.trans (congrArg some (by kernel_rfl))
  f221 := Tryd.func62.trans (congrArg some (by kernel_rfl))
  f224 := Tryd.func73.trans (congrArg some (by kernel_rfl))
  f225 := Tryd.func72.trans (congrArg some (by kernel_rfl))
  f260 := Tryd.func87.trans (congrArg some (by kernel_rfl))
  f266 := Tryd.func83.trans (congrArg some (by kernel_rfl))
  f267 := Tryd.func74.trans (congrArg some (by kernel_rfl))
  f268 := Tryd.func67.trans (congrArg some (by kernel_rfl))
  f314 := Tryd.func84.trans (congrArg some (by kernel_rfl))
  t0 := Tryd.underlying0
  a0 := Tryd.isAgg0
  z0 := Tryd.sizeOf0
  v0 := Tryd.zeroValue0
  t3 := Tryd.underlying3
  a3 := Tryd.isAgg3
  z3 := Tryd.sizeOf3
  v3 := Tryd.zeroValue3
  t4 := Tryd.underlying4
  a4 := Tryd.isAgg4
  z4 := Tryd.sizeOf4
  v4 := Tryd.zeroValue4
  t5 := Tryd.underlying5
  a5 := Tryd.isAgg5
  z5 := Tryd.sizeOf5
  v5 := Tryd.zeroValue5
  t9 := Tryd.underlying9
  a9 := Tryd.isAgg9
  z9 := Tryd.sizeOf9
  v9 := Tryd.zeroValue9
  t21 := Tryd.underlying21
  a21 := Tryd.isAgg21
  z21 := Tryd.sizeOf21
  v21 := Tryd.zeroValue21
  t31 := Tryd.underlying65
  a31 := Tryd.isAgg65
  z31 := Tryd.sizeOf65
  v31 := Tryd.zeroValue65
  t46 := Tryd.underlying77
  a46 := Tryd.isAgg77
  z46 := Tryd.sizeOf77
  v46 := Tryd.zeroValue77
  t51 := Tryd.underlying103
  a51 := Tryd.isAgg103
  z51 := Tryd.sizeOf103
  v51 := Tryd.zeroValue103
  t105 := Tryd.underlying94
  a105 := Tryd.isAgg94
  z105 := Tryd.sizeOf94
  v105 := Tryd.zeroValue94
  t119 := Tryd.underlying117
  a119 := Tryd.isAgg117
  z119 := Tryd.sizeOf117
  t138 := Tryd.underlying119
  a138 := Tryd.isAgg119
  z138 := Tryd.sizeOf119
  v138 := Tryd.zeroValue119
  t139 := Tryd.underlying120
  a139 := Tryd.isAgg120
  z139 := Tryd.sizeOf120
  v139 := Tryd.zeroValue120
  t146 := Tryd.underlying104
  a146 := Tryd.isAgg104
  z146 := Tryd.sizeOf104
  v146 := Tryd.zeroValue104
  g1 := by kernel_rfl
  g3 := by kernel_rfl
  g4 := by kernel_rfl }
open Go.RowKit Go.Lib in
/-- strings.Split. (LAID: no walk: one application.) -/
theorem Tryd.strings_Split (s sep : ByteArray) (m : Int) (w : World) (hs : s.size < 4294967281) (hm : w.cell? ⟨0, 0, none⟩ = some (.int .i64 m)) (h1 : 1 ≤ sep.size) :
    Calls Tryd.prog 48 #[.string s, .string sep] w fun e w' =>
      e = .returned (.slice (some ⟨w.heap.size, 0, none⟩) (Lib.countB s sep + 1) (Lib.countB s sep + 1)) ∧ w' = w.alloc (.cells ((Lib.splitB sep 0 (Lib.countB s sep) s).map Value.string).toArray 9) := Any.strings_Split Tryd.lays146 (by kernel_rfl) s sep m w hs hm h1
end Go.Proofs
namespace Go.Proofs.YtmdfnambaedllaaDoor.X
open Go.RowKit
/-- The decimal numeral of an int. -/
def strconv_Itoa.f (a0 : Int) : Option ByteArray := if -9223372036854775808 ≤ a0 then (if a0 ≤ 9223372036854775807 then some ⟨(Lib.itoa a0).toArray⟩ else none) else none
theorem zUP (w : World) (q : Nat) (os : Array Obj) : Below w.heap.size w (Sort.grow (w.drewN q) os) :=
  ⟨rfl, rfl, rfl, by show w.heap.size ≤ (w.heap ++ os).size; rw [Array.size_append]; omega, fun i hi => by
    show ((w.drewN q).heap ++ os)[i]? = _
    rw [Array.getElem?_append_left (by show i < w.heap.size; omega)]
    rfl⟩
theorem strconv_Itoa.calls (a0 : Int) (r : ByteArray) (w : World) (hG : GI w) (h : strconv_Itoa.f a0 = some r) :
    Calls Tryd.prog 58 #[.int .i64 a0] w fun e w' => e = .returned (.string r) ∧ Below w.heap.size w w' := by
  unfold strconv_Itoa.f at h
  by_cases h0 : -9223372036854775808 ≤ a0
  · by_cases h1 : a0 ≤ 9223372036854775807
    · rw [if_pos h0, if_pos h1] at h
      obtain rfl := Option.some.inj h
      refine (Tryd.strconv_Itoa a0 h0 h1 w hG.1).mono ?_
      rintro e w' ⟨rfl, k, os, rfl⟩
      exact ⟨rfl, zUP w k os⟩
    · rw [if_pos h0, if_neg h1] at h
      cases h
  · rw [if_neg h0] at h
    cases h
end Go.Proofs.YtmdfnambaedllaaDoor.X
namespace Go.Proofs.YtmdfnambaedllaaDoor.Pr
open Go.RowKit Go.Proofs.YtmdfnambaedllaaDoorW.PrintWords Go.Proofs.YtmdfnambaedllaaDoorW.PrintLast Go.Proofs.YtmdfnambaedllaaDoorW.PrintMore Go.Proofs.YtmdfnambaedllaaDoor.X
attribute [local go_sem] kJ kH zAS zAR uF uE kI kG   -- for this text's walks alone
set_option linter.unusedVariables false
set_option linter.unusedSimpArgs false
def yR.f (l0 : List Int) (a1 : Int) (a2 : Int) : Option (Int × Int) := if 0 < (l0.length : Int) then (if 0 ≤ (wrap64 ((l0.length : Int) - 1)) then (if (wrap64 ((l0.length : Int) - 1)) < (l0.length : Int) then (some (mx (rd l0 0) (wrap64 (a1 - a2)), mn (rd l0 (wrap64 ((l0.length : Int) - 1))) (wrap64 (a1 + a2)))) else (none)) else (none)) else (none)
set_option maxHeartbeats 8000000 in
set_option maxRecDepth 100000 in
theorem yR.calls (A0 : Option Addr) (c0 : Nat) (l0 : List Int) (a1 : Int) (a2 : Int) (r1 : Int) (r2 : Int) (w : World) (hr0 : Kd.C (Kd.int .i64) w A0 l0.length l0) (hc0 : l0.length ≤ c0) (h : yR.f l0 a1 a2 = some (r1, r2)) :
  Calls Tryd.prog 28 #[.slice A0 l0.length c0, .int .i64 a1, .int .i64 a2] w fun e w' => e = .returned (.tuple #[.int .i64 r1, .int .i64 r2]) ∧ Below w.heap.size w w' := by
 have HR0 := zA.mk hr0; have HC0 := zA.mk hc0; clear hr0 hc0; have HB := zA.mk (Below.refl w.heap.size w); have H : (if 0 < (l0.length : Int) then (if 0 ≤ (wrap64 ((l0.length : Int) - 1)) then (if (wrap64 ((l0.length : Int) - 1)) < (l0.length : Int) then (some (mx (rd l0 0) (wrap64 (a1 - a2)), mn (rd l0 (wrap64 ((l0.length : Int) - 1))) (wrap64 (a1 + a2)))) else (none)) else (none)) else (none)) = some (r1, r2) := h; clear h; by_cases c4 : 0 < (l0.length : Int)
 ·
  rw [if_pos c4] at H; have c4b0 : decide (0 < (l0.length : Int)) = true := decide_eq_true c4; have c4b1 : decide (0 < l0.length) = true := decide_eq_true (by omega); clear c4; obtain ⟨ji5, hji5⟩ : ∃ j_ : Int, (mx (rd l0 0) (wrap64 (a1 - a2))) = j_ := ⟨_, rfl⟩; replace H : (if 0 ≤ (wrap64 ((l0.length : Int) - 1)) then (if (wrap64 ((l0.length : Int) - 1)) < (l0.length : Int) then (some (ji5, mn (rd l0 (wrap64 ((l0.length : Int) - 1))) (wrap64 (a1 + a2)))) else (none)) else (none)) = some (r1, r2) := by first | (rw [hji5] at H; exact H) | (simp only [hji5] at H ⊢; exact H)
  have hji5_ : (if (rd l0 0) < (wrap64 (a1 - a2)) then (wrap64 (a1 - a2)) else (rd l0 0)) = ji5 := hji5; obtain ⟨ji6, hji6⟩ : ∃ j_ : Int, (wrap64 ((l0.length : Int) - 1)) = j_ := ⟨_, rfl⟩; replace H : (if 0 ≤ (ji6) then (if (ji6) < (l0.length : Int) then (some (ji5, mn (rd l0 (ji6)) (wrap64 (a1 + a2)))) else (none)) else (none)) = some (r1, r2) := by first | (rw [hji6] at H; exact H) | (simp only [hji6] at H ⊢; exact H)
  have hji6w : (IntKind.i64.wrap ((l0.length : Int) - 1)) = ji6 := (wX _).trans hji6; by_cases c7 : 0 ≤ (ji6)
  ·
   rw [if_pos c7] at H; have c7b0 : decide (0 ≤ (ji6)) = true := decide_eq_true c7; clear c7; by_cases c8 : (ji6) < (l0.length : Int)
   ·
    rw [if_pos c8] at H; have c8b0 : decide ((ji6) < (l0.length : Int)) = true := decide_eq_true c8; clear c8; obtain ⟨ji9, hji9⟩ : ∃ j_ : Int, (mn (rd l0 (ji6)) (wrap64 (a1 + a2))) = j_ := ⟨_, rfl⟩; replace H : (some (ji5, ji9)) = some (r1, r2) := by first | (rw [hji9] at H; exact H) | (simp only [hji9] at H ⊢; exact H)
    have hji9_ : (if (wrap64 (a1 + a2)) < (rd l0 (ji6)) then (wrap64 (a1 + a2)) else (rd l0 (ji6))) = ji9 := hji9; simp only [Option.some.injEq, Prod.mk.injEq] at H; obtain ⟨rfl, rfl⟩ := H; have p154 : 0 ≤ (0 : Int) := (by omega); have q154 : 0 < (l0.length : Int) := of_decide_eq_true (by first | (with_reducible assumption) | assumption); obtain ⟨ad154, e154, zWA⟩ := Kd.qC HR0.out 0 p154 q154; cases e154; have qi154 : (0 < l0.length) = True := eq_true (by omega); (try rw [show ((0 : Int)).toNat = 0 from rfl] at zWA)
    (try rw [Addr.add_zero'] at zWA)
    replace p154 := eq_true p154; replace q154 := eq_true q154; have p155 : 0 ≤ ((ji6) : Int) := of_decide_eq_true (by first | (with_reducible assumption) | assumption); have q155 : (ji6) < (l0.length : Int) := of_decide_eq_true (by first | (with_reducible assumption) | assumption); obtain ⟨ad155, e155, hx155_0⟩ := Kd.qC HR0.out (ji6) p155 q155; obtain rfl : ad154 = ad155 := (by injection e155); replace p155 := eq_true p155; replace q155 := eq_true q155; go_enter Tryd.func28, Tryd.ntmps28
    go_wp2; repeat (go_quiet (fail); try go_wp2)
    go_ret2
    exact ⟨by first | rfl | (simp [zI, zH] <;> rfl) | (simp only [← hji5, ← hji6, ← hji9]; first | rfl | (simp [zI, zH] <;> rfl)) | (simp [*, zI, zH] <;> rfl), eG HB.out⟩
   · rw [if_neg c8] at H; exact absurd H (by simp)
  · rw [if_neg c7] at H; exact absurd H (by simp)
 · rw [if_neg c4] at H; exact absurd H (by simp)
def vO.j0 : Nat → Int → Int → Int → Int → Bool → List Int → List Int → List (List Int) → Option (Int × Int × Int)
 | 0, _, _, _, _, _, _, _, _ => none
 | k + 1, x1, x2, x3, x4, x43, zRK, zRJ, zUZ => if x43 = true then (some (0, 0, 2)) else ((yR.f zRK x1 x3).bind fun bt163 => ((yR.f zRJ x2 x4).bind fun bt165 => ((wT.f k zRK zRJ zUZ bt163.2 bt165.1).bind fun bt167 => ((wT.f k zRK zRJ zUZ bt163.1 bt165.2).bind fun bt169 => (some (bt167.1, bt169.1, 0))))))
def vO.f (k : Nat) (l0_0 : List Int) (l0_1 : List Int) (l0_2 : List (List Int)) (a1 : Int) (a2 : Int) (a3 : Int) (a4 : Int) : Option (Int × Int × Int) := (zE.f k l0_0 l0_1 l0_2).bind fun t158 => (if t158 = 0 then ((wT.f k l0_0 l0_1 l0_2 a1 a2).bind fun bt159 => (if bt159.2 = true then ((vZ.f a3).bind fun t161 => (if t161 = true then (vO.j0 k a1 a2 a3 a4 true l0_0 l0_1 l0_2) else ((vZ.f a4).bind fun t162 => (vO.j0 k a1 a2 a3 a4 t162 l0_0 l0_1 l0_2)))) else (vO.j0 k a1 a2 a3 a4 true l0_0 l0_1 l0_2))) else (some (0, 0, 1)))
set_option maxHeartbeats 8000000 in
set_option maxRecDepth 100000 in
theorem vO.calls (k : Nat) (A0_0 : Option Addr) (c0_0 : Nat) (l0_0 : List Int) (A0_1 : Option Addr) (c0_1 : Nat) (l0_1 : List Int) (A0_2 : Option Addr) (c0_2 : Nat) (l0_2 : List (List Int)) (a1 : Int) (a2 : Int) (a3 : Int) (a4 : Int) (r1 : Int) (r2 : Int) (r3 : Int) (w : World) (hr0_0 : Kd.C (Kd.int .i64) w A0_0 l0_0.length l0_0) (zAW : l0_0.length ≤ c0_0) (hr0_1 : Kd.C (Kd.int .i64) w A0_1 l0_1.length l0_1) (zAV : l0_1.length ≤ c0_1) (hr0_2 : Kd.C (Kd.slice 3 (Kd.int .i64)) w A0_2 l0_2.length l0_2) (zAU : l0_2.length ≤ c0_2) (h : vO.f k l0_0 l0_1 l0_2 a1 a2 a3 a4 = some (r1, r2, r3)) :
  Calls Tryd.prog 12 #[.agg #[.slice A0_0 l0_0.length c0_0, .slice A0_1 l0_1.length c0_1, .slice A0_2 l0_2.length c0_2], .int .i64 a1, .int .i64 a2, .int .i64 a3, .int .i64 a4] w fun e w' => e = .returned (.tuple #[.agg #[.int .i64 r1, .int .i64 r2], .int .i64 r3]) ∧ Below w.heap.size w w' := by
 have hu25 := Tryd.underlying25; have hu29 := Tryd.underlying29; have HR0_0 := zA.mk hr0_0; have HC0_0 := zA.mk zAW; clear hr0_0 zAW; have HR0_1 := zA.mk hr0_1; have HC0_1 := zA.mk zAV; clear hr0_1 zAV; have HR0_2 := zA.mk hr0_2; have HC0_2 := zA.mk zAU; clear hr0_2 zAU; have HB := zA.mk (Below.refl w.heap.size w); have H : ((zE.f k l0_0 l0_1 l0_2).bind fun t158 => (if t158 = 0 then ((wT.f k l0_0 l0_1 l0_2 a1 a2).bind fun bt159 => (if bt159.2 = true then ((vZ.f a3).bind fun t161 => (if t161 = true then (vO.j0 k a1 a2 a3 a4 true l0_0 l0_1 l0_2) else ((vZ.f a4).bind fun t162 => (vO.j0 k a1 a2 a3 a4 t162 l0_0 l0_1 l0_2)))) else (vO.j0 k a1 a2 a3 a4 true l0_0 l0_1 l0_2))) else (some (0, 0, 1)))) = some (r1, r2, r3) := h; clear h; replace H := Option.bind_eq_some_iff.mp H; obtain ⟨t158, A60, H⟩ := H; replace H : (if t158 = 0 then ((wT.f k l0_0 l0_1 l0_2 a1 a2).bind fun bt159 => (if bt159.2 = true then ((vZ.f a3).bind fun t161 => (if t161 = true then (vO.j0 k a1 a2 a3 a4 true l0_0 l0_1 l0_2) else ((vZ.f a4).bind fun t162 => (vO.j0 k a1 a2 a3 a4 t162 l0_0 l0_1 l0_2)))) else (vO.j0 k a1 a2 a3 a4 true l0_0 l0_1 l0_2))) else (some (0, 0, 1))) = some (r1, r2, r3) := H; have A6 := zA.mk A60; clear A60; by_cases c7 : t158 = 0
 ·
  rw [if_pos c7] at H; have c7b0 : (t158 == 0) = true := beq_iff_eq.mpr c7; have c7b1 : (t158 != 0) = false := bne_eq_false_iff_eq.mpr c7; clear c7; replace H := Option.bind_eq_some_iff.mp H; obtain ⟨⟨t159, t160⟩, A80, H⟩ := H; replace H : (if t160 = true then ((vZ.f a3).bind fun t161 => (if t161 = true then (vO.j0 k a1 a2 a3 a4 true l0_0 l0_1 l0_2) else ((vZ.f a4).bind fun t162 => (vO.j0 k a1 a2 a3 a4 t162 l0_0 l0_1 l0_2)))) else (vO.j0 k a1 a2 a3 a4 true l0_0 l0_1 l0_2)) = some (r1, r2, r3) := H; have A8 := zA.mk A80; clear A80; have HC9 := zA.mk H; clear H; go_enter Tryd.func12, Tryd.ntmps12
  go_upto_region 4 with (first | ((with_reducible refine vH (N := 5) rfl ?_); refine vD ?hg (N := 5) ?hd (cs := #[.slice A0_0 l0_0.length c0_0, .slice A0_1 l0_1.length c0_1, .slice A0_2 l0_2.length c0_2]) (t := 25) ?hr ?_; (case hd => rfl); (case hg => rfl); (case hr => first | (go_simp; done) | (go_simp; rfl)); intro zBQ hg w10 hbox hb; have n0_ := zA.mk (zG (eG HB.out) hb); have n1_ := zA.mk (hbox); have n2_ := zA.mk ((by rw [hg]; exact (zD (eG HB.out)) : w.heap.size ≤ zBQ)); have n3_ := zA.mk ((by rw [hg]; exact (zD (eG HB.out)) : w.heap.size ≤ zBQ)); clear HB; have HB := n0_; have yE := n1_; have GW156 := n2_; have GE156 := n3_; have ig156_ := geI GE156; clear n0_ n1_ n2_ n3_; clear hb hbox hg) | ((with_reducible refine vH (N := 10) rfl ?_); refine vD ?hg (N := 10) ?hd (cs := #[.int .i64 0, .int .i64 0]) (t := 29) ?hr ?_; (case hd => rfl); (case hg => rfl); (case hr => first | (go_simp; done) | (go_simp; rfl)); intro zET hg w11 hbox hb; have n0_ := zA.mk (zM (bG yE.out) hb); have n1_ := zA.mk (zG (eG HB.out) hb); have n2_ := zA.mk (hbox); have n3_ := zA.mk ((by rw [hg]; exact (zD (eG HB.out)) : w.heap.size ≤ zET)); have n4_ := zA.mk ((by rw [hg]; exact (zD (eG HB.out)) : w.heap.size ≤ zET)); have n5_ := zA.mk ((by rw [hg]; exact Nat.ne_of_lt (yG (bG yE.out)) : zBQ ≠ zET)); have n6_ := zA.mk ((by rw [hg]; exact Nat.ne_of_gt (yG (bG yE.out)) : zET ≠ zBQ)); clear yE; clear HB; have yE := n0_; have HB := n1_; have kR := n2_; have GW157 := n3_; have GE157 := n4_; have ig157_ := geI GE157; have zGA := n5_; have zFZ := n6_; clear n0_ n1_ n2_ n3_ n4_ n5_ n6_; clear hb hbox hg; have hnb12 := zGA.out; have hnc12 := zFZ.out; have hcz13_0 : w11.cell? ⟨zBQ, 0, none⟩ = some (.slice A0_0 l0_0.length c0_0) := (zC yE.out 0).trans rfl; have hcz13_1 : w11.cell? ⟨zBQ, 1, none⟩ = some (.slice A0_1 l0_1.length c0_1) := (zC yE.out 1).trans rfl; have hcz13_2 : w11.cell? ⟨zBQ, 2, none⟩ = some (.slice A0_2 l0_2.length c0_2) := (zC yE.out 2).trans rfl; have hfz13_0 := zB yE.out 0; have hfz13_1 := zB yE.out 1; have hfz13_2 := zB yE.out 2) | ((with_reducible refine zQ (f := 18) rfl ?_); refine vN (some 24) rfl rfl Tryd.func18 (by kernel_rfl) rfl #[.agg #[.slice A0_0 l0_0.length c0_0, .slice A0_1 l0_1.length c0_1, .slice A0_2 l0_2.length c0_2]] rfl (by (try simp only [List.map_toArray, List.map_cons, List.map_nil]); first | done | rfl | (simp only [List.length_drop, List.length_take]; rfl)) ?_; (with_reducible refine (zE.calls k _ _ l0_0 _ _ l0_1 _ _ l0_2 t158 _ ?side1 ?side2 ?side3 ?side4 ?side5 ?side6 A6.out).mono ?_); (case side1 => repeat (first | exact (Kd.zX HR0_0.out HB.out) | (with_reducible refine Kd.zP ?_ _) | (with_reducible refine Kd.zO ?_ _) | (with_reducible refine Kd.zY ?_))); (case side2 => exact HC0_0.out); (case side3 => repeat (first | exact (Kd.zX HR0_1.out HB.out) | (with_reducible refine Kd.zP ?_ _) | (with_reducible refine Kd.zO ?_ _) | (with_reducible refine Kd.zY ?_))); (case side4 => exact HC0_1.out); (case side5 => repeat (first | exact (Kd.zX HR0_2.out HB.out) | (with_reducible refine Kd.zP ?_ _) | (with_reducible refine Kd.zO ?_ _) | (with_reducible refine Kd.zY ?_))); (case side6 => exact HC0_2.out); rintro e w14 ⟨rfl, hb⟩; refine ⟨_, rfl, ?_⟩; have n0_ := zA.mk (zM (bG yE.out) hb); have n1_ := zA.mk (zM (bG kR.out) hb); have n2_ := zA.mk (zG (eG HB.out) hb); clear yE; clear kR; clear HB; have yE := n0_; have kR := n1_; have HB := n2_; clear n0_ n1_ n2_; (try clear hb); (try clear hb2); (try clear hk); (try clear hi); have zPH : w14.cell? ⟨zBQ, 0, none⟩ = some (.slice A0_0 l0_0.length c0_0) := (zC yE.out 0).trans rfl; have zPG : w14.cell? ⟨zBQ, 1, none⟩ = some (.slice A0_1 l0_1.length c0_1) := (zC yE.out 1).trans rfl; have zPF : w14.cell? ⟨zBQ, 2, none⟩ = some (.slice A0_2 l0_2.length c0_2) := (zC yE.out 2).trans rfl; have zOQ := zB yE.out 0; have zOP := zB yE.out 1; have zOO := zB yE.out 2) | ((with_reducible refine zQ (f := 26) rfl ?_); refine vN (some 31) rfl rfl Tryd.func26 (by kernel_rfl) rfl #[.agg #[.slice A0_0 l0_0.length c0_0, .slice A0_1 l0_1.length c0_1, .slice A0_2 l0_2.length c0_2], .int .i64 a1, .int .i64 a2] rfl (by (try simp only [List.map_toArray, List.map_cons, List.map_nil]); first | done | rfl | (simp only [List.length_drop, List.length_take]; rfl)) ?_; (with_reducible refine (wT.calls k _ _ l0_0 _ _ l0_1 _ _ l0_2 a1 a2 t159 t160 _ ?side1 ?side2 ?side3 ?side4 ?side5 ?side6 A8.out).mono ?_); (case side1 => repeat (first | exact (Kd.zX HR0_0.out HB.out) | (with_reducible refine Kd.zP ?_ _) | (with_reducible refine Kd.zO ?_ _) | (with_reducible refine Kd.zY ?_))); (case side2 => exact HC0_0.out); (case side3 => repeat (first | exact (Kd.zX HR0_1.out HB.out) | (with_reducible refine Kd.zP ?_ _) | (with_reducible refine Kd.zO ?_ _) | (with_reducible refine Kd.zY ?_))); (case side4 => exact HC0_1.out); (case side5 => repeat (first | exact (Kd.zX HR0_2.out HB.out) | (with_reducible refine Kd.zP ?_ _) | (with_reducible refine Kd.zO ?_ _) | (with_reducible refine Kd.zY ?_))); (case side6 => exact HC0_2.out); rintro e w16 ⟨rfl, hb⟩; refine ⟨_, rfl, ?_⟩; have n0_ := zA.mk (zM (bG yE.out) hb); have n1_ := zA.mk (zM (bG kR.out) hb); have n2_ := zA.mk (zG (eG HB.out) hb); clear yE; clear kR; clear HB; have yE := n0_; have kR := n1_; have HB := n2_; clear n0_ n1_ n2_; (try clear hb); (try clear hb2); (try clear hk); (try clear hi)))
  (try simp only [Act.put, sIA, sC0, sCS])
  go_cut [43] (fun v43 wc => ∃ (kq : Nat) (x43_8 : Bool), v43 = .bool x43_8 ∧ zA (vO.j0 kq a1 a2 a3 a4 x43_8 l0_0 l0_1 l0_2 = some (r1, r2, r3)) ∧ zA (kq ≤ k) ∧ zA (wc.heap[zBQ]? = some (.cells #[(.slice A0_0 l0_0.length c0_0), (.slice A0_1 l0_1.length c0_1), (.slice A0_2 l0_2.length c0_2)] 25 (0, 0))) ∧ zA (wc.heap[zET]? = some (.cells #[.int .i64 0, .int .i64 0] 29 (0, 0))) ∧ zA (Below w.heap.size w wc))
  case first =>
   have H := HC9.out; clear HC9; by_cases c17 : t160 = true
   ·
    subst c17; replace H : ((vZ.f a3).bind fun t161 => (if t161 = true then (vO.j0 k a1 a2 a3 a4 true l0_0 l0_1 l0_2) else ((vZ.f a4).bind fun t162 => (vO.j0 k a1 a2 a3 a4 t162 l0_0 l0_1 l0_2)))) = some (r1, r2, r3) := by rw [if_pos rfl] at H; exact H
    replace H := Option.bind_eq_some_iff.mp H; obtain ⟨t161, A180, H⟩ := H; replace H : (if t161 = true then (vO.j0 k a1 a2 a3 a4 true l0_0 l0_1 l0_2) else ((vZ.f a4).bind fun t162 => (vO.j0 k a1 a2 a3 a4 t162 l0_0 l0_1 l0_2))) = some (r1, r2, r3) := H; have A18 := zA.mk A180; clear A180; by_cases c19 : t161 = true
    ·
     subst c19; replace H : (vO.j0 k a1 a2 a3 a4 true l0_0 l0_1 l0_2) = some (r1, r2, r3) := by rw [if_pos rfl] at H; exact H
     have H' := zA.mk H; clear H; go_wp2_with (first | (go_at_call 27; (with_reducible refine (vZ.calls a3 true _ A18.out).mono ?_); rintro e w' ⟨rfl, ⟨nd, rfl⟩⟩))
     go_meet
     case rel => exact ⟨_, (true), (by first | rfl | (simp; done) | (simp [*]; done)), H', ⟨by first | omega | exact Nat.le_refl _⟩, ⟨by (with_reducible repeat first | apply bN | apply bD | apply bA); exact yE.out⟩, ⟨by (with_reducible repeat first | apply bN | apply bD | apply bA); exact kR.out⟩, ⟨eG HB.out⟩⟩
    ·
     replace c19 := Bool.eq_false_iff.mpr c19; subst c19; replace H : ((vZ.f a4).bind fun t162 => (vO.j0 k a1 a2 a3 a4 t162 l0_0 l0_1 l0_2)) = some (r1, r2, r3) := by rw [if_neg (show ¬ (false = true) by decide)] at H; exact H
     replace H := Option.bind_eq_some_iff.mp H; obtain ⟨t162, A200, H⟩ := H; replace H : (vO.j0 k a1 a2 a3 a4 t162 l0_0 l0_1 l0_2) = some (r1, r2, r3) := H; have A20 := zA.mk A200; clear A200; have H' := zA.mk H; clear H; go_wp2_with (first | (go_at_call 27; (with_reducible refine (vZ.calls a3 false _ A18.out).mono ?_); rintro e w' ⟨rfl, ⟨nd, rfl⟩⟩) | (go_at_call 27; (with_reducible refine (vZ.calls a4 t162 _ A20.out).mono ?_); rintro e w' ⟨rfl, ⟨nd, rfl⟩⟩))
     go_meet
     case rel => exact ⟨_, (t162), (by first | rfl | (simp; done) | (simp [*]; done)), H', ⟨by first | omega | exact Nat.le_refl _⟩, ⟨by (with_reducible repeat first | apply bN | apply bD | apply bA); exact yE.out⟩, ⟨by (with_reducible repeat first | apply bN | apply bD | apply bA); exact kR.out⟩, ⟨eG HB.out⟩⟩
   ·
    replace c17 := Bool.eq_false_iff.mpr c17; subst c17; replace H : (vO.j0 k a1 a2 a3 a4 true l0_0 l0_1 l0_2) = some (r1, r2, r3) := by rw [if_neg (show ¬ (false = true) by decide)] at H; exact H
    have H' := zA.mk H; clear H; go_wp2; go_meet
    case rel => exact ⟨_, (true), (by first | rfl | (simp; done) | (simp [*]; done)), H', ⟨by first | omega | exact Nat.le_refl _⟩, ⟨by (with_reducible repeat first | apply bN | apply bD | apply bA); exact yE.out⟩, ⟨by (with_reducible repeat first | apply bN | apply bD | apply bA); exact kR.out⟩, ⟨eG HB.out⟩⟩
  case rest =>
   clear HC9; repeat first | clear c1 | clear c2 | clear p2 | clear c7 | clear c7b0 | clear c7b1 | clear c12 | clear c17 | clear c18 | clear c19 | clear hcz13_0 | clear hcz13_1 | clear hcz13_2 | clear zPH | clear zPG | clear zPF | clear hfz13_0 | clear hfz13_1 | clear hfz13_2 | clear zOQ | clear zOP | clear zOO
   obtain ⟨kq, x43_8, rfl, HA, HJ8, yE, kR, HB⟩ := hcut
   cases kq with
   | zero => exact absurd HA.out (by simp [vO.j0])
   | succ kj8 =>
    have H := HA.out; clear HA; simp only [vO.j0] at H; by_cases c21 : x43_8 = true
    ·
     subst c21; replace H : (some (0, 0, 2)) = some (r1, r2, r3) := by rw [if_pos rfl] at H; exact H
     simp only [Option.some.injEq, Prod.mk.injEq] at H; obtain ⟨rfl, rfl, rfl⟩ := H; have hnb22 := zFZ.out; have hnc22 := zGA.out; have hcz23_0 : wc.cell? ⟨zET, 0, none⟩ = some (.int .i64 0) := (zC kR.out 0).trans rfl; have hcz23_1 : wc.cell? ⟨zET, 1, none⟩ = some (.int .i64 0) := (zC kR.out 1).trans rfl; have hfz23_0 := zB kR.out 0; have hfz23_1 := zB kR.out 1; go_wp2; refine bodyPost_ret (zIE rfl _ _ zET 29 #[.int .i64 0, .int .i64 0] (0, 0) _ rfl (by (with_reducible repeat first | apply bN | apply bD | apply bA); refine vA (cs := #[.int .i64 0, .int .i64 0]) ?_ 1 _ rfl; (with_reducible repeat first | apply bN | apply bD | apply bA); refine vA (cs := #[.int .i64 0, .int .i64 0]) ?_ 0 _ rfl; (with_reducible repeat first | apply bN | apply bD | apply bA); exact kR.out) Tryd.underlying29 rfl (by kernel_rfl)) rfl ?_; exact ⟨by first | rfl | (simp [zI, zH] <;> rfl) | (simp [*, zI, zH] <;> rfl), eG HB.out⟩
    ·
     replace c21 := Bool.eq_false_iff.mpr c21; subst c21; replace H : ((yR.f l0_0 a1 a3).bind fun bt163 => ((yR.f l0_1 a2 a4).bind fun bt165 => ((wT.f kj8 l0_0 l0_1 l0_2 bt163.2 bt165.1).bind fun bt167 => ((wT.f kj8 l0_0 l0_1 l0_2 bt163.1 bt165.2).bind fun bt169 => (some (bt167.1, bt169.1, 0)))))) = some (r1, r2, r3) := by rw [if_neg (show ¬ (false = true) by decide)] at H; exact H
     replace H := Option.bind_eq_some_iff.mp H; obtain ⟨⟨t163, t164⟩, A240, H⟩ := H; replace H : ((yR.f l0_1 a2 a4).bind fun bt165 => ((wT.f kj8 l0_0 l0_1 l0_2 t164 bt165.1).bind fun bt167 => ((wT.f kj8 l0_0 l0_1 l0_2 t163 bt165.2).bind fun bt169 => (some (bt167.1, bt169.1, 0))))) = some (r1, r2, r3) := H; have A24 := zA.mk A240; clear A240; replace H := Option.bind_eq_some_iff.mp H; obtain ⟨⟨t165, t166⟩, A250, H⟩ := H; replace H : ((wT.f kj8 l0_0 l0_1 l0_2 t164 t165).bind fun bt167 => ((wT.f kj8 l0_0 l0_1 l0_2 t163 t166).bind fun bt169 => (some (bt167.1, bt169.1, 0)))) = some (r1, r2, r3) := H; have A25 := zA.mk A250; clear A250; replace H := Option.bind_eq_some_iff.mp H; obtain ⟨⟨t167, t168⟩, A260, H⟩ := H; replace H : ((wT.f kj8 l0_0 l0_1 l0_2 t163 t166).bind fun bt169 => (some (t167, bt169.1, 0))) = some (r1, r2, r3) := H; have A26 := zA.mk A260; clear A260; replace H := Option.bind_eq_some_iff.mp H; obtain ⟨⟨t169, t170⟩, A270, H⟩ := H; replace H : (some (t167, t169, 0)) = some (r1, r2, r3) := H; have A27 := zA.mk A270; clear A270; simp only [Option.some.injEq, Prod.mk.injEq] at H; obtain ⟨rfl, rfl, rfl⟩ := H; have hnb28 := zGA.out; have hnc28 := zFZ.out; have zOY : wc.cell? ⟨zBQ, 0, none⟩ = some (.slice A0_0 l0_0.length c0_0) := (zC yE.out 0).trans rfl; have zOX : wc.cell? ⟨zBQ, 1, none⟩ = some (.slice A0_1 l0_1.length c0_1) := (zC yE.out 1).trans rfl; have zSU : wc.cell? ⟨zBQ, 2, none⟩ = some (.slice A0_2 l0_2.length c0_2) := (zC yE.out 2).trans rfl; have zOH := zB yE.out 0; have zOG := zB yE.out 1; have zSL := zB yE.out 2; go_wp2_with (first | (go_at_call 28; (with_reducible refine (yR.calls _ _ l0_0 a1 a3 t163 t164 _ ?side1 ?side2 A24.out).mono ?_); (case side1 => repeat (first | exact (Kd.zX HR0_0.out HB.out) | (with_reducible refine Kd.zP ?_ _) | (with_reducible refine Kd.zO ?_ _) | (with_reducible refine Kd.zY ?_))); (case side2 => exact HC0_0.out); rintro e w30 ⟨rfl, hb⟩; have n0_ := zA.mk (zM (bG yE.out) hb); have n1_ := zA.mk (zM (bG kR.out) hb); have n2_ := zA.mk (zG (eG HB.out) hb); clear yE; clear kR; clear HB; have yE := n0_; have kR := n1_; have HB := n2_; clear n0_ n1_ n2_; (try clear hb); (try clear hb2); (try clear hk); (try clear hi); have zOW : w30.cell? ⟨zBQ, 0, none⟩ = some (.slice A0_0 l0_0.length c0_0) := (zC yE.out 0).trans rfl; have zOV : w30.cell? ⟨zBQ, 1, none⟩ = some (.slice A0_1 l0_1.length c0_1) := (zC yE.out 1).trans rfl; have zOU : w30.cell? ⟨zBQ, 2, none⟩ = some (.slice A0_2 l0_2.length c0_2) := (zC yE.out 2).trans rfl; have zOF := zB yE.out 0; have zOE := zB yE.out 1; have zOD := zB yE.out 2) | (go_at_call 28; (with_reducible refine (yR.calls _ _ l0_1 a2 a4 t165 t166 _ ?side1 ?side2 A25.out).mono ?_); (case side1 => repeat (first | exact (Kd.zX HR0_1.out HB.out) | (with_reducible refine Kd.zP ?_ _) | (with_reducible refine Kd.zO ?_ _) | (with_reducible refine Kd.zY ?_))); (case side2 => exact HC0_1.out); rintro e w32 ⟨rfl, hb⟩; have n0_ := zA.mk (zM (bG yE.out) hb); have n1_ := zA.mk (zM (bG kR.out) hb); have n2_ := zA.mk (zG (eG HB.out) hb); clear yE; clear kR; clear HB; have yE := n0_; have kR := n1_; have HB := n2_; clear n0_ n1_ n2_; (try clear hb); (try clear hb2); (try clear hk); (try clear hi); have hcz33_0 : w32.cell? ⟨zBQ, 0, none⟩ = some (.slice A0_0 l0_0.length c0_0) := (zC yE.out 0).trans rfl; have hcz33_1 : w32.cell? ⟨zBQ, 1, none⟩ = some (.slice A0_1 l0_1.length c0_1) := (zC yE.out 1).trans rfl; have hcz33_2 : w32.cell? ⟨zBQ, 2, none⟩ = some (.slice A0_2 l0_2.length c0_2) := (zC yE.out 2).trans rfl; have hfz33_0 := zB yE.out 0; have hfz33_1 := zB yE.out 1; have hfz33_2 := zB yE.out 2) | ((with_reducible refine zQ (f := 26) rfl ?_); refine vN (some 67) rfl rfl Tryd.func26 (by kernel_rfl) rfl #[.agg #[.slice A0_0 l0_0.length c0_0, .slice A0_1 l0_1.length c0_1, .slice A0_2 l0_2.length c0_2], .int .i64 t164, .int .i64 t165] rfl (by (try simp only [List.map_toArray, List.map_cons, List.map_nil]); first | done | rfl | (simp only [List.length_drop, List.length_take]; rfl)) ?_; (with_reducible refine (wT.calls kj8 _ _ l0_0 _ _ l0_1 _ _ l0_2 t164 t165 t167 t168 _ ?side1 ?side2 ?side3 ?side4 ?side5 ?side6 A26.out).mono ?_); (case side1 => repeat (first | exact (Kd.zX HR0_0.out HB.out) | (with_reducible refine Kd.zP ?_ _) | (with_reducible refine Kd.zO ?_ _) | (with_reducible refine Kd.zY ?_))); (case side2 => exact HC0_0.out); (case side3 => repeat (first | exact (Kd.zX HR0_1.out HB.out) | (with_reducible refine Kd.zP ?_ _) | (with_reducible refine Kd.zO ?_ _) | (with_reducible refine Kd.zY ?_))); (case side4 => exact HC0_1.out); (case side5 => repeat (first | exact (Kd.zX HR0_2.out HB.out) | (with_reducible refine Kd.zP ?_ _) | (with_reducible refine Kd.zO ?_ _) | (with_reducible refine Kd.zY ?_))); (case side6 => exact HC0_2.out); rintro e w34 ⟨rfl, hb⟩; refine ⟨_, rfl, ?_⟩; have n0_ := zA.mk (zM (bG yE.out) hb); have n1_ := zA.mk (zM (bG kR.out) hb); have n2_ := zA.mk (zG (eG HB.out) hb); clear yE; clear kR; clear HB; have yE := n0_; have kR := n1_; have HB := n2_; clear n0_ n1_ n2_; (try clear hb); (try clear hb2); (try clear hk); (try clear hi); have hcz35_0 : w34.cell? ⟨zBQ, 0, none⟩ = some (.slice A0_0 l0_0.length c0_0) := (zC yE.out 0).trans rfl; have hcz35_1 : w34.cell? ⟨zBQ, 1, none⟩ = some (.slice A0_1 l0_1.length c0_1) := (zC yE.out 1).trans rfl; have hcz35_2 : w34.cell? ⟨zBQ, 2, none⟩ = some (.slice A0_2 l0_2.length c0_2) := (zC yE.out 2).trans rfl; have hfz35_0 := zB yE.out 0; have hfz35_1 := zB yE.out 1; have hfz35_2 := zB yE.out 2) | ((with_reducible refine zQ (f := 26) rfl ?_); refine vN (some 74) rfl rfl Tryd.func26 (by kernel_rfl) rfl #[.agg #[.slice A0_0 l0_0.length c0_0, .slice A0_1 l0_1.length c0_1, .slice A0_2 l0_2.length c0_2], .int .i64 t163, .int .i64 t166] rfl (by (try simp only [List.map_toArray, List.map_cons, List.map_nil]); first | done | rfl | (simp only [List.length_drop, List.length_take]; rfl)) ?_; (with_reducible refine (wT.calls kj8 _ _ l0_0 _ _ l0_1 _ _ l0_2 t163 t166 t169 t170 _ ?side1 ?side2 ?side3 ?side4 ?side5 ?side6 A27.out).mono ?_); (case side1 => repeat (first | exact (Kd.zX HR0_0.out HB.out) | (with_reducible refine Kd.zP ?_ _) | (with_reducible refine Kd.zO ?_ _) | (with_reducible refine Kd.zY ?_))); (case side2 => exact HC0_0.out); (case side3 => repeat (first | exact (Kd.zX HR0_1.out HB.out) | (with_reducible refine Kd.zP ?_ _) | (with_reducible refine Kd.zO ?_ _) | (with_reducible refine Kd.zY ?_))); (case side4 => exact HC0_1.out); (case side5 => repeat (first | exact (Kd.zX HR0_2.out HB.out) | (with_reducible refine Kd.zP ?_ _) | (with_reducible refine Kd.zO ?_ _) | (with_reducible refine Kd.zY ?_))); (case side6 => exact HC0_2.out); rintro e w36 ⟨rfl, hb⟩; refine ⟨_, rfl, ?_⟩; have n0_ := zA.mk (zM (bG yE.out) hb); have n1_ := zA.mk (zM (bG kR.out) hb); have n2_ := zA.mk (zG (eG HB.out) hb); clear yE; clear kR; clear HB; have yE := n0_; have kR := n1_; have HB := n2_; clear n0_ n1_ n2_; (try clear hb); (try clear hb2); (try clear hk); (try clear hi); have zSQ : w36.cell? ⟨zET, 0, none⟩ = some (.int .i64 0) := (zC kR.out 0).trans rfl; have zSP : w36.cell? ⟨zET, 1, none⟩ = some (.int .i64 0) := (zC kR.out 1).trans rfl; have zSH := zB kR.out 0; have zSG := zB kR.out 1))
     refine bodyPost_ret (zIE rfl _ _ zET 29 #[.int .i64 t167, .int .i64 t169] (0, 0) _ rfl (by (with_reducible repeat first | apply bN | apply bD | apply bA); refine vA (cs := #[.int .i64 t167, .int .i64 0]) ?_ 1 _ rfl; (with_reducible repeat first | apply bN | apply bD | apply bA); refine vA (cs := #[.int .i64 0, .int .i64 0]) ?_ 0 _ rfl; (with_reducible repeat first | apply bN | apply bD | apply bA); exact kR.out) Tryd.underlying29 rfl (by kernel_rfl)) rfl ?_; exact ⟨by first | rfl | (simp [zI, zH] <;> rfl) | (simp [*, zI, zH] <;> rfl), eG HB.out⟩
 ·
  rw [if_neg c7] at H; have c7b0 : (t158 == 0) = false := beq_eq_false_iff_ne.mpr c7; have c7b1 : (t158 != 0) = true := bne_iff_ne.mpr c7; simp only [Option.some.injEq, Prod.mk.injEq] at H; obtain ⟨rfl, rfl, rfl⟩ := H; go_enter Tryd.func12, Tryd.ntmps12
  go_wp2_with (first | ((with_reducible refine vH (N := 5) rfl ?_); refine vD ?hg (N := 5) ?hd (cs := #[.slice A0_0 l0_0.length c0_0, .slice A0_1 l0_1.length c0_1, .slice A0_2 l0_2.length c0_2]) (t := 25) ?hr ?_; (case hd => rfl); (case hg => rfl); (case hr => first | (go_simp; done) | (go_simp; rfl)); intro zBQ hg w38 hbox hb; have n0_ := zA.mk (zG (eG HB.out) hb); have n1_ := zA.mk (hbox); have n2_ := zA.mk ((by rw [hg]; exact (zD (eG HB.out)) : w.heap.size ≤ zBQ)); have n3_ := zA.mk ((by rw [hg]; exact (zD (eG HB.out)) : w.heap.size ≤ zBQ)); clear HB; have HB := n0_; have yE := n1_; have GW156 := n2_; have GE156 := n3_; have ig156_ := geI GE156; clear n0_ n1_ n2_ n3_; clear hb hbox hg) | ((with_reducible refine vH (N := 10) rfl ?_); refine vD ?hg (N := 10) ?hd (cs := #[.int .i64 0, .int .i64 0]) (t := 29) ?hr ?_; (case hd => rfl); (case hg => rfl); (case hr => first | (go_simp; done) | (go_simp; rfl)); intro zET hg w39 hbox hb; have n0_ := zA.mk (zM (bG yE.out) hb); have n1_ := zA.mk (zG (eG HB.out) hb); have n2_ := zA.mk (hbox); have n3_ := zA.mk ((by rw [hg]; exact (zD (eG HB.out)) : w.heap.size ≤ zET)); have n4_ := zA.mk ((by rw [hg]; exact (zD (eG HB.out)) : w.heap.size ≤ zET)); have n5_ := zA.mk ((by rw [hg]; exact Nat.ne_of_lt (yG (bG yE.out)) : zBQ ≠ zET)); have n6_ := zA.mk ((by rw [hg]; exact Nat.ne_of_gt (yG (bG yE.out)) : zET ≠ zBQ)); clear yE; clear HB; have yE := n0_; have HB := n1_; have kR := n2_; have GW157 := n3_; have GE157 := n4_; have ig157_ := geI GE157; have zGA := n5_; have zFZ := n6_; clear n0_ n1_ n2_ n3_ n4_ n5_ n6_; clear hb hbox hg; have hnb40 := zGA.out; have hnc40 := zFZ.out; have hcz41_0 : w39.cell? ⟨zBQ, 0, none⟩ = some (.slice A0_0 l0_0.length c0_0) := (zC yE.out 0).trans rfl; have hcz41_1 : w39.cell? ⟨zBQ, 1, none⟩ = some (.slice A0_1 l0_1.length c0_1) := (zC yE.out 1).trans rfl; have hcz41_2 : w39.cell? ⟨zBQ, 2, none⟩ = some (.slice A0_2 l0_2.length c0_2) := (zC yE.out 2).trans rfl; have hfz41_0 := zB yE.out 0; have hfz41_1 := zB yE.out 1; have hfz41_2 := zB yE.out 2) | ((with_reducible refine zQ (f := 18) rfl ?_); refine vN (some 24) rfl rfl Tryd.func18 (by kernel_rfl) rfl #[.agg #[.slice A0_0 l0_0.length c0_0, .slice A0_1 l0_1.length c0_1, .slice A0_2 l0_2.length c0_2]] rfl (by (try simp only [List.map_toArray, List.map_cons, List.map_nil]); first | done | rfl | (simp only [List.length_drop, List.length_take]; rfl)) ?_; (with_reducible refine (zE.calls k _ _ l0_0 _ _ l0_1 _ _ l0_2 t158 _ ?side1 ?side2 ?side3 ?side4 ?side5 ?side6 A6.out).mono ?_); (case side1 => repeat (first | exact (Kd.zX HR0_0.out HB.out) | (with_reducible refine Kd.zP ?_ _) | (with_reducible refine Kd.zO ?_ _) | (with_reducible refine Kd.zY ?_))); (case side2 => exact HC0_0.out); (case side3 => repeat (first | exact (Kd.zX HR0_1.out HB.out) | (with_reducible refine Kd.zP ?_ _) | (with_reducible refine Kd.zO ?_ _) | (with_reducible refine Kd.zY ?_))); (case side4 => exact HC0_1.out); (case side5 => repeat (first | exact (Kd.zX HR0_2.out HB.out) | (with_reducible refine Kd.zP ?_ _) | (with_reducible refine Kd.zO ?_ _) | (with_reducible refine Kd.zY ?_))); (case side6 => exact HC0_2.out); rintro e w42 ⟨rfl, hb⟩; refine ⟨_, rfl, ?_⟩; have n0_ := zA.mk (zM (bG yE.out) hb); have n1_ := zA.mk (zM (bG kR.out) hb); have n2_ := zA.mk (zG (eG HB.out) hb); clear yE; clear kR; clear HB; have yE := n0_; have kR := n1_; have HB := n2_; clear n0_ n1_ n2_; (try clear hb); (try clear hb2); (try clear hk); (try clear hi); have zXE : w42.cell? ⟨zET, 0, none⟩ = some (.int .i64 0) := (zC kR.out 0).trans rfl; have zXD : w42.cell? ⟨zET, 1, none⟩ = some (.int .i64 0) := (zC kR.out 1).trans rfl; have zWN := zB kR.out 0; have zWM := zB kR.out 1))
  refine bodyPost_ret (zIE rfl _ _ zET 29 #[.int .i64 0, .int .i64 0] (0, 0) _ rfl (by (with_reducible repeat first | apply bN | apply bD | apply bA); refine vA (cs := #[.int .i64 0, .int .i64 0]) ?_ 1 _ rfl; (with_reducible repeat first | apply bN | apply bD | apply bA); refine vA (cs := #[.int .i64 0, .int .i64 0]) ?_ 0 _ rfl; (with_reducible repeat first | apply bN | apply bD | apply bA); exact kR.out) Tryd.underlying29 rfl (by kernel_rfl)) rfl ?_; exact ⟨by first | rfl | (simp [zI, zH] <;> rfl) | (simp [*, zI, zH] <;> rfl), eG HB.out⟩
def zBS.f (k : Nat) (l0_0 : List Int) (l0_1 : List Int) (l0_2 : List (List Int)) (a1 : Int) (a2 : Int) : Option (Int × Int) := (zE.f k l0_0 l0_1 l0_2).bind fun t172 => (if t172 = 0 then ((wT.f k l0_0 l0_1 l0_2 a1 a2).bind fun bt173 => (if bt173.2 = true then (some (bt173.1, 0)) else (some (0, 2)))) else (some (0, 1)))
set_option maxHeartbeats 8000000 in
set_option maxRecDepth 100000 in
theorem zBS.calls (k : Nat) (A0_0 : Option Addr) (c0_0 : Nat) (l0_0 : List Int) (A0_1 : Option Addr) (c0_1 : Nat) (l0_1 : List Int) (A0_2 : Option Addr) (c0_2 : Nat) (l0_2 : List (List Int)) (a1 : Int) (a2 : Int) (r1 : Int) (r2 : Int) (w : World) (hr0_0 : Kd.C (Kd.int .i64) w A0_0 l0_0.length l0_0) (zAW : l0_0.length ≤ c0_0) (hr0_1 : Kd.C (Kd.int .i64) w A0_1 l0_1.length l0_1) (zAV : l0_1.length ≤ c0_1) (hr0_2 : Kd.C (Kd.slice 3 (Kd.int .i64)) w A0_2 l0_2.length l0_2) (zAU : l0_2.length ≤ c0_2) (h : zBS.f k l0_0 l0_1 l0_2 a1 a2 = some (r1, r2)) :
  Calls Tryd.prog 14 #[.agg #[.slice A0_0 l0_0.length c0_0, .slice A0_1 l0_1.length c0_1, .slice A0_2 l0_2.length c0_2], .int .i64 a1, .int .i64 a2] w fun e w' => e = .returned (.tuple #[.int .i64 r1, .int .i64 r2]) ∧ Below w.heap.size w w' := by
 have hu25 := Tryd.underlying25; have HR0_0 := zA.mk hr0_0; have HC0_0 := zA.mk zAW; clear hr0_0 zAW; have HR0_1 := zA.mk hr0_1; have HC0_1 := zA.mk zAV; clear hr0_1 zAV; have HR0_2 := zA.mk hr0_2; have HC0_2 := zA.mk zAU; clear hr0_2 zAU; have HB := zA.mk (Below.refl w.heap.size w); have H : ((zE.f k l0_0 l0_1 l0_2).bind fun t172 => (if t172 = 0 then ((wT.f k l0_0 l0_1 l0_2 a1 a2).bind fun bt173 => (if bt173.2 = true then (some (bt173.1, 0)) else (some (0, 2)))) else (some (0, 1)))) = some (r1, r2) := h; clear h; replace H := Option.bind_eq_some_iff.mp H; obtain ⟨t172, A40, H⟩ := H; replace H : (if t172 = 0 then ((wT.f k l0_0 l0_1 l0_2 a1 a2).bind fun bt173 => (if bt173.2 = true then (some (bt173.1, 0)) else (some (0, 2)))) else (some (0, 1))) = some (r1, r2) := H; have A4 := zA.mk A40; clear A40; by_cases c5 : t172 = 0
 ·
  rw [if_pos c5] at H; have c5b0 : (t172 == 0) = true := beq_iff_eq.mpr c5; have c5b1 : (t172 != 0) = false := bne_eq_false_iff_eq.mpr c5; clear c5; replace H := Option.bind_eq_some_iff.mp H; obtain ⟨⟨t173, t174⟩, A60, H⟩ := H; replace H : (if t174 = true then (some (t173, 0)) else (some (0, 2))) = some (r1, r2) := H; have A6 := zA.mk A60; clear A60; by_cases c7 : t174 = true
  ·
   subst c7; replace H : (some (t173, 0)) = some (r1, r2) := by rw [if_pos rfl] at H; exact H
   simp only [Option.some.injEq, Prod.mk.injEq] at H; obtain ⟨rfl, rfl⟩ := H; go_enter Tryd.func14, Tryd.ntmps14
   go_wp2_with (first | ((with_reducible refine vH (N := 3) rfl ?_); refine vD ?hg (N := 3) ?hd (cs := #[.slice A0_0 l0_0.length c0_0, .slice A0_1 l0_1.length c0_1, .slice A0_2 l0_2.length c0_2]) (t := 25) ?hr ?_; (case hd => rfl); (case hg => rfl); (case hr => first | (go_simp; done) | (go_simp; rfl)); intro zDC hg w8 hbox hb; have n0_ := zA.mk (zG (eG HB.out) hb); have n1_ := zA.mk (hbox); have n2_ := zA.mk ((by rw [hg]; exact (zD (eG HB.out)) : w.heap.size ≤ zDC)); have n3_ := zA.mk ((by rw [hg]; exact (zD (eG HB.out)) : w.heap.size ≤ zDC)); clear HB; have HB := n0_; have uQ := n1_; have GW171 := n2_; have zYO := n3_; have ig171_ := geI zYO; clear n0_ n1_ n2_ n3_; clear hb hbox hg; have zEG : w8.cell? ⟨zDC, 0, none⟩ = some (.slice A0_0 l0_0.length c0_0) := (zC uQ.out 0).trans rfl; have zWT : w8.cell? ⟨zDC, 1, none⟩ = some (.slice A0_1 l0_1.length c0_1) := (zC uQ.out 1).trans rfl; have zWS : w8.cell? ⟨zDC, 2, none⟩ = some (.slice A0_2 l0_2.length c0_2) := (zC uQ.out 2).trans rfl; have zED := zB uQ.out 0; have zWC := zB uQ.out 1; have zWB := zB uQ.out 2) | ((with_reducible refine zQ (f := 18) rfl ?_); refine vN (some 11) rfl rfl Tryd.func18 (by kernel_rfl) rfl #[.agg #[.slice A0_0 l0_0.length c0_0, .slice A0_1 l0_1.length c0_1, .slice A0_2 l0_2.length c0_2]] rfl (by (try simp only [List.map_toArray, List.map_cons, List.map_nil]); first | done | rfl | (simp only [List.length_drop, List.length_take]; rfl)) ?_; (with_reducible refine (zE.calls k _ _ l0_0 _ _ l0_1 _ _ l0_2 t172 _ ?side1 ?side2 ?side3 ?side4 ?side5 ?side6 A4.out).mono ?_); (case side1 => repeat (first | exact (Kd.zX HR0_0.out HB.out) | (with_reducible refine Kd.zP ?_ _) | (with_reducible refine Kd.zO ?_ _) | (with_reducible refine Kd.zY ?_))); (case side2 => exact HC0_0.out); (case side3 => repeat (first | exact (Kd.zX HR0_1.out HB.out) | (with_reducible refine Kd.zP ?_ _) | (with_reducible refine Kd.zO ?_ _) | (with_reducible refine Kd.zY ?_))); (case side4 => exact HC0_1.out); (case side5 => repeat (first | exact (Kd.zX HR0_2.out HB.out) | (with_reducible refine Kd.zP ?_ _) | (with_reducible refine Kd.zO ?_ _) | (with_reducible refine Kd.zY ?_))); (case side6 => exact HC0_2.out); rintro e w10 ⟨rfl, hb⟩; refine ⟨_, rfl, ?_⟩; have n0_ := zA.mk (zM (bG uQ.out) hb); have n1_ := zA.mk (zG (eG HB.out) hb); clear uQ; clear HB; have uQ := n0_; have HB := n1_; clear n0_ n1_; (try clear hb); (try clear hb2); (try clear hk); (try clear hi); have zBL : w10.cell? ⟨zDC, 0, none⟩ = some (.slice A0_0 l0_0.length c0_0) := (zC uQ.out 0).trans rfl; have zBK : w10.cell? ⟨zDC, 1, none⟩ = some (.slice A0_1 l0_1.length c0_1) := (zC uQ.out 1).trans rfl; have zBJ : w10.cell? ⟨zDC, 2, none⟩ = some (.slice A0_2 l0_2.length c0_2) := (zC uQ.out 2).trans rfl; have zBF := zB uQ.out 0; have zBE := zB uQ.out 1; have zBD := zB uQ.out 2) | ((with_reducible refine zQ (f := 26) rfl ?_); refine vN (some 17) rfl rfl Tryd.func26 (by kernel_rfl) rfl #[.agg #[.slice A0_0 l0_0.length c0_0, .slice A0_1 l0_1.length c0_1, .slice A0_2 l0_2.length c0_2], .int .i64 a1, .int .i64 a2] rfl (by (try simp only [List.map_toArray, List.map_cons, List.map_nil]); first | done | rfl | (simp only [List.length_drop, List.length_take]; rfl)) ?_; (with_reducible refine (wT.calls k _ _ l0_0 _ _ l0_1 _ _ l0_2 a1 a2 t173 true _ ?side1 ?side2 ?side3 ?side4 ?side5 ?side6 A6.out).mono ?_); (case side1 => repeat (first | exact (Kd.zX HR0_0.out HB.out) | (with_reducible refine Kd.zP ?_ _) | (with_reducible refine Kd.zO ?_ _) | (with_reducible refine Kd.zY ?_))); (case side2 => exact HC0_0.out); (case side3 => repeat (first | exact (Kd.zX HR0_1.out HB.out) | (with_reducible refine Kd.zP ?_ _) | (with_reducible refine Kd.zO ?_ _) | (with_reducible refine Kd.zY ?_))); (case side4 => exact HC0_1.out); (case side5 => repeat (first | exact (Kd.zX HR0_2.out HB.out) | (with_reducible refine Kd.zP ?_ _) | (with_reducible refine Kd.zO ?_ _) | (with_reducible refine Kd.zY ?_))); (case side6 => exact HC0_2.out); rintro e w12 ⟨rfl, hb⟩; refine ⟨_, rfl, ?_⟩; have n0_ := zA.mk (zM (bG uQ.out) hb); have n1_ := zA.mk (zG (eG HB.out) hb); clear uQ; clear HB; have uQ := n0_; have HB := n1_; clear n0_ n1_; (try clear hb); (try clear hb2); (try clear hk); (try clear hi)))
   go_ret2
   exact ⟨by first | rfl | (simp [zI, zH] <;> rfl) | (simp [*, zI, zH] <;> rfl), eG HB.out⟩
  ·
   replace c7 := Bool.eq_false_iff.mpr c7; subst c7; replace H : (some (0, 2)) = some (r1, r2) := by rw [if_neg (show ¬ (false = true) by decide)] at H; exact H
   simp only [Option.some.injEq, Prod.mk.injEq] at H; obtain ⟨rfl, rfl⟩ := H; go_enter Tryd.func14, Tryd.ntmps14
   go_wp2_with (first | ((with_reducible refine vH (N := 3) rfl ?_); refine vD ?hg (N := 3) ?hd (cs := #[.slice A0_0 l0_0.length c0_0, .slice A0_1 l0_1.length c0_1, .slice A0_2 l0_2.length c0_2]) (t := 25) ?hr ?_; (case hd => rfl); (case hg => rfl); (case hr => first | (go_simp; done) | (go_simp; rfl)); intro zDC hg w13 hbox hb; have n0_ := zA.mk (zG (eG HB.out) hb); have n1_ := zA.mk (hbox); have n2_ := zA.mk ((by rw [hg]; exact (zD (eG HB.out)) : w.heap.size ≤ zDC)); have n3_ := zA.mk ((by rw [hg]; exact (zD (eG HB.out)) : w.heap.size ≤ zDC)); clear HB; have HB := n0_; have uQ := n1_; have GW171 := n2_; have zYO := n3_; have ig171_ := geI zYO; clear n0_ n1_ n2_ n3_; clear hb hbox hg; have zDB : w13.cell? ⟨zDC, 0, none⟩ = some (.slice A0_0 l0_0.length c0_0) := (zC uQ.out 0).trans rfl; have zLZ : w13.cell? ⟨zDC, 1, none⟩ = some (.slice A0_1 l0_1.length c0_1) := (zC uQ.out 1).trans rfl; have zLY : w13.cell? ⟨zDC, 2, none⟩ = some (.slice A0_2 l0_2.length c0_2) := (zC uQ.out 2).trans rfl; have zCY := zB uQ.out 0; have zLU := zB uQ.out 1; have zLT := zB uQ.out 2) | ((with_reducible refine zQ (f := 18) rfl ?_); refine vN (some 11) rfl rfl Tryd.func18 (by kernel_rfl) rfl #[.agg #[.slice A0_0 l0_0.length c0_0, .slice A0_1 l0_1.length c0_1, .slice A0_2 l0_2.length c0_2]] rfl (by (try simp only [List.map_toArray, List.map_cons, List.map_nil]); first | done | rfl | (simp only [List.length_drop, List.length_take]; rfl)) ?_; (with_reducible refine (zE.calls k _ _ l0_0 _ _ l0_1 _ _ l0_2 t172 _ ?side1 ?side2 ?side3 ?side4 ?side5 ?side6 A4.out).mono ?_); (case side1 => repeat (first | exact (Kd.zX HR0_0.out HB.out) | (with_reducible refine Kd.zP ?_ _) | (with_reducible refine Kd.zO ?_ _) | (with_reducible refine Kd.zY ?_))); (case side2 => exact HC0_0.out); (case side3 => repeat (first | exact (Kd.zX HR0_1.out HB.out) | (with_reducible refine Kd.zP ?_ _) | (with_reducible refine Kd.zO ?_ _) | (with_reducible refine Kd.zY ?_))); (case side4 => exact HC0_1.out); (case side5 => repeat (first | exact (Kd.zX HR0_2.out HB.out) | (with_reducible refine Kd.zP ?_ _) | (with_reducible refine Kd.zO ?_ _) | (with_reducible refine Kd.zY ?_))); (case side6 => exact HC0_2.out); rintro e w15 ⟨rfl, hb⟩; refine ⟨_, rfl, ?_⟩; have n0_ := zA.mk (zM (bG uQ.out) hb); have n1_ := zA.mk (zG (eG HB.out) hb); clear uQ; clear HB; have uQ := n0_; have HB := n1_; clear n0_ n1_; (try clear hb); (try clear hb2); (try clear hk); (try clear hi); have zPE : w15.cell? ⟨zDC, 0, none⟩ = some (.slice A0_0 l0_0.length c0_0) := (zC uQ.out 0).trans rfl; have zPD : w15.cell? ⟨zDC, 1, none⟩ = some (.slice A0_1 l0_1.length c0_1) := (zC uQ.out 1).trans rfl; have zPC : w15.cell? ⟨zDC, 2, none⟩ = some (.slice A0_2 l0_2.length c0_2) := (zC uQ.out 2).trans rfl; have zON := zB uQ.out 0; have zOM := zB uQ.out 1; have zOL := zB uQ.out 2) | ((with_reducible refine zQ (f := 26) rfl ?_); refine vN (some 17) rfl rfl Tryd.func26 (by kernel_rfl) rfl #[.agg #[.slice A0_0 l0_0.length c0_0, .slice A0_1 l0_1.length c0_1, .slice A0_2 l0_2.length c0_2], .int .i64 a1, .int .i64 a2] rfl (by (try simp only [List.map_toArray, List.map_cons, List.map_nil]); first | done | rfl | (simp only [List.length_drop, List.length_take]; rfl)) ?_; (with_reducible refine (wT.calls k _ _ l0_0 _ _ l0_1 _ _ l0_2 a1 a2 t173 false _ ?side1 ?side2 ?side3 ?side4 ?side5 ?side6 A6.out).mono ?_); (case side1 => repeat (first | exact (Kd.zX HR0_0.out HB.out) | (with_reducible refine Kd.zP ?_ _) | (with_reducible refine Kd.zO ?_ _) | (with_reducible refine Kd.zY ?_))); (case side2 => exact HC0_0.out); (case side3 => repeat (first | exact (Kd.zX HR0_1.out HB.out) | (with_reducible refine Kd.zP ?_ _) | (with_reducible refine Kd.zO ?_ _) | (with_reducible refine Kd.zY ?_))); (case side4 => exact HC0_1.out); (case side5 => repeat (first | exact (Kd.zX HR0_2.out HB.out) | (with_reducible refine Kd.zP ?_ _) | (with_reducible refine Kd.zO ?_ _) | (with_reducible refine Kd.zY ?_))); (case side6 => exact HC0_2.out); rintro e w17 ⟨rfl, hb⟩; refine ⟨_, rfl, ?_⟩; have n0_ := zA.mk (zM (bG uQ.out) hb); have n1_ := zA.mk (zG (eG HB.out) hb); clear uQ; clear HB; have uQ := n0_; have HB := n1_; clear n0_ n1_; (try clear hb); (try clear hb2); (try clear hk); (try clear hi)))
   go_ret2
   exact ⟨by first | rfl | (simp [zI, zH] <;> rfl) | (simp [*, zI, zH] <;> rfl), eG HB.out⟩
 ·
  rw [if_neg c5] at H; have c5b0 : (t172 == 0) = false := beq_eq_false_iff_ne.mpr c5; have c5b1 : (t172 != 0) = true := bne_iff_ne.mpr c5; simp only [Option.some.injEq, Prod.mk.injEq] at H; obtain ⟨rfl, rfl⟩ := H; go_enter Tryd.func14, Tryd.ntmps14
  go_wp2_with (first | ((with_reducible refine vH (N := 3) rfl ?_); refine vD ?hg (N := 3) ?hd (cs := #[.slice A0_0 l0_0.length c0_0, .slice A0_1 l0_1.length c0_1, .slice A0_2 l0_2.length c0_2]) (t := 25) ?hr ?_; (case hd => rfl); (case hg => rfl); (case hr => first | (go_simp; done) | (go_simp; rfl)); intro zDC hg w18 hbox hb; have n0_ := zA.mk (zG (eG HB.out) hb); have n1_ := zA.mk (hbox); have n2_ := zA.mk ((by rw [hg]; exact (zD (eG HB.out)) : w.heap.size ≤ zDC)); have n3_ := zA.mk ((by rw [hg]; exact (zD (eG HB.out)) : w.heap.size ≤ zDC)); clear HB; have HB := n0_; have uQ := n1_; have GW171 := n2_; have zYO := n3_; have ig171_ := geI zYO; clear n0_ n1_ n2_ n3_; clear hb hbox hg; have zJI : w18.cell? ⟨zDC, 0, none⟩ = some (.slice A0_0 l0_0.length c0_0) := (zC uQ.out 0).trans rfl; have zJH : w18.cell? ⟨zDC, 1, none⟩ = some (.slice A0_1 l0_1.length c0_1) := (zC uQ.out 1).trans rfl; have zJG : w18.cell? ⟨zDC, 2, none⟩ = some (.slice A0_2 l0_2.length c0_2) := (zC uQ.out 2).trans rfl; have zIV := zB uQ.out 0; have zIU := zB uQ.out 1; have zIT := zB uQ.out 2) | ((with_reducible refine zQ (f := 18) rfl ?_); refine vN (some 11) rfl rfl Tryd.func18 (by kernel_rfl) rfl #[.agg #[.slice A0_0 l0_0.length c0_0, .slice A0_1 l0_1.length c0_1, .slice A0_2 l0_2.length c0_2]] rfl (by (try simp only [List.map_toArray, List.map_cons, List.map_nil]); first | done | rfl | (simp only [List.length_drop, List.length_take]; rfl)) ?_; (with_reducible refine (zE.calls k _ _ l0_0 _ _ l0_1 _ _ l0_2 t172 _ ?side1 ?side2 ?side3 ?side4 ?side5 ?side6 A4.out).mono ?_); (case side1 => repeat (first | exact (Kd.zX HR0_0.out HB.out) | (with_reducible refine Kd.zP ?_ _) | (with_reducible refine Kd.zO ?_ _) | (with_reducible refine Kd.zY ?_))); (case side2 => exact HC0_0.out); (case side3 => repeat (first | exact (Kd.zX HR0_1.out HB.out) | (with_reducible refine Kd.zP ?_ _) | (with_reducible refine Kd.zO ?_ _) | (with_reducible refine Kd.zY ?_))); (case side4 => exact HC0_1.out); (case side5 => repeat (first | exact (Kd.zX HR0_2.out HB.out) | (with_reducible refine Kd.zP ?_ _) | (with_reducible refine Kd.zO ?_ _) | (with_reducible refine Kd.zY ?_))); (case side6 => exact HC0_2.out); rintro e w20 ⟨rfl, hb⟩; refine ⟨_, rfl, ?_⟩; have n0_ := zA.mk (zM (bG uQ.out) hb); have n1_ := zA.mk (zG (eG HB.out) hb); clear uQ; clear HB; have uQ := n0_; have HB := n1_; clear n0_ n1_; (try clear hb); (try clear hb2); (try clear hk); (try clear hi)))
  go_ret2
  exact ⟨by first | rfl | (simp [zI, zH] <;> rfl) | (simp [*, zI, zH] <;> rfl), eG HB.out⟩
def qN.l0 : Nat → ByteArray → List Int → Int → Int → Option (ByteArray)
 | 0, _, _, _, _ => none
 | k + 1, x0, x7, x8, x9 => if x9 < x8 then (if 0 ≤ x9 then (if x9 < (x7.length : Int) then ((strconv_Itoa.f (rd x7 x9)).bind fun t176 => (if 1 + t176.size ≤ 9223372036854775807 then (if x0.size + ((⟨#[32]⟩ : ByteArray) ++ t176).size ≤ 9223372036854775807 then (qN.l0 k (x0 ++ ((⟨#[32]⟩ : ByteArray) ++ t176)) x7 x8 (wrap64 (x9 + 1))) else (none)) else (none))) else (none)) else (none)) else (if x0.size + 1 ≤ 9223372036854775807 then (some (x0 ++ (⟨#[10]⟩ : ByteArray))) else (none))
def qN.f (k : Nat) (a0 : ByteArray) (l1 : List Int) : Option (ByteArray) := qN.l0 k a0 l1 (l1.length : Int) 0
set_option maxHeartbeats 8000000 in
set_option maxRecDepth 100000 in
theorem qN.calls (k : Nat) (a0 : ByteArray) (A1 : Option Addr) (c1 : Nat) (l1 : List Int) (r : ByteArray) (w : World) (hr1 : Kd.C (Kd.int .i64) w A1 l1.length l1) (hc1 : l1.length ≤ c1) (hG : GI w) (h : qN.f k a0 l1 = some r) :
  Calls Tryd.prog 43 #[.string a0, .slice A1 l1.length c1] w fun e w' => e = .returned (.string r) ∧ Below w.heap.size w w' := by
 have HR1 := zA.mk hr1; have HC1 := zA.mk hc1; clear hr1 hc1; have HG := zA.mk hG; clear hG; have HB := zA.mk (Below.refl w.heap.size w); have H : (qN.l0 k a0 l1 (l1.length : Int) 0) = some r := h; clear h; have H' := zA.mk H; clear H; go_enter Tryd.func43, Tryd.ntmps43
 go_wp2; go_loopg [0, 9] k (fun kq v0 v9 w' => ∃ (x0_1 : ByteArray) (x9_1 : Int), v0 = .string x0_1 ∧ v9 = .int .i64 x9_1 ∧ zA (qN.l0 kq x0_1 l1 (l1.length : Int) x9_1 = some r) ∧ zA (kq ≤ k) ∧ zA (Below w.heap.size w w'))
 case atStart => exact ⟨(a0), (0), (by first | rfl | (simp; done) | (simp [*]; done)), (by first | rfl | (simp; done) | (simp [*]; done)), H', ⟨Nat.le_refl _⟩, ⟨eG HB.out⟩⟩
 case round =>
  clear H'; try clear c1
  try clear p2
  obtain ⟨x0_1, x9_1, rfl, rfl, HA, HK1, HB⟩ := hrel
  cases gk with
  | zero => exact absurd HA.out (by simp [qN.l0])
  | succ k1 =>
   have H := HA.out; clear HA; simp only [qN.l0] at H; by_cases c3 : x9_1 < (l1.length : Int)
   ·
    rw [if_pos c3] at H; have c3b0 : decide (x9_1 < (l1.length : Int)) = true := decide_eq_true c3; clear c3; by_cases c4 : 0 ≤ x9_1
    ·
     rw [if_pos c4] at H; have c4b0 : decide (0 ≤ x9_1) = true := decide_eq_true c4; clear c4; by_cases c5 : x9_1 < (l1.length : Int)
     ·
      rw [if_pos c5] at H; have c5b0 : decide (x9_1 < (l1.length : Int)) = true := decide_eq_true c5; clear c5; replace H := Option.bind_eq_some_iff.mp H; obtain ⟨t176, A60, H⟩ := H; replace H : (if 1 + t176.size ≤ 9223372036854775807 then (if x0_1.size + ((⟨#[32]⟩ : ByteArray) ++ t176).size ≤ 9223372036854775807 then (qN.l0 k1 (x0_1 ++ ((⟨#[32]⟩ : ByteArray) ++ t176)) l1 (l1.length : Int) (wrap64 (x9_1 + 1))) else (none)) else (none)) = some r := H; have A6 := zA.mk A60; clear A60; by_cases c7 : 1 + t176.size ≤ 9223372036854775807
      ·
       rw [if_pos c7] at H; have c7b0 := eq_true c7; have c7b1 : decide (1 + t176.size ≤ 9223372036854775807) = true := decide_eq_true c7; try have c7b2 : (9223372036854775807 < 1 + t176.size) = False := eq_false (Nat.not_lt.2 c7)
       by_cases c8 : x0_1.size + ((⟨#[32]⟩ : ByteArray) ++ t176).size ≤ 9223372036854775807
       ·
        rw [if_pos c8] at H; have c8b0 := eq_true c8; have c8b1 : decide (x0_1.size + ((⟨#[32]⟩ : ByteArray) ++ t176).size ≤ 9223372036854775807) = true := decide_eq_true c8; try have c8b2 : (9223372036854775807 < x0_1.size + ((⟨#[32]⟩ : ByteArray) ++ t176).size) = False := eq_false (Nat.not_lt.2 c8)
        try have c8b3 : (9223372036854775807 < x0_1.size + (1 + t176.size)) = False := eq_false (Nat.not_lt.2 (by have h_ := c8; simp only [ByteArray.size_append] at h_; exact h_))
        have H' := zA.mk H; clear H; have p175 : 0 ≤ (x9_1 : Int) := of_decide_eq_true (by first | (with_reducible assumption) | assumption); have q175 : x9_1 < (l1.length : Int) := of_decide_eq_true (by first | (with_reducible assumption) | assumption); obtain ⟨ad175, e175, zSF⟩ := Kd.qC HR1.out x9_1 p175 q175; cases e175; replace zSF := (HB.out.cell (World.block_lt_of_cell? w _ zSF)).trans zSF; replace p175 := eq_true p175; replace q175 := eq_true q175; go_wp2_with (first | ((with_reducible refine zQ (f := 58) rfl ?_); refine vN (some 15) rfl rfl Tryd.func58 (by kernel_rfl) rfl #[.int .i64 (rd l1 x9_1)] rfl (by (try simp only [List.map_toArray, List.map_cons, List.map_nil]); first | done | rfl | (simp only [List.length_drop, List.length_take]; rfl)) ?_; (with_reducible refine (strconv_Itoa.calls (rd l1 x9_1) t176 _ ?side1 A6.out).mono ?_); (case side1 => exact GI.below HG.out (eG HB.out)); rintro e w9 ⟨rfl, hb⟩; refine ⟨_, rfl, ?_⟩; have n0_ := zA.mk (zG (eG HB.out) hb); clear HB; have HB := n0_; clear n0_; (try clear hb); (try clear hb2); (try clear hk); (try clear hi)))
        go_roundg k1
        case measure => have := HK1.out; omega
        case rel => exact ⟨(x0_1 ++ ((⟨#[32]⟩ : ByteArray) ++ t176)), (wrap64 (x9_1 + 1)), (by first | rfl | (simp; done) | (simp [*]; done)), (by first | rfl | (simp; done) | (simp [*]; done)), H', ⟨by have := HK1.out; omega⟩, ⟨eG HB.out⟩⟩
       · rw [if_neg c8] at H; exact absurd H (by simp)
      · rw [if_neg c7] at H; exact absurd H (by simp)
     · rw [if_neg c5] at H; exact absurd H (by simp)
    · rw [if_neg c4] at H; exact absurd H (by simp)
   ·
    rw [if_neg c3] at H; have c3b0 : decide (x9_1 < (l1.length : Int)) = false := decide_eq_false c3; clear c3; by_cases c10 : x0_1.size + 1 ≤ 9223372036854775807
    ·
     rw [if_pos c10] at H; have c10b0 := eq_true c10; have c10b1 : decide (x0_1.size + 1 ≤ 9223372036854775807) = true := decide_eq_true c10; try have c10b2 : (9223372036854775807 < x0_1.size + 1) = False := eq_false (Nat.not_lt.2 c10)
     obtain rfl := Option.some.inj H; go_wp2; go_ret
     exact ⟨by first | rfl | (simp [zI, zH] <;> rfl) | (simp [*, zI, zH] <;> rfl), eG HB.out⟩
    · rw [if_neg c10] at H; exact absurd H (by simp)
def qA.l0 : Nat → ByteArray → List Int → Int → Int → List Int → List Int → List (List Int) → Option (ByteArray × Int)
 | 0, _, _, _, _, _, _, _ => none
 | k + 1, x4, x14, x15, x16, x178000, x178001, zNM => if x16 < x15 then (if 0 ≤ x16 then (if x16 < (x14.length : Int) then ((some (([rd x14 x16] : List Int) : List Int)).bind fun y181 => (if x16 < (zNM.length : Int) then (if y181.length + (zW zNM x16).length < 17592186044416 then ((qN.f k (⟨#[104, 101, 97, 116]⟩ : ByteArray) (y181 ++ (zW zNM x16))).bind fun t188 => (if x4.size + t188.size ≤ 9223372036854775807 then (qA.l0 k (x4 ++ t188) x14 x15 (wrap64 (x16 + 1)) x178000 x178001 zNM) else (none))) else (none)) else (none))) else (none)) else (none)) else (some (x4, 0))
def qA.f (k : Nat) (l0_0 : List Int) (l0_1 : List Int) (l0_2 : List (List Int)) : Option (ByteArray × Int) := (zE.f k l0_0 l0_1 l0_2).bind fun t178 => (if t178 = 0 then ((qN.f k (⟨#[97, 112, 112, 97, 114, 101, 110, 116]⟩ : ByteArray) l0_1).bind fun t179 => (qA.l0 k t179 l0_0 (l0_0.length : Int) 0 l0_0 l0_1 l0_2)) else (some ((⟨#[]⟩ : ByteArray), 1)))
set_option maxHeartbeats 8000000 in
set_option maxRecDepth 100000 in
theorem qA.calls (k : Nat) (A0_0 : Option Addr) (c0_0 : Nat) (l0_0 : List Int) (A0_1 : Option Addr) (c0_1 : Nat) (l0_1 : List Int) (A0_2 : Option Addr) (c0_2 : Nat) (l0_2 : List (List Int)) (r1 : ByteArray) (r2 : Int) (w : World) (hr0_0 : Kd.C (Kd.int .i64) w A0_0 l0_0.length l0_0) (zAW : l0_0.length ≤ c0_0) (hr0_1 : Kd.C (Kd.int .i64) w A0_1 l0_1.length l0_1) (zAV : l0_1.length ≤ c0_1) (hr0_2 : Kd.C (Kd.slice 3 (Kd.int .i64)) w A0_2 l0_2.length l0_2) (zAU : l0_2.length ≤ c0_2) (hG : GI w) (h : qA.f k l0_0 l0_1 l0_2 = some (r1, r2)) :
  Calls Tryd.prog 20 #[.agg #[.slice A0_0 l0_0.length c0_0, .slice A0_1 l0_1.length c0_1, .slice A0_2 l0_2.length c0_2]] w fun e w' => e = .returned (.tuple #[.string r1, .int .i64 r2]) ∧ Below w.heap.size w w' := by
 have hu25 := Tryd.underlying25; have HR0_0 := zA.mk hr0_0; have HC0_0 := zA.mk zAW; clear hr0_0 zAW; have HR0_1 := zA.mk hr0_1; have HC0_1 := zA.mk zAV; clear hr0_1 zAV; have HR0_2 := zA.mk hr0_2; have HC0_2 := zA.mk zAU; clear hr0_2 zAU; have HG := zA.mk hG; clear hG; have HB := zA.mk (Below.refl w.heap.size w); have H : ((zE.f k l0_0 l0_1 l0_2).bind fun t178 => (if t178 = 0 then ((qN.f k (⟨#[97, 112, 112, 97, 114, 101, 110, 116]⟩ : ByteArray) l0_1).bind fun t179 => (qA.l0 k t179 l0_0 (l0_0.length : Int) 0 l0_0 l0_1 l0_2)) else (some ((⟨#[]⟩ : ByteArray), 1)))) = some (r1, r2) := h; clear h; replace H := Option.bind_eq_some_iff.mp H; obtain ⟨t178, A20, H⟩ := H; replace H : (if t178 = 0 then ((qN.f k (⟨#[97, 112, 112, 97, 114, 101, 110, 116]⟩ : ByteArray) l0_1).bind fun t179 => (qA.l0 k t179 l0_0 (l0_0.length : Int) 0 l0_0 l0_1 l0_2)) else (some ((⟨#[]⟩ : ByteArray), 1))) = some (r1, r2) := H; have A2 := zA.mk A20; clear A20; by_cases c3 : t178 = 0
 ·
  rw [if_pos c3] at H; have c3b0 : (t178 == 0) = true := beq_iff_eq.mpr c3; have c3b1 : (t178 != 0) = false := bne_eq_false_iff_eq.mpr c3; clear c3; replace H := Option.bind_eq_some_iff.mp H; obtain ⟨t179, A40, H⟩ := H; replace H : (qA.l0 k t179 l0_0 (l0_0.length : Int) 0 l0_0 l0_1 l0_2) = some (r1, r2) := H; have A4 := zA.mk A40; clear A40; have H' := zA.mk H; clear H; go_enter Tryd.func20, Tryd.ntmps20
  go_wp2_with (first | ((with_reducible refine vH (N := 1) rfl ?_); refine vD ?hg (N := 1) ?hd (cs := #[.slice A0_0 l0_0.length c0_0, .slice A0_1 l0_1.length c0_1, .slice A0_2 l0_2.length c0_2]) (t := 25) ?hr ?_; (case hd => rfl); (case hg => rfl); (case hr => first | (go_simp; done) | (go_simp; rfl)); intro zDZ hg w5 hbox hb; have n0_ := zA.mk (zG (eG HB.out) hb); have n1_ := zA.mk (hbox); have n2_ := zA.mk ((by rw [hg]; exact (zD (eG HB.out)) : w.heap.size ≤ zDZ)); have n3_ := zA.mk ((by rw [hg]; exact (zD (eG HB.out)) : w.heap.size ≤ zDZ)); clear HB; have HB := n0_; have jZ := n1_; have GW177 := n2_; have GE177 := n3_; have ig177_ := geI GE177; clear n0_ n1_ n2_ n3_; clear hb hbox hg; have zDN : w5.cell? ⟨zDZ, 0, none⟩ = some (.slice A0_0 l0_0.length c0_0) := (zC jZ.out 0).trans rfl; have zEI : w5.cell? ⟨zDZ, 1, none⟩ = some (.slice A0_1 l0_1.length c0_1) := (zC jZ.out 1).trans rfl; have zEH : w5.cell? ⟨zDZ, 2, none⟩ = some (.slice A0_2 l0_2.length c0_2) := (zC jZ.out 2).trans rfl; have zDM := zB jZ.out 0; have zEF := zB jZ.out 1; have zEE := zB jZ.out 2) | ((with_reducible refine zQ (f := 18) rfl ?_); refine vN (some 8) rfl rfl Tryd.func18 (by kernel_rfl) rfl #[.agg #[.slice A0_0 l0_0.length c0_0, .slice A0_1 l0_1.length c0_1, .slice A0_2 l0_2.length c0_2]] rfl (by (try simp only [List.map_toArray, List.map_cons, List.map_nil]); first | done | rfl | (simp only [List.length_drop, List.length_take]; rfl)) ?_; (with_reducible refine (zE.calls k _ _ l0_0 _ _ l0_1 _ _ l0_2 t178 _ ?side1 ?side2 ?side3 ?side4 ?side5 ?side6 A2.out).mono ?_); (case side1 => repeat (first | exact (Kd.zX HR0_0.out HB.out) | (with_reducible refine Kd.zP ?_ _) | (with_reducible refine Kd.zO ?_ _) | (with_reducible refine Kd.zY ?_))); (case side2 => exact HC0_0.out); (case side3 => repeat (first | exact (Kd.zX HR0_1.out HB.out) | (with_reducible refine Kd.zP ?_ _) | (with_reducible refine Kd.zO ?_ _) | (with_reducible refine Kd.zY ?_))); (case side4 => exact HC0_1.out); (case side5 => repeat (first | exact (Kd.zX HR0_2.out HB.out) | (with_reducible refine Kd.zP ?_ _) | (with_reducible refine Kd.zO ?_ _) | (with_reducible refine Kd.zY ?_))); (case side6 => exact HC0_2.out); rintro e w7 ⟨rfl, hb⟩; refine ⟨_, rfl, ?_⟩; have n0_ := zA.mk (zM (bG jZ.out) hb); have n1_ := zA.mk (zG (eG HB.out) hb); clear jZ; clear HB; have jZ := n0_; have HB := n1_; clear n0_ n1_; (try clear hb); (try clear hb2); (try clear hk); (try clear hi); have zHS : w7.cell? ⟨zDZ, 0, none⟩ = some (.slice A0_0 l0_0.length c0_0) := (zC jZ.out 0).trans rfl; have zNB : w7.cell? ⟨zDZ, 1, none⟩ = some (.slice A0_1 l0_1.length c0_1) := (zC jZ.out 1).trans rfl; have zNA : w7.cell? ⟨zDZ, 2, none⟩ = some (.slice A0_2 l0_2.length c0_2) := (zC jZ.out 2).trans rfl; have zHR := zB jZ.out 0; have zMV := zB jZ.out 1; have zMU := zB jZ.out 2) | ((with_reducible refine zQ (f := 43) rfl ?_); refine vN (some 12) rfl rfl Tryd.func43 (by kernel_rfl) rfl #[.string (⟨#[97, 112, 112, 97, 114, 101, 110, 116]⟩ : ByteArray), .slice A0_1 l0_1.length c0_1] rfl (by (try simp only [List.map_toArray, List.map_cons, List.map_nil]); first | done | rfl | (simp only [List.length_drop, List.length_take]; rfl)) ?_; (with_reducible refine (qN.calls k (⟨#[97, 112, 112, 97, 114, 101, 110, 116]⟩ : ByteArray) _ _ l0_1 t179 _ ?side1 ?side2 ?side3 A4.out).mono ?_); (case side1 => repeat (first | exact (Kd.zX HR0_1.out HB.out) | (with_reducible refine Kd.zP ?_ _) | (with_reducible refine Kd.zO ?_ _) | (with_reducible refine Kd.zY ?_))); (case side2 => exact HC0_1.out); (case side3 => exact GI.below HG.out (eG HB.out)); rintro e w9 ⟨rfl, hb⟩; refine ⟨_, rfl, ?_⟩; have n0_ := zA.mk (zM (bG jZ.out) hb); have n1_ := zA.mk (zG (eG HB.out) hb); clear jZ; clear HB; have jZ := n0_; have HB := n1_; clear n0_ n1_; (try clear hb); (try clear hb2); (try clear hk); (try clear hi); have zBO : w9.cell? ⟨zDZ, 0, none⟩ = some (.slice A0_0 l0_0.length c0_0) := (zC jZ.out 0).trans rfl; have zBN : w9.cell? ⟨zDZ, 1, none⟩ = some (.slice A0_1 l0_1.length c0_1) := (zC jZ.out 1).trans rfl; have zBM : w9.cell? ⟨zDZ, 2, none⟩ = some (.slice A0_2 l0_2.length c0_2) := (zC jZ.out 2).trans rfl; have zBI := zB jZ.out 0; have zBH := zB jZ.out 1; have zBG := zB jZ.out 2))
  go_loopg [4, 16] k (fun kq v4 v16 w' => ∃ (x4_1 : ByteArray) (x16_1 : Int), v4 = .string x4_1 ∧ v16 = .int .i64 x16_1 ∧ zA (qA.l0 kq x4_1 l0_0 (l0_0.length : Int) x16_1 l0_0 l0_1 l0_2 = some (r1, r2)) ∧ zA (kq ≤ k) ∧ zA (w'.heap[zDZ]? = some (.cells #[(.slice A0_0 l0_0.length c0_0), (.slice A0_1 l0_1.length c0_1), (.slice A0_2 l0_2.length c0_2)] 25 (0, 0))) ∧ zA (Below w.heap.size w w'))
  case atStart => exact ⟨(t179), (0), (by first | rfl | (simp; done) | (simp [*]; done)), (by first | rfl | (simp; done) | (simp [*]; done)), H', ⟨Nat.le_refl _⟩, ⟨by (with_reducible repeat first | apply bN | apply bD | apply bA); exact jZ.out⟩, ⟨eG HB.out⟩⟩
  case round =>
   clear H'; repeat first | clear c1 | clear c2 | clear p2 | clear c3 | clear c3b0 | clear c3b1 | clear c4 | clear zBO | clear zBN | clear zBM | clear zDN | clear zEI | clear zEH | clear zHS | clear zNB | clear zNA | clear zBI | clear zBH | clear zBG | clear zDM | clear zEF | clear zEE | clear zHR | clear zMV | clear zMU
   obtain ⟨x4_1, x16_1, rfl, rfl, HA, HK1, jZ, HB⟩ := hrel
   cases gk with
   | zero => exact absurd HA.out (by simp [qA.l0])
   | succ k1 =>
    have H := HA.out; clear HA; simp only [qA.l0] at H; by_cases c11 : x16_1 < (l0_0.length : Int)
    ·
     rw [if_pos c11] at H; have c11b0 : decide (x16_1 < (l0_0.length : Int)) = true := decide_eq_true c11; clear c11; by_cases c12 : 0 ≤ x16_1
     ·
      rw [if_pos c12] at H; have c12b0 : decide (0 ≤ x16_1) = true := decide_eq_true c12; clear c12; by_cases c13 : x16_1 < (l0_0.length : Int)
      ·
       rw [if_pos c13] at H; have c13b0 : decide (x16_1 < (l0_0.length : Int)) = true := decide_eq_true c13; clear c13; obtain ⟨y181, hy181⟩ : ∃ y_ : List Int, y_ = (([rd l0_0 x16_1] : List Int)) := ⟨_, rfl⟩; replace H : (if x16_1 < (l0_2.length : Int) then (if y181.length + (zW l0_2 x16_1).length < 17592186044416 then ((qN.f k1 (⟨#[104, 101, 97, 116]⟩ : ByteArray) (y181 ++ (zW l0_2 x16_1))).bind fun t188 => (if x4_1.size + t188.size ≤ 9223372036854775807 then (qA.l0 k1 (x4_1 ++ t188) l0_0 (l0_0.length : Int) (wrap64 (x16_1 + 1)) l0_0 l0_1 l0_2) else (none))) else (none)) else (none)) = some (r1, r2) := by first | (rw [hy181]; with_reducible exact H) | (have H2_ := (Option.bind_some _ _).symm.trans H; rw [hy181]; with_reducible exact H2_) | (have H2_ := (Option.bind_some _ _).symm.trans H; with_reducible exact H2_) | with_reducible exact H | (rw [hy181]; exact H) | exact H
       have Ny181 := zA.mk hy181; clear hy181; by_cases c14 : x16_1 < (l0_2.length : Int)
       ·
        rw [if_pos c14] at H; have c14b0 : decide (x16_1 < (l0_2.length : Int)) = true := decide_eq_true c14; clear c14; by_cases c15 : y181.length + (zW l0_2 x16_1).length < 17592186044416
        ·
         rw [if_pos c15] at H; have LMc15 := zA.mk c15; clear c15; obtain ⟨y185, hy185⟩ : ∃ y_ : List Int, y_ = (y181 ++ (zW l0_2 x16_1)) := ⟨_, rfl⟩; replace H : ((qN.f k1 (⟨#[104, 101, 97, 116]⟩ : ByteArray) y185).bind fun t188 => (if x4_1.size + t188.size ≤ 9223372036854775807 then (qA.l0 k1 (x4_1 ++ t188) l0_0 (l0_0.length : Int) (wrap64 (x16_1 + 1)) l0_0 l0_1 l0_2) else (none))) = some (r1, r2) := by first | (rw [hy185]; with_reducible exact H) | (have H2_ := (Option.bind_some _ _).symm.trans H; rw [hy185]; with_reducible exact H2_) | (have H2_ := (Option.bind_some _ _).symm.trans H; with_reducible exact H2_) | with_reducible exact H | (rw [hy185]; exact H) | exact H
         have Ny185 := zA.mk hy185; clear hy185; replace H := Option.bind_eq_some_iff.mp H; obtain ⟨t188, A160, H⟩ := H; replace H : (if x4_1.size + t188.size ≤ 9223372036854775807 then (qA.l0 k1 (x4_1 ++ t188) l0_0 (l0_0.length : Int) (wrap64 (x16_1 + 1)) l0_0 l0_1 l0_2) else (none)) = some (r1, r2) := H; have A16 := zA.mk A160; clear A160; by_cases c17 : x4_1.size + t188.size ≤ 9223372036854775807
         ·
          rw [if_pos c17] at H; have c17b0 := eq_true c17; have c17b1 : decide (x4_1.size + t188.size ≤ 9223372036854775807) = true := decide_eq_true c17; try have c17b2 : (9223372036854775807 < x4_1.size + t188.size) = False := eq_false (Nat.not_lt.2 c17)
          have H' := zA.mk H; clear H; have p180 : 0 ≤ (x16_1 : Int) := of_decide_eq_true (by first | (with_reducible assumption) | assumption); have q180 : x16_1 < (l0_0.length : Int) := of_decide_eq_true (by first | (with_reducible assumption) | assumption); obtain ⟨ad180, e180, zSE⟩ := Kd.qC HR0_0.out x16_1 p180 q180; cases e180; replace zSE := (HB.out.cell (World.block_lt_of_cell? w _ zSE)).trans zSE; replace p180 := eq_true p180; replace q180 := eq_true q180; go_wp2_with (first | ((with_reducible refine vH (N := 23) rfl ?_); refine Kd.zPQ (Kd.int .i64) _ 3 ?hg (N := 23) ?hd (xs := ([rd l0_0 x16_1] : List Int)) (inner := [.int .i64 (rd l0_0 x16_1)]) (ok := fun _ => True) (okp := fun _ => True) ?hr ?hp (fun _ hk => hk) trivial (Below.refl _ _) (Nat.le_refl _) (by simp) ?_; (case hd => rfl); (case hg => rfl); (case hr => first | (go_simp; done) | (go_simp; rfl)); (case hp => exact (Reps.one (show Kd.M (Kd.int .i64) _ _ _ (rd l0_0 x16_1) [.int .i64 (rd l0_0 x16_1)] from rfl) (Reps.none _ _))); intro v182 w18 ho19 hb hg_ hnew_; clear hg_ hnew_; (first | rw [← Ny181.out] at ho19 | (simp only [Int.reduceToNat] at ho19; rw [← Ny181.out] at ho19)); have n0_ := zA.mk (Kd.yD ho19 (zD (eG HB.out))); have n1_ := zA.mk (zM (bG jZ.out) hb); have n2_ := zA.mk (zG (eG HB.out) hb); clear jZ; clear HB; have HO183 := n0_; have jZ := n1_; have HB := n2_; clear n0_ n1_ n2_; clear hb ho19; have zJF : w18.cell? ⟨zDZ, 0, none⟩ = some (.slice (some ad180) l0_0.length c0_0) := (zC jZ.out 0).trans rfl; have zJE : w18.cell? ⟨zDZ, 1, none⟩ = some (.slice A0_1 l0_1.length c0_1) := (zC jZ.out 1).trans rfl; have zJD : w18.cell? ⟨zDZ, 2, none⟩ = some (.slice A0_2 l0_2.length c0_2) := (zC jZ.out 2).trans rfl; have zIS := zB jZ.out 0; have zIR := zB jZ.out 1; have zIQ := zB jZ.out 2; have p184 : 0 ≤ (x16_1 : Int) := of_decide_eq_true (by first | (with_reducible assumption) | assumption); have q184 : x16_1 < (l0_2.length : Int) := of_decide_eq_true (by first | (with_reducible assumption) | assumption); obtain ⟨ad184, A184_0, c184_0, e184, zSD, hl184_0, hi184_0⟩ := kQ HR0_2.out x16_1 p184 q184; cases e184; replace zSD := (HB.out.cell (World.block_lt_of_cell? w _ zSD)).trans zSD; have HR184_0 := zA.mk hi184_0; have HC184_0 := zA.mk hl184_0; clear hi184_0 hl184_0; replace p184 := eq_true p184; replace q184 := eq_true q184) | ((with_reducible refine uU (b := .append) (xs := #[.tmp 23, .tmp 28]) rfl ?_); at_builtin; refine Kd.zPR (Kd.int .i64) (w0 := w) w.heap.size rfl (.tmp 23) (.tmp 28) 22 3 (.int .i64 0) 8 rfl Tryd.underlying22 zQR rfl (by decide) (by omega) v182 y181 (zW l0_2 x16_1) _ _ _ (fun _ => True) (fun _ => False) rfl rfl ?aO ?aR (fun _ _ h => h) (fun _ h => h.elim) ?aF ?aB ?aS ?aL ?_; (case aR => repeat (first | exact (Kd.zX HR184_0.out HB.out) | (with_reducible refine Kd.zP ?_ _) | (with_reducible refine Kd.zO ?_ _) | (with_reducible refine Kd.zY ?_))); (case aB => exact (eG HB.out)); (case aF => exact (fun _ _ => trivial)); (case aO => exact (rG HO183.out)); (case aS => exact (zD (eG HB.out))); (case aL => have := LMc15.out; omega); intro v186 w21 ho hb hg hat; rw [← Ny185.out] at ho; have n0_ := zA.mk (kP (bG jZ.out) hg (Kd.R_ne HO183.out jZ.out (by decide))); have n1_ := zA.mk (hb); have n2_ := zA.mk (ho); clear jZ; clear HB; clear HO183; have jZ := n0_; have HB := n1_; have zUV := n2_; clear n0_ n1_ n2_; clear ho hb hg hat; obtain ⟨Ao22, co22, eo22⟩ := Kd.qQ zUV.out; subst eo22) | ((with_reducible refine zQ (f := 43) rfl ?_); refine vN (some 30) rfl rfl Tryd.func43 (by kernel_rfl) rfl #[.string (⟨#[104, 101, 97, 116]⟩ : ByteArray), .slice Ao22 y185.length co22] rfl (by (try simp only [List.map_toArray, List.map_cons, List.map_nil]); first | done | rfl | (simp only [List.length_drop, List.length_take]; rfl)) ?_; (with_reducible refine (qN.calls k1 (⟨#[104, 101, 97, 116]⟩ : ByteArray) _ _ y185 t188 _ ?side1 ?side2 ?side3 A16.out).mono ?_); (case side1 => repeat (first | exact (Kd.wN zUV.out).2.2 | (with_reducible refine Kd.zP ?_ _) | (with_reducible refine Kd.zO ?_ _) | (with_reducible refine Kd.zY ?_))); (case side2 => exact (Kd.wN zUV.out).2.1); (case side3 => exact GI.below HG.out (eG HB.out)); rintro e w23 ⟨rfl, hb⟩; refine ⟨_, rfl, ?_⟩; have n0_ := zA.mk (Kd.wO (rG zUV.out) hb); have n1_ := zA.mk (zM (bG jZ.out) hb); have n2_ := zA.mk (zG (eG HB.out) hb); clear zUV; clear jZ; clear HB; have zUV := n0_; have jZ := n1_; have HB := n2_; clear n0_ n1_ n2_; (try clear hb); (try clear hb2); (try clear hk); (try clear hi)))
          go_roundg k1
          case measure => have := HK1.out; omega
          case rel => exact ⟨(x4_1 ++ t188), (wrap64 (x16_1 + 1)), (by first | rfl | (simp; done) | (simp [*]; done)), (by first | rfl | (simp; done) | (simp [*]; done)), H', ⟨by have := HK1.out; omega⟩, ⟨by (with_reducible repeat first | apply bN | apply bD | apply bA); exact jZ.out⟩, ⟨eG HB.out⟩⟩
         · rw [if_neg c17] at H; exact absurd H (by simp)
        · rw [if_neg c15] at H; exact absurd H (by simp)
       · rw [if_neg c14] at H; exact absurd H (by simp)
      · rw [if_neg c13] at H; exact absurd H (by simp)
     · rw [if_neg c12] at H; exact absurd H (by simp)
    ·
     rw [if_neg c11] at H; have c11b0 : decide (x16_1 < (l0_0.length : Int)) = false := decide_eq_false c11; clear c11; simp only [Option.some.injEq, Prod.mk.injEq] at H; obtain ⟨rfl, rfl⟩ := H; go_wp2; go_ret2
     exact ⟨by first | rfl | (simp [zI, zH] <;> rfl) | (simp [*, zI, zH] <;> rfl), eG HB.out⟩
 ·
  rw [if_neg c3] at H; have c3b0 : (t178 == 0) = false := beq_eq_false_iff_ne.mpr c3; have c3b1 : (t178 != 0) = true := bne_iff_ne.mpr c3; simp only [Option.some.injEq, Prod.mk.injEq] at H; obtain ⟨rfl, rfl⟩ := H; go_enter Tryd.func20, Tryd.ntmps20
  go_wp2_with (first | ((with_reducible refine vH (N := 1) rfl ?_); refine vD ?hg (N := 1) ?hd (cs := #[.slice A0_0 l0_0.length c0_0, .slice A0_1 l0_1.length c0_1, .slice A0_2 l0_2.length c0_2]) (t := 25) ?hr ?_; (case hd => rfl); (case hg => rfl); (case hr => first | (go_simp; done) | (go_simp; rfl)); intro zDZ hg w24 hbox hb; have n0_ := zA.mk (zG (eG HB.out) hb); have n1_ := zA.mk (hbox); have n2_ := zA.mk ((by rw [hg]; exact (zD (eG HB.out)) : w.heap.size ≤ zDZ)); have n3_ := zA.mk ((by rw [hg]; exact (zD (eG HB.out)) : w.heap.size ≤ zDZ)); clear HB; have HB := n0_; have jZ := n1_; have GW177 := n2_; have GE177 := n3_; have ig177_ := geI GE177; clear n0_ n1_ n2_ n3_; clear hb hbox hg; have zCZ : w24.cell? ⟨zDZ, 0, none⟩ = some (.slice A0_0 l0_0.length c0_0) := (zC jZ.out 0).trans rfl; have zFR : w24.cell? ⟨zDZ, 1, none⟩ = some (.slice A0_1 l0_1.length c0_1) := (zC jZ.out 1).trans rfl; have zFQ : w24.cell? ⟨zDZ, 2, none⟩ = some (.slice A0_2 l0_2.length c0_2) := (zC jZ.out 2).trans rfl; have zCW := zB jZ.out 0; have zFN := zB jZ.out 1; have zFM := zB jZ.out 2) | ((with_reducible refine zQ (f := 18) rfl ?_); refine vN (some 8) rfl rfl Tryd.func18 (by kernel_rfl) rfl #[.agg #[.slice A0_0 l0_0.length c0_0, .slice A0_1 l0_1.length c0_1, .slice A0_2 l0_2.length c0_2]] rfl (by (try simp only [List.map_toArray, List.map_cons, List.map_nil]); first | done | rfl | (simp only [List.length_drop, List.length_take]; rfl)) ?_; (with_reducible refine (zE.calls k _ _ l0_0 _ _ l0_1 _ _ l0_2 t178 _ ?side1 ?side2 ?side3 ?side4 ?side5 ?side6 A2.out).mono ?_); (case side1 => repeat (first | exact (Kd.zX HR0_0.out HB.out) | (with_reducible refine Kd.zP ?_ _) | (with_reducible refine Kd.zO ?_ _) | (with_reducible refine Kd.zY ?_))); (case side2 => exact HC0_0.out); (case side3 => repeat (first | exact (Kd.zX HR0_1.out HB.out) | (with_reducible refine Kd.zP ?_ _) | (with_reducible refine Kd.zO ?_ _) | (with_reducible refine Kd.zY ?_))); (case side4 => exact HC0_1.out); (case side5 => repeat (first | exact (Kd.zX HR0_2.out HB.out) | (with_reducible refine Kd.zP ?_ _) | (with_reducible refine Kd.zO ?_ _) | (with_reducible refine Kd.zY ?_))); (case side6 => exact HC0_2.out); rintro e w26 ⟨rfl, hb⟩; refine ⟨_, rfl, ?_⟩; have n0_ := zA.mk (zM (bG jZ.out) hb); have n1_ := zA.mk (zG (eG HB.out) hb); clear jZ; clear HB; have jZ := n0_; have HB := n1_; clear n0_ n1_; (try clear hb); (try clear hb2); (try clear hk); (try clear hi)))
  go_ret2
  exact ⟨by first | rfl | (simp [zI, zH] <;> rfl) | (simp [*, zI, zH] <;> rfl), eG HB.out⟩
def kW.f  : Option (Bool) := some true
set_option maxHeartbeats 8000000 in
set_option maxRecDepth 100000 in
theorem kW.calls  (r : Bool) (w : World) (hG : GI w) (h : kW.f  = some r) :
  Calls Tryd.prog 10 #[] w fun e w' => e = .returned (.bool r) ∧ Below w.heap.size w w' := by
 have hu25 := Tryd.underlying25; have hu29 := Tryd.underlying29; have HG := zA.mk hG; clear hG; have HB := zA.mk (Below.refl w.heap.size w); have H : (some true) = some r := h; clear h; obtain ⟨y189, hy189⟩ : ∃ y_ : List Int, y_ = (([100, 300] : List Int)) := ⟨_, rfl⟩; have Ny189 := zA.mk hy189; clear hy189; obtain ⟨y192, hy192⟩ : ∃ y_ : List Int, y_ = (([4000, 5000] : List Int)) := ⟨_, rfl⟩; have Ny192 := zA.mk hy192; clear hy192; obtain ⟨y195, hy195⟩ : ∃ y_ : List Int, y_ = (([4400, 5400] : List Int)) := ⟨_, rfl⟩; have Ny195 := zA.mk hy195; clear hy195; obtain ⟨y198, hy198⟩ : ∃ y_ : List Int, y_ = (([3600, 4600] : List Int)) := ⟨_, rfl⟩; have Ny198 := zA.mk hy198; clear hy198; obtain ⟨y201, hy201⟩ : ∃ y_ : List (List Int), y_ = (([y195, y198] : List (List Int))) := ⟨_, rfl⟩; have Ny201 := zA.mk hy201; clear hy201; have A1 := zA.mk (show (zBS.f 400 y189 y192 y201 200 4500) = some (4500, 0) from by (try rw [Ny201.out]); (try rw [Ny198.out]); (try rw [Ny195.out]); (try rw [Ny192.out]); (try rw [Ny189.out]); kernel_rfl); have A2 := zA.mk (show (zBS.f 400 y189 y192 y201 150 4000) = some (4200, 0) from by (try rw [Ny201.out]); (try rw [Ny198.out]); (try rw [Ny195.out]); (try rw [Ny192.out]); (try rw [Ny189.out]); kernel_rfl); have A3 := zA.mk (show (vO.f 400 y189 y192 y201 200 4500 10 20) = some (4440, 4560, 0) from by (try rw [Ny201.out]); (try rw [Ny198.out]); (try rw [Ny195.out]); (try rw [Ny192.out]); (try rw [Ny189.out]); kernel_rfl); have A4 := zA.mk (show (qA.f 400 y189 y192 y201) = some ((⟨#[97, 112, 112, 97, 114, 101, 110, 116, 32, 52, 48, 48, 48, 32, 53, 48, 48, 48, 10, 104, 101, 97, 116, 32, 49, 48, 48, 32, 52, 52, 48, 48, 32, 53, 52, 48, 48, 10, 104, 101, 97, 116, 32, 51, 48, 48, 32, 51, 54, 48, 48, 32, 52, 54, 48, 48, 10]⟩ : ByteArray), 0) from by (try rw [Ny201.out]); (try rw [Ny198.out]); (try rw [Ny195.out]); (try rw [Ny192.out]); (try rw [Ny189.out]); kernel_rfl); obtain rfl := Option.some.inj H; go_enter Tryd.func10, Tryd.ntmps10
 try simp only [List.append_eq, List.cons_append, List.nil_append]
 go_wp2_with (first | ((with_reducible refine vH (N := 10) rfl ?_); (try (refine vJ (by rfl) ?_; dsimp only)); refine Kd.zPQ (Kd.int .i64) _ 3 ?hg (N := 10) ?hd (xs := ([100, 300] : List Int)) (inner := [.int .i64 100, .int .i64 300]) (ok := fun _ => True) (okp := fun _ => True) ?hr ?hp (fun _ hk => hk) trivial (Below.refl _ _) (Nat.le_refl _) (by simp) ?_; (case hd => rfl); (case hg => rfl); (case hr => first | (go_simp; done) | (go_simp; rfl)); (case hp => exact (Reps.one (show Kd.M (Kd.int .i64) _ _ _ 100 [.int .i64 100] from rfl) (Reps.one (show Kd.M (Kd.int .i64) _ _ _ 300 [.int .i64 300] from rfl) (Reps.none _ _)))); intro v190 w5 ho6 hb hg_ hnew_; clear hg_ hnew_; (first | rw [← Ny189.out] at ho6 | (simp only [Int.reduceToNat] at ho6; rw [← Ny189.out] at ho6)); have n0_ := zA.mk (Kd.yD ho6 (zD (eG HB.out))); have n1_ := zA.mk (zG (eG HB.out) hb); clear HB; have kD := n0_; have HB := n1_; clear n0_ n1_; clear hb ho6) | ((with_reducible refine vH (N := 11) rfl ?_); (try (refine vJ (by rfl) ?_; dsimp only)); refine Kd.zPQ (Kd.int .i64) _ 3 ?hg (N := 11) ?hd (xs := ([4000, 5000] : List Int)) (inner := [.int .i64 4000, .int .i64 5000]) (ok := fun _ => True) (okp := fun _ => True) ?hr ?hp (fun _ hk => hk) trivial (Below.refl _ _) (Nat.le_refl _) (by simp) ?_; (case hd => rfl); (case hg => rfl); (case hr => first | (go_simp; done) | (go_simp; rfl)); (case hp => exact (Reps.one (show Kd.M (Kd.int .i64) _ _ _ 4000 [.int .i64 4000] from rfl) (Reps.one (show Kd.M (Kd.int .i64) _ _ _ 5000 [.int .i64 5000] from rfl) (Reps.none _ _)))); intro v193 w7 ho8 hb hg_ hnew_; clear hg_ hnew_; (first | rw [← Ny192.out] at ho8 | (simp only [Int.reduceToNat] at ho8; rw [← Ny192.out] at ho8)); have n0_ := zA.mk (Kd.qO (rG kD.out) (Kd.qF ho8) hb); have n1_ := zA.mk (Kd.yD (Kd.yO ho8 (Kd.R_lt (rG kD.out))) (zD (eG HB.out))); have n2_ := zA.mk (zG (eG HB.out) hb); clear kD; clear HB; have kD := n0_; have kU := n1_; have HB := n2_; clear n0_ n1_ n2_; clear hb ho8) | ((with_reducible refine vH (N := 12) rfl ?_); (try (refine vJ (by rfl) ?_; dsimp only)); refine Kd.zPQ (Kd.int .i64) _ 3 ?hg (N := 12) ?hd (xs := ([4400, 5400] : List Int)) (inner := [.int .i64 4400, .int .i64 5400]) (ok := fun _ => True) (okp := fun _ => True) ?hr ?hp (fun _ hk => hk) trivial (Below.refl _ _) (Nat.le_refl _) (by simp) ?_; (case hd => rfl); (case hg => rfl); (case hr => first | (go_simp; done) | (go_simp; rfl)); (case hp => exact (Reps.one (show Kd.M (Kd.int .i64) _ _ _ 4400 [.int .i64 4400] from rfl) (Reps.one (show Kd.M (Kd.int .i64) _ _ _ 5400 [.int .i64 5400] from rfl) (Reps.none _ _)))); intro v196 w9 ho10 hb hg_ hnew_; clear hg_ hnew_; (first | rw [← Ny195.out] at ho10 | (simp only [Int.reduceToNat] at ho10; rw [← Ny195.out] at ho10)); have n0_ := zA.mk (Kd.qO (rG kD.out) (Kd.qF ho10) hb); have n1_ := zA.mk (Kd.qO (rG kU.out) (Kd.qF ho10) hb); have n2_ := zA.mk (Kd.yD (Kd.yO (Kd.yO ho10 (Kd.R_lt (rG kD.out))) (Kd.R_lt (rG kU.out))) (zD (eG HB.out))); have n3_ := zA.mk (zG (eG HB.out) hb); clear kD; clear kU; clear HB; have kD := n0_; have kU := n1_; have zQW := n2_; have HB := n3_; clear n0_ n1_ n2_ n3_; clear hb ho10) | ((with_reducible refine vH (N := 13) rfl ?_); (try (refine vJ (by rfl) ?_; dsimp only)); refine Kd.zPQ (Kd.int .i64) _ 3 ?hg (N := 13) ?hd (xs := ([3600, 4600] : List Int)) (inner := [.int .i64 3600, .int .i64 4600]) (ok := fun _ => True) (okp := fun _ => True) ?hr ?hp (fun _ hk => hk) trivial (Below.refl _ _) (Nat.le_refl _) (by simp) ?_; (case hd => rfl); (case hg => rfl); (case hr => first | (go_simp; done) | (go_simp; rfl)); (case hp => exact (Reps.one (show Kd.M (Kd.int .i64) _ _ _ 3600 [.int .i64 3600] from rfl) (Reps.one (show Kd.M (Kd.int .i64) _ _ _ 4600 [.int .i64 4600] from rfl) (Reps.none _ _)))); intro v199 w11 ho12 hb hg_ hnew_; clear hg_ hnew_; (first | rw [← Ny198.out] at ho12 | (simp only [Int.reduceToNat] at ho12; rw [← Ny198.out] at ho12)); have n0_ := zA.mk (Kd.qO (rG kD.out) (Kd.qF ho12) hb); have n1_ := zA.mk (Kd.qO (rG kU.out) (Kd.qF ho12) hb); have n2_ := zA.mk (Kd.qO (rG zQW.out) (Kd.qF ho12) hb); have n3_ := zA.mk (Kd.yD (Kd.yO (Kd.yO (Kd.yO ho12 (Kd.R_lt (rG kD.out))) (Kd.R_lt (rG kU.out))) (Kd.R_lt (rG zQW.out))) (zD (eG HB.out))); have n4_ := zA.mk (zG (eG HB.out) hb); clear kD; clear kU; clear zQW; clear HB; have kD := n0_; have kU := n1_; have zQW := n2_; have HO200 := n3_; have HB := n4_; clear n0_ n1_ n2_ n3_ n4_; clear hb ho12; obtain ⟨Ao13, co13, eo13⟩ := Kd.qQ zQW.out; subst eo13; obtain ⟨Ao14, co14, eo14⟩ := Kd.qQ HO200.out; subst eo14) | ((with_reducible refine vH (N := 14) rfl ?_); (try (refine vJ (by rfl) ?_; dsimp only)); refine Kd.N_lit (Kd.slice 3 (Kd.int .i64)) _ 22 ?hg (N' := 14) ?hd (xs := ([y195, y198] : List (List Int))) (inner := [.slice Ao13 y195.length co13, .slice Ao14 y198.length co14]) (ok := (fun k_ => some k_ ≠ (v190 : Value).ownBlock ∧ some k_ ≠ (v193 : Value).ownBlock)) (okp := (fun k_ => some k_ ≠ (v190 : Value).ownBlock ∧ some k_ ≠ (v193 : Value).ownBlock)) ?hr ?hp (fun _ hk => hk) ((show ∀ k_, w11.heap.size ≤ k_ → (fun k_ => some k_ ≠ (v190 : Value).ownBlock ∧ some k_ ≠ (v193 : Value).ownBlock) k_ from fun k_ hk => ⟨Kd.jS (Kd.R_lt (rG kD.out)) k_ hk, Kd.jS (Kd.R_lt (rG kU.out)) k_ hk⟩) _ (Nat.le_refl _)) (Below.refl _ _) (Nat.le_refl _) (by simp) ?_; (case hd => rfl); (case hg => rfl); (case hr => first | (go_simp; done) | (go_simp; rfl)); (case hp => exact (Reps.one (show Kd.FK (Kd.slice 3 (Kd.int .i64)) _ _ y195 [.slice Ao13 y195.length co13] from (Kd.zDF (Kd.wN (Kd.vP (ok' := (fun k_ => some k_ ≠ (v190 : Value).ownBlock ∧ some k_ ≠ (v193 : Value).ownBlock)) (zQW.out) (fun k_ hk => ⟨hk.1.1.2, hk.1.2⟩))).2.1 (Kd.R_F (Kd.vP (ok' := (fun k_ => some k_ ≠ (v190 : Value).ownBlock ∧ some k_ ≠ (v193 : Value).ownBlock)) (zQW.out) (fun k_ hk => ⟨hk.1.1.2, hk.1.2⟩))))) (Reps.one (show Kd.FK (Kd.slice 3 (Kd.int .i64)) _ _ y198 [.slice Ao14 y198.length co14] from (Kd.zDF (Kd.wN (Kd.vP (ok' := (fun k_ => some k_ ≠ (v190 : Value).ownBlock ∧ some k_ ≠ (v193 : Value).ownBlock)) (HO200.out) (fun k_ hk => ⟨hk.1.1.2, hk.1.2⟩))).2.1 (Kd.R_F (Kd.vP (ok' := (fun k_ => some k_ ≠ (v190 : Value).ownBlock ∧ some k_ ≠ (v193 : Value).ownBlock)) (HO200.out) (fun k_ hk => ⟨hk.1.1.2, hk.1.2⟩))))) (Reps.none _ _)))); intro v202 w15 ho16 hb hg_ hnew_; clear hg_ hnew_; (first | rw [← Ny201.out] at ho16 | (simp only [Int.reduceToNat] at ho16; rw [← Ny201.out] at ho16)); have n0_ := zA.mk (Kd.wO (rG kD.out) hb); have n1_ := zA.mk (Kd.wO (rG kU.out) hb); have n2_ := zA.mk (Kd.zJP ho16 (zD (eG HB.out))); have n3_ := zA.mk (zG (eG HB.out) hb); clear kD; clear kU; clear HB; clear zQW; clear HO200; have kD := n0_; have kU := n1_; have zCC := n2_; have HB := n3_; clear n0_ n1_ n2_ n3_; clear hb ho16; obtain ⟨Ao17, co17, eo17⟩ := Kd.zFY zCC.out; subst eo17; obtain ⟨Ao18, co18, eo18⟩ := Kd.qQ kU.out; subst eo18; obtain ⟨Ao19, co19, eo19⟩ := Kd.qQ kD.out; subst eo19) | ((with_reducible refine vH (N := 1) rfl ?_); (try (refine vJ (by rfl) ?_; dsimp only)); refine vD ?hg (N := 1) ?hd (cs := #[.slice none 0 0, .slice none 0 0, .slice none 0 0]) (t := 25) ?hr ?_; (case hd => rfl); (case hg => rfl); (case hr => first | (go_simp; done) | (go_simp; rfl)); intro kM hg w20 hbox hb; have n0_ := zA.mk (Kd.wO (rG kD.out) hb); have n1_ := zA.mk (Kd.wO (rG kU.out) hb); have n2_ := zA.mk (Kd.jV (Kd.zHV (by (with_reducible repeat (first | apply Kd.vT | apply Kd.vS | apply Kd.qJ)); exact zCC.out) kM (Nat.le_of_eq hg.symm)) hb); have n3_ := zA.mk (zG (eG HB.out) hb); have n4_ := zA.mk (hbox); have n5_ := zA.mk ((by rw [hg]; exact (zD (eG HB.out)) : w.heap.size ≤ kM)); have n6_ := zA.mk ((by rw [hg]; exact (zD (eG HB.out)) : w.heap.size ≤ kM)); clear kD; clear kU; clear zCC; clear HB; have kD := n0_; have kU := n1_; have zCC := n2_; have HB := n3_; have uT := n4_; have GW204 := n5_; have GE204 := n6_; have ig204_ := geI GE204; clear n0_ n1_ n2_ n3_ n4_ n5_ n6_; clear hb hbox hg; have zJC : w20.cell? ⟨kM, 0, none⟩ = some (.slice none 0 0) := (zC uT.out 0).trans rfl; have zJB : w20.cell? ⟨kM, 1, none⟩ = some (.slice none 0 0) := (zC uT.out 1).trans rfl; have zJA : w20.cell? ⟨kM, 2, none⟩ = some (.slice none 0 0) := (zC uT.out 2).trans rfl; have zIP := zB uT.out 0; have zIO := zB uT.out 1; have zIN := zB uT.out 2) | ((with_reducible refine zQ (f := 14) rfl ?_); refine vN (some 18) rfl rfl Tryd.func14 (by kernel_rfl) rfl #[.agg #[.slice Ao19 y189.length co19, .slice Ao18 y192.length co18, .slice Ao17 y201.length co17], .int .i64 200, .int .i64 4500] rfl (by (try simp only [List.map_toArray, List.map_cons, List.map_nil]); first | done | rfl | (simp only [List.length_drop, List.length_take]; rfl)) ?_; (with_reducible refine (zBS.calls 400 _ _ y189 _ _ y192 _ _ y201 200 4500 4500 0 _ ?side1 ?side2 ?side3 ?side4 ?side5 ?side6 A1.out).mono ?_); (case side1 => refine (Kd.wN (e := 3) (base := w.heap.size) (ok := fun k_ => (((True ∧ some k_ ≠ (.slice Ao18 y192.length co18 : Value).ownBlock) ∧ some k_ ≠ (.slice Ao13 y195.length co13 : Value).ownBlock) ∧ some k_ ≠ (.slice Ao14 y198.length co14 : Value).ownBlock)) (n := y189.length) (c := co19) ?_).2.2; exact (by (with_reducible repeat (first | apply Kd.zK | apply Kd.zJ | apply Kd.zT)); exact (Kd.vP (Kd.qR (p := ⟨kM, 2, none⟩) (Kd.qR (p := ⟨kM, 1, none⟩) (Kd.qR (p := ⟨kM, 0, none⟩) (Kd.qE kD.out uT.out (by decide)) (fun _ hk => hk.2) (.slice Ao19 y189.length co19)) (fun _ hk => hk.2) (.slice Ao18 y192.length co18)) (fun _ hk => hk.2) (.slice Ao17 y201.length co17)) (fun _ h_ => h_.1)))); (case side2 => exact (Kd.wN kD.out).2.1); (case side3 => refine (Kd.wN (e := 3) (base := w.heap.size) (ok := fun k_ => (((True ∧ some k_ ≠ (.slice Ao19 y189.length co19 : Value).ownBlock) ∧ some k_ ≠ (.slice Ao13 y195.length co13 : Value).ownBlock) ∧ some k_ ≠ (.slice Ao14 y198.length co14 : Value).ownBlock)) (n := y192.length) (c := co18) ?_).2.2; exact (by (with_reducible repeat (first | apply Kd.zK | apply Kd.zJ | apply Kd.zT)); exact (Kd.vP (Kd.qR (p := ⟨kM, 2, none⟩) (Kd.qR (p := ⟨kM, 1, none⟩) (Kd.qR (p := ⟨kM, 0, none⟩) (Kd.qE kU.out uT.out (by decide)) (fun _ hk => hk.2) (.slice Ao19 y189.length co19)) (fun _ hk => hk.2) (.slice Ao18 y192.length co18)) (fun _ hk => hk.2) (.slice Ao17 y201.length co17)) (fun _ h_ => h_.1)))); (case side4 => exact (Kd.wN kU.out).2.1); (case side5 => refine (Kd.uY (e := 22) (base := w.heap.size) (ok := fun k_ => ((some k_ ≠ (.slice Ao19 y189.length co19 : Value).ownBlock ∧ some k_ ≠ (.slice Ao18 y192.length co18 : Value).ownBlock) ∧ k_ ≠ kM)) (n := y201.length) (c := co17) ?_).2.2; exact (by (with_reducible repeat (first | apply Kd.vT | apply Kd.vS | apply Kd.qJ)); exact (Kd.yJ (Kd.zAN (p := ⟨kM, 2, none⟩) (Kd.zAN (p := ⟨kM, 1, none⟩) (Kd.zAN (p := ⟨kM, 0, none⟩) (Kd.yJ zCC.out (fun k_ hk => (⟨hk, hk.2⟩ : _ ∧ k_ ≠ kM))) (fun _ hk => hk.2) (.slice Ao19 y189.length co19)) (fun _ hk => hk.2) (.slice Ao18 y192.length co18)) (fun _ hk => hk.2) (.slice Ao17 y201.length co17)) (fun _ h_ => h_.1)))); (case side6 => exact (Kd.uY zCC.out).2.1); rintro e w22 ⟨rfl, hb⟩; refine ⟨_, rfl, ?_⟩; have n0_ := zA.mk (Kd.wO (by (with_reducible repeat (first | apply Kd.zK | apply Kd.zJ | apply Kd.zT)); exact (Kd.vP (Kd.qR (p := ⟨kM, 2, none⟩) (Kd.qR (p := ⟨kM, 1, none⟩) (Kd.qR (p := ⟨kM, 0, none⟩) (Kd.qE kD.out uT.out (by decide)) (fun _ hk => hk.2) (.slice Ao19 y189.length co19)) (fun _ hk => hk.2) (.slice Ao18 y192.length co18)) (fun _ hk => hk.2) (.slice Ao17 y201.length co17)) (fun _ h_ => h_.1))) hb); have n1_ := zA.mk (Kd.wO (by (with_reducible repeat (first | apply Kd.zK | apply Kd.zJ | apply Kd.zT)); exact (Kd.vP (Kd.qR (p := ⟨kM, 2, none⟩) (Kd.qR (p := ⟨kM, 1, none⟩) (Kd.qR (p := ⟨kM, 0, none⟩) (Kd.qE kU.out uT.out (by decide)) (fun _ hk => hk.2) (.slice Ao19 y189.length co19)) (fun _ hk => hk.2) (.slice Ao18 y192.length co18)) (fun _ hk => hk.2) (.slice Ao17 y201.length co17)) (fun _ h_ => h_.1))) hb); have n2_ := zA.mk (Kd.jV (by (with_reducible repeat (first | apply Kd.vT | apply Kd.vS | apply Kd.qJ)); exact (Kd.yJ (Kd.zAN (p := ⟨kM, 2, none⟩) (Kd.zAN (p := ⟨kM, 1, none⟩) (Kd.zAN (p := ⟨kM, 0, none⟩) (Kd.yJ zCC.out (fun k_ hk => (⟨hk, hk.2⟩ : _ ∧ k_ ≠ kM))) (fun _ hk => hk.2) (.slice Ao19 y189.length co19)) (fun _ hk => hk.2) (.slice Ao18 y192.length co18)) (fun _ hk => hk.2) (.slice Ao17 y201.length co17)) (fun _ h_ => h_.1))) hb); have n3_ := zA.mk (zM (g := kM) (o := .cells #[.slice Ao19 y189.length co19, .slice Ao18 y192.length co18, .slice Ao17 y201.length co17] 25 (0, 0)) (by (with_reducible repeat first | apply bN | apply bD | apply bA); refine vA (cs := #[.slice Ao19 y189.length co19, .slice Ao18 y192.length co18, .slice none 0 0]) ?_ 2 _ rfl; (with_reducible repeat first | apply bN | apply bD | apply bA); refine vA (cs := #[.slice Ao19 y189.length co19, .slice none 0 0, .slice none 0 0]) ?_ 1 _ rfl; (with_reducible repeat first | apply bN | apply bD | apply bA); refine vA (cs := #[.slice none 0 0, .slice none 0 0, .slice none 0 0]) ?_ 0 _ rfl; (with_reducible repeat first | apply bN | apply bD | apply bA); exact uT.out) hb); have n4_ := zA.mk (zG (eG HB.out) hb); clear kD; clear kU; clear zCC; clear uT; clear HB; have kD := n0_; have kU := n1_; have zCC := n2_; have uT := n3_; have HB := n4_; clear n0_ n1_ n2_ n3_ n4_; (try clear hb); (try clear hb2); (try clear hk); (try clear hi); have hcz23_0 : w22.cell? ⟨kM, 0, none⟩ = some (.slice Ao19 y189.length co19) := (zC uT.out 0).trans rfl; have hcz23_1 : w22.cell? ⟨kM, 1, none⟩ = some (.slice Ao18 y192.length co18) := (zC uT.out 1).trans rfl; have hcz23_2 : w22.cell? ⟨kM, 2, none⟩ = some (.slice Ao17 y201.length co17) := (zC uT.out 2).trans rfl; have hfz23_0 := zB uT.out 0; have hfz23_1 := zB uT.out 1; have hfz23_2 := zB uT.out 2) | ((with_reducible refine zQ (f := 14) rfl ?_); refine vN (some 23) rfl rfl Tryd.func14 (by kernel_rfl) rfl #[.agg #[.slice Ao19 y189.length co19, .slice Ao18 y192.length co18, .slice Ao17 y201.length co17], .int .i64 150, .int .i64 4000] rfl (by (try simp only [List.map_toArray, List.map_cons, List.map_nil]); first | done | rfl | (simp only [List.length_drop, List.length_take]; rfl)) ?_; (with_reducible refine (zBS.calls 400 _ _ y189 _ _ y192 _ _ y201 150 4000 4200 0 _ ?side1 ?side2 ?side3 ?side4 ?side5 ?side6 A2.out).mono ?_); (case side1 => repeat (first | exact (Kd.wN kD.out).2.2 | (with_reducible refine Kd.zP ?_ _) | (with_reducible refine Kd.zO ?_ _) | (with_reducible refine Kd.zY ?_))); (case side2 => exact (Kd.wN kD.out).2.1); (case side3 => repeat (first | exact (Kd.wN kU.out).2.2 | (with_reducible refine Kd.zP ?_ _) | (with_reducible refine Kd.zO ?_ _) | (with_reducible refine Kd.zY ?_))); (case side4 => exact (Kd.wN kU.out).2.1); (case side5 => repeat (first | exact (Kd.uY zCC.out).2.2 | (with_reducible refine Kd.zP ?_ _) | (with_reducible refine Kd.zO ?_ _) | (with_reducible refine Kd.zY ?_))); (case side6 => exact (Kd.uY zCC.out).2.1); rintro e w24 ⟨rfl, hb⟩; refine ⟨_, rfl, ?_⟩; have n0_ := zA.mk (Kd.wO (rG kD.out) hb); have n1_ := zA.mk (Kd.wO (rG kU.out) hb); have n2_ := zA.mk (Kd.jV (by (with_reducible repeat (first | apply Kd.vT | apply Kd.vS | apply Kd.qJ)); exact zCC.out) hb); have n3_ := zA.mk (zM (bG uT.out) hb); have n4_ := zA.mk (zG (eG HB.out) hb); clear kD; clear kU; clear zCC; clear uT; clear HB; have kD := n0_; have kU := n1_; have zCC := n2_; have uT := n3_; have HB := n4_; clear n0_ n1_ n2_ n3_ n4_; (try clear hb); (try clear hb2); (try clear hk); (try clear hi); have zCZ : w24.cell? ⟨kM, 0, none⟩ = some (.slice Ao19 y189.length co19) := (zC uT.out 0).trans rfl; have zFR : w24.cell? ⟨kM, 1, none⟩ = some (.slice Ao18 y192.length co18) := (zC uT.out 1).trans rfl; have zFQ : w24.cell? ⟨kM, 2, none⟩ = some (.slice Ao17 y201.length co17) := (zC uT.out 2).trans rfl; have zCW := zB uT.out 0; have zFN := zB uT.out 1; have zFM := zB uT.out 2) | ((with_reducible refine zQ (f := 12) rfl ?_); refine vN (some 28) rfl rfl Tryd.func12 (by kernel_rfl) rfl #[.agg #[.slice Ao19 y189.length co19, .slice Ao18 y192.length co18, .slice Ao17 y201.length co17], .int .i64 200, .int .i64 4500, .int .i64 10, .int .i64 20] rfl (by (try simp only [List.map_toArray, List.map_cons, List.map_nil]); first | done | rfl | (simp only [List.length_drop, List.length_take]; rfl)) ?_; (with_reducible refine (vO.calls 400 _ _ y189 _ _ y192 _ _ y201 200 4500 10 20 4440 4560 0 _ ?side1 ?side2 ?side3 ?side4 ?side5 ?side6 A3.out).mono ?_); (case side1 => repeat (first | exact (Kd.wN kD.out).2.2 | (with_reducible refine Kd.zP ?_ _) | (with_reducible refine Kd.zO ?_ _) | (with_reducible refine Kd.zY ?_))); (case side2 => exact (Kd.wN kD.out).2.1); (case side3 => repeat (first | exact (Kd.wN kU.out).2.2 | (with_reducible refine Kd.zP ?_ _) | (with_reducible refine Kd.zO ?_ _) | (with_reducible refine Kd.zY ?_))); (case side4 => exact (Kd.wN kU.out).2.1); (case side5 => repeat (first | exact (Kd.uY zCC.out).2.2 | (with_reducible refine Kd.zP ?_ _) | (with_reducible refine Kd.zO ?_ _) | (with_reducible refine Kd.zY ?_))); (case side6 => exact (Kd.uY zCC.out).2.1); rintro e w26 ⟨rfl, hb⟩; refine ⟨_, rfl, ?_⟩; have n0_ := zA.mk (Kd.wO (rG kD.out) hb); have n1_ := zA.mk (Kd.wO (rG kU.out) hb); have n2_ := zA.mk (Kd.jV (by (with_reducible repeat (first | apply Kd.vT | apply Kd.vS | apply Kd.qJ)); exact zCC.out) hb); have n3_ := zA.mk (zM (bG uT.out) hb); have n4_ := zA.mk (zG (eG HB.out) hb); clear kD; clear kU; clear zCC; clear uT; clear HB; have kD := n0_; have kU := n1_; have zCC := n2_; have uT := n3_; have HB := n4_; clear n0_ n1_ n2_ n3_ n4_; (try clear hb); (try clear hb2); (try clear hk); (try clear hi)) | ((with_reducible refine vH (N := 6) rfl ?_); (try (refine vJ (by rfl) ?_; dsimp only)); refine vD ?hg (N := 6) ?hd (cs := #[.int .i64 0, .int .i64 0]) (t := 29) ?hr ?_; (case hd => rfl); (case hg => rfl); (case hr => first | (go_simp; done) | (go_simp; rfl)); intro zCK hg w27 hbox hb; have n0_ := zA.mk (Kd.wO (rG kD.out) hb); have n1_ := zA.mk (Kd.wO (rG kU.out) hb); have n2_ := zA.mk (Kd.jV (Kd.zHV (by (with_reducible repeat (first | apply Kd.vT | apply Kd.vS | apply Kd.qJ)); exact zCC.out) zCK (Nat.le_of_eq hg.symm)) hb); have n3_ := zA.mk (zM (bG uT.out) hb); have n4_ := zA.mk (zG (eG HB.out) hb); have n5_ := zA.mk (hbox); have n6_ := zA.mk ((by rw [hg]; exact (zD (eG HB.out)) : w.heap.size ≤ zCK)); have n7_ := zA.mk ((by rw [hg]; exact (zD (eG HB.out)) : w.heap.size ≤ zCK)); have n8_ := zA.mk ((by rw [hg]; exact Nat.ne_of_lt (yG (bG uT.out)) : kM ≠ zCK)); have n9_ := zA.mk ((by rw [hg]; exact Nat.ne_of_gt (yG (bG uT.out)) : zCK ≠ kM)); clear kD; clear kU; clear zCC; clear uT; clear HB; have kD := n0_; have kU := n1_; have zCC := n2_; have uT := n3_; have HB := n4_; have zHI := n5_; have GW205 := n6_; have GE205 := n7_; have ig205_ := geI GE205; have zME := n8_; have zYH := n9_; clear n0_ n1_ n2_ n3_ n4_ n5_ n6_ n7_ n8_ n9_; clear hb hbox hg; have hnb28 := zYH.out; have hnc28 := zME.out; have zOY : w27.cell? ⟨zCK, 0, none⟩ = some (.int .i64 0) := (zC zHI.out 0).trans rfl; have zOX : w27.cell? ⟨zCK, 1, none⟩ = some (.int .i64 0) := (zC zHI.out 1).trans rfl; have zOH := zB zHI.out 0; have zOG := zB zHI.out 1; have hcz30_0 : w27.cell? ⟨kM, 0, none⟩ = some (.slice Ao19 y189.length co19) := (zC uT.out 0).trans rfl; have hcz30_1 : w27.cell? ⟨kM, 1, none⟩ = some (.slice Ao18 y192.length co18) := (zC uT.out 1).trans rfl; have hcz30_2 : w27.cell? ⟨kM, 2, none⟩ = some (.slice Ao17 y201.length co17) := (zC uT.out 2).trans rfl; have hfz30_0 := zB uT.out 0; have hfz30_1 := zB uT.out 1; have hfz30_2 := zB uT.out 2) | ((with_reducible refine zQ (f := 20) rfl ?_); refine vN (some 33) rfl rfl Tryd.func20 (by kernel_rfl) rfl #[.agg #[.slice Ao19 y189.length co19, .slice Ao18 y192.length co18, .slice Ao17 y201.length co17]] rfl (by (try simp only [List.map_toArray, List.map_cons, List.map_nil]); first | done | rfl | (simp only [List.length_drop, List.length_take]; rfl)) ?_; (with_reducible refine (qA.calls 400 _ _ y189 _ _ y192 _ _ y201 (⟨#[97, 112, 112, 97, 114, 101, 110, 116, 32, 52, 48, 48, 48, 32, 53, 48, 48, 48, 10, 104, 101, 97, 116, 32, 49, 48, 48, 32, 52, 52, 48, 48, 32, 53, 52, 48, 48, 10, 104, 101, 97, 116, 32, 51, 48, 48, 32, 51, 54, 48, 48, 32, 52, 54, 48, 48, 10]⟩ : ByteArray) 0 _ ?side1 ?side2 ?side3 ?side4 ?side5 ?side6 ?side7 A4.out).mono ?_); (case side1 => refine (Kd.wN (e := 3) (base := w.heap.size) (ok := fun k_ => (((True ∧ some k_ ≠ (.slice Ao18 y192.length co18 : Value).ownBlock) ∧ some k_ ≠ (.slice Ao13 y195.length co13 : Value).ownBlock) ∧ some k_ ≠ (.slice Ao14 y198.length co14 : Value).ownBlock)) (n := y189.length) (c := co19) ?_).2.2; exact (by (with_reducible repeat (first | apply Kd.zK | apply Kd.zJ | apply Kd.zT)); exact (Kd.vP (Kd.qR (p := ⟨zCK, 1, none⟩) (Kd.qR (p := ⟨zCK, 0, none⟩) (Kd.qE kD.out zHI.out (by decide)) (fun _ hk => hk.2) (.int .i64 4440)) (fun _ hk => hk.2) (.int .i64 4560)) (fun _ h_ => h_.1)))); (case side2 => exact (Kd.wN kD.out).2.1); (case side3 => refine (Kd.wN (e := 3) (base := w.heap.size) (ok := fun k_ => (((True ∧ some k_ ≠ (.slice Ao19 y189.length co19 : Value).ownBlock) ∧ some k_ ≠ (.slice Ao13 y195.length co13 : Value).ownBlock) ∧ some k_ ≠ (.slice Ao14 y198.length co14 : Value).ownBlock)) (n := y192.length) (c := co18) ?_).2.2; exact (by (with_reducible repeat (first | apply Kd.zK | apply Kd.zJ | apply Kd.zT)); exact (Kd.vP (Kd.qR (p := ⟨zCK, 1, none⟩) (Kd.qR (p := ⟨zCK, 0, none⟩) (Kd.qE kU.out zHI.out (by decide)) (fun _ hk => hk.2) (.int .i64 4440)) (fun _ hk => hk.2) (.int .i64 4560)) (fun _ h_ => h_.1)))); (case side4 => exact (Kd.wN kU.out).2.1); (case side5 => refine (Kd.uY (e := 22) (base := w.heap.size) (ok := fun k_ => (((some k_ ≠ (.slice Ao19 y189.length co19 : Value).ownBlock ∧ some k_ ≠ (.slice Ao18 y192.length co18 : Value).ownBlock) ∧ k_ ≠ kM) ∧ k_ ≠ zCK)) (n := y201.length) (c := co17) ?_).2.2; exact (by (with_reducible repeat (first | apply Kd.vT | apply Kd.vS | apply Kd.qJ)); exact (Kd.yJ (Kd.zAN (p := ⟨zCK, 1, none⟩) (Kd.zAN (p := ⟨zCK, 0, none⟩) (Kd.yJ zCC.out (fun k_ hk => (⟨hk, hk.2⟩ : _ ∧ k_ ≠ zCK))) (fun _ hk => hk.2) (.int .i64 4440)) (fun _ hk => hk.2) (.int .i64 4560)) (fun _ h_ => h_.1)))); (case side6 => exact (Kd.uY zCC.out).2.1); (case side7 => exact GI.below HG.out (eG HB.out)); rintro e w31 ⟨rfl, hb⟩; refine ⟨_, rfl, ?_⟩; have n0_ := zA.mk (Kd.wO (by (with_reducible repeat (first | apply Kd.zK | apply Kd.zJ | apply Kd.zT)); exact (Kd.vP (Kd.qR (p := ⟨zCK, 1, none⟩) (Kd.qR (p := ⟨zCK, 0, none⟩) (Kd.qE kD.out zHI.out (by decide)) (fun _ hk => hk.2) (.int .i64 4440)) (fun _ hk => hk.2) (.int .i64 4560)) (fun _ h_ => h_.1))) hb); have n1_ := zA.mk (Kd.wO (by (with_reducible repeat (first | apply Kd.zK | apply Kd.zJ | apply Kd.zT)); exact (Kd.vP (Kd.qR (p := ⟨zCK, 1, none⟩) (Kd.qR (p := ⟨zCK, 0, none⟩) (Kd.qE kU.out zHI.out (by decide)) (fun _ hk => hk.2) (.int .i64 4440)) (fun _ hk => hk.2) (.int .i64 4560)) (fun _ h_ => h_.1))) hb); have n2_ := zA.mk (Kd.jV (by (with_reducible repeat (first | apply Kd.vT | apply Kd.vS | apply Kd.qJ)); exact (Kd.yJ (Kd.zAN (p := ⟨zCK, 1, none⟩) (Kd.zAN (p := ⟨zCK, 0, none⟩) (Kd.yJ zCC.out (fun k_ hk => (⟨hk, hk.2⟩ : _ ∧ k_ ≠ zCK))) (fun _ hk => hk.2) (.int .i64 4440)) (fun _ hk => hk.2) (.int .i64 4560)) (fun _ h_ => h_.1))) hb); have n3_ := zA.mk (zM (g := kM) (o := .cells #[.slice Ao19 y189.length co19, .slice Ao18 y192.length co18, .slice Ao17 y201.length co17] 25 (0, 0)) (by (with_reducible repeat first | apply bN | apply bD | apply bA); refine yL ?_ zME.out _; (with_reducible repeat first | apply bN | apply bD | apply bA); refine yL ?_ zME.out _; (with_reducible repeat first | apply bN | apply bD | apply bA); exact uT.out) hb); have n4_ := zA.mk (zM (g := zCK) (o := .cells #[.int .i64 4440, .int .i64 4560] 29 (0, 0)) (by (with_reducible repeat first | apply bN | apply bD | apply bA); refine vA (cs := #[.int .i64 4440, .int .i64 0]) ?_ 1 _ rfl; (with_reducible repeat first | apply bN | apply bD | apply bA); refine vA (cs := #[.int .i64 0, .int .i64 0]) ?_ 0 _ rfl; (with_reducible repeat first | apply bN | apply bD | apply bA); exact zHI.out) hb); have n5_ := zA.mk (zG (eG HB.out) hb); clear kD; clear kU; clear zCC; clear uT; clear zHI; clear HB; have kD := n0_; have kU := n1_; have zCC := n2_; have uT := n3_; have zHI := n4_; have HB := n5_; clear n0_ n1_ n2_ n3_ n4_ n5_; (try clear hb); (try clear hb2); (try clear hk); (try clear hi); have zXH : w31.cell? ⟨zCK, 0, none⟩ = some (.int .i64 4440) := (zC zHI.out 0).trans rfl; have zXG : w31.cell? ⟨zCK, 1, none⟩ = some (.int .i64 4560) := (zC zHI.out 1).trans rfl; have zWQ := zB zHI.out 0; have zWP := zB zHI.out 1))
 go_ret
 exact ⟨by first | rfl | (simp [zI, zH] <;> rfl) | (simp [*, zI, zH] <;> rfl), eG HB.out⟩
def vK.f (a0 : Int) : Option (Bool) := if a0 ≤ 8 then (some true) else (if a0 > 32 then (some (decide (a0 ≤ 37))) else (some false))
set_option maxHeartbeats 8000000 in
set_option maxRecDepth 100000 in
theorem vK.calls (a0 : Int) (r : Bool) (w : World) (h : vK.f a0 = some r) :
  Calls Tryd.prog 25 #[.int .i64 a0] w fun e w' => e = .returned (.bool r) ∧ wI w w' := by
 have H : (if a0 ≤ 8 then (some true) else (if a0 > 32 then (some (decide (a0 ≤ 37))) else (some false))) = some r := h; clear h; by_cases c2 : a0 ≤ 8
 ·
  rw [if_pos c2] at H; have c2b0 : decide (a0 ≤ 8) = true := decide_eq_true c2; clear c2; obtain rfl := Option.some.inj H; go_enter Tryd.func25, Tryd.ntmps25
  go_wp2; go_ret
  exact ⟨by first | rfl | (simp; done) | (simp [*]; done), by repeat (first | exact wI.refl _ | apply wI.step)⟩
 ·
  rw [if_neg c2] at H; have c2b0 : decide (a0 ≤ 8) = false := decide_eq_false c2; clear c2; by_cases c3 : a0 > 32
  ·
   rw [if_pos c3] at H; have c3b0 : decide (32 < a0) = true := decide_eq_true c3; clear c3; obtain rfl := Option.some.inj H; go_enter Tryd.func25, Tryd.ntmps25
   go_wp2; go_ret
   exact ⟨by first | rfl | (simp; done) | (simp [*]; done), by repeat (first | exact wI.refl _ | apply wI.step)⟩
  ·
   rw [if_neg c3] at H; have c3b0 : decide (32 < a0) = false := decide_eq_false c3; clear c3; obtain rfl := Option.some.inj H; go_enter Tryd.func25, Tryd.ntmps25
   go_wp2; go_ret
   exact ⟨by first | rfl | (simp; done) | (simp [*]; done), by repeat (first | exact wI.refl _ | apply wI.step)⟩
end Go.Proofs.YtmdfnambaedllaaDoor.Pr
