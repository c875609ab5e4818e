/-
A part of what these laws rest on: contracts of the functions that they reach, and plain lemmas.
-/
import Derived.Shelf.Strconv.Atoi
import Derived.Shelf.Strconv.Itoa0
import Derived.Shelf.Strconv.Itoa1
import Derived.Shelf.LaysM
import Derived.Shelf.Strconv.Itoa2
import Derived.Shelf.Strconv.Itoa3
import Derived.Shelf.Strconv.AtoiErrFast
import Derived.Shelf.Strconv.ParseIntEmpty
import Derived.Shelf.Strconv.AtoiFail
import Derived.Shelf.Strconv.Clone
import Derived.Shelf.Strconv.SyntaxError
import Derived.Shelf.LaysC
import Derived.Shelf.Strconv.ToError
import Derived.Shelf.Strconv.Lower
import Derived.Shelf.Strconv.ParseUint10
import Derived.Shelf.Strconv.ParseUint10Empty
import Derived.Shelf.Strconv.ParseUint10Any
import Derived.Shelf.Strconv.ParseInt10
import Derived.Shelf.Strconv.AtoiLong
import Derived.Shelf.Strconv.AtoiInnerAll
import Derived.Shelf.Strconv.RangeError
import Derived.Shelf.Strconv.ToErrorRange
import Derived.Shelf.Strconv.AtoiAll
import Derived.Shelf.Strconv.ErrVarAll
import Derived.Shelf.Strings.Search1
import Derived.Shelf.Strings.Search2
import Derived.Shelf.Strings.Search3
import Derived.Shelf.Strings.Cut
import Derived.Shelf.Strings.Count
import Derived.Shelf.Strings.Shaped
import Derived.Shelf.Strings.Split
import Derived.Shelf.Strings.SplitShaped
import Derived.Shelf.Unicode.DecodeSlow
import Derived.Test.YtmdfnambaedllaaDoorCorrectBackB
set_option linter.unusedVariables false
set_option linter.unusedSimpArgs false
namespace Go.Proofs.YtmdfnambaedllaaDoor.Pr
open Go.RowKit Go.Proofs.YtmdfnambaedllaaDoorW.PrintWords Go.Proofs.YtmdfnambaedllaaDoorW.PrintLast Go.Proofs.YtmdfnambaedllaaDoorW.PrintMore Go.Proofs.YtmdfnambaedllaaDoor.X
attribute [local go_sem] max2_int min2_int max_two min_two max_three min_three max_four min_four   -- for this text's walks alone
set_option linter.unusedVariables false
set_option linter.unusedSimpArgs false
def correct_at.f (k : Nat) (l0_0 : List Int) (l0_1 : List Int) (l0_2 : List (List Int)) (a1 : Int) (a2 : Int) : Option (Int × Bool) := (correct_place_int.f k l0_0 a1).bind fun bt133 => ((correct_place_int.f k l0_1 a2).bind fun bt135 => (if bt133.2 = true then (if bt135.2 = true then (if 0 ≤ bt133.1 then (if bt133.1 < (l0_2.length : Int) then (if 0 ≤ bt135.1 then (if bt135.1 < ((rd_L1 l0_2 bt133.1).length : Int) then (if 0 ≤ (wrap64 (bt135.1 + 1)) then (if (wrap64 (bt135.1 + 1)) < ((rd_L1 l0_2 bt133.1).length : Int) then (if 0 ≤ (wrap64 (bt133.1 + 1)) then (if (wrap64 (bt133.1 + 1)) < (l0_2.length : Int) then (if bt135.1 < ((rd_L1 l0_2 (wrap64 (bt133.1 + 1))).length : Int) then (if (wrap64 (bt135.1 + 1)) < ((rd_L1 l0_2 (wrap64 (bt133.1 + 1))).length : Int) then (if bt135.1 < (l0_1.length : Int) then (if (wrap64 (bt135.1 + 1)) < (l0_1.length : Int) then (if (wrap64 (bt133.1 + 1)) < (l0_0.length : Int) then (if bt133.1 < (l0_0.length : Int) then (if (wrap64 (2 * (wrap64 ((wrap64 ((rd l0_0 (wrap64 (bt133.1 + 1))) - (rd l0_0 bt133.1))) * (wrap64 ((rd l0_1 (wrap64 (bt135.1 + 1))) - (rd l0_1 bt135.1))))))) = 0 then (none) else (some (wrap64 (Int.tdiv (wrap64 ((wrap64 (2 * (wrap64 ((wrap64 ((wrap64 ((rd l0_0 (wrap64 (bt133.1 + 1))) - a1)) * (wrap64 ((wrap64 ((wrap64 ((rd l0_1 (wrap64 (bt135.1 + 1))) - a2)) * (rd (rd_L1 l0_2 bt133.1) bt135.1))) + (wrap64 ((wrap64 (a2 - (rd l0_1 bt135.1))) * (rd (rd_L1 l0_2 bt133.1) (wrap64 (bt135.1 + 1))))))))) + (wrap64 ((wrap64 (a1 - (rd l0_0 bt133.1))) * (wrap64 ((wrap64 ((wrap64 ((rd l0_1 (wrap64 (bt135.1 + 1))) - a2)) * (rd (rd_L1 l0_2 (wrap64 (bt133.1 + 1))) bt135.1))) + (wrap64 ((wrap64 (a2 - (rd l0_1 bt135.1))) * (rd (rd_L1 l0_2 (wrap64 (bt133.1 + 1))) (wrap64 (bt135.1 + 1))))))))))))) + (wrap64 ((wrap64 ((rd l0_0 (wrap64 (bt133.1 + 1))) - (rd l0_0 bt133.1))) * (wrap64 ((rd l0_1 (wrap64 (bt135.1 + 1))) - (rd l0_1 bt135.1))))))) (wrap64 (2 * (wrap64 ((wrap64 ((rd l0_0 (wrap64 (bt133.1 + 1))) - (rd l0_0 bt133.1))) * (wrap64 ((rd l0_1 (wrap64 (bt135.1 + 1))) - (rd l0_1 bt135.1)))))))), true))) else (none)) else (none)) else (none)) else (none)) else (none)) else (none)) else (none)) else (none)) else (none)) else (none)) else (none)) else (none)) else (none)) else (none)) else (some (0, false))) else (some (0, false))))
def correct_at.T5 : Bool × List (List Nat × List Nat) := (true, [([], []), ([0], [0]), ([], []), ([1, 2], [1, 2]), ([3], [3]), ([], []), ([4, 5], [4, 5]), ([6], [6]), ([], []), ([8], [8]), ([], []), ([9, 10], [9, 10]), ([11], [11]), ([], []), ([13], [13]), ([12, 14], [12, 14]), ([15], [15]), ([7, 16], [7, 16]), ([], []), ([18], [18]), ([], []), ([20], [20]), ([19, 21], [19, 21]), ([22], [22]), ([], []), ([23, 24], [23, 24]), ([25], [25]), ([], []), ([27], [27]), ([], []), ([29], [29]), ([28, 30], [28, 30]), ([31], [31]), ([], []), ([33], [33]), ([32, 34], [32, 34]), ([35], [35]), ([26, 36], [26, 36]), ([17, 37], [17, 37]), ([], []), ([39, 38, 0, 1, 2, 3, 4, 5, 6, 7, 8, 9, 10, 11, 12, 13, 14, 15, 16, 17, 18, 19, 20, 21, 22, 23, 24, 25, 26, 27, 28, 29, 30, 31, 32, 33, 34, 35, 36, 37, 38, 39], [38, 39])])
def correct_at.B5 : List Nat := [0, 1, 0, 7, 15, 0, 63, 127, 0, 256, 0, 1792, 3840, 0, 8192, 32512, 65280, 131071, 0, 262144, 0, 1048576, 3932160, 8126464, 0, 33292288, 66846720, 0, 134217728, 0, 536870912, 2013265920, 4160749568, 0, 8589934592, 34225520640, 68585259008, 137438691328, 274877906943, 0, 1099511627775]
theorem correct_at.tab5 : rtab .any (opsOf Tryd.f26 5) = correct_at.T5 := by kernel_rfl
theorem correct_at.bits5 : waitsOk correct_at.T5.2 correct_at.B5 = true := by kernel_rfl
def correct_at.T6 : Bool × List (List Nat × List Nat) := (true, [([], []), ([], []), ([1], [1]), ([], []), ([2, 3], [2, 3]), ([4], [4]), ([0, 5], [0, 5]), ([], []), ([7], [7]), ([], []), ([9], [9]), ([8, 10], [8, 10]), ([11], [11]), ([], []), ([12, 13], [12, 13]), ([6, 0, 1, 2, 3, 4, 5, 6], [6]), ([14, 15, 0, 1, 2, 3, 4, 5, 6, 7, 8, 9, 10, 11, 12, 13, 14, 15], [14])])
def correct_at.B6 : List Nat := [0, 0, 2, 0, 14, 30, 63, 0, 128, 0, 512, 1920, 3968, 0, 16256, 127, 65535]
theorem correct_at.tab6 : rtab .any (opsOf Tryd.f26 6) = correct_at.T6 := by kernel_rfl
theorem correct_at.bits6 : waitsOk correct_at.T6.2 correct_at.B6 = true := by kernel_rfl
def correct_at.T9 : Bool × List (List Nat × List Nat) := (true, [([], []), ([0], [0]), ([], []), ([2], [2]), ([1, 3], [1, 3]), ([4], [4]), ([], []), ([5, 6], [5, 6]), ([], []), ([7, 8], [7, 8]), ([], []), ([], []), ([11], [11]), ([], []), ([12, 13], [12, 13]), ([14], [14]), ([10, 15], [10, 15]), ([], []), ([16, 17], [16, 17]), ([9, 18], [9, 18]), ([19, 0, 1, 2, 3, 4, 5, 6, 7, 8, 9, 10, 11, 12, 13, 14, 15, 16, 17, 18, 19], [19])])
def correct_at.B9 : List Nat := [0, 1, 0, 4, 15, 31, 0, 127, 0, 511, 0, 0, 2048, 0, 14336, 30720, 64512, 0, 261120, 524287, 1048575]
theorem correct_at.tab9 : rtab .any (opsOf Tryd.f26 9) = correct_at.T9 := by kernel_rfl
theorem correct_at.bits9 : waitsOk correct_at.T9.2 correct_at.B9 = true := by kernel_rfl
def correct_at.T10 : Bool × List (List Nat × List Nat) := (true, [([], []), ([0], [0]), ([], []), ([2], [2]), ([1, 3], [1, 3]), ([4], [4]), ([], []), ([6], [6]), ([], []), ([7, 8], [7, 8]), ([9], [9]), ([5, 10], [5, 10]), ([], []), ([12], [12]), ([], []), ([14], [14]), ([13, 15], [13, 15]), ([16], [16]), ([], []), ([18], [18]), ([], []), ([19, 20], [19, 20]), ([21], [21]), ([17, 22], [17, 22]), ([11, 23], [11, 23]), ([24, 0, 1, 2, 3, 4, 5, 6, 7, 8, 9, 10, 11, 12, 13, 14, 15, 16, 17, 18, 19, 20, 21, 22, 23, 24], [24])])
def correct_at.B10 : List Nat := [0, 1, 0, 4, 15, 31, 0, 64, 0, 448, 960, 2047, 0, 4096, 0, 16384, 61440, 126976, 0, 262144, 0, 1835008, 3932160, 8384512, 16777215, 33554431]
theorem correct_at.tab10 : rtab .any (opsOf Tryd.f26 10) = correct_at.T10 := by kernel_rfl
theorem correct_at.bits10 : waitsOk correct_at.T10.2 correct_at.B10 = true := by kernel_rfl
set_option maxHeartbeats 8000000 in
set_option maxRecDepth 100000 in
theorem correct_at.calls (k : Nat) (A0_0 : Option Addr) (c0_0 : Nat) (l0_0 : List Int) (A0_1 : Option Addr) (c0_1 : Nat) (l0_1 : List Int) (A0_2 : Option Addr) (c0_2 : Nat) (l0_2 : List (List Int)) (a1 : Int) (a2 : Int) (r1 : Int) (r2 : Bool) (w : World) (hr0_0 : Kd.C (Kd.int .i64) w A0_0 l0_0.length l0_0) (hc0_0 : l0_0.length ≤ c0_0) (hr0_1 : Kd.C (Kd.int .i64) w A0_1 l0_1.length l0_1) (hc0_1 : l0_1.length ≤ c0_1) (hr0_2 : Kd.C (Kd.slice 3 (Kd.int .i64)) w A0_2 l0_2.length l0_2) (hc0_2 : l0_2.length ≤ c0_2) (h : correct_at.f k l0_0 l0_1 l0_2 a1 a2 = some (r1, r2)) :
  Calls Tryd.prog 26 #[.agg #[.slice A0_0 l0_0.length c0_0, .slice A0_1 l0_1.length c0_1, .slice A0_2 l0_2.length c0_2], .int .i64 a1, .int .i64 a2] w fun e w' => e = .returned (.tuple #[.int .i64 r1, .bool r2]) ∧ Below w.heap.size w w' := by
 have hu25 := Tryd.underlying25; have hu74 := Tryd.underlying74; have hu75 := Tryd.underlying75; have HR0_0 := Aside0.mk hr0_0; have HC0_0 := Aside0.mk hc0_0; clear hr0_0 hc0_0; have HR0_1 := Aside0.mk hr0_1; have HC0_1 := Aside0.mk hc0_1; clear hr0_1 hc0_1; have HR0_2 := Aside0.mk hr0_2; have HC0_2 := Aside0.mk hc0_2; clear hr0_2 hc0_2; have HB := Aside0.mk (Below.refl w.heap.size w); have H : ((correct_place_int.f k l0_0 a1).bind fun bt133 => ((correct_place_int.f k l0_1 a2).bind fun bt135 => (if bt133.2 = true then (if bt135.2 = true then (if 0 ≤ bt133.1 then (if bt133.1 < (l0_2.length : Int) then (if 0 ≤ bt135.1 then (if bt135.1 < ((rd_L1 l0_2 bt133.1).length : Int) then (if 0 ≤ (wrap64 (bt135.1 + 1)) then (if (wrap64 (bt135.1 + 1)) < ((rd_L1 l0_2 bt133.1).length : Int) then (if 0 ≤ (wrap64 (bt133.1 + 1)) then (if (wrap64 (bt133.1 + 1)) < (l0_2.length : Int) then (if bt135.1 < ((rd_L1 l0_2 (wrap64 (bt133.1 + 1))).length : Int) then (if (wrap64 (bt135.1 + 1)) < ((rd_L1 l0_2 (wrap64 (bt133.1 + 1))).length : Int) then (if bt135.1 < (l0_1.length : Int) then (if (wrap64 (bt135.1 + 1)) < (l0_1.length : Int) then (if (wrap64 (bt133.1 + 1)) < (l0_0.length : Int) then (if bt133.1 < (l0_0.length : Int) then (if (wrap64 (2 * (wrap64 ((wrap64 ((rd l0_0 (wrap64 (bt133.1 + 1))) - (rd l0_0 bt133.1))) * (wrap64 ((rd l0_1 (wrap64 (bt135.1 + 1))) - (rd l0_1 bt135.1))))))) = 0 then (none) else (some (wrap64 (Int.tdiv (wrap64 ((wrap64 (2 * (wrap64 ((wrap64 ((wrap64 ((rd l0_0 (wrap64 (bt133.1 + 1))) - a1)) * (wrap64 ((wrap64 ((wrap64 ((rd l0_1 (wrap64 (bt135.1 + 1))) - a2)) * (rd (rd_L1 l0_2 bt133.1) bt135.1))) + (wrap64 ((wrap64 (a2 - (rd l0_1 bt135.1))) * (rd (rd_L1 l0_2 bt133.1) (wrap64 (bt135.1 + 1))))))))) + (wrap64 ((wrap64 (a1 - (rd l0_0 bt133.1))) * (wrap64 ((wrap64 ((wrap64 ((rd l0_1 (wrap64 (bt135.1 + 1))) - a2)) * (rd (rd_L1 l0_2 (wrap64 (bt133.1 + 1))) bt135.1))) + (wrap64 ((wrap64 (a2 - (rd l0_1 bt135.1))) * (rd (rd_L1 l0_2 (wrap64 (bt133.1 + 1))) (wrap64 (bt135.1 + 1))))))))))))) + (wrap64 ((wrap64 ((rd l0_0 (wrap64 (bt133.1 + 1))) - (rd l0_0 bt133.1))) * (wrap64 ((rd l0_1 (wrap64 (bt135.1 + 1))) - (rd l0_1 bt135.1))))))) (wrap64 (2 * (wrap64 ((wrap64 ((rd l0_0 (wrap64 (bt133.1 + 1))) - (rd l0_0 bt133.1))) * (wrap64 ((rd l0_1 (wrap64 (bt135.1 + 1))) - (rd l0_1 bt135.1)))))))), true))) else (none)) else (none)) else (none)) else (none)) else (none)) else (none)) else (none)) else (none)) else (none)) else (none)) else (none)) else (none)) else (none)) else (none)) else (some (0, false))) else (some (0, false))))) = some (r1, r2) := h; clear h; replace H := Option.bind_eq_some_iff.mp H; obtain ⟨⟨t133, t134⟩, A40, H⟩ := H; replace H : ((correct_place_int.f k l0_1 a2).bind fun bt135 => (if t134 = true then (if bt135.2 = true then (if 0 ≤ t133 then (if t133 < (l0_2.length : Int) then (if 0 ≤ bt135.1 then (if bt135.1 < ((rd_L1 l0_2 t133).length : Int) then (if 0 ≤ (wrap64 (bt135.1 + 1)) then (if (wrap64 (bt135.1 + 1)) < ((rd_L1 l0_2 t133).length : Int) then (if 0 ≤ (wrap64 (t133 + 1)) then (if (wrap64 (t133 + 1)) < (l0_2.length : Int) then (if bt135.1 < ((rd_L1 l0_2 (wrap64 (t133 + 1))).length : Int) then (if (wrap64 (bt135.1 + 1)) < ((rd_L1 l0_2 (wrap64 (t133 + 1))).length : Int) then (if bt135.1 < (l0_1.length : Int) then (if (wrap64 (bt135.1 + 1)) < (l0_1.length : Int) then (if (wrap64 (t133 + 1)) < (l0_0.length : Int) then (if t133 < (l0_0.length : Int) then (if (wrap64 (2 * (wrap64 ((wrap64 ((rd l0_0 (wrap64 (t133 + 1))) - (rd l0_0 t133))) * (wrap64 ((rd l0_1 (wrap64 (bt135.1 + 1))) - (rd l0_1 bt135.1))))))) = 0 then (none) else (some (wrap64 (Int.tdiv (wrap64 ((wrap64 (2 * (wrap64 ((wrap64 ((wrap64 ((rd l0_0 (wrap64 (t133 + 1))) - a1)) * (wrap64 ((wrap64 ((wrap64 ((rd l0_1 (wrap64 (bt135.1 + 1))) - a2)) * (rd (rd_L1 l0_2 t133) bt135.1))) + (wrap64 ((wrap64 (a2 - (rd l0_1 bt135.1))) * (rd (rd_L1 l0_2 t133) (wrap64 (bt135.1 + 1))))))))) + (wrap64 ((wrap64 (a1 - (rd l0_0 t133))) * (wrap64 ((wrap64 ((wrap64 ((rd l0_1 (wrap64 (bt135.1 + 1))) - a2)) * (rd (rd_L1 l0_2 (wrap64 (t133 + 1))) bt135.1))) + (wrap64 ((wrap64 (a2 - (rd l0_1 bt135.1))) * (rd (rd_L1 l0_2 (wrap64 (t133 + 1))) (wrap64 (bt135.1 + 1))))))))))))) + (wrap64 ((wrap64 ((rd l0_0 (wrap64 (t133 + 1))) - (rd l0_0 t133))) * (wrap64 ((rd l0_1 (wrap64 (bt135.1 + 1))) - (rd l0_1 bt135.1))))))) (wrap64 (2 * (wrap64 ((wrap64 ((rd l0_0 (wrap64 (t133 + 1))) - (rd l0_0 t133))) * (wrap64 ((rd l0_1 (wrap64 (bt135.1 + 1))) - (rd l0_1 bt135.1)))))))), true))) else (none)) else (none)) else (none)) else (none)) else (none)) else (none)) else (none)) else (none)) else (none)) else (none)) else (none)) else (none)) else (none)) else (none)) else (some (0, false))) else (some (0, false)))) = some (r1, r2) := H; have A4 := Aside0.mk A40; clear A40; replace H := Option.bind_eq_some_iff.mp H; obtain ⟨⟨t135, t136⟩, A50, H⟩ := H; replace H : (if t134 = true then (if t136 = true then (if 0 ≤ t133 then (if t133 < (l0_2.length : Int) then (if 0 ≤ t135 then (if t135 < ((rd_L1 l0_2 t133).length : Int) then (if 0 ≤ (wrap64 (t135 + 1)) then (if (wrap64 (t135 + 1)) < ((rd_L1 l0_2 t133).length : Int) then (if 0 ≤ (wrap64 (t133 + 1)) then (if (wrap64 (t133 + 1)) < (l0_2.length : Int) then (if t135 < ((rd_L1 l0_2 (wrap64 (t133 + 1))).length : Int) then (if (wrap64 (t135 + 1)) < ((rd_L1 l0_2 (wrap64 (t133 + 1))).length : Int) then (if t135 < (l0_1.length : Int) then (if (wrap64 (t135 + 1)) < (l0_1.length : Int) then (if (wrap64 (t133 + 1)) < (l0_0.length : Int) then (if t133 < (l0_0.length : Int) then (if (wrap64 (2 * (wrap64 ((wrap64 ((rd l0_0 (wrap64 (t133 + 1))) - (rd l0_0 t133))) * (wrap64 ((rd l0_1 (wrap64 (t135 + 1))) - (rd l0_1 t135))))))) = 0 then (none) else (some (wrap64 (Int.tdiv (wrap64 ((wrap64 (2 * (wrap64 ((wrap64 ((wrap64 ((rd l0_0 (wrap64 (t133 + 1))) - a1)) * (wrap64 ((wrap64 ((wrap64 ((rd l0_1 (wrap64 (t135 + 1))) - a2)) * (rd (rd_L1 l0_2 t133) t135))) + (wrap64 ((wrap64 (a2 - (rd l0_1 t135))) * (rd (rd_L1 l0_2 t133) (wrap64 (t135 + 1))))))))) + (wrap64 ((wrap64 (a1 - (rd l0_0 t133))) * (wrap64 ((wrap64 ((wrap64 ((rd l0_1 (wrap64 (t135 + 1))) - a2)) * (rd (rd_L1 l0_2 (wrap64 (t133 + 1))) t135))) + (wrap64 ((wrap64 (a2 - (rd l0_1 t135))) * (rd (rd_L1 l0_2 (wrap64 (t133 + 1))) (wrap64 (t135 + 1))))))))))))) + (wrap64 ((wrap64 ((rd l0_0 (wrap64 (t133 + 1))) - (rd l0_0 t133))) * (wrap64 ((rd l0_1 (wrap64 (t135 + 1))) - (rd l0_1 t135))))))) (wrap64 (2 * (wrap64 ((wrap64 ((rd l0_0 (wrap64 (t133 + 1))) - (rd l0_0 t133))) * (wrap64 ((rd l0_1 (wrap64 (t135 + 1))) - (rd l0_1 t135)))))))), true))) else (none)) else (none)) else (none)) else (none)) else (none)) else (none)) else (none)) else (none)) else (none)) else (none)) else (none)) else (none)) else (none)) else (none)) else (some (0, false))) else (some (0, false))) = some (r1, r2) := H; have A5 := Aside0.mk A50; clear A50; by_cases c6 : t134 = true
 ·
  subst c6; replace H : (if t136 = true then (if 0 ≤ t133 then (if t133 < (l0_2.length : Int) then (if 0 ≤ t135 then (if t135 < ((rd_L1 l0_2 t133).length : Int) then (if 0 ≤ (wrap64 (t135 + 1)) then (if (wrap64 (t135 + 1)) < ((rd_L1 l0_2 t133).length : Int) then (if 0 ≤ (wrap64 (t133 + 1)) then (if (wrap64 (t133 + 1)) < (l0_2.length : Int) then (if t135 < ((rd_L1 l0_2 (wrap64 (t133 + 1))).length : Int) then (if (wrap64 (t135 + 1)) < ((rd_L1 l0_2 (wrap64 (t133 + 1))).length : Int) then (if t135 < (l0_1.length : Int) then (if (wrap64 (t135 + 1)) < (l0_1.length : Int) then (if (wrap64 (t133 + 1)) < (l0_0.length : Int) then (if t133 < (l0_0.length : Int) then (if (wrap64 (2 * (wrap64 ((wrap64 ((rd l0_0 (wrap64 (t133 + 1))) - (rd l0_0 t133))) * (wrap64 ((rd l0_1 (wrap64 (t135 + 1))) - (rd l0_1 t135))))))) = 0 then (none) else (some (wrap64 (Int.tdiv (wrap64 ((wrap64 (2 * (wrap64 ((wrap64 ((wrap64 ((rd l0_0 (wrap64 (t133 + 1))) - a1)) * (wrap64 ((wrap64 ((wrap64 ((rd l0_1 (wrap64 (t135 + 1))) - a2)) * (rd (rd_L1 l0_2 t133) t135))) + (wrap64 ((wrap64 (a2 - (rd l0_1 t135))) * (rd (rd_L1 l0_2 t133) (wrap64 (t135 + 1))))))))) + (wrap64 ((wrap64 (a1 - (rd l0_0 t133))) * (wrap64 ((wrap64 ((wrap64 ((rd l0_1 (wrap64 (t135 + 1))) - a2)) * (rd (rd_L1 l0_2 (wrap64 (t133 + 1))) t135))) + (wrap64 ((wrap64 (a2 - (rd l0_1 t135))) * (rd (rd_L1 l0_2 (wrap64 (t133 + 1))) (wrap64 (t135 + 1))))))))))))) + (wrap64 ((wrap64 ((rd l0_0 (wrap64 (t133 + 1))) - (rd l0_0 t133))) * (wrap64 ((rd l0_1 (wrap64 (t135 + 1))) - (rd l0_1 t135))))))) (wrap64 (2 * (wrap64 ((wrap64 ((rd l0_0 (wrap64 (t133 + 1))) - (rd l0_0 t133))) * (wrap64 ((rd l0_1 (wrap64 (t135 + 1))) - (rd l0_1 t135)))))))), true))) else (none)) else (none)) else (none)) else (none)) else (none)) else (none)) else (none)) else (none)) else (none)) else (none)) else (none)) else (none)) else (none)) else (none)) else (some (0, false))) = some (r1, r2) := by rw [if_pos rfl] at H; exact H
  by_cases c7 : t136 = true
  ·
   subst c7; replace H : (if 0 ≤ t133 then (if t133 < (l0_2.length : Int) then (if 0 ≤ t135 then (if t135 < ((rd_L1 l0_2 t133).length : Int) then (if 0 ≤ (wrap64 (t135 + 1)) then (if (wrap64 (t135 + 1)) < ((rd_L1 l0_2 t133).length : Int) then (if 0 ≤ (wrap64 (t133 + 1)) then (if (wrap64 (t133 + 1)) < (l0_2.length : Int) then (if t135 < ((rd_L1 l0_2 (wrap64 (t133 + 1))).length : Int) then (if (wrap64 (t135 + 1)) < ((rd_L1 l0_2 (wrap64 (t133 + 1))).length : Int) then (if t135 < (l0_1.length : Int) then (if (wrap64 (t135 + 1)) < (l0_1.length : Int) then (if (wrap64 (t133 + 1)) < (l0_0.length : Int) then (if t133 < (l0_0.length : Int) then (if (wrap64 (2 * (wrap64 ((wrap64 ((rd l0_0 (wrap64 (t133 + 1))) - (rd l0_0 t133))) * (wrap64 ((rd l0_1 (wrap64 (t135 + 1))) - (rd l0_1 t135))))))) = 0 then (none) else (some (wrap64 (Int.tdiv (wrap64 ((wrap64 (2 * (wrap64 ((wrap64 ((wrap64 ((rd l0_0 (wrap64 (t133 + 1))) - a1)) * (wrap64 ((wrap64 ((wrap64 ((rd l0_1 (wrap64 (t135 + 1))) - a2)) * (rd (rd_L1 l0_2 t133) t135))) + (wrap64 ((wrap64 (a2 - (rd l0_1 t135))) * (rd (rd_L1 l0_2 t133) (wrap64 (t135 + 1))))))))) + (wrap64 ((wrap64 (a1 - (rd l0_0 t133))) * (wrap64 ((wrap64 ((wrap64 ((rd l0_1 (wrap64 (t135 + 1))) - a2)) * (rd (rd_L1 l0_2 (wrap64 (t133 + 1))) t135))) + (wrap64 ((wrap64 (a2 - (rd l0_1 t135))) * (rd (rd_L1 l0_2 (wrap64 (t133 + 1))) (wrap64 (t135 + 1))))))))))))) + (wrap64 ((wrap64 ((rd l0_0 (wrap64 (t133 + 1))) - (rd l0_0 t133))) * (wrap64 ((rd l0_1 (wrap64 (t135 + 1))) - (rd l0_1 t135))))))) (wrap64 (2 * (wrap64 ((wrap64 ((rd l0_0 (wrap64 (t133 + 1))) - (rd l0_0 t133))) * (wrap64 ((rd l0_1 (wrap64 (t135 + 1))) - (rd l0_1 t135)))))))), true))) else (none)) else (none)) else (none)) else (none)) else (none)) else (none)) else (none)) else (none)) else (none)) else (none)) else (none)) else (none)) else (none)) else (none)) = some (r1, r2) := by rw [if_pos rfl] at H; exact H
   by_cases c8 : 0 ≤ t133
   ·
    rw [if_pos c8] at H; have c8b0 : decide (0 ≤ t133) = true := decide_eq_true c8; clear c8; by_cases c9 : t133 < (l0_2.length : Int)
    ·
     rw [if_pos c9] at H; have c9b0 : decide (t133 < (l0_2.length : Int)) = true := decide_eq_true c9; clear c9; by_cases c10 : 0 ≤ t135
     ·
      rw [if_pos c10] at H; have c10b0 : decide (0 ≤ t135) = true := decide_eq_true c10; clear c10; by_cases c11 : t135 < ((rd_L1 l0_2 t133).length : Int)
      ·
       rw [if_pos c11] at H; have c11b0 : decide (t135 < ((rd_L1 l0_2 t133).length : Int)) = true := decide_eq_true c11; clear c11; obtain ⟨ji12, hji12⟩ : ∃ j_ : Int, (wrap64 (t135 + 1)) = j_ := ⟨_, rfl⟩; replace H : (if 0 ≤ (ji12) then (if (ji12) < ((rd_L1 l0_2 t133).length : Int) then (if 0 ≤ (wrap64 (t133 + 1)) then (if (wrap64 (t133 + 1)) < (l0_2.length : Int) then (if t135 < ((rd_L1 l0_2 (wrap64 (t133 + 1))).length : Int) then (if (ji12) < ((rd_L1 l0_2 (wrap64 (t133 + 1))).length : Int) then (if t135 < (l0_1.length : Int) then (if (ji12) < (l0_1.length : Int) then (if (wrap64 (t133 + 1)) < (l0_0.length : Int) then (if t133 < (l0_0.length : Int) then (if (wrap64 (2 * (wrap64 ((wrap64 ((rd l0_0 (wrap64 (t133 + 1))) - (rd l0_0 t133))) * (wrap64 ((rd l0_1 (ji12)) - (rd l0_1 t135))))))) = 0 then (none) else (some (wrap64 (Int.tdiv (wrap64 ((wrap64 (2 * (wrap64 ((wrap64 ((wrap64 ((rd l0_0 (wrap64 (t133 + 1))) - a1)) * (wrap64 ((wrap64 ((wrap64 ((rd l0_1 (ji12)) - a2)) * (rd (rd_L1 l0_2 t133) t135))) + (wrap64 ((wrap64 (a2 - (rd l0_1 t135))) * (rd (rd_L1 l0_2 t133) (ji12)))))))) + (wrap64 ((wrap64 (a1 - (rd l0_0 t133))) * (wrap64 ((wrap64 ((wrap64 ((rd l0_1 (ji12)) - a2)) * (rd (rd_L1 l0_2 (wrap64 (t133 + 1))) t135))) + (wrap64 ((wrap64 (a2 - (rd l0_1 t135))) * (rd (rd_L1 l0_2 (wrap64 (t133 + 1))) (ji12)))))))))))) + (wrap64 ((wrap64 ((rd l0_0 (wrap64 (t133 + 1))) - (rd l0_0 t133))) * (wrap64 ((rd l0_1 (ji12)) - (rd l0_1 t135))))))) (wrap64 (2 * (wrap64 ((wrap64 ((rd l0_0 (wrap64 (t133 + 1))) - (rd l0_0 t133))) * (wrap64 ((rd l0_1 (ji12)) - (rd l0_1 t135)))))))), true))) else (none)) else (none)) else (none)) else (none)) else (none)) else (none)) else (none)) else (none)) else (none)) else (none)) = some (r1, r2) := by first | (rw [hji12] at H; exact H) | (simp only [hji12] at H ⊢; exact H)
       (try rw [hji12] at A4)
       (try rw [hji12] at A5)
       have hji12w : (IntKind.i64.wrap (t135 + 1)) = ji12 := (i64_w _).trans hji12; by_cases c13 : 0 ≤ (ji12)
       ·
        rw [if_pos c13] at H; have c13b0 : decide (0 ≤ (ji12)) = true := decide_eq_true c13; clear c13; by_cases c14 : (ji12) < ((rd_L1 l0_2 t133).length : Int)
        ·
         rw [if_pos c14] at H; have c14b0 : decide ((ji12) < ((rd_L1 l0_2 t133).length : Int)) = true := decide_eq_true c14; clear c14; obtain ⟨ji15, hji15⟩ : ∃ j_ : Int, (wrap64 (t133 + 1)) = j_ := ⟨_, rfl⟩; replace H : (if 0 ≤ (ji15) then (if (ji15) < (l0_2.length : Int) then (if t135 < ((rd_L1 l0_2 (ji15)).length : Int) then (if (ji12) < ((rd_L1 l0_2 (ji15)).length : Int) then (if t135 < (l0_1.length : Int) then (if (ji12) < (l0_1.length : Int) then (if (ji15) < (l0_0.length : Int) then (if t133 < (l0_0.length : Int) then (if (wrap64 (2 * (wrap64 ((wrap64 ((rd l0_0 (ji15)) - (rd l0_0 t133))) * (wrap64 ((rd l0_1 (ji12)) - (rd l0_1 t135))))))) = 0 then (none) else (some (wrap64 (Int.tdiv (wrap64 ((wrap64 (2 * (wrap64 ((wrap64 ((wrap64 ((rd l0_0 (ji15)) - a1)) * (wrap64 ((wrap64 ((wrap64 ((rd l0_1 (ji12)) - a2)) * (rd (rd_L1 l0_2 t133) t135))) + (wrap64 ((wrap64 (a2 - (rd l0_1 t135))) * (rd (rd_L1 l0_2 t133) (ji12)))))))) + (wrap64 ((wrap64 (a1 - (rd l0_0 t133))) * (wrap64 ((wrap64 ((wrap64 ((rd l0_1 (ji12)) - a2)) * (rd (rd_L1 l0_2 (ji15)) t135))) + (wrap64 ((wrap64 (a2 - (rd l0_1 t135))) * (rd (rd_L1 l0_2 (ji15)) (ji12)))))))))))) + (wrap64 ((wrap64 ((rd l0_0 (ji15)) - (rd l0_0 t133))) * (wrap64 ((rd l0_1 (ji12)) - (rd l0_1 t135))))))) (wrap64 (2 * (wrap64 ((wrap64 ((rd l0_0 (ji15)) - (rd l0_0 t133))) * (wrap64 ((rd l0_1 (ji12)) - (rd l0_1 t135)))))))), true))) else (none)) else (none)) else (none)) else (none)) else (none)) else (none)) else (none)) else (none)) = some (r1, r2) := by first | (rw [hji15] at H; exact H) | (simp only [hji15] at H ⊢; exact H)
         (try rw [hji15] at A4)
         (try rw [hji15] at A5)
         have hji15w : (IntKind.i64.wrap (t133 + 1)) = ji15 := (i64_w _).trans hji15; by_cases c16 : 0 ≤ (ji15)
         ·
          rw [if_pos c16] at H; have c16b0 : decide (0 ≤ (ji15)) = true := decide_eq_true c16; clear c16; by_cases c17 : (ji15) < (l0_2.length : Int)
          ·
           rw [if_pos c17] at H; have c17b0 : decide ((ji15) < (l0_2.length : Int)) = true := decide_eq_true c17; clear c17; by_cases c18 : t135 < ((rd_L1 l0_2 (ji15)).length : Int)
           ·
            rw [if_pos c18] at H; have c18b0 : decide (t135 < ((rd_L1 l0_2 (ji15)).length : Int)) = true := decide_eq_true c18; clear c18; by_cases c19 : (ji12) < ((rd_L1 l0_2 (ji15)).length : Int)
            ·
             rw [if_pos c19] at H; have c19b0 : decide ((ji12) < ((rd_L1 l0_2 (ji15)).length : Int)) = true := decide_eq_true c19; clear c19; by_cases c20 : t135 < (l0_1.length : Int)
             ·
              rw [if_pos c20] at H; have c20b0 : decide (t135 < (l0_1.length : Int)) = true := decide_eq_true c20; clear c20; by_cases c21 : (ji12) < (l0_1.length : Int)
              ·
               rw [if_pos c21] at H; have c21b0 : decide ((ji12) < (l0_1.length : Int)) = true := decide_eq_true c21; clear c21; by_cases c22 : (ji15) < (l0_0.length : Int)
               ·
                rw [if_pos c22] at H; have c22b0 : decide ((ji15) < (l0_0.length : Int)) = true := decide_eq_true c22; clear c22; by_cases c23 : t133 < (l0_0.length : Int)
                ·
                 rw [if_pos c23] at H; have c23b0 : decide (t133 < (l0_0.length : Int)) = true := decide_eq_true c23; clear c23; by_cases c24 : (wrap64 (2 * (wrap64 ((wrap64 ((rd l0_0 (ji15)) - (rd l0_0 t133))) * (wrap64 ((rd l0_1 (ji12)) - (rd l0_1 t135))))))) = 0
                 · rw [if_pos c24] at H; exact absurd H (by simp)
                 ·
                  rw [if_neg c24] at H; have c24b0 : ((wrap64 (2 * (wrap64 ((wrap64 ((rd l0_0 (ji15)) - (rd l0_0 t133))) * (wrap64 ((rd l0_1 (ji12)) - (rd l0_1 t135))))))) == 0) = false := beq_eq_false_iff_ne.mpr c24; have c24b1 : ((wrap64 (2 * (wrap64 ((wrap64 ((rd l0_0 (ji15)) - (rd l0_0 t133))) * (wrap64 ((rd l0_1 (ji12)) - (rd l0_1 t135))))))) != 0) = true := bne_iff_ne.mpr c24; simp only [Option.some.injEq, Prod.mk.injEq] at H; obtain ⟨rfl, rfl⟩ := H; go_enter Tryd.func26, Tryd.ntmps26
                  try go_wp2_with (first | ((with_reducible refine gate_dst (N := 3) rfl ?_); refine box_event ?hg (N := 3) ?hd (cs := #[.slice A0_0 l0_0.length c0_0, .slice A0_1 l0_1.length c0_1, .slice A0_2 l0_2.length c0_2]) (t := 25) ?hr ?_; (case hd => rfl); (case hg => rfl); (case hr => first | (go_simp; done) | (go_simp; rfl)); intro gb132 hg w25 hbox hb; have n0_ := Aside0.mk (below_step (eG HB.out) hb); have n1_ := Aside0.mk (hbox); have n2_ := Aside0.mk ((by rw [hg]; exact (below_size (eG HB.out)) : w.heap.size ≤ gb132)); have n3_ := Aside0.mk ((by rw [hg]; exact (below_size (eG HB.out)) : w.heap.size ≤ gb132)); clear HB; have HB := n0_; have BK132 := n1_; have GW132 := n2_; have GE132 := n3_; have ig132_ := geI GE132; clear n0_ n1_ n2_ n3_; clear hb hbox hg; have hcz26_0 : w25.cell? ⟨gb132, 0, none⟩ = some (.slice A0_0 l0_0.length c0_0) := (blk_cell BK132.out 0).trans rfl; have hcz26_1 : w25.cell? ⟨gb132, 1, none⟩ = some (.slice A0_1 l0_1.length c0_1) := (blk_cell BK132.out 1).trans rfl; have hcz26_2 : w25.cell? ⟨gb132, 2, none⟩ = some (.slice A0_2 l0_2.length c0_2) := (blk_cell BK132.out 2).trans rfl; have hfz26_0 := blk_frozen BK132.out 0; have hfz26_1 := blk_frozen BK132.out 1; have hfz26_2 := blk_frozen BK132.out 2) | ((with_reducible refine gate_callee (f := 31) rfl ?_); refine goesL_ (some 23) rfl rfl Tryd.func31 (by kernel_rfl) rfl #[.slice A0_0 l0_0.length c0_0, .int .i64 a1] rfl (by (try simp only [List.map_toArray, List.map_cons, List.map_nil]); first | done | rfl | (simp only [List.length_drop, List.length_take]; rfl)) ?_; (with_reducible refine (correct_place_int.calls k _ _ l0_0 a1 t133 true _ ?side1 ?side2 A4.out).mono ?_); (case side1 => repeat (first | exact (Kd.C_below HR0_0.out HB.out) | (with_reducible refine Kd.C_alloc ?_ _) | (with_reducible refine Kd.C_drewN ?_ _) | (with_reducible refine Kd.C_drew ?_))); (case side2 => exact HC0_0.out); rintro e w27 ⟨rfl, hb⟩; refine ⟨_, rfl, ?_⟩; have n0_ := Aside0.mk (blk_below (bG BK132.out) hb); have n1_ := Aside0.mk (below_step (eG HB.out) hb); clear BK132; clear HB; have BK132 := n0_; have HB := n1_; clear n0_ n1_; (try clear hb); (try clear hb2); (try clear hk); (try clear hi); have hcz28_0 : w27.cell? ⟨gb132, 0, none⟩ = some (.slice A0_0 l0_0.length c0_0) := (blk_cell BK132.out 0).trans rfl; have hcz28_1 : w27.cell? ⟨gb132, 1, none⟩ = some (.slice A0_1 l0_1.length c0_1) := (blk_cell BK132.out 1).trans rfl; have hcz28_2 : w27.cell? ⟨gb132, 2, none⟩ = some (.slice A0_2 l0_2.length c0_2) := (blk_cell BK132.out 2).trans rfl; have hfz28_0 := blk_frozen BK132.out 0; have hfz28_1 := blk_frozen BK132.out 1; have hfz28_2 := blk_frozen BK132.out 2) | ((with_reducible refine gate_callee (f := 31) rfl ?_); refine goesL_ (some 30) rfl rfl Tryd.func31 (by kernel_rfl) rfl #[.slice A0_1 l0_1.length c0_1, .int .i64 a2] rfl (by (try simp only [List.map_toArray, List.map_cons, List.map_nil]); first | done | rfl | (simp only [List.length_drop, List.length_take]; rfl)) ?_; (with_reducible refine (correct_place_int.calls k _ _ l0_1 a2 t135 true _ ?side1 ?side2 A5.out).mono ?_); (case side1 => repeat (first | exact (Kd.C_below HR0_1.out HB.out) | (with_reducible refine Kd.C_alloc ?_ _) | (with_reducible refine Kd.C_drewN ?_ _) | (with_reducible refine Kd.C_drew ?_))); (case side2 => exact HC0_1.out); rintro e w29 ⟨rfl, hb⟩; refine ⟨_, rfl, ?_⟩; have n0_ := Aside0.mk (blk_below (bG BK132.out) hb); have n1_ := Aside0.mk (below_step (eG HB.out) hb); clear BK132; clear HB; have BK132 := n0_; have HB := n1_; clear n0_ n1_; (try clear hb); (try clear hb2); (try clear hk); (try clear hi)))
                  have n0_ := Aside0.mk (blk_drew BK132.out); have n1_ := Aside0.mk (below_drew1 HB.out); clear BK132; clear HB; have BK132 := n0_; have HB := n1_; clear n0_ n1_; have p137 : 0 ≤ (t133 : Int) := of_decide_eq_true (by first | (with_reducible assumption) | assumption); have q137 : t133 < (l0_2.length : Int) := of_decide_eq_true (by first | (with_reducible assumption) | assumption); obtain ⟨ad137, A137_0, c137_0, e137, hx137_0, hl137_0, hi137_0⟩ := at_L1 HR0_2.out t133 p137 q137; have hw137_0 := hx137_0; cases e137; replace hx137_0 := (HB.out.cell (World.block_lt_of_cell? w _ hx137_0)).trans hx137_0; have HR137_0 := Aside0.mk hi137_0; have HC137_0 := Aside0.mk hl137_0; clear hi137_0 hl137_0; replace p137 := eq_true p137; replace q137 := eq_true q137; have p138 : 0 ≤ (t135 : Int) := of_decide_eq_true (by first | (with_reducible assumption) | assumption); have q138 : t135 < ((rd_L1 l0_2 t133).length : Int) := of_decide_eq_true (by first | (with_reducible assumption) | assumption); obtain ⟨ad138, e138, hx138_0⟩ := Kd.at_int HR137_0.out t135 p138 q138; have hw138_0 := hx138_0; cases e138; replace hx138_0 := (HB.out.cell (World.block_lt_of_cell? w _ hx138_0)).trans hx138_0; replace p138 := eq_true p138; replace q138 := eq_true q138; have p139 : 0 ≤ (t133 : Int) := of_decide_eq_true (by first | (with_reducible assumption) | assumption); have q139 : t133 < (l0_2.length : Int) := of_decide_eq_true (by first | (with_reducible assumption) | assumption); obtain ⟨ad139, A139_0, c139_0, e139, hx139_0, hl139_0, hi139_0⟩ := at_L1 HR0_2.out t133 p139 q139; have hw139_0 := hx139_0; obtain rfl : ad137 = ad139 := (by injection e139); replace hx139_0 := (HB.out.cell (World.block_lt_of_cell? w _ hx139_0)).trans hx139_0; have HR139_0 := Aside0.mk hi139_0; have HC139_0 := Aside0.mk hl139_0; clear hi139_0 hl139_0; replace p139 := eq_true p139; replace q139 := eq_true q139; have ea_ := Option.some.inj (hx137_0.symm.trans hx139_0); injection ea_ with ea_ en_ ec_; subst ea_; subst ec_; clear en_; have p140 : 0 ≤ ((ji12) : Int) := of_decide_eq_true (by first | (with_reducible assumption) | assumption); have q140 : (ji12) < ((rd_L1 l0_2 t133).length : Int) := of_decide_eq_true (by first | (with_reducible assumption) | assumption); obtain ⟨ad140, e140, hx140_0⟩ := Kd.at_int HR139_0.out (ji12) p140 q140; have hw140_0 := hx140_0; obtain rfl : ad138 = ad140 := (by injection e140); replace hx140_0 := (HB.out.cell (World.block_lt_of_cell? w _ hx140_0)).trans hx140_0; replace p140 := eq_true p140; replace q140 := eq_true q140; have p141 : 0 ≤ ((ji15) : Int) := of_decide_eq_true (by first | (with_reducible assumption) | assumption); have q141 : (ji15) < (l0_2.length : Int) := of_decide_eq_true (by first | (with_reducible assumption) | assumption); obtain ⟨ad141, A141_0, c141_0, e141, hx141_0, hl141_0, hi141_0⟩ := at_L1 HR0_2.out (ji15) p141 q141; have hw141_0 := hx141_0; obtain rfl : ad137 = ad141 := (by injection e141); replace hx141_0 := (HB.out.cell (World.block_lt_of_cell? w _ hx141_0)).trans hx141_0; have HR141_0 := Aside0.mk hi141_0; have HC141_0 := Aside0.mk hl141_0; clear hi141_0 hl141_0; replace p141 := eq_true p141; replace q141 := eq_true q141; have p142 : 0 ≤ (t135 : Int) := of_decide_eq_true (by first | (with_reducible assumption) | assumption); have q142 : t135 < ((rd_L1 l0_2 (ji15)).length : Int) := of_decide_eq_true (by first | (with_reducible assumption) | assumption); obtain ⟨ad142, e142, hx142_0⟩ := Kd.at_int HR141_0.out t135 p142 q142; have hw142_0 := hx142_0; cases e142; replace hx142_0 := (HB.out.cell (World.block_lt_of_cell? w _ hx142_0)).trans hx142_0; replace p142 := eq_true p142; replace q142 := eq_true q142; have p143 : 0 ≤ ((ji15) : Int) := of_decide_eq_true (by first | (with_reducible assumption) | assumption); have q143 : (ji15) < (l0_2.length : Int) := of_decide_eq_true (by first | (with_reducible assumption) | assumption); obtain ⟨ad143, A143_0, c143_0, e143, hx143_0, hl143_0, hi143_0⟩ := at_L1 HR0_2.out (ji15) p143 q143; have hw143_0 := hx143_0; obtain rfl : ad137 = ad143 := (by injection e143); replace hx143_0 := (HB.out.cell (World.block_lt_of_cell? w _ hx143_0)).trans hx143_0; have HR143_0 := Aside0.mk hi143_0; have HC143_0 := Aside0.mk hl143_0; clear hi143_0 hl143_0; replace p143 := eq_true p143; replace q143 := eq_true q143; have ea_ := Option.some.inj (hx141_0.symm.trans hx143_0); injection ea_ with ea_ en_ ec_; subst ea_; subst ec_; clear en_; have p144 : 0 ≤ ((ji12) : Int) := of_decide_eq_true (by first | (with_reducible assumption) | assumption); have q144 : (ji12) < ((rd_L1 l0_2 (ji15)).length : Int) := of_decide_eq_true (by first | (with_reducible assumption) | assumption); obtain ⟨ad144, e144, hx144_0⟩ := Kd.at_int HR143_0.out (ji12) p144 q144; have hw144_0 := hx144_0; obtain rfl : ad142 = ad144 := (by injection e144); replace hx144_0 := (HB.out.cell (World.block_lt_of_cell? w _ hx144_0)).trans hx144_0; replace p144 := eq_true p144; replace q144 := eq_true q144; refine start_ (n := 41) (S := fun w' => w'.cell? ⟨gb132, 0, none⟩ = some (.slice A0_0 l0_0.length c0_0) ∧ w'.cell? ⟨gb132, 1, none⟩ = some (.slice A0_1 l0_1.length c0_1) ∧ w'.cell? ⟨gb132, 2, none⟩ = some (.slice (some ad137) l0_2.length c0_2) ∧ w'.cell? (ad137.add (t133).toNat) = some (.slice (some ad138) (rd_L1 l0_2 t133).length c137_0) ∧ w'.cell? (ad138.add (t135).toNat) = some (.int .i64 (rd (rd_L1 l0_2 t133) t135)) ∧ w'.cell? (ad137.add (t133).toNat) = some (.slice (some ad138) (rd_L1 l0_2 t133).length c137_0) ∧ w'.cell? (ad138.add ((ji12)).toNat) = some (.int .i64 (rd (rd_L1 l0_2 t133) (ji12))) ∧ w'.cell? (ad137.add ((ji15)).toNat) = some (.slice (some ad142) (rd_L1 l0_2 (ji15)).length c141_0) ∧ w'.cell? (ad142.add (t135).toNat) = some (.int .i64 (rd (rd_L1 l0_2 (ji15)) t135)) ∧ w'.cell? (ad137.add ((ji15)).toNat) = some (.slice (some ad142) (rd_L1 l0_2 (ji15)).length c141_0) ∧ w'.cell? (ad142.add ((ji12)).toNat) = some (.int .i64 (rd (rd_L1 l0_2 (ji15)) (ji12)))) (ds := []) #[false, false, false, false, false, false, false, false, false, false, false, false, false, false, false, false, false, false, false, false, false, false, false, false, false, false, false, false, false, false, false, false, false, false, false, false, false, false, false, false, false] (by kernel_rfl) rfl rfl ⟨(blk_cell BK132.out 0).trans rfl, (blk_cell BK132.out 1).trans rfl, (blk_cell BK132.out 2).trans rfl, ((HB.out.cell (World.block_lt_of_cell? w _ hw137_0)).trans hw137_0), ((HB.out.cell (World.block_lt_of_cell? w _ hw138_0)).trans hw138_0), ((HB.out.cell (World.block_lt_of_cell? w _ hw139_0)).trans hw139_0), ((HB.out.cell (World.block_lt_of_cell? w _ hw140_0)).trans hw140_0), ((HB.out.cell (World.block_lt_of_cell? w _ hw141_0)).trans hw141_0), ((HB.out.cell (World.block_lt_of_cell? w _ hw142_0)).trans hw142_0), ((HB.out.cell (World.block_lt_of_cell? w _ hw143_0)).trans hw143_0), ((HB.out.cell (World.block_lt_of_cell? w _ hw144_0)).trans hw144_0)⟩ (fun hHeld => ?_); refine with_tabW correct_at.tab5 correct_at.bits5 (fun HT_ HW_ => ?_)
                  generalize w29.drew = w30 at BK132 HB HR137_0 HR139_0 HR141_0 HR143_0 hx137_0 hx138_0 hx139_0 hx140_0 hx141_0 hx142_0 hx143_0 hx144_0 hHeld ⊢; refine pure_ (i := 0) (N := some 39) (v := ?_) (a' := ?_) #[true, false, false, false, false, false, false, false, false, false, false, false, false, false, false, false, false, false, false, false, false, false, false, false, false, false, false, false, false, false, false, false, false, false, false, false, false, false, false, false, false] rfl rfl (any_of HT_.out (by kernel_rfl)) (fun _ _ _ h => h) (Or.inl ⟨by rfl, ?_⟩) ?_ ?_; rotate_left
                  · intro w'; go_simp; with_reducible rfl
                  rotate_left
                  · simp only [Act.put, sIA, sC0, sCS, i64_w, i32_w]; rfl
                  refine pure_ (i := 2) (N := some 41) (v := ?_) (a' := ?_) #[true, false, true, false, false, false, false, false, false, false, false, false, false, false, false, false, false, false, false, false, false, false, false, false, false, false, false, false, false, false, false, false, false, false, false, false, false, false, false, false, false] rfl rfl (any_of HT_.out (by kernel_rfl)) (fun _ _ _ h => h) (Or.inl ⟨by rfl, ?_⟩) ?_ ?_; rotate_left
                  · intro w'; go_simp; with_reducible rfl
                  rotate_left
                  · simp only [Act.put, sIA, sC0, sCS, i64_w, i32_w]; rfl
                  refine pure_ (i := 5) (N := some 44) (v := ?_) (a' := ?_) #[true, false, true, false, false, true, false, false, false, false, false, false, false, false, false, false, false, false, false, false, false, false, false, false, false, false, false, false, false, false, false, false, false, false, false, false, false, false, false, false, false] rfl rfl (any_of HT_.out (by kernel_rfl)) (fun _ _ _ h => h) (Or.inl ⟨by rfl, ?_⟩) ?_ ?_; rotate_left
                  · intro w'; go_simp; with_reducible rfl
                  rotate_left
                  · simp only [Act.put, sIA, sC0, sCS, i64_w, i32_w]; rfl
                  refine pure_ (i := 8) (N := some 47) (v := ?_) (a' := ?_) #[true, false, true, false, false, true, false, false, true, false, false, false, false, false, false, false, false, false, false, false, false, false, false, false, false, false, false, false, false, false, false, false, false, false, false, false, false, false, false, false, false] rfl rfl (any_of HT_.out (by kernel_rfl)) (fun _ _ _ h => h) (Or.inl ⟨by rfl, ?_⟩) ?_ ?_; rotate_left
                  · intro w'; go_simp; with_reducible rfl
                  rotate_left
                  · simp only [Act.put, sIA, sC0, sCS, i64_w, i32_w]; rfl
                  refine pure_ (i := 10) (N := some 49) (v := ?_) (a' := ?_) #[true, false, true, false, false, true, false, false, true, false, true, false, false, false, false, false, false, false, false, false, false, false, false, false, false, false, false, false, false, false, false, false, false, false, false, false, false, false, false, false, false] rfl rfl (any_of HT_.out (by kernel_rfl)) (fun _ _ _ h => h) (Or.inl ⟨by rfl, ?_⟩) ?_ ?_; rotate_left
                  · intro w'; go_simp; with_reducible rfl
                  rotate_left
                  · simp only [Act.put, sIA, sC0, sCS, i64_w, i32_w]; rfl
                  refine pure_ (i := 13) (N := some 52) (v := ?_) (a' := ?_) #[true, false, true, false, false, true, false, false, true, false, true, false, false, true, false, false, false, false, false, false, false, false, false, false, false, false, false, false, false, false, false, false, false, false, false, false, false, false, false, false, false] rfl rfl (any_of HT_.out (by kernel_rfl)) (fun _ _ _ h => h) (Or.inl ⟨by rfl, ?_⟩) ?_ ?_; rotate_left
                  · intro w'; go_simp; with_reducible rfl
                  rotate_left
                  · simp only [Act.put, sIA, sC0, sCS, i64_w, i32_w]; rfl
                  refine pure_ (i := 14) (N := some 53) (v := ?_) (a' := ?_) #[true, false, true, false, false, true, false, false, true, false, true, false, false, true, true, false, false, false, false, false, false, false, false, false, false, false, false, false, false, false, false, false, false, false, false, false, false, false, false, false, false] rfl rfl (any_of HT_.out (by kernel_rfl)) (fun _ _ _ h => h) (Or.inl ⟨by rfl, ?_⟩) ?_ ?_; rotate_left
                  · intro w'; go_simp; with_reducible rfl
                  rotate_left
                  · simp only [Act.put, sIA, sC0, sCS, i64_w, i32_w]; rfl
                  refine pure_ (i := 18) (N := some 57) (v := ?_) (a' := ?_) #[true, false, true, false, false, true, false, false, true, false, true, false, false, true, true, false, false, false, true, false, false, false, false, false, false, false, false, false, false, false, false, false, false, false, false, false, false, false, false, false, false] rfl rfl (any_of HT_.out (by kernel_rfl)) (fun _ _ _ h => h) (Or.inl ⟨by rfl, ?_⟩) ?_ ?_; rotate_left
                  · intro w'; go_simp; with_reducible rfl
                  rotate_left
                  · simp only [Act.put, sIA, sC0, sCS, i64_w, i32_w]; rfl
                  refine pure_ (i := 20) (N := some 59) (v := ?_) (a' := ?_) #[true, false, true, false, false, true, false, false, true, false, true, false, false, true, true, false, false, false, true, false, true, false, false, false, false, false, false, false, false, false, false, false, false, false, false, false, false, false, false, false, false] rfl rfl (any_of HT_.out (by kernel_rfl)) (fun _ _ _ h => h) (Or.inl ⟨by rfl, ?_⟩) ?_ ?_; rotate_left
                  · intro w'; go_simp; with_reducible rfl
                  rotate_left
                  · simp only [Act.put, sIA, sC0, sCS, i64_w, i32_w]; rfl
                  refine pure_ (i := 21) (N := some 60) (v := ?_) (a' := ?_) #[true, false, true, false, false, true, false, false, true, false, true, false, false, true, true, false, false, false, true, false, true, true, false, false, false, false, false, false, false, false, false, false, false, false, false, false, false, false, false, false, false] rfl rfl (any_of HT_.out (by kernel_rfl)) (fun _ _ _ h => h) (Or.inl ⟨by rfl, ?_⟩) ?_ ?_; rotate_left
                  · intro w'; go_simp; with_reducible rfl
                  rotate_left
                  · simp only [Act.put, sIA, sC0, sCS, i64_w, i32_w]; rfl
                  refine pure_ (i := 24) (N := some 63) (v := ?_) (a' := ?_) #[true, false, true, false, false, true, false, false, true, false, true, false, false, true, true, false, false, false, true, false, true, true, false, false, true, false, false, false, false, false, false, false, false, false, false, false, false, false, false, false, false] rfl rfl (any_of HT_.out (by kernel_rfl)) (fun _ _ _ h => h) (Or.inl ⟨by rfl, ?_⟩) ?_ ?_; rotate_left
                  · intro w'; go_simp; with_reducible rfl
                  rotate_left
                  · simp only [Act.put, sIA, sC0, sCS, i64_w, i32_w]; rfl
                  refine pure_ (i := 27) (N := some 66) (v := ?_) (a' := ?_) #[true, false, true, false, false, true, false, false, true, false, true, false, false, true, true, false, false, false, true, false, true, true, false, false, true, false, false, true, false, false, false, false, false, false, false, false, false, false, false, false, false] rfl rfl (any_of HT_.out (by kernel_rfl)) (fun _ _ _ h => h) (Or.inl ⟨by rfl, ?_⟩) ?_ ?_; rotate_left
                  · intro w'; go_simp; with_reducible rfl
                  rotate_left
                  · simp only [Act.put, sIA, sC0, sCS, i64_w, i32_w]; rfl
                  refine pure_ (i := 29) (N := some 68) (v := ?_) (a' := ?_) #[true, false, true, false, false, true, false, false, true, false, true, false, false, true, true, false, false, false, true, false, true, true, false, false, true, false, false, true, false, true, false, false, false, false, false, false, false, false, false, false, false] rfl rfl (any_of HT_.out (by kernel_rfl)) (fun _ _ _ h => h) (Or.inl ⟨by rfl, ?_⟩) ?_ ?_; rotate_left
                  · intro w'; go_simp; with_reducible rfl
                  rotate_left
                  · simp only [Act.put, sIA, sC0, sCS, i64_w, i32_w]; rfl
                  refine pure_ (i := 30) (N := some 69) (v := ?_) (a' := ?_) #[true, false, true, false, false, true, false, false, true, false, true, false, false, true, true, false, false, false, true, false, true, true, false, false, true, false, false, true, false, true, true, false, false, false, false, false, false, false, false, false, false] rfl rfl (any_of HT_.out (by kernel_rfl)) (fun _ _ _ h => h) (Or.inl ⟨by rfl, ?_⟩) ?_ ?_; rotate_left
                  · intro w'; go_simp; with_reducible rfl
                  rotate_left
                  · simp only [Act.put, sIA, sC0, sCS, i64_w, i32_w]; rfl
                  refine pure_ (i := 33) (N := some 72) (v := ?_) (a' := ?_) #[true, false, true, false, false, true, false, false, true, false, true, false, false, true, true, false, false, false, true, false, true, true, false, false, true, false, false, true, false, true, true, false, false, true, false, false, false, false, false, false, false] rfl rfl (any_of HT_.out (by kernel_rfl)) (fun _ _ _ h => h) (Or.inl ⟨by rfl, ?_⟩) ?_ ?_; rotate_left
                  · intro w'; go_simp; with_reducible rfl
                  rotate_left
                  · simp only [Act.put, sIA, sC0, sCS, i64_w, i32_w]; rfl
                  refine pure_ (i := 34) (N := some 73) (v := ?_) (a' := ?_) #[true, false, true, false, false, true, false, false, true, false, true, false, false, true, true, false, false, false, true, false, true, true, false, false, true, false, false, true, false, true, true, false, false, true, true, false, false, false, false, false, false] rfl rfl (any_of HT_.out (by kernel_rfl)) (fun _ _ _ h => h) (Or.inl ⟨by rfl, ?_⟩) ?_ ?_; rotate_left
                  · intro w'; go_simp; with_reducible rfl
                  rotate_left
                  · simp only [Act.put, sIA, sC0, sCS, i64_w, i32_w]; rfl
                  refine take_ (i := 1) (N := some 40) (v := ?_) (a' := ?_) #[true, true, true, false, false, true, false, false, true, false, true, false, false, true, true, false, false, false, true, false, true, true, false, false, true, false, false, true, false, true, true, false, false, true, true, false, false, false, false, false, false] rfl rfl (take_ofW HT_.out HW_.out (by kernel_rfl)) (fun _ _ _ h => h) (Or.inl ⟨by rfl, ?_⟩) hHeld ?_ ?_; rotate_left
                  · rintro w' ⟨s0, s1, s2, s3, s4, s5, s6, s7, s8, s9, s10⟩; go_simp; with_reducible rfl
                  rotate_left
                  · simp only [Act.put, sIA, sC0, sCS, i64_w, i32_w]; rfl
                  refine pure_ (i := 3) (N := some 42) (v := ?_) (a' := ?_) #[true, true, true, true, false, true, false, false, true, false, true, false, false, true, true, false, false, false, true, false, true, true, false, false, true, false, false, true, false, true, true, false, false, true, true, false, false, false, false, false, false] rfl rfl (any_of HT_.out (by kernel_rfl)) (fun _ _ _ h => h) (Or.inl ⟨by rfl, ?_⟩) ?_ ?_; rotate_left
                  · intro w'; go_simp; with_reducible rfl
                  rotate_left
                  · simp only [Act.put, sIA, sC0, sCS, i64_w, i32_w]; rfl
                  refine take_ (i := 4) (N := some 43) (v := ?_) (a' := ?_) #[true, true, true, true, true, true, false, false, true, false, true, false, false, true, true, false, false, false, true, false, true, true, false, false, true, false, false, true, false, true, true, false, false, true, true, false, false, false, false, false, false] rfl rfl (take_ofW HT_.out HW_.out (by kernel_rfl)) (fun _ _ _ h => h) (Or.inl ⟨by rfl, ?_⟩) hHeld ?_ ?_; rotate_left
                  · rintro w' ⟨s0, s1, s2, s3, s4, s5, s6, s7, s8, s9, s10⟩; go_simp; with_reducible rfl
                  rotate_left
                  · simp only [Act.put, sIA, sC0, sCS, i64_w, i32_w]; rfl
                  refine pure_ (i := 6) (N := some 45) (v := ?_) (a' := ?_) #[true, true, true, true, true, true, true, false, true, false, true, false, false, true, true, false, false, false, true, false, true, true, false, false, true, false, false, true, false, true, true, false, false, true, true, false, false, false, false, false, false] rfl rfl (any_of HT_.out (by kernel_rfl)) (fun _ _ _ h => h) (Or.inl ⟨by rfl, ?_⟩) ?_ ?_; rotate_left
                  · intro w'; go_simp; with_reducible rfl
                  rotate_left
                  · simp only [Act.put, sIA, sC0, sCS, i64_w, i32_w]; rfl
                  refine take_ (i := 7) (N := some 46) (v := ?_) (a' := ?_) #[true, true, true, true, true, true, true, true, true, false, true, false, false, true, true, false, false, false, true, false, true, true, false, false, true, false, false, true, false, true, true, false, false, true, true, false, false, false, false, false, false] rfl rfl (take_ofW HT_.out HW_.out (by kernel_rfl)) (fun _ _ _ h => h) (Or.inl ⟨by rfl, ?_⟩) hHeld ?_ ?_; rotate_left
                  · rintro w' ⟨s0, s1, s2, s3, s4, s5, s6, s7, s8, s9, s10⟩; go_simp; with_reducible rfl
                  rotate_left
                  · simp only [Act.put, sIA, sC0, sCS, i64_w, i32_w]; rfl
                  refine take_ (i := 9) (N := some 48) (v := ?_) (a' := ?_) #[true, true, true, true, true, true, true, true, true, true, true, false, false, true, true, false, false, false, true, false, true, true, false, false, true, false, false, true, false, true, true, false, false, true, true, false, false, false, false, false, false] rfl rfl (take_ofW HT_.out HW_.out (by kernel_rfl)) (fun _ _ _ h => h) (Or.inl ⟨by rfl, ?_⟩) hHeld ?_ ?_; rotate_left
                  · rintro w' ⟨s0, s1, s2, s3, s4, s5, s6, s7, s8, s9, s10⟩; go_simp; with_reducible rfl
                  rotate_left
                  · simp only [Act.put, sIA, sC0, sCS, i64_w, i32_w]; rfl
                  refine pure_ (i := 11) (N := some 50) (v := ?_) (a' := ?_) #[true, true, true, true, true, true, true, true, true, true, true, true, false, true, true, false, false, false, true, false, true, true, false, false, true, false, false, true, false, true, true, false, false, true, true, false, false, false, false, false, false] rfl rfl (any_of HT_.out (by kernel_rfl)) (fun _ _ _ h => h) (Or.inl ⟨by rfl, ?_⟩) ?_ ?_; rotate_left
                  · intro w'; go_simp; with_reducible rfl
                  rotate_left
                  · simp only [Act.put, sIA, sC0, sCS, i64_w, i32_w]; rfl
                  refine take_ (i := 12) (N := some 51) (v := ?_) (a' := ?_) #[true, true, true, true, true, true, true, true, true, true, true, true, true, true, true, false, false, false, true, false, true, true, false, false, true, false, false, true, false, true, true, false, false, true, true, false, false, false, false, false, false] rfl rfl (take_ofW HT_.out HW_.out (by kernel_rfl)) (fun _ _ _ h => h) (Or.inl ⟨by rfl, ?_⟩) hHeld ?_ ?_; rotate_left
                  · rintro w' ⟨s0, s1, s2, s3, s4, s5, s6, s7, s8, s9, s10⟩; go_simp; with_reducible rfl
                  rotate_left
                  · simp only [Act.put, sIA, sC0, sCS, i64_w, i32_w]; rfl
                  refine pure_ (i := 15) (N := some 54) (v := ?_) (a' := ?_) #[true, true, true, true, true, true, true, true, true, true, true, true, true, true, true, true, false, false, true, false, true, true, false, false, true, false, false, true, false, true, true, false, false, true, true, false, false, false, false, false, false] rfl rfl (any_of HT_.out (by kernel_rfl)) (fun _ _ _ h => h) (Or.inl ⟨by rfl, ?_⟩) ?_ ?_; rotate_left
                  · intro w'; go_simp; with_reducible rfl
                  rotate_left
                  · simp only [Act.put, sIA, sC0, sCS, i64_w, i32_w]; rfl
                  refine take_ (i := 16) (N := some 55) (v := ?_) (a' := ?_) #[true, true, true, true, true, true, true, true, true, true, true, true, true, true, true, true, true, false, true, false, true, true, false, false, true, false, false, true, false, true, true, false, false, true, true, false, false, false, false, false, false] rfl rfl (take_ofW HT_.out HW_.out (by kernel_rfl)) (fun _ _ _ h => h) (Or.inl ⟨by rfl, ?_⟩) hHeld ?_ ?_; rotate_left
                  · rintro w' ⟨s0, s1, s2, s3, s4, s5, s6, s7, s8, s9, s10⟩; go_simp; with_reducible rfl
                  rotate_left
                  · simp only [Act.put, sIA, sC0, sCS, i64_w, i32_w]; rfl
                  refine pure_ (i := 17) (N := some 56) (v := ?_) (a' := ?_) #[true, true, true, true, true, true, true, true, true, true, true, true, true, true, true, true, true, true, true, false, true, true, false, false, true, false, false, true, false, true, true, false, false, true, true, false, false, false, false, false, false] rfl rfl (any_of HT_.out (by kernel_rfl)) (fun _ _ _ h => h) (Or.inl ⟨by rfl, ?_⟩) ?_ ?_; rotate_left
                  · intro w'; go_simp; with_reducible rfl
                  rotate_left
                  · simp only [Act.put, sIA, sC0, sCS, i64_w, i32_w]; rfl
                  refine take_ (i := 19) (N := some 58) (v := ?_) (a' := ?_) #[true, true, true, true, true, true, true, true, true, true, true, true, true, true, true, true, true, true, true, true, true, true, false, false, true, false, false, true, false, true, true, false, false, true, true, false, false, false, false, false, false] rfl rfl (take_ofW HT_.out HW_.out (by kernel_rfl)) (fun _ _ _ h => h) (Or.inl ⟨by rfl, ?_⟩) hHeld ?_ ?_; rotate_left
                  · rintro w' ⟨s0, s1, s2, s3, s4, s5, s6, s7, s8, s9, s10⟩; go_simp; with_reducible rfl
                  rotate_left
                  · simp only [Act.put, sIA, sC0, sCS, i64_w, i32_w]; rfl
                  refine pure_ (i := 22) (N := some 61) (v := ?_) (a' := ?_) #[true, true, true, true, true, true, true, true, true, true, true, true, true, true, true, true, true, true, true, true, true, true, true, false, true, false, false, true, false, true, true, false, false, true, true, false, false, false, false, false, false] rfl rfl (any_of HT_.out (by kernel_rfl)) (fun _ _ _ h => h) (Or.inl ⟨by rfl, ?_⟩) ?_ ?_; rotate_left
                  · intro w'; go_simp; with_reducible rfl
                  rotate_left
                  · simp only [Act.put, sIA, sC0, sCS, i64_w, i32_w]; rfl
                  refine take_ (i := 23) (N := some 62) (v := ?_) (a' := ?_) #[true, true, true, true, true, true, true, true, true, true, true, true, true, true, true, true, true, true, true, true, true, true, true, true, true, false, false, true, false, true, true, false, false, true, true, false, false, false, false, false, false] rfl rfl (take_ofW HT_.out HW_.out (by kernel_rfl)) (fun _ _ _ h => h) (Or.inl ⟨by rfl, ?_⟩) hHeld ?_ ?_; rotate_left
                  · rintro w' ⟨s0, s1, s2, s3, s4, s5, s6, s7, s8, s9, s10⟩; go_simp; with_reducible rfl
                  rotate_left
                  · simp only [Act.put, sIA, sC0, sCS, i64_w, i32_w]; rfl
                  refine pure_ (i := 25) (N := some 64) (v := ?_) (a' := ?_) #[true, true, true, true, true, true, true, true, true, true, true, true, true, true, true, true, true, true, true, true, true, true, true, true, true, true, false, true, false, true, true, false, false, true, true, false, false, false, false, false, false] rfl rfl (any_of HT_.out (by kernel_rfl)) (fun _ _ _ h => h) (Or.inl ⟨by rfl, ?_⟩) ?_ ?_; rotate_left
                  · intro w'; go_simp; with_reducible rfl
                  rotate_left
                  · simp only [Act.put, sIA, sC0, sCS, i64_w, i32_w]; rfl
                  refine take_ (i := 26) (N := some 65) (v := ?_) (a' := ?_) #[true, true, true, true, true, true, true, true, true, true, true, true, true, true, true, true, true, true, true, true, true, true, true, true, true, true, true, true, false, true, true, false, false, true, true, false, false, false, false, false, false] rfl rfl (take_ofW HT_.out HW_.out (by kernel_rfl)) (fun _ _ _ h => h) (Or.inl ⟨by rfl, ?_⟩) hHeld ?_ ?_; rotate_left
                  · rintro w' ⟨s0, s1, s2, s3, s4, s5, s6, s7, s8, s9, s10⟩; go_simp; with_reducible rfl
                  rotate_left
                  · simp only [Act.put, sIA, sC0, sCS, i64_w, i32_w]; rfl
                  refine take_ (i := 28) (N := some 67) (v := ?_) (a' := ?_) #[true, true, true, true, true, true, true, true, true, true, true, true, true, true, true, true, true, true, true, true, true, true, true, true, true, true, true, true, true, true, true, false, false, true, true, false, false, false, false, false, false] rfl rfl (take_ofW HT_.out HW_.out (by kernel_rfl)) (fun _ _ _ h => h) (Or.inl ⟨by rfl, ?_⟩) hHeld ?_ ?_; rotate_left
                  · rintro w' ⟨s0, s1, s2, s3, s4, s5, s6, s7, s8, s9, s10⟩; go_simp; with_reducible rfl
                  rotate_left
                  · simp only [Act.put, sIA, sC0, sCS, i64_w, i32_w]; rfl
                  refine pure_ (i := 31) (N := some 70) (v := ?_) (a' := ?_) #[true, true, true, true, true, true, true, true, true, true, true, true, true, true, true, true, true, true, true, true, true, true, true, true, true, true, true, true, true, true, true, true, false, true, true, false, false, false, false, false, false] rfl rfl (any_of HT_.out (by kernel_rfl)) (fun _ _ _ h => h) (Or.inl ⟨by rfl, ?_⟩) ?_ ?_; rotate_left
                  · intro w'; go_simp; with_reducible rfl
                  rotate_left
                  · simp only [Act.put, sIA, sC0, sCS, i64_w, i32_w]; rfl
                  refine take_ (i := 32) (N := some 71) (v := ?_) (a' := ?_) #[true, true, true, true, true, true, true, true, true, true, true, true, true, true, true, true, true, true, true, true, true, true, true, true, true, true, true, true, true, true, true, true, true, true, true, false, false, false, false, false, false] rfl rfl (take_ofW HT_.out HW_.out (by kernel_rfl)) (fun _ _ _ h => h) (Or.inl ⟨by rfl, ?_⟩) hHeld ?_ ?_; rotate_left
                  · rintro w' ⟨s0, s1, s2, s3, s4, s5, s6, s7, s8, s9, s10⟩; go_simp; with_reducible rfl
                  rotate_left
                  · simp only [Act.put, sIA, sC0, sCS, i64_w, i32_w]; rfl
                  refine pure_ (i := 35) (N := some 74) (v := ?_) (a' := ?_) #[true, true, true, true, true, true, true, true, true, true, true, true, true, true, true, true, true, true, true, true, true, true, true, true, true, true, true, true, true, true, true, true, true, true, true, true, false, false, false, false, false] rfl rfl (any_of HT_.out (by kernel_rfl)) (fun _ _ _ h => h) (Or.inl ⟨by rfl, ?_⟩) ?_ ?_; rotate_left
                  · intro w'; go_simp; with_reducible rfl
                  rotate_left
                  · simp only [Act.put, sIA, sC0, sCS, i64_w, i32_w]; rfl
                  refine take_ (i := 36) (N := some 75) (v := ?_) (a' := ?_) #[true, true, true, true, true, true, true, true, true, true, true, true, true, true, true, true, true, true, true, true, true, true, true, true, true, true, true, true, true, true, true, true, true, true, true, true, true, false, false, false, false] rfl rfl (take_ofW HT_.out HW_.out (by kernel_rfl)) (fun _ _ _ h => h) (Or.inl ⟨by rfl, ?_⟩) hHeld ?_ ?_; rotate_left
                  · rintro w' ⟨s0, s1, s2, s3, s4, s5, s6, s7, s8, s9, s10⟩; go_simp; with_reducible rfl
                  rotate_left
                  · simp only [Act.put, sIA, sC0, sCS, i64_w, i32_w]; rfl
                  refine pure_ (i := 37) (N := some 76) (v := ?_) (a' := ?_) #[true, true, true, true, true, true, true, true, true, true, true, true, true, true, true, true, true, true, true, true, true, true, true, true, true, true, true, true, true, true, true, true, true, true, true, true, true, true, false, false, false] rfl rfl (any_of HT_.out (by kernel_rfl)) (fun _ _ _ h => h) (Or.inl ⟨by rfl, ?_⟩) ?_ ?_; rotate_left
                  · intro w'; go_simp; with_reducible rfl
                  rotate_left
                  · simp only [Act.put, sIA, sC0, sCS, i64_w, i32_w]; rfl
                  refine pure_ (i := 38) (N := some 77) (v := ?_) (a' := ?_) #[true, true, true, true, true, true, true, true, true, true, true, true, true, true, true, true, true, true, true, true, true, true, true, true, true, true, true, true, true, true, true, true, true, true, true, true, true, true, true, false, false] rfl rfl (any_of HT_.out (by kernel_rfl)) (fun _ _ _ h => h) (Or.inl ⟨by rfl, ?_⟩) ?_ ?_; rotate_left
                  · intro w'; go_simp; with_reducible rfl
                  rotate_left
                  · simp only [Act.put, sIA, sC0, sCS, i64_w, i32_w]; rfl
                  refine one_ (i := 39) (N := some 12) #[true, true, true, true, true, true, true, true, true, true, true, true, true, true, true, true, true, true, true, true, true, true, true, true, true, true, true, true, true, true, true, true, true, true, true, true, true, true, true, true, false] rfl rfl (one_of HT_.out (by kernel_rfl)) (by decide) (fun K hK => ?_); refine box_step ?hg (N := 12) ?hd (cs := #[.int .i64 0, .int .i64 0, .int .i64 0, .int .i64 0]) (t := 75) ?hr ?_; (case hd => rfl); (case hg => rfl); (case hr => first | (go_simp; done) | (go_simp; rfl))
                  intro gb145 hg w31 hbox hb; have n0_ := Aside0.mk (blk_below (bG BK132.out) hb); have n1_ := Aside0.mk (below_step (eG HB.out) hb); have n2_ := Aside0.mk (hbox); have n3_ := Aside0.mk ((by rw [hg]; exact (below_size (eG HB.out)) : w.heap.size ≤ gb145)); have n4_ := Aside0.mk ((by rw [hg]; exact (below_size (eG HB.out)) : w.heap.size ≤ gb145)); have n5_ := Aside0.mk ((by rw [hg]; exact Nat.ne_of_lt (blk_lt (bG BK132.out)) : gb132 ≠ gb145)); have n6_ := Aside0.mk ((by rw [hg]; exact Nat.ne_of_gt (blk_lt (bG BK132.out)) : gb145 ≠ gb132)); clear BK132; clear HB; have BK132 := n0_; have HB := n1_; have BK145 := n2_; have GW145 := n3_; have GE145 := n4_; have ig145_ := geI GE145
                  have NB132_145 := n5_; have NB145_132 := n6_; clear n0_ n1_ n2_ n3_ n4_ n5_ n6_; clear hb hbox hg; refine hK.out _ _ ⟨(blk_cell BK132.out 0).trans rfl, (blk_cell BK132.out 1).trans rfl, (blk_cell BK132.out 2).trans rfl, ((HB.out.cell (World.block_lt_of_cell? w _ hw137_0)).trans hw137_0), ((HB.out.cell (World.block_lt_of_cell? w _ hw138_0)).trans hw138_0), ((HB.out.cell (World.block_lt_of_cell? w _ hw139_0)).trans hw139_0), ((HB.out.cell (World.block_lt_of_cell? w _ hw140_0)).trans hw140_0), ((HB.out.cell (World.block_lt_of_cell? w _ hw141_0)).trans hw141_0), ((HB.out.cell (World.block_lt_of_cell? w _ hw142_0)).trans hw142_0), ((HB.out.cell (World.block_lt_of_cell? w _ hw143_0)).trans hw143_0), ((HB.out.cell (World.block_lt_of_cell? w _ hw144_0)).trans hw144_0)⟩ (fun hHeld => ?_); clear hK K; refine norm_ (a' := ?_) ?_ ?_; rotate_left
                  ·
                   show Act.put _ (some 12) _ = _
                   simp only [Act.put, sIA, sC0, sCS, i64_w, i32_w]; rfl
                  refine one_ (i := 40) (N := none) #[true, true, true, true, true, true, true, true, true, true, true, true, true, true, true, true, true, true, true, true, true, true, true, true, true, true, true, true, true, true, true, true, true, true, true, true, true, true, true, true, true] rfl rfl (one_of HT_.out (by kernel_rfl)) (by decide) (fun K hK => ?_); have hs32 : w31.cell? ⟨gb145, 0, none⟩ = some (.int .i64 0) := (blk_cell BK145.out 0).trans rfl; have hfs32 := blk_frozen BK145.out 0; have hns32_0 := NB132_145.out; have hms32_0 := NB145_132.out; have hs33 : w31.cell? ⟨gb145, 1, none⟩ = some (.int .i64 0) := (blk_cell BK145.out 1).trans rfl; have hfs33 := blk_frozen BK145.out 1; have hns33_0 := NB132_145.out; have hms33_0 := NB145_132.out; have hs34 : w31.cell? ⟨gb145, 2, none⟩ = some (.int .i64 0) := (blk_cell BK145.out 2).trans rfl; have hfs34 := blk_frozen BK145.out 2; have hns34_0 := NB132_145.out; have hms34_0 := NB145_132.out; have hs35 : w31.cell? ⟨gb145, 3, none⟩ = some (.int .i64 0) := (blk_cell BK145.out 3).trans rfl; have hfs35 := blk_frozen BK145.out 3; have hns35_0 := NB132_145.out; have hms35_0 := NB145_132.out; refine skip_ (w1 := ?_) (by rfl) rfl ?_ ?_; rotate_left
                  · go_simp; rfl
                  refine hK.out _ _ ⟨((cell_far (p := ⟨gb145, _, none⟩) NB132_145.out _).trans (((cell_far (p := ⟨gb145, _, none⟩) NB132_145.out _).trans (((cell_far (p := ⟨gb145, _, none⟩) NB132_145.out _).trans (((cell_far (p := ⟨gb145, _, none⟩) NB132_145.out _).trans (hHeld.1)))))))), ((cell_far (p := ⟨gb145, _, none⟩) NB132_145.out _).trans (((cell_far (p := ⟨gb145, _, none⟩) NB132_145.out _).trans (((cell_far (p := ⟨gb145, _, none⟩) NB132_145.out _).trans (((cell_far (p := ⟨gb145, _, none⟩) NB132_145.out _).trans (hHeld.2.1)))))))), ((cell_far (p := ⟨gb145, _, none⟩) NB132_145.out _).trans (((cell_far (p := ⟨gb145, _, none⟩) NB132_145.out _).trans (((cell_far (p := ⟨gb145, _, none⟩) NB132_145.out _).trans (((cell_far (p := ⟨gb145, _, none⟩) NB132_145.out _).trans (hHeld.2.2.1)))))))), ((cell_far (p := ⟨gb145, _, none⟩) (ne_far hw137_0 GW145.out) _).trans (((cell_far (p := ⟨gb145, _, none⟩) (ne_far hw137_0 GW145.out) _).trans (((cell_far (p := ⟨gb145, _, none⟩) (ne_far hw137_0 GW145.out) _).trans (((cell_far (p := ⟨gb145, _, none⟩) (ne_far hw137_0 GW145.out) _).trans (hHeld.2.2.2.1)))))))), ((cell_far (p := ⟨gb145, _, none⟩) (ne_far hw138_0 GW145.out) _).trans (((cell_far (p := ⟨gb145, _, none⟩) (ne_far hw138_0 GW145.out) _).trans (((cell_far (p := ⟨gb145, _, none⟩) (ne_far hw138_0 GW145.out) _).trans (((cell_far (p := ⟨gb145, _, none⟩) (ne_far hw138_0 GW145.out) _).trans (hHeld.2.2.2.2.1)))))))), ((cell_far (p := ⟨gb145, _, none⟩) (ne_far hw139_0 GW145.out) _).trans (((cell_far (p := ⟨gb145, _, none⟩) (ne_far hw139_0 GW145.out) _).trans (((cell_far (p := ⟨gb145, _, none⟩) (ne_far hw139_0 GW145.out) _).trans (((cell_far (p := ⟨gb145, _, none⟩) (ne_far hw139_0 GW145.out) _).trans (hHeld.2.2.2.2.2.1)))))))), ((cell_far (p := ⟨gb145, _, none⟩) (ne_far hw140_0 GW145.out) _).trans (((cell_far (p := ⟨gb145, _, none⟩) (ne_far hw140_0 GW145.out) _).trans (((cell_far (p := ⟨gb145, _, none⟩) (ne_far hw140_0 GW145.out) _).trans (((cell_far (p := ⟨gb145, _, none⟩) (ne_far hw140_0 GW145.out) _).trans (hHeld.2.2.2.2.2.2.1)))))))), ((cell_far (p := ⟨gb145, _, none⟩) (ne_far hw141_0 GW145.out) _).trans (((cell_far (p := ⟨gb145, _, none⟩) (ne_far hw141_0 GW145.out) _).trans (((cell_far (p := ⟨gb145, _, none⟩) (ne_far hw141_0 GW145.out) _).trans (((cell_far (p := ⟨gb145, _, none⟩) (ne_far hw141_0 GW145.out) _).trans (hHeld.2.2.2.2.2.2.2.1)))))))), ((cell_far (p := ⟨gb145, _, none⟩) (ne_far hw142_0 GW145.out) _).trans (((cell_far (p := ⟨gb145, _, none⟩) (ne_far hw142_0 GW145.out) _).trans (((cell_far (p := ⟨gb145, _, none⟩) (ne_far hw142_0 GW145.out) _).trans (((cell_far (p := ⟨gb145, _, none⟩) (ne_far hw142_0 GW145.out) _).trans (hHeld.2.2.2.2.2.2.2.2.1)))))))), ((cell_far (p := ⟨gb145, _, none⟩) (ne_far hw143_0 GW145.out) _).trans (((cell_far (p := ⟨gb145, _, none⟩) (ne_far hw143_0 GW145.out) _).trans (((cell_far (p := ⟨gb145, _, none⟩) (ne_far hw143_0 GW145.out) _).trans (((cell_far (p := ⟨gb145, _, none⟩) (ne_far hw143_0 GW145.out) _).trans (hHeld.2.2.2.2.2.2.2.2.2.1)))))))), ((cell_far (p := ⟨gb145, _, none⟩) (ne_far hw144_0 GW145.out) _).trans (((cell_far (p := ⟨gb145, _, none⟩) (ne_far hw144_0 GW145.out) _).trans (((cell_far (p := ⟨gb145, _, none⟩) (ne_far hw144_0 GW145.out) _).trans (((cell_far (p := ⟨gb145, _, none⟩) (ne_far hw144_0 GW145.out) _).trans (hHeld.2.2.2.2.2.2.2.2.2.2))))))))⟩ (fun hHeld => ?_); clear hK K; refine done_ (done_of HT_.out (by kernel_rfl)) ?_; try go_wp2
                  have n0_ : Aside0 (((((w31.setCell ⟨gb145, 0, none⟩ (.int .i64 (rd (rd_L1 l0_2 t133) t135))).setCell ⟨gb145, 1, none⟩ (.int .i64 (rd (rd_L1 l0_2 t133) (ji12)))).setCell ⟨gb145, 2, none⟩ (.int .i64 (rd (rd_L1 l0_2 (ji15)) t135))).setCell ⟨gb145, 3, none⟩ (.int .i64 (rd (rd_L1 l0_2 (ji15)) (ji12)))).heap[gb132]? = some (.cells #[.slice A0_0 l0_0.length c0_0, .slice A0_1 l0_1.length c0_1, .slice (some ad137) l0_2.length c0_2] 25 (0, 0))) := ⟨by (with_reducible repeat first | apply bN | apply bD | apply bA); refine blk_far ?_ NB132_145.out _; (with_reducible repeat first | apply bN | apply bD | apply bA); refine blk_far ?_ NB132_145.out _; (with_reducible repeat first | apply bN | apply bD | apply bA); refine blk_far ?_ NB132_145.out _; (with_reducible repeat first | apply bN | apply bD | apply bA); refine blk_far ?_ NB132_145.out _; (with_reducible repeat first | apply bN | apply bD | apply bA); exact BK132.out⟩; have n1_ : Aside0 (((((w31.setCell ⟨gb145, 0, none⟩ (.int .i64 (rd (rd_L1 l0_2 t133) t135))).setCell ⟨gb145, 1, none⟩ (.int .i64 (rd (rd_L1 l0_2 t133) (ji12)))).setCell ⟨gb145, 2, none⟩ (.int .i64 (rd (rd_L1 l0_2 (ji15)) t135))).setCell ⟨gb145, 3, none⟩ (.int .i64 (rd (rd_L1 l0_2 (ji15)) (ji12)))).heap[gb145]? = some (.cells #[.int .i64 (rd (rd_L1 l0_2 t133) t135), .int .i64 (rd (rd_L1 l0_2 t133) (ji12)), .int .i64 (rd (rd_L1 l0_2 (ji15)) t135), .int .i64 (rd (rd_L1 l0_2 (ji15)) (ji12))] 75 (0, 0))) := ⟨by (with_reducible repeat first | apply bN | apply bD | apply bA); refine blk_put (cs := #[.int .i64 (rd (rd_L1 l0_2 t133) t135), .int .i64 (rd (rd_L1 l0_2 t133) (ji12)), .int .i64 (rd (rd_L1 l0_2 (ji15)) t135), .int .i64 0]) ?_ 3 _ rfl; (with_reducible repeat first | apply bN | apply bD | apply bA); refine blk_put (cs := #[.int .i64 (rd (rd_L1 l0_2 t133) t135), .int .i64 (rd (rd_L1 l0_2 t133) (ji12)), .int .i64 0, .int .i64 0]) ?_ 2 _ rfl; (with_reducible repeat first | apply bN | apply bD | apply bA); refine blk_put (cs := #[.int .i64 (rd (rd_L1 l0_2 t133) t135), .int .i64 0, .int .i64 0, .int .i64 0]) ?_ 1 _ rfl; (with_reducible repeat first | apply bN | apply bD | apply bA); refine blk_put (cs := #[.int .i64 0, .int .i64 0, .int .i64 0, .int .i64 0]) ?_ 0 _ rfl; (with_reducible repeat first | apply bN | apply bD | apply bA); exact BK145.out⟩; have n2_ : Aside0 (Below w.heap.size w ((((w31.setCell ⟨gb145, 0, none⟩ (.int .i64 (rd (rd_L1 l0_2 t133) t135))).setCell ⟨gb145, 1, none⟩ (.int .i64 (rd (rd_L1 l0_2 t133) (ji12)))).setCell ⟨gb145, 2, none⟩ (.int .i64 (rd (rd_L1 l0_2 (ji15)) t135))).setCell ⟨gb145, 3, none⟩ (.int .i64 (rd (rd_L1 l0_2 (ji15)) (ji12))))) := ⟨eG HB.out⟩; (try clear BK132)
                  (try clear BK145)
                  (try clear HB)
                  generalize ((((w31.setCell ⟨gb145, 0, none⟩ (.int .i64 (rd (rd_L1 l0_2 t133) t135))).setCell ⟨gb145, 1, none⟩ (.int .i64 (rd (rd_L1 l0_2 t133) (ji12)))).setCell ⟨gb145, 2, none⟩ (.int .i64 (rd (rd_L1 l0_2 (ji15)) t135))).setCell ⟨gb145, 3, none⟩ (.int .i64 (rd (rd_L1 l0_2 (ji15)) (ji12)))) = w36 at n0_ n1_ n2_ ⊢; have BK132 := n0_; have BK145 := n1_; have HB := n2_; clear n0_ n1_ n2_; have n0_ := Aside0.mk (blk_drew BK132.out); have n1_ := Aside0.mk (blk_drew BK145.out); have n2_ := Aside0.mk (below_drew1 HB.out); clear BK132; clear BK145; clear HB; have BK132 := n0_; have BK145 := n1_; have HB := n2_; clear n0_ n1_ n2_; have p146 : 0 ≤ (t135 : Int) := of_decide_eq_true (by first | (with_reducible assumption) | assumption); have q146 : t135 < (l0_1.length : Int) := of_decide_eq_true (by first | (with_reducible assumption) | assumption); obtain ⟨ad146, e146, hx146_0⟩ := Kd.at_int HR0_1.out t135 p146 q146; have hw146_0 := hx146_0; cases e146; replace hx146_0 := (HB.out.cell (World.block_lt_of_cell? w _ hx146_0)).trans hx146_0; replace p146 := eq_true p146; replace q146 := eq_true q146; have p147 : 0 ≤ ((ji12) : Int) := of_decide_eq_true (by first | (with_reducible assumption) | assumption); have q147 : (ji12) < (l0_1.length : Int) := of_decide_eq_true (by first | (with_reducible assumption) | assumption); obtain ⟨ad147, e147, hx147_0⟩ := Kd.at_int HR0_1.out (ji12) p147 q147; have hw147_0 := hx147_0; obtain rfl : ad146 = ad147 := (by injection e147); replace hx147_0 := (HB.out.cell (World.block_lt_of_cell? w _ hx147_0)).trans hx147_0; replace p147 := eq_true p147; replace q147 := eq_true q147; refine start_ (n := 17) (S := fun w' => w'.cell? ⟨gb132, 0, none⟩ = some (.slice A0_0 l0_0.length c0_0) ∧ w'.cell? ⟨gb132, 1, none⟩ = some (.slice (some ad146) l0_1.length c0_1) ∧ w'.cell? ⟨gb132, 2, none⟩ = some (.slice (some ad137) l0_2.length c0_2) ∧ w'.cell? (ad146.add (t135).toNat) = some (.int .i64 (rd l0_1 t135)) ∧ w'.cell? (ad146.add ((ji12)).toNat) = some (.int .i64 (rd l0_1 (ji12)))) (ds := []) #[false, false, false, false, false, false, false, false, false, false, false, false, false, false, false, false, false] (by kernel_rfl) rfl rfl ⟨(blk_cell BK132.out 0).trans rfl, (blk_cell BK132.out 1).trans rfl, (blk_cell BK132.out 2).trans rfl, ((HB.out.cell (World.block_lt_of_cell? w _ hw146_0)).trans hw146_0), ((HB.out.cell (World.block_lt_of_cell? w _ hw147_0)).trans hw147_0)⟩ (fun hHeld => ?_); refine with_tabW correct_at.tab6 correct_at.bits6 (fun HT_ HW_ => ?_)
                  generalize w36.drew = w37 at BK132 BK145 HB hx146_0 hx147_0 hHeld ⊢; refine pure_ (i := 0) (N := some 78) (v := ?_) (a' := ?_) #[true, false, false, false, false, false, false, false, false, false, false, false, false, false, false, false, false] rfl rfl (any_of HT_.out (by kernel_rfl)) (fun _ _ _ h => h) (Or.inl ⟨by rfl, ?_⟩) ?_ ?_; rotate_left
                  · intro w'; go_simp; with_reducible rfl
                  rotate_left
                  · simp only [Act.put, sIA, sC0, sCS, i64_w, i32_w]; rfl
                  refine pure_ (i := 1) (N := some 79) (v := ?_) (a' := ?_) #[true, true, false, false, false, false, false, false, false, false, false, false, false, false, false, false, false] rfl rfl (any_of HT_.out (by kernel_rfl)) (fun _ _ _ h => h) (Or.inl ⟨by rfl, ?_⟩) ?_ ?_; rotate_left
                  · intro w'; go_simp; with_reducible rfl
                  rotate_left
                  · simp only [Act.put, sIA, sC0, sCS, i64_w, i32_w]; rfl
                  refine pure_ (i := 3) (N := some 81) (v := ?_) (a' := ?_) #[true, true, false, true, false, false, false, false, false, false, false, false, false, false, false, false, false] rfl rfl (any_of HT_.out (by kernel_rfl)) (fun _ _ _ h => h) (Or.inl ⟨by rfl, ?_⟩) ?_ ?_; rotate_left
                  · intro w'; go_simp; with_reducible rfl
                  rotate_left
                  · simp only [Act.put, sIA, sC0, sCS, i64_w, i32_w]; rfl
                  refine pure_ (i := 7) (N := some 85) (v := ?_) (a' := ?_) #[true, true, false, true, false, false, false, true, false, false, false, false, false, false, false, false, false] rfl rfl (any_of HT_.out (by kernel_rfl)) (fun _ _ _ h => h) (Or.inl ⟨by rfl, ?_⟩) ?_ ?_; rotate_left
                  · intro w'; go_simp; with_reducible rfl
                  rotate_left
                  · simp only [Act.put, sIA, sC0, sCS, i64_w, i32_w]; rfl
                  refine pure_ (i := 9) (N := some 87) (v := ?_) (a' := ?_) #[true, true, false, true, false, false, false, true, false, true, false, false, false, false, false, false, false] rfl rfl (any_of HT_.out (by kernel_rfl)) (fun _ _ _ h => h) (Or.inl ⟨by rfl, ?_⟩) ?_ ?_; rotate_left
                  · intro w'; go_simp; with_reducible rfl
                  rotate_left
                  · simp only [Act.put, sIA, sC0, sCS, i64_w, i32_w]; rfl
                  refine pure_ (i := 10) (N := some 88) (v := ?_) (a' := ?_) #[true, true, false, true, false, false, false, true, false, true, true, false, false, false, false, false, false] rfl rfl (any_of HT_.out (by kernel_rfl)) (fun _ _ _ h => h) (Or.inl ⟨by rfl, ?_⟩) ?_ ?_; rotate_left
                  · intro w'; go_simp; with_reducible rfl
                  rotate_left
                  · simp only [Act.put, sIA, sC0, sCS, i64_w, i32_w]; rfl
                  refine pure_ (i := 13) (N := some 91) (v := ?_) (a' := ?_) #[true, true, false, true, false, false, false, true, false, true, true, false, false, true, false, false, false] rfl rfl (any_of HT_.out (by kernel_rfl)) (fun _ _ _ h => h) (Or.inl ⟨by rfl, ?_⟩) ?_ ?_; rotate_left
                  · intro w'; go_simp; with_reducible rfl
                  rotate_left
                  · simp only [Act.put, sIA, sC0, sCS, i64_w, i32_w]; rfl
                  refine take_ (i := 2) (N := some 80) (v := ?_) (a' := ?_) #[true, true, true, true, false, false, false, true, false, true, true, false, false, true, false, false, false] rfl rfl (take_ofW HT_.out HW_.out (by kernel_rfl)) (fun _ _ _ h => h) (Or.inl ⟨by rfl, ?_⟩) hHeld ?_ ?_; rotate_left
                  · rintro w' ⟨s0, s1, s2, s3, s4⟩; go_simp; with_reducible rfl
                  rotate_left
                  · simp only [Act.put, sIA, sC0, sCS, i64_w, i32_w]; rfl
                  refine pure_ (i := 4) (N := some 82) (v := ?_) (a' := ?_) #[true, true, true, true, true, false, false, true, false, true, true, false, false, true, false, false, false] rfl rfl (any_of HT_.out (by kernel_rfl)) (fun _ _ _ h => h) (Or.inl ⟨by rfl, ?_⟩) ?_ ?_; rotate_left
                  · intro w'; go_simp; with_reducible rfl
                  rotate_left
                  · simp only [Act.put, sIA, sC0, sCS, i64_w, i32_w]; rfl
                  refine take_ (i := 5) (N := some 83) (v := ?_) (a' := ?_) #[true, true, true, true, true, true, false, true, false, true, true, false, false, true, false, false, false] rfl rfl (take_ofW HT_.out HW_.out (by kernel_rfl)) (fun _ _ _ h => h) (Or.inl ⟨by rfl, ?_⟩) hHeld ?_ ?_; rotate_left
                  · rintro w' ⟨s0, s1, s2, s3, s4⟩; go_simp; with_reducible rfl
                  rotate_left
                  · simp only [Act.put, sIA, sC0, sCS, i64_w, i32_w]; rfl
                  refine pure_ (i := 6) (N := some 84) (v := ?_) (a' := ?_) #[true, true, true, true, true, true, true, true, false, true, true, false, false, true, false, false, false] rfl rfl (any_of HT_.out (by kernel_rfl)) (fun _ _ _ h => h) (Or.inl ⟨by rfl, ?_⟩) ?_ ?_; rotate_left
                  · intro w'; go_simp; with_reducible rfl
                  rotate_left
                  · simp only [Act.put, sIA, sC0, sCS, i64_w, i32_w]; rfl
                  refine pure_ (i := 15) (N := some 13) (v := ?_) (a' := ?_) #[true, true, true, true, true, true, true, true, false, true, true, false, false, true, false, true, false] rfl rfl (any_of HT_.out (by kernel_rfl)) (fun _ _ _ h => h) (Or.inl ⟨by rfl, ?_⟩) ?_ ?_; rotate_left
                  · intro w'; go_simp; with_reducible rfl
                  rotate_left
                  · simp only [Act.put, sIA, sC0, sCS, i64_w, i32_w]; rfl
                  refine take_ (i := 8) (N := some 86) (v := ?_) (a' := ?_) #[true, true, true, true, true, true, true, true, true, true, true, false, false, true, false, true, false] rfl rfl (take_ofW HT_.out HW_.out (by kernel_rfl)) (fun _ _ _ h => h) (Or.inl ⟨by rfl, ?_⟩) hHeld ?_ ?_; rotate_left
                  · rintro w' ⟨s0, s1, s2, s3, s4⟩; go_simp; with_reducible rfl
                  rotate_left
                  · simp only [Act.put, sIA, sC0, sCS, i64_w, i32_w]; rfl
                  refine pure_ (i := 11) (N := some 89) (v := ?_) (a' := ?_) #[true, true, true, true, true, true, true, true, true, true, true, true, false, true, false, true, false] rfl rfl (any_of HT_.out (by kernel_rfl)) (fun _ _ _ h => h) (Or.inl ⟨by rfl, ?_⟩) ?_ ?_; rotate_left
                  · intro w'; go_simp; with_reducible rfl
                  rotate_left
                  · simp only [Act.put, sIA, sC0, sCS, i64_w, i32_w]; rfl
                  refine take_ (i := 12) (N := some 90) (v := ?_) (a' := ?_) #[true, true, true, true, true, true, true, true, true, true, true, true, true, true, false, true, false] rfl rfl (take_ofW HT_.out HW_.out (by kernel_rfl)) (fun _ _ _ h => h) (Or.inl ⟨by rfl, ?_⟩) hHeld ?_ ?_; rotate_left
                  · rintro w' ⟨s0, s1, s2, s3, s4⟩; go_simp; with_reducible rfl
                  rotate_left
                  · simp only [Act.put, sIA, sC0, sCS, i64_w, i32_w]; rfl
                  refine pure_ (i := 14) (N := some 92) (v := ?_) (a' := ?_) #[true, true, true, true, true, true, true, true, true, true, true, true, true, true, true, true, false] rfl rfl (any_of HT_.out (by kernel_rfl)) (fun _ _ _ h => h) (Or.inl ⟨by rfl, ?_⟩) ?_ ?_; rotate_left
                  · intro w'; go_simp; with_reducible rfl
                  rotate_left
                  · simp only [Act.put, sIA, sC0, sCS, i64_w, i32_w]; rfl
                  refine pure_ (i := 16) (N := some 14) (v := ?_) (a' := ?_) #[true, true, true, true, true, true, true, true, true, true, true, true, true, true, true, true, true] rfl rfl (any_of HT_.out (by kernel_rfl)) (fun _ _ _ h => h) (Or.inl ⟨by rfl, ?_⟩) ?_ ?_; rotate_left
                  · intro w'; go_simp; with_reducible rfl
                  rotate_left
                  · simp only [Act.put, sIA, sC0, sCS, i64_w, i32_w]; rfl
                  refine done_ (done_of HT_.out (by kernel_rfl)) ?_; have hnb38 := NB145_132.out; have hnc38 := NB132_145.out; have hcz39_0 : w37.cell? ⟨gb145, 0, none⟩ = some (.int .i64 (rd (rd_L1 l0_2 t133) t135)) := (blk_cell BK145.out 0).trans rfl; have hcz39_1 : w37.cell? ⟨gb145, 1, none⟩ = some (.int .i64 (rd (rd_L1 l0_2 t133) (ji12))) := (blk_cell BK145.out 1).trans rfl; have hcz39_2 : w37.cell? ⟨gb145, 2, none⟩ = some (.int .i64 (rd (rd_L1 l0_2 (ji15)) t135)) := (blk_cell BK145.out 2).trans rfl; have hcz39_3 : w37.cell? ⟨gb145, 3, none⟩ = some (.int .i64 (rd (rd_L1 l0_2 (ji15)) (ji12))) := (blk_cell BK145.out 3).trans rfl; have hfz39_0 := blk_frozen BK145.out 0; have hfz39_1 := blk_frozen BK145.out 1; have hfz39_2 := blk_frozen BK145.out 2; have hfz39_3 := blk_frozen BK145.out 3; try go_wp2
                  have n0_ := Aside0.mk (blk_drew BK132.out); have n1_ := Aside0.mk (blk_drew BK145.out); have n2_ := Aside0.mk (below_drew1 HB.out); clear BK132; clear BK145; clear HB; have BK132 := n0_; have BK145 := n1_; have HB := n2_; clear n0_ n1_ n2_; have p148 : 0 ≤ ((ji15) : Int) := of_decide_eq_true (by first | (with_reducible assumption) | assumption); have q148 : (ji15) < (l0_0.length : Int) := of_decide_eq_true (by first | (with_reducible assumption) | assumption); obtain ⟨ad148, e148, hx148_0⟩ := Kd.at_int HR0_0.out (ji15) p148 q148; have hw148_0 := hx148_0; cases e148; replace hx148_0 := (HB.out.cell (World.block_lt_of_cell? w _ hx148_0)).trans hx148_0; replace p148 := eq_true p148; replace q148 := eq_true q148; have p149 : 0 ≤ (t133 : Int) := of_decide_eq_true (by first | (with_reducible assumption) | assumption); have q149 : t133 < (l0_0.length : Int) := of_decide_eq_true (by first | (with_reducible assumption) | assumption); obtain ⟨ad149, e149, hx149_0⟩ := Kd.at_int HR0_0.out t133 p149 q149; have hw149_0 := hx149_0; obtain rfl : ad148 = ad149 := (by injection e149); replace hx149_0 := (HB.out.cell (World.block_lt_of_cell? w _ hx149_0)).trans hx149_0; replace p149 := eq_true p149; replace q149 := eq_true q149; refine start_ (n := 21) (S := fun w' => w'.cell? ⟨gb132, 0, none⟩ = some (.slice (some ad148) l0_0.length c0_0) ∧ w'.cell? ⟨gb132, 1, none⟩ = some (.slice (some ad146) l0_1.length c0_1) ∧ w'.cell? ⟨gb132, 2, none⟩ = some (.slice (some ad137) l0_2.length c0_2) ∧ w'.cell? (ad148.add ((ji15)).toNat) = some (.int .i64 (rd l0_0 (ji15))) ∧ w'.cell? (ad148.add (t133).toNat) = some (.int .i64 (rd l0_0 t133))) (ds := []) #[false, false, false, false, false, false, false, false, false, false, false, false, false, false, false, false, false, false, false, false, false] (by kernel_rfl) rfl rfl ⟨(blk_cell BK132.out 0).trans rfl, (blk_cell BK132.out 1).trans rfl, (blk_cell BK132.out 2).trans rfl, ((HB.out.cell (World.block_lt_of_cell? w _ hw148_0)).trans hw148_0), ((HB.out.cell (World.block_lt_of_cell? w _ hw149_0)).trans hw149_0)⟩ (fun hHeld => ?_); refine with_tabW correct_at.tab9 correct_at.bits9 (fun HT_ HW_ => ?_)
                  generalize w37.drew = w40 at BK132 BK145 HB hx148_0 hx149_0 hHeld ⊢; refine pure_ (i := 0) (N := some 115) (v := ?_) (a' := ?_) #[true, false, false, false, false, false, false, false, false, false, false, false, false, false, false, false, false, false, false, false, false] rfl rfl (any_of HT_.out (by kernel_rfl)) (fun _ _ _ h => h) (Or.inl ⟨by rfl, ?_⟩) ?_ ?_; rotate_left
                  · intro w'; go_simp; with_reducible rfl
                  rotate_left
                  · simp only [Act.put, sIA, sC0, sCS, i64_w, i32_w]; rfl
                  refine pure_ (i := 2) (N := some 117) (v := ?_) (a' := ?_) #[true, false, true, false, false, false, false, false, false, false, false, false, false, false, false, false, false, false, false, false, false] rfl rfl (any_of HT_.out (by kernel_rfl)) (fun _ _ _ h => h) (Or.inl ⟨by rfl, ?_⟩) ?_ ?_; rotate_left
                  · intro w'; go_simp; with_reducible rfl
                  rotate_left
                  · simp only [Act.put, sIA, sC0, sCS, i64_w, i32_w]; rfl
                  refine pure_ (i := 3) (N := some 118) (v := ?_) (a' := ?_) #[true, false, true, true, false, false, false, false, false, false, false, false, false, false, false, false, false, false, false, false, false] rfl rfl (any_of HT_.out (by kernel_rfl)) (fun _ _ _ h => h) (Or.inl ⟨by rfl, ?_⟩) ?_ ?_; rotate_left
                  · intro w'; go_simp; with_reducible rfl
                  rotate_left
                  · simp only [Act.put, sIA, sC0, sCS, i64_w, i32_w]; rfl
                  refine pure_ (i := 6) (N := some 121) (v := ?_) (a' := ?_) #[true, false, true, true, false, false, true, false, false, false, false, false, false, false, false, false, false, false, false, false, false] rfl rfl (any_of HT_.out (by kernel_rfl)) (fun _ _ _ h => h) (Or.inl ⟨by rfl, ?_⟩) ?_ ?_; rotate_left
                  · intro w'; go_simp; with_reducible rfl
                  rotate_left
                  · simp only [Act.put, sIA, sC0, sCS, i64_w, i32_w]; rfl
                  refine pure_ (i := 8) (N := some 123) (v := ?_) (a' := ?_) #[true, false, true, true, false, false, true, false, true, false, false, false, false, false, false, false, false, false, false, false, false] rfl rfl (any_of HT_.out (by kernel_rfl)) (fun _ _ _ h => h) (Or.inl ⟨by rfl, ?_⟩) ?_ ?_; rotate_left
                  · intro w'; go_simp; with_reducible rfl
                  rotate_left
                  · simp only [Act.put, sIA, sC0, sCS, i64_w, i32_w]; rfl
                  refine pure_ (i := 10) (N := some 125) (v := ?_) (a' := ?_) #[true, false, true, true, false, false, true, false, true, false, true, false, false, false, false, false, false, false, false, false, false] rfl rfl (any_of HT_.out (by kernel_rfl)) (fun _ _ _ h => h) (Or.inl ⟨by rfl, ?_⟩) ?_ ?_; rotate_left
                  · intro w'; go_simp; with_reducible rfl
                  rotate_left
                  · simp only [Act.put, sIA, sC0, sCS, i64_w, i32_w]; rfl
                  refine pure_ (i := 11) (N := some 126) (v := ?_) (a' := ?_) #[true, false, true, true, false, false, true, false, true, false, true, true, false, false, false, false, false, false, false, false, false] rfl rfl (any_of HT_.out (by kernel_rfl)) (fun _ _ _ h => h) (Or.inl ⟨by rfl, ?_⟩) ?_ ?_; rotate_left
                  · intro w'; go_simp; with_reducible rfl
                  rotate_left
                  · simp only [Act.put, sIA, sC0, sCS, i64_w, i32_w]; rfl
                  refine pure_ (i := 13) (N := some 128) (v := ?_) (a' := ?_) #[true, false, true, true, false, false, true, false, true, false, true, true, false, true, false, false, false, false, false, false, false] rfl rfl (any_of HT_.out (by kernel_rfl)) (fun _ _ _ h => h) (Or.inl ⟨by rfl, ?_⟩) ?_ ?_; rotate_left
                  · intro w'; go_simp; with_reducible rfl
                  rotate_left
                  · simp only [Act.put, sIA, sC0, sCS, i64_w, i32_w]; rfl
                  refine pure_ (i := 17) (N := some 132) (v := ?_) (a' := ?_) #[true, false, true, true, false, false, true, false, true, false, true, true, false, true, false, false, false, true, false, false, false] rfl rfl (any_of HT_.out (by kernel_rfl)) (fun _ _ _ h => h) (Or.inl ⟨by rfl, ?_⟩) ?_ ?_; rotate_left
                  · intro w'; go_simp; with_reducible rfl
                  rotate_left
                  · simp only [Act.put, sIA, sC0, sCS, i64_w, i32_w]; rfl
                  refine take_ (i := 1) (N := some 116) (v := ?_) (a' := ?_) #[true, true, true, true, false, false, true, false, true, false, true, true, false, true, false, false, false, true, false, false, false] rfl rfl (take_ofW HT_.out HW_.out (by kernel_rfl)) (fun _ _ _ h => h) (Or.inl ⟨by rfl, ?_⟩) hHeld ?_ ?_; rotate_left
                  · rintro w' ⟨s0, s1, s2, s3, s4⟩; go_simp; with_reducible rfl
                  rotate_left
                  · simp only [Act.put, sIA, sC0, sCS, i64_w, i32_w]; rfl
                  refine pure_ (i := 4) (N := some 119) (v := ?_) (a' := ?_) #[true, true, true, true, true, false, true, false, true, false, true, true, false, true, false, false, false, true, false, false, false] rfl rfl (any_of HT_.out (by kernel_rfl)) (fun _ _ _ h => h) (Or.inl ⟨by rfl, ?_⟩) ?_ ?_; rotate_left
                  · intro w'; go_simp; with_reducible rfl
                  rotate_left
                  · simp only [Act.put, sIA, sC0, sCS, i64_w, i32_w]; rfl
                  refine take_ (i := 5) (N := some 120) (v := ?_) (a' := ?_) #[true, true, true, true, true, true, true, false, true, false, true, true, false, true, false, false, false, true, false, false, false] rfl rfl (take_ofW HT_.out HW_.out (by kernel_rfl)) (fun _ _ _ h => h) (Or.inl ⟨by rfl, ?_⟩) hHeld ?_ ?_; rotate_left
                  · rintro w' ⟨s0, s1, s2, s3, s4⟩; go_simp; with_reducible rfl
                  rotate_left
                  · simp only [Act.put, sIA, sC0, sCS, i64_w, i32_w]; rfl
                  refine pure_ (i := 7) (N := some 122) (v := ?_) (a' := ?_) #[true, true, true, true, true, true, true, true, true, false, true, true, false, true, false, false, false, true, false, false, false] rfl rfl (any_of HT_.out (by kernel_rfl)) (fun _ _ _ h => h) (Or.inl ⟨by rfl, ?_⟩) ?_ ?_; rotate_left
                  · intro w'; go_simp; with_reducible rfl
                  rotate_left
                  · simp only [Act.put, sIA, sC0, sCS, i64_w, i32_w]; rfl
                  refine pure_ (i := 9) (N := some 124) (v := ?_) (a' := ?_) #[true, true, true, true, true, true, true, true, true, true, true, true, false, true, false, false, false, true, false, false, false] rfl rfl (any_of HT_.out (by kernel_rfl)) (fun _ _ _ h => h) (Or.inl ⟨by rfl, ?_⟩) ?_ ?_; rotate_left
                  · intro w'; go_simp; with_reducible rfl
                  rotate_left
                  · simp only [Act.put, sIA, sC0, sCS, i64_w, i32_w]; rfl
                  refine take_ (i := 12) (N := some 127) (v := ?_) (a' := ?_) #[true, true, true, true, true, true, true, true, true, true, true, true, true, true, false, false, false, true, false, false, false] rfl rfl (take_ofW HT_.out HW_.out (by kernel_rfl)) (fun _ _ _ h => h) (Or.inl ⟨by rfl, ?_⟩) hHeld ?_ ?_; rotate_left
                  · rintro w' ⟨s0, s1, s2, s3, s4⟩; go_simp; with_reducible rfl
                  rotate_left
                  · simp only [Act.put, sIA, sC0, sCS, i64_w, i32_w]; rfl
                  refine pure_ (i := 14) (N := some 129) (v := ?_) (a' := ?_) #[true, true, true, true, true, true, true, true, true, true, true, true, true, true, true, false, false, true, false, false, false] rfl rfl (any_of HT_.out (by kernel_rfl)) (fun _ _ _ h => h) (Or.inl ⟨by rfl, ?_⟩) ?_ ?_; rotate_left
                  · intro w'; go_simp; with_reducible rfl
                  rotate_left
                  · simp only [Act.put, sIA, sC0, sCS, i64_w, i32_w]; rfl
                  refine take_ (i := 15) (N := some 130) (v := ?_) (a' := ?_) #[true, true, true, true, true, true, true, true, true, true, true, true, true, true, true, true, false, true, false, false, false] rfl rfl (take_ofW HT_.out HW_.out (by kernel_rfl)) (fun _ _ _ h => h) (Or.inl ⟨by rfl, ?_⟩) hHeld ?_ ?_; rotate_left
                  · rintro w' ⟨s0, s1, s2, s3, s4⟩; go_simp; with_reducible rfl
                  rotate_left
                  · simp only [Act.put, sIA, sC0, sCS, i64_w, i32_w]; rfl
                  refine pure_ (i := 16) (N := some 131) (v := ?_) (a' := ?_) #[true, true, true, true, true, true, true, true, true, true, true, true, true, true, true, true, true, true, false, false, false] rfl rfl (any_of HT_.out (by kernel_rfl)) (fun _ _ _ h => h) (Or.inl ⟨by rfl, ?_⟩) ?_ ?_; rotate_left
                  · intro w'; go_simp; with_reducible rfl
                  rotate_left
                  · simp only [Act.put, sIA, sC0, sCS, i64_w, i32_w]; rfl
                  refine pure_ (i := 18) (N := some 133) (v := ?_) (a' := ?_) #[true, true, true, true, true, true, true, true, true, true, true, true, true, true, true, true, true, true, true, false, false] rfl rfl (any_of HT_.out (by kernel_rfl)) (fun _ _ _ h => h) (Or.inl ⟨by rfl, ?_⟩) ?_ ?_; rotate_left
                  · intro w'; go_simp; with_reducible rfl
                  rotate_left
                  · simp only [Act.put, sIA, sC0, sCS, i64_w, i32_w]; rfl
                  refine pure_ (i := 19) (N := some 134) (v := ?_) (a' := ?_) #[true, true, true, true, true, true, true, true, true, true, true, true, true, true, true, true, true, true, true, true, false] rfl rfl (any_of HT_.out (by kernel_rfl)) (fun _ _ _ h => h) (Or.inl ⟨by rfl, ?_⟩) ?_ ?_; rotate_left
                  · intro w'; go_simp; with_reducible rfl
                  rotate_left
                  · simp only [Act.put, sIA, sC0, sCS, i64_w, i32_w]; rfl
                  refine pure_ (i := 20) (N := some 17) (v := ?_) (a' := ?_) #[true, true, true, true, true, true, true, true, true, true, true, true, true, true, true, true, true, true, true, true, true] rfl rfl (any_of HT_.out (by kernel_rfl)) (fun _ _ _ h => h) (Or.inl ⟨by rfl, ?_⟩) ?_ ?_; rotate_left
                  · intro w'; go_simp; with_reducible rfl
                  rotate_left
                  · simp only [Act.put, sIA, sC0, sCS, i64_w, i32_w]; rfl
                  refine done_ (done_of HT_.out (by kernel_rfl)) ?_; try go_wp2
                  have n0_ := Aside0.mk (blk_drew BK132.out); have n1_ := Aside0.mk (blk_drew BK145.out); have n2_ := Aside0.mk (below_drew1 HB.out); clear BK132; clear BK145; clear HB; have BK132 := n0_; have BK145 := n1_; have HB := n2_; clear n0_ n1_ n2_; have p150 : 0 ≤ ((ji15) : Int) := of_decide_eq_true (by first | (with_reducible assumption) | assumption); have q150 : (ji15) < (l0_0.length : Int) := of_decide_eq_true (by first | (with_reducible assumption) | assumption); obtain ⟨ad150, e150, hx150_0⟩ := Kd.at_int HR0_0.out (ji15) p150 q150; have hw150_0 := hx150_0; obtain rfl : ad148 = ad150 := (by injection e150); replace hx150_0 := (HB.out.cell (World.block_lt_of_cell? w _ hx150_0)).trans hx150_0; replace p150 := eq_true p150; replace q150 := eq_true q150; have p151 : 0 ≤ (t133 : Int) := of_decide_eq_true (by first | (with_reducible assumption) | assumption); have q151 : t133 < (l0_0.length : Int) := of_decide_eq_true (by first | (with_reducible assumption) | assumption); obtain ⟨ad151, e151, hx151_0⟩ := Kd.at_int HR0_0.out t133 p151 q151; have hw151_0 := hx151_0; obtain rfl : ad148 = ad151 := (by injection e151); replace hx151_0 := (HB.out.cell (World.block_lt_of_cell? w _ hx151_0)).trans hx151_0; replace p151 := eq_true p151; replace q151 := eq_true q151; have p152 : 0 ≤ ((ji12) : Int) := of_decide_eq_true (by first | (with_reducible assumption) | assumption); have q152 : (ji12) < (l0_1.length : Int) := of_decide_eq_true (by first | (with_reducible assumption) | assumption); obtain ⟨ad152, e152, hx152_0⟩ := Kd.at_int HR0_1.out (ji12) p152 q152; have hw152_0 := hx152_0; obtain rfl : ad146 = ad152 := (by injection e152); replace hx152_0 := (HB.out.cell (World.block_lt_of_cell? w _ hx152_0)).trans hx152_0; replace p152 := eq_true p152; replace q152 := eq_true q152; have p153 : 0 ≤ (t135 : Int) := of_decide_eq_true (by first | (with_reducible assumption) | assumption); have q153 : t135 < (l0_1.length : Int) := of_decide_eq_true (by first | (with_reducible assumption) | assumption); obtain ⟨ad153, e153, hx153_0⟩ := Kd.at_int HR0_1.out t135 p153 q153; have hw153_0 := hx153_0; obtain rfl : ad146 = ad153 := (by injection e153); replace hx153_0 := (HB.out.cell (World.block_lt_of_cell? w _ hx153_0)).trans hx153_0; replace p153 := eq_true p153; replace q153 := eq_true q153; refine start_ (n := 26) (S := fun w' => w'.cell? ⟨gb132, 0, none⟩ = some (.slice (some ad148) l0_0.length c0_0) ∧ w'.cell? ⟨gb132, 1, none⟩ = some (.slice (some ad146) l0_1.length c0_1) ∧ w'.cell? ⟨gb132, 2, none⟩ = some (.slice (some ad137) l0_2.length c0_2) ∧ w'.cell? (ad148.add ((ji15)).toNat) = some (.int .i64 (rd l0_0 (ji15))) ∧ w'.cell? (ad148.add (t133).toNat) = some (.int .i64 (rd l0_0 t133)) ∧ w'.cell? (ad146.add ((ji12)).toNat) = some (.int .i64 (rd l0_1 (ji12))) ∧ w'.cell? (ad146.add (t135).toNat) = some (.int .i64 (rd l0_1 t135))) (ds := []) #[false, false, false, false, false, false, false, false, false, false, false, false, false, false, false, false, false, false, false, false, false, false, false, false, false, false] (by kernel_rfl) rfl rfl ⟨(blk_cell BK132.out 0).trans rfl, (blk_cell BK132.out 1).trans rfl, (blk_cell BK132.out 2).trans rfl, ((HB.out.cell (World.block_lt_of_cell? w _ hw150_0)).trans hw150_0), ((HB.out.cell (World.block_lt_of_cell? w _ hw151_0)).trans hw151_0), ((HB.out.cell (World.block_lt_of_cell? w _ hw152_0)).trans hw152_0), ((HB.out.cell (World.block_lt_of_cell? w _ hw153_0)).trans hw153_0)⟩ (fun hHeld => ?_); refine with_tabW correct_at.tab10 correct_at.bits10 (fun HT_ HW_ => ?_)
                  generalize w40.drew = w41 at BK132 BK145 HB hx150_0 hx151_0 hx152_0 hx153_0 hHeld ⊢; refine pure_ (i := 0) (N := some 135) (v := ?_) (a' := ?_) #[true, false, false, false, false, false, false, false, false, false, false, false, false, false, false, false, false, false, false, false, false, false, false, false, false, false] rfl rfl (any_of HT_.out (by kernel_rfl)) (fun _ _ _ h => h) (Or.inl ⟨by rfl, ?_⟩) ?_ ?_; rotate_left
                  · intro w'; go_simp; with_reducible rfl
                  rotate_left
                  · simp only [Act.put, sIA, sC0, sCS, i64_w, i32_w]; rfl
                  refine pure_ (i := 2) (N := some 137) (v := ?_) (a' := ?_) #[true, false, true, false, false, false, false, false, false, false, false, false, false, false, false, false, false, false, false, false, false, false, false, false, false, false] rfl rfl (any_of HT_.out (by kernel_rfl)) (fun _ _ _ h => h) (Or.inl ⟨by rfl, ?_⟩) ?_ ?_; rotate_left
                  · intro w'; go_simp; with_reducible rfl
                  rotate_left
                  · simp only [Act.put, sIA, sC0, sCS, i64_w, i32_w]; rfl
                  refine pure_ (i := 3) (N := some 138) (v := ?_) (a' := ?_) #[true, false, true, true, false, false, false, false, false, false, false, false, false, false, false, false, false, false, false, false, false, false, false, false, false, false] rfl rfl (any_of HT_.out (by kernel_rfl)) (fun _ _ _ h => h) (Or.inl ⟨by rfl, ?_⟩) ?_ ?_; rotate_left
                  · intro w'; go_simp; with_reducible rfl
                  rotate_left
                  · simp only [Act.put, sIA, sC0, sCS, i64_w, i32_w]; rfl
                  refine pure_ (i := 6) (N := some 141) (v := ?_) (a' := ?_) #[true, false, true, true, false, false, true, false, false, false, false, false, false, false, false, false, false, false, false, false, false, false, false, false, false, false] rfl rfl (any_of HT_.out (by kernel_rfl)) (fun _ _ _ h => h) (Or.inl ⟨by rfl, ?_⟩) ?_ ?_; rotate_left
                  · intro w'; go_simp; with_reducible rfl
                  rotate_left
                  · simp only [Act.put, sIA, sC0, sCS, i64_w, i32_w]; rfl
                  refine pure_ (i := 8) (N := some 143) (v := ?_) (a' := ?_) #[true, false, true, true, false, false, true, false, true, false, false, false, false, false, false, false, false, false, false, false, false, false, false, false, false, false] rfl rfl (any_of HT_.out (by kernel_rfl)) (fun _ _ _ h => h) (Or.inl ⟨by rfl, ?_⟩) ?_ ?_; rotate_left
                  · intro w'; go_simp; with_reducible rfl
                  rotate_left
                  · simp only [Act.put, sIA, sC0, sCS, i64_w, i32_w]; rfl
                  refine pure_ (i := 12) (N := some 147) (v := ?_) (a' := ?_) #[true, false, true, true, false, false, true, false, true, false, false, false, true, false, false, false, false, false, false, false, false, false, false, false, false, false] rfl rfl (any_of HT_.out (by kernel_rfl)) (fun _ _ _ h => h) (Or.inl ⟨by rfl, ?_⟩) ?_ ?_; rotate_left
                  · intro w'; go_simp; with_reducible rfl
                  rotate_left
                  · simp only [Act.put, sIA, sC0, sCS, i64_w, i32_w]; rfl
                  refine pure_ (i := 14) (N := some 149) (v := ?_) (a' := ?_) #[true, false, true, true, false, false, true, false, true, false, false, false, true, false, true, false, false, false, false, false, false, false, false, false, false, false] rfl rfl (any_of HT_.out (by kernel_rfl)) (fun _ _ _ h => h) (Or.inl ⟨by rfl, ?_⟩) ?_ ?_; rotate_left
                  · intro w'; go_simp; with_reducible rfl
                  rotate_left
                  · simp only [Act.put, sIA, sC0, sCS, i64_w, i32_w]; rfl
                  refine pure_ (i := 15) (N := some 150) (v := ?_) (a' := ?_) #[true, false, true, true, false, false, true, false, true, false, false, false, true, false, true, true, false, false, false, false, false, false, false, false, false, false] rfl rfl (any_of HT_.out (by kernel_rfl)) (fun _ _ _ h => h) (Or.inl ⟨by rfl, ?_⟩) ?_ ?_; rotate_left
                  · intro w'; go_simp; with_reducible rfl
                  rotate_left
                  · simp only [Act.put, sIA, sC0, sCS, i64_w, i32_w]; rfl
                  refine pure_ (i := 18) (N := some 153) (v := ?_) (a' := ?_) #[true, false, true, true, false, false, true, false, true, false, false, false, true, false, true, true, false, false, true, false, false, false, false, false, false, false] rfl rfl (any_of HT_.out (by kernel_rfl)) (fun _ _ _ h => h) (Or.inl ⟨by rfl, ?_⟩) ?_ ?_; rotate_left
                  · intro w'; go_simp; with_reducible rfl
                  rotate_left
                  · simp only [Act.put, sIA, sC0, sCS, i64_w, i32_w]; rfl
                  refine pure_ (i := 20) (N := some 155) (v := ?_) (a' := ?_) #[true, false, true, true, false, false, true, false, true, false, false, false, true, false, true, true, false, false, true, false, true, false, false, false, false, false] rfl rfl (any_of HT_.out (by kernel_rfl)) (fun _ _ _ h => h) (Or.inl ⟨by rfl, ?_⟩) ?_ ?_; rotate_left
                  · intro w'; go_simp; with_reducible rfl
                  rotate_left
                  · simp only [Act.put, sIA, sC0, sCS, i64_w, i32_w]; rfl
                  refine take_ (i := 1) (N := some 136) (v := ?_) (a' := ?_) #[true, true, true, true, false, false, true, false, true, false, false, false, true, false, true, true, false, false, true, false, true, false, false, false, false, false] rfl rfl (take_ofW HT_.out HW_.out (by kernel_rfl)) (fun _ _ _ h => h) (Or.inl ⟨by rfl, ?_⟩) hHeld ?_ ?_; rotate_left
                  · rintro w' ⟨s0, s1, s2, s3, s4, s5, s6⟩; go_simp; with_reducible rfl
                  rotate_left
                  · simp only [Act.put, sIA, sC0, sCS, i64_w, i32_w]; rfl
                  refine pure_ (i := 4) (N := some 139) (v := ?_) (a' := ?_) #[true, true, true, true, true, false, true, false, true, false, false, false, true, false, true, true, false, false, true, false, true, false, false, false, false, false] rfl rfl (any_of HT_.out (by kernel_rfl)) (fun _ _ _ h => h) (Or.inl ⟨by rfl, ?_⟩) ?_ ?_; rotate_left
                  · intro w'; go_simp; with_reducible rfl
                  rotate_left
                  · simp only [Act.put, sIA, sC0, sCS, i64_w, i32_w]; rfl
                  refine take_ (i := 5) (N := some 140) (v := ?_) (a' := ?_) #[true, true, true, true, true, true, true, false, true, false, false, false, true, false, true, true, false, false, true, false, true, false, false, false, false, false] rfl rfl (take_ofW HT_.out HW_.out (by kernel_rfl)) (fun _ _ _ h => h) (Or.inl ⟨by rfl, ?_⟩) hHeld ?_ ?_; rotate_left
                  · rintro w' ⟨s0, s1, s2, s3, s4, s5, s6⟩; go_simp; with_reducible rfl
                  rotate_left
                  · simp only [Act.put, sIA, sC0, sCS, i64_w, i32_w]; rfl
                  refine take_ (i := 7) (N := some 142) (v := ?_) (a' := ?_) #[true, true, true, true, true, true, true, true, true, false, false, false, true, false, true, true, false, false, true, false, true, false, false, false, false, false] rfl rfl (take_ofW HT_.out HW_.out (by kernel_rfl)) (fun _ _ _ h => h) (Or.inl ⟨by rfl, ?_⟩) hHeld ?_ ?_; rotate_left
                  · rintro w' ⟨s0, s1, s2, s3, s4, s5, s6⟩; go_simp; with_reducible rfl
                  rotate_left
                  · simp only [Act.put, sIA, sC0, sCS, i64_w, i32_w]; rfl
                  refine pure_ (i := 9) (N := some 144) (v := ?_) (a' := ?_) #[true, true, true, true, true, true, true, true, true, true, false, false, true, false, true, true, false, false, true, false, true, false, false, false, false, false] rfl rfl (any_of HT_.out (by kernel_rfl)) (fun _ _ _ h => h) (Or.inl ⟨by rfl, ?_⟩) ?_ ?_; rotate_left
                  · intro w'; go_simp; with_reducible rfl
                  rotate_left
                  · simp only [Act.put, sIA, sC0, sCS, i64_w, i32_w]; rfl
                  refine take_ (i := 10) (N := some 145) (v := ?_) (a' := ?_) #[true, true, true, true, true, true, true, true, true, true, true, false, true, false, true, true, false, false, true, false, true, false, false, false, false, false] rfl rfl (take_ofW HT_.out HW_.out (by kernel_rfl)) (fun _ _ _ h => h) (Or.inl ⟨by rfl, ?_⟩) hHeld ?_ ?_; rotate_left
                  · rintro w' ⟨s0, s1, s2, s3, s4, s5, s6⟩; go_simp; with_reducible rfl
                  rotate_left
                  · simp only [Act.put, sIA, sC0, sCS, i64_w, i32_w]; rfl
                  refine pure_ (i := 11) (N := some 146) (v := ?_) (a' := ?_) #[true, true, true, true, true, true, true, true, true, true, true, true, true, false, true, true, false, false, true, false, true, false, false, false, false, false] rfl rfl (any_of HT_.out (by kernel_rfl)) (fun _ _ _ h => h) (Or.inl ⟨by rfl, ?_⟩) ?_ ?_; rotate_left
                  · intro w'; go_simp; with_reducible rfl
                  rotate_left
                  · simp only [Act.put, sIA, sC0, sCS, i64_w, i32_w]; rfl
                  refine take_ (i := 13) (N := some 148) (v := ?_) (a' := ?_) #[true, true, true, true, true, true, true, true, true, true, true, true, true, true, true, true, false, false, true, false, true, false, false, false, false, false] rfl rfl (take_ofW HT_.out HW_.out (by kernel_rfl)) (fun _ _ _ h => h) (Or.inl ⟨by rfl, ?_⟩) hHeld ?_ ?_; rotate_left
                  · rintro w' ⟨s0, s1, s2, s3, s4, s5, s6⟩; go_simp; with_reducible rfl
                  rotate_left
                  · simp only [Act.put, sIA, sC0, sCS, i64_w, i32_w]; rfl
                  refine pure_ (i := 16) (N := some 151) (v := ?_) (a' := ?_) #[true, true, true, true, true, true, true, true, true, true, true, true, true, true, true, true, true, false, true, false, true, false, false, false, false, false] rfl rfl (any_of HT_.out (by kernel_rfl)) (fun _ _ _ h => h) (Or.inl ⟨by rfl, ?_⟩) ?_ ?_; rotate_left
                  · intro w'; go_simp; with_reducible rfl
                  rotate_left
                  · simp only [Act.put, sIA, sC0, sCS, i64_w, i32_w]; rfl
                  refine take_ (i := 17) (N := some 152) (v := ?_) (a' := ?_) #[true, true, true, true, true, true, true, true, true, true, true, true, true, true, true, true, true, true, true, false, true, false, false, false, false, false] rfl rfl (take_ofW HT_.out HW_.out (by kernel_rfl)) (fun _ _ _ h => h) (Or.inl ⟨by rfl, ?_⟩) hHeld ?_ ?_; rotate_left
                  · rintro w' ⟨s0, s1, s2, s3, s4, s5, s6⟩; go_simp; with_reducible rfl
                  rotate_left
                  · simp only [Act.put, sIA, sC0, sCS, i64_w, i32_w]; rfl
                  refine take_ (i := 19) (N := some 154) (v := ?_) (a' := ?_) #[true, true, true, true, true, true, true, true, true, true, true, true, true, true, true, true, true, true, true, true, true, false, false, false, false, false] rfl rfl (take_ofW HT_.out HW_.out (by kernel_rfl)) (fun _ _ _ h => h) (Or.inl ⟨by rfl, ?_⟩) hHeld ?_ ?_; rotate_left
                  · rintro w' ⟨s0, s1, s2, s3, s4, s5, s6⟩; go_simp; with_reducible rfl
                  rotate_left
                  · simp only [Act.put, sIA, sC0, sCS, i64_w, i32_w]; rfl
                  refine pure_ (i := 21) (N := some 156) (v := ?_) (a' := ?_) #[true, true, true, true, true, true, true, true, true, true, true, true, true, true, true, true, true, true, true, true, true, true, false, false, false, false] rfl rfl (any_of HT_.out (by kernel_rfl)) (fun _ _ _ h => h) (Or.inl ⟨by rfl, ?_⟩) ?_ ?_; rotate_left
                  · intro w'; go_simp; with_reducible rfl
                  rotate_left
                  · simp only [Act.put, sIA, sC0, sCS, i64_w, i32_w]; rfl
                  refine take_ (i := 22) (N := some 157) (v := ?_) (a' := ?_) #[true, true, true, true, true, true, true, true, true, true, true, true, true, true, true, true, true, true, true, true, true, true, true, false, false, false] rfl rfl (take_ofW HT_.out HW_.out (by kernel_rfl)) (fun _ _ _ h => h) (Or.inl ⟨by rfl, ?_⟩) hHeld ?_ ?_; rotate_left
                  · rintro w' ⟨s0, s1, s2, s3, s4, s5, s6⟩; go_simp; with_reducible rfl
                  rotate_left
                  · simp only [Act.put, sIA, sC0, sCS, i64_w, i32_w]; rfl
                  refine pure_ (i := 23) (N := some 158) (v := ?_) (a' := ?_) #[true, true, true, true, true, true, true, true, true, true, true, true, true, true, true, true, true, true, true, true, true, true, true, true, false, false] rfl rfl (any_of HT_.out (by kernel_rfl)) (fun _ _ _ h => h) (Or.inl ⟨by rfl, ?_⟩) ?_ ?_; rotate_left
                  · intro w'; go_simp; with_reducible rfl
                  rotate_left
                  · simp only [Act.put, sIA, sC0, sCS, i64_w, i32_w]; rfl
                  refine pure_ (i := 24) (N := some 159) (v := ?_) (a' := ?_) #[true, true, true, true, true, true, true, true, true, true, true, true, true, true, true, true, true, true, true, true, true, true, true, true, true, false] rfl rfl (any_of HT_.out (by kernel_rfl)) (fun _ _ _ h => h) (Or.inl ⟨by rfl, ?_⟩) ?_ ?_; rotate_left
                  · intro w'; go_simp; with_reducible rfl
                  rotate_left
                  · simp only [Act.put, sIA, sC0, sCS, i64_w, i32_w]; rfl
                  refine pure_ (i := 25) (N := some 18) (v := ?_) (a' := ?_) #[true, true, true, true, true, true, true, true, true, true, true, true, true, true, true, true, true, true, true, true, true, true, true, true, true, true] rfl rfl (any_of HT_.out (by kernel_rfl)) (fun _ _ _ h => h) (Or.inl ⟨by rfl, ?_⟩) ?_ ?_; rotate_left
                  · intro w'; go_simp; with_reducible rfl
                  rotate_left
                  · simp only [Act.put, sIA, sC0, sCS, i64_w, i32_w]; rfl
                  refine done_ (done_of HT_.out (by kernel_rfl)) ?_; try go_wp2
                  go_ret2
                  exact ⟨by first | rfl | (simp [errW_none, errW_some] <;> rfl) | (simp only [← hji12, ← hji15]; first | rfl | (simp [errW_none, errW_some] <;> rfl)) | (simp [*, errW_none, errW_some] <;> rfl), eG HB.out⟩
                · rw [if_neg c23] at H; exact absurd H (by simp)
               · rw [if_neg c22] at H; exact absurd H (by simp)
              · rw [if_neg c21] at H; exact absurd H (by simp)
             · rw [if_neg c20] at H; exact absurd H (by simp)
            · rw [if_neg c19] at H; exact absurd H (by simp)
           · rw [if_neg c18] at H; exact absurd H (by simp)
          · rw [if_neg c17] at H; exact absurd H (by simp)
         · rw [if_neg c16] at H; exact absurd H (by simp)
        · rw [if_neg c14] at H; exact absurd H (by simp)
       · rw [if_neg c13] at H; exact absurd H (by simp)
      · rw [if_neg c11] at H; exact absurd H (by simp)
     · rw [if_neg c10] at H; exact absurd H (by simp)
    · rw [if_neg c9] at H; exact absurd H (by simp)
   · rw [if_neg c8] at H; exact absurd H (by simp)
  ·
   replace c7 := Bool.eq_false_iff.mpr c7; subst c7; replace H : (some (0, false)) = some (r1, r2) := by rw [if_neg (show ¬ (false = true) by decide)] at H; exact H
   simp only [Option.some.injEq, Prod.mk.injEq] at H; obtain ⟨rfl, rfl⟩ := H; go_enter Tryd.func26, Tryd.ntmps26
   go_wp2_with (first | ((with_reducible refine gate_dst (N := 3) rfl ?_); refine box_event ?hg (N := 3) ?hd (cs := #[.slice A0_0 l0_0.length c0_0, .slice A0_1 l0_1.length c0_1, .slice A0_2 l0_2.length c0_2]) (t := 25) ?hr ?_; (case hd => rfl); (case hg => rfl); (case hr => first | (go_simp; done) | (go_simp; rfl)); intro gb132 hg w42 hbox hb; have n0_ := Aside0.mk (below_step (eG HB.out) hb); have n1_ := Aside0.mk (hbox); have n2_ := Aside0.mk ((by rw [hg]; exact (below_size (eG HB.out)) : w.heap.size ≤ gb132)); have n3_ := Aside0.mk ((by rw [hg]; exact (below_size (eG HB.out)) : w.heap.size ≤ gb132)); clear HB; have HB := n0_; have BK132 := n1_; have GW132 := n2_; have GE132 := n3_; have ig132_ := geI GE132; clear n0_ n1_ n2_ n3_; clear hb hbox hg; have hcz43_0 : w42.cell? ⟨gb132, 0, none⟩ = some (.slice A0_0 l0_0.length c0_0) := (blk_cell BK132.out 0).trans rfl; have hcz43_1 : w42.cell? ⟨gb132, 1, none⟩ = some (.slice A0_1 l0_1.length c0_1) := (blk_cell BK132.out 1).trans rfl; have hcz43_2 : w42.cell? ⟨gb132, 2, none⟩ = some (.slice A0_2 l0_2.length c0_2) := (blk_cell BK132.out 2).trans rfl; have hfz43_0 := blk_frozen BK132.out 0; have hfz43_1 := blk_frozen BK132.out 1; have hfz43_2 := blk_frozen BK132.out 2) | ((with_reducible refine gate_callee (f := 31) rfl ?_); refine goesL_ (some 23) rfl rfl Tryd.func31 (by kernel_rfl) rfl #[.slice A0_0 l0_0.length c0_0, .int .i64 a1] rfl (by (try simp only [List.map_toArray, List.map_cons, List.map_nil]); first | done | rfl | (simp only [List.length_drop, List.length_take]; rfl)) ?_; (with_reducible refine (correct_place_int.calls k _ _ l0_0 a1 t133 true _ ?side1 ?side2 A4.out).mono ?_); (case side1 => repeat (first | exact (Kd.C_below HR0_0.out HB.out) | (with_reducible refine Kd.C_alloc ?_ _) | (with_reducible refine Kd.C_drewN ?_ _) | (with_reducible refine Kd.C_drew ?_))); (case side2 => exact HC0_0.out); rintro e w44 ⟨rfl, hb⟩; refine ⟨_, rfl, ?_⟩; have n0_ := Aside0.mk (blk_below (bG BK132.out) hb); have n1_ := Aside0.mk (below_step (eG HB.out) hb); clear BK132; clear HB; have BK132 := n0_; have HB := n1_; clear n0_ n1_; (try clear hb); (try clear hb2); (try clear hk); (try clear hi); have hcz45_0 : w44.cell? ⟨gb132, 0, none⟩ = some (.slice A0_0 l0_0.length c0_0) := (blk_cell BK132.out 0).trans rfl; have hcz45_1 : w44.cell? ⟨gb132, 1, none⟩ = some (.slice A0_1 l0_1.length c0_1) := (blk_cell BK132.out 1).trans rfl; have hcz45_2 : w44.cell? ⟨gb132, 2, none⟩ = some (.slice A0_2 l0_2.length c0_2) := (blk_cell BK132.out 2).trans rfl; have hfz45_0 := blk_frozen BK132.out 0; have hfz45_1 := blk_frozen BK132.out 1; have hfz45_2 := blk_frozen BK132.out 2) | ((with_reducible refine gate_callee (f := 31) rfl ?_); refine goesL_ (some 30) rfl rfl Tryd.func31 (by kernel_rfl) rfl #[.slice A0_1 l0_1.length c0_1, .int .i64 a2] rfl (by (try simp only [List.map_toArray, List.map_cons, List.map_nil]); first | done | rfl | (simp only [List.length_drop, List.length_take]; rfl)) ?_; (with_reducible refine (correct_place_int.calls k _ _ l0_1 a2 t135 false _ ?side1 ?side2 A5.out).mono ?_); (case side1 => repeat (first | exact (Kd.C_below HR0_1.out HB.out) | (with_reducible refine Kd.C_alloc ?_ _) | (with_reducible refine Kd.C_drewN ?_ _) | (with_reducible refine Kd.C_drew ?_))); (case side2 => exact HC0_1.out); rintro e w46 ⟨rfl, hb⟩; refine ⟨_, rfl, ?_⟩; have n0_ := Aside0.mk (blk_below (bG BK132.out) hb); have n1_ := Aside0.mk (below_step (eG HB.out) hb); clear BK132; clear HB; have BK132 := n0_; have HB := n1_; clear n0_ n1_; (try clear hb); (try clear hb2); (try clear hk); (try clear hi)))
   go_ret2
   exact ⟨by first | rfl | (simp [errW_none, errW_some] <;> rfl) | (simp [*, errW_none, errW_some] <;> rfl), eG HB.out⟩
 ·
  replace c6 := Bool.eq_false_iff.mpr c6; subst c6; replace H : (some (0, false)) = some (r1, r2) := by rw [if_neg (show ¬ (false = true) by decide)] at H; exact H
  simp only [Option.some.injEq, Prod.mk.injEq] at H; obtain ⟨rfl, rfl⟩ := H; go_enter Tryd.func26, Tryd.ntmps26
  go_wp2_with (first | ((with_reducible refine gate_dst (N := 3) rfl ?_); refine box_event ?hg (N := 3) ?hd (cs := #[.slice A0_0 l0_0.length c0_0, .slice A0_1 l0_1.length c0_1, .slice A0_2 l0_2.length c0_2]) (t := 25) ?hr ?_; (case hd => rfl); (case hg => rfl); (case hr => first | (go_simp; done) | (go_simp; rfl)); intro gb132 hg w47 hbox hb; have n0_ := Aside0.mk (below_step (eG HB.out) hb); have n1_ := Aside0.mk (hbox); have n2_ := Aside0.mk ((by rw [hg]; exact (below_size (eG HB.out)) : w.heap.size ≤ gb132)); have n3_ := Aside0.mk ((by rw [hg]; exact (below_size (eG HB.out)) : w.heap.size ≤ gb132)); clear HB; have HB := n0_; have BK132 := n1_; have GW132 := n2_; have GE132 := n3_; have ig132_ := geI GE132; clear n0_ n1_ n2_ n3_; clear hb hbox hg; have hcz48_0 : w47.cell? ⟨gb132, 0, none⟩ = some (.slice A0_0 l0_0.length c0_0) := (blk_cell BK132.out 0).trans rfl; have hcz48_1 : w47.cell? ⟨gb132, 1, none⟩ = some (.slice A0_1 l0_1.length c0_1) := (blk_cell BK132.out 1).trans rfl; have hcz48_2 : w47.cell? ⟨gb132, 2, none⟩ = some (.slice A0_2 l0_2.length c0_2) := (blk_cell BK132.out 2).trans rfl; have hfz48_0 := blk_frozen BK132.out 0; have hfz48_1 := blk_frozen BK132.out 1; have hfz48_2 := blk_frozen BK132.out 2) | ((with_reducible refine gate_callee (f := 31) rfl ?_); refine goesL_ (some 23) rfl rfl Tryd.func31 (by kernel_rfl) rfl #[.slice A0_0 l0_0.length c0_0, .int .i64 a1] rfl (by (try simp only [List.map_toArray, List.map_cons, List.map_nil]); first | done | rfl | (simp only [List.length_drop, List.length_take]; rfl)) ?_; (with_reducible refine (correct_place_int.calls k _ _ l0_0 a1 t133 false _ ?side1 ?side2 A4.out).mono ?_); (case side1 => repeat (first | exact (Kd.C_below HR0_0.out HB.out) | (with_reducible refine Kd.C_alloc ?_ _) | (with_reducible refine Kd.C_drewN ?_ _) | (with_reducible refine Kd.C_drew ?_))); (case side2 => exact HC0_0.out); rintro e w49 ⟨rfl, hb⟩; refine ⟨_, rfl, ?_⟩; have n0_ := Aside0.mk (blk_below (bG BK132.out) hb); have n1_ := Aside0.mk (below_step (eG HB.out) hb); clear BK132; clear HB; have BK132 := n0_; have HB := n1_; clear n0_ n1_; (try clear hb); (try clear hb2); (try clear hk); (try clear hi); have hcz50_0 : w49.cell? ⟨gb132, 0, none⟩ = some (.slice A0_0 l0_0.length c0_0) := (blk_cell BK132.out 0).trans rfl; have hcz50_1 : w49.cell? ⟨gb132, 1, none⟩ = some (.slice A0_1 l0_1.length c0_1) := (blk_cell BK132.out 1).trans rfl; have hcz50_2 : w49.cell? ⟨gb132, 2, none⟩ = some (.slice A0_2 l0_2.length c0_2) := (blk_cell BK132.out 2).trans rfl; have hfz50_0 := blk_frozen BK132.out 0; have hfz50_1 := blk_frozen BK132.out 1; have hfz50_2 := blk_frozen BK132.out 2) | ((with_reducible refine gate_callee (f := 31) rfl ?_); refine goesL_ (some 30) rfl rfl Tryd.func31 (by kernel_rfl) rfl #[.slice A0_1 l0_1.length c0_1, .int .i64 a2] rfl (by (try simp only [List.map_toArray, List.map_cons, List.map_nil]); first | done | rfl | (simp only [List.length_drop, List.length_take]; rfl)) ?_; (with_reducible refine (correct_place_int.calls k _ _ l0_1 a2 t135 t136 _ ?side1 ?side2 A5.out).mono ?_); (case side1 => repeat (first | exact (Kd.C_below HR0_1.out HB.out) | (with_reducible refine Kd.C_alloc ?_ _) | (with_reducible refine Kd.C_drewN ?_ _) | (with_reducible refine Kd.C_drew ?_))); (case side2 => exact HC0_1.out); rintro e w51 ⟨rfl, hb⟩; refine ⟨_, rfl, ?_⟩; have n0_ := Aside0.mk (blk_below (bG BK132.out) hb); have n1_ := Aside0.mk (below_step (eG HB.out) hb); clear BK132; clear HB; have BK132 := n0_; have HB := n1_; clear n0_ n1_; (try clear hb); (try clear hb2); (try clear hk); (try clear hi)))
  go_ret2
  exact ⟨by first | rfl | (simp [errW_none, errW_some] <;> rfl) | (simp [*, errW_none, errW_some] <;> rfl), eG HB.out⟩
end Go.Proofs.YtmdfnambaedllaaDoor.Pr
namespace Go.Proofs
open Go.Shelf
def Tryd.lays172_ren : Go.Shelf.Ren := ⟨fun | 172 => 75 | 244 => 85 | 245 => 86 | 247 => 93 | 279 => 94 | 280 => 95 | 281 => 96 | 282 => 97 | 287 => 100 | 316 => 101 | 171 => 58 | 205 => 102 | 321 => 103 | 322 => 104 | 243 => 64 | 246 => 70 | 283 => 79 | 284 => 80 | 285 => 81 | 286 => 82 | 129 => 89 | 317 => 88 | 318 => 90 | 319 => 91 | 320 => 92 | 337 => 98 | 338 => 99 | n => n, fun | 9 => 9 | 3 => 3 | 75 => 90 | 76 => 91 | 4 => 4 | 5 => 5 | 167 => 111 | 37 => 100 | 0 => 0 | 85 => 112 | 2 => 2 | 168 => 114 | 53 => 97 | 175 => 122 | 46 => 77 | 210 => 126 | 127 => 132 | 145 => 135 | 143 => 133 | 21 => 21 | 171 => 96 | 173 => 101 | 212 => 108 | 51 => 103 | 20 => 20 | 213 => 109 | 232 => 128 | 233 => 129 | 80 => 136 | n => n, fun | 15 => 4 | 16 => 5 | 17 => 1 | 18 => 6 | 19 => 7 | n => n⟩
theorem Tryd.lays172 : Go.Proofs.Lays.n172 Tryd.prog Tryd.lays172_ren := {
  mixed := by kernel_rfl
  f129 := Tryd.func89.trans (congrArg some (by kernel_rfl))
  f171 := Tryd.func58.trans (congrArg some (by kernel_rfl))
  f172 := Tryd.func75.trans (congrArg some (by kernel_rfl))
  f205 := Tryd.func102.trans (congrArg some (by kernel_rfl))
  f243 := Tryd.func64.trans (congrArg some (by kernel_rfl))
  f244 := Tryd.func85.trans (congrArg some (by kernel_rfl))
  f245 := Tryd.func86.trans (congrArg some (by kernel_rfl))
  f246 := Tryd.func70.trans (congrArg some (by kernel_rfl))
  f247 := Tryd.func93.trans (congrArg some (by kernel_rfl))
  f279 := Tryd.func94.trans (congrArg some (by kernel_rfl))
  f280 := Tryd.func95.trans (congrArg some (by kernel_rfl))
  f281 := Tryd.func96.trans (congrArg some (by kernel_rfl))
  f282 := Tryd.func97.trans (congrArg some (by kernel_rfl))
  f283 := Tryd.func79.trans (congrArg some (by kernel_rfl))
  f284 := Tryd.func80.trans (congrArg some (by kernel_rfl))
  f285 := Tryd.func81.trans (congrArg some (by kernel_rfl))
  f286 := Tryd.func82.trans (congrArg some (by kernel_rfl))
  f287 := Tryd.func100.trans (congrArg some (by kernel_rfl))
  f316 := Tryd.func101.trans (congrArg some (by kernel_rfl))
  f317 := Tryd.func88.trans (congrArg some (by kernel_rfl))
  f318 := Tryd.func90.trans (congrArg some (by kernel_rfl))
  f319 := Tryd.func91.trans (congrArg some (by kernel_rfl))
  f320 := Tryd.func92.trans (congrArg some (by kernel_rfl))
  f321 := Tryd.func103.trans (congrArg some (by kernel_rfl))
  f322 := Tryd.func104.trans (congrArg some (by kernel_rfl))
  f337 := Tryd.func98.trans (congrArg some (by kernel_rfl))
  f338 := Tryd.func99.trans (congrArg some (by kernel_rfl))
  t0 := Tryd.underlying0
  a0 := Tryd.isAgg0
  z0 := Tryd.sizeOf0
  v0 := Tryd.zeroValue0
  t2 := Tryd.underlying2
  a2 := Tryd.isAgg2
  z2 := Tryd.sizeOf2
  v2 := Tryd.zeroValue2
  t3 := Tryd.underlying3
  a3 := Tryd.isAgg3
  z3 := Tryd.sizeOf3
  v3 := Tryd.zeroValue3
  t4 := Tryd.underlying4
  a4 := Tryd.isAgg4
  z4 := Tryd.sizeOf4
  v4 := Tryd.zeroValue4
  t5 := Tryd.underlying5
  a5 := Tryd.isAgg5
  z5 := Tryd.sizeOf5
  v5 := Tryd.zeroValue5
  t9 := Tryd.underlying9
  a9 := Tryd.isAgg9
  z9 := Tryd.sizeOf9
  v9 := Tryd.zeroValue9
  t20 := Tryd.underlying20
  a20 := Tryd.isAgg20
  z20 := Tryd.sizeOf20
  v20 := Tryd.zeroValue20
  t21 := Tryd.underlying21
  a21 := Tryd.isAgg21
  z21 := Tryd.sizeOf21
  v21 := Tryd.zeroValue21
  t37 := Tryd.underlying100
  a37 := Tryd.isAgg100
  z37 := Tryd.sizeOf100
  v37 := Tryd.zeroValue100
  t46 := Tryd.underlying77
  a46 := Tryd.isAgg77
  z46 := Tryd.sizeOf77
  v46 := Tryd.zeroValue77
  t51 := Tryd.underlying103
  a51 := Tryd.isAgg103
  z51 := Tryd.sizeOf103
  v51 := Tryd.zeroValue103
  t53 := Tryd.underlying97
  a53 := Tryd.isAgg97
  z53 := Tryd.sizeOf97
  v53 := Tryd.zeroValue97
  t75 := Tryd.underlying90
  a75 := Tryd.isAgg90
  z75 := Tryd.sizeOf90
  v75 := Tryd.zeroValue90
  t76 := Tryd.underlying91
  a76 := Tryd.isAgg91
  z76 := Tryd.sizeOf91
  v76 := Tryd.zeroValue91
  t85 := Tryd.underlying112
  a85 := Tryd.isAgg112
  z85 := Tryd.sizeOf112
  v85 := Tryd.zeroValue112
  t127 := Tryd.underlying132
  a127 := Tryd.isAgg132
  z127 := Tryd.sizeOf132
  v127 := Tryd.zeroValue132
  t143 := Tryd.underlying133
  a143 := Tryd.isAgg133
  z143 := Tryd.sizeOf133
  v143 := Tryd.zeroValue133
  t145 := Tryd.underlying135
  a145 := Tryd.isAgg135
  z145 := Tryd.sizeOf135
  v145 := Tryd.zeroValue135
  t167 := Tryd.underlying111
  a167 := Tryd.isAgg111
  z167 := Tryd.sizeOf111
  v167 := Tryd.zeroValue111
  t168 := Tryd.underlying114
  a168 := Tryd.isAgg114
  z168 := Tryd.sizeOf114
  v168 := Tryd.zeroValue114
  t171 := Tryd.underlying96
  a171 := Tryd.isAgg96
  z171 := Tryd.sizeOf96
  v171 := Tryd.zeroValue96
  t173 := Tryd.underlying101
  a173 := Tryd.isAgg101
  z173 := Tryd.sizeOf101
  v173 := Tryd.zeroValue101
  t175 := Tryd.underlying122
  a175 := Tryd.isAgg122
  z175 := Tryd.sizeOf122
  v175 := Tryd.zeroValue122
  t210 := Tryd.underlying126
  a210 := Tryd.isAgg126
  z210 := Tryd.sizeOf126
  v210 := Tryd.zeroValue126
  t212 := Tryd.underlying108
  a212 := Tryd.isAgg108
  z212 := Tryd.sizeOf108
  v212 := Tryd.zeroValue108
  t213 := Tryd.underlying109
  a213 := Tryd.isAgg109
  z213 := Tryd.sizeOf109
  t232 := Tryd.underlying128
  a232 := Tryd.isAgg128
  z232 := Tryd.sizeOf128
  v232 := Tryd.zeroValue128
  t233 := Tryd.underlying129
  a233 := Tryd.isAgg129
  z233 := Tryd.sizeOf129
  v233 := Tryd.zeroValue129
  g15 := by kernel_rfl
  g16 := by kernel_rfl
  g17 := by kernel_rfl
  g18 := by kernel_rfl
  g19 := by kernel_rfl }
open Go.RowKit in /-- strconv.Atoi: "Atoi is equivalent to ParseInt(s, 10, 0), converted to type int.": AT A DECIMAL NUMERAL OF AT MOST 18 BYTES: its value, and a nil error. The world behind the call: the one new row that the library's '[]byte(s)' lays. (LAID: no walk: one application.) -/ theorem Tryd.strconv_Atoi (s : ByteArray) (n : Int) (hl : s.size ≤ 18) (h : Lib.atoi s.data.toList = some n) (w : World) : Calls Tryd.prog 75 #[.string s] w fun e w' => e = .returned (.tuple #[.int .i64 n, .nilIface]) ∧ ∃ t, w' = Lib.bytesWorld w 5 t := Any.strconv_Atoi Tryd.lays172 s n hl h w
def Tryd.laysM171_ren : Go.Shelf.Ren := ⟨fun | 171 => 58 | 243 => 64 | 246 => 70 | 283 => 79 | 284 => 80 | 285 => 81 | 286 => 82 | 129 => 89 | 317 => 88 | 318 => 90 | 319 => 91 | 320 => 92 | 337 => 98 | 338 => 99 | n => n, fun | 3 => 3 | 9 => 9 | 2 => 2 | 4 => 4 | 171 => 96 | 0 => 0 | 53 => 97 | 37 => 100 | 5 => 5 | 173 => 101 | 212 => 108 | 51 => 103 | 20 => 20 | 213 => 109 | 46 => 77 | 232 => 128 | 233 => 129 | n => n, fun | 17 => 1 | 18 => 6 | 19 => 7 | n => n⟩
theorem Tryd.laysM171 : Go.Proofs.LaysM.n171 Tryd.prog Tryd.laysM171_ren := {
  mixed := by kernel_rfl
  f129 := Tryd.func89.trans (congrArg some (by kernel_rfl))
  f171 := Tryd.func58.trans (congrArg some (by kernel_rfl))
  f243 := Tryd.func64.trans (congrArg some (by kernel_rfl))
  f246 := Tryd.func70.trans (congrArg some (by kernel_rfl))
  f283 := Tryd.func79.trans (congrArg some (by kernel_rfl))
  f284 := Tryd.func80.trans (congrArg some (by kernel_rfl))
  f285 := Tryd.func81.trans (congrArg some (by kernel_rfl))
  f286 := Tryd.func82.trans (congrArg some (by kernel_rfl))
  f317 := Tryd.func88.trans (congrArg some (by kernel_rfl))
  f318 := Tryd.func90.trans (congrArg some (by kernel_rfl))
  f319 := Tryd.func91.trans (congrArg some (by kernel_rfl))
  f320 := Tryd.func92.trans (congrArg some (by kernel_rfl))
  f337 := Tryd.func98.trans (congrArg some (by kernel_rfl))
  f338 := Tryd.func99.trans (congrArg some (by kernel_rfl))
  t0 := Tryd.underlying0
  a0 := Tryd.isAgg0
  z0 := Tryd.sizeOf0
  v0 := Tryd.zeroValue0
  t2 := Tryd.underlying2
  a2 := Tryd.isAgg2
  z2 := Tryd.sizeOf2
  v2 := Tryd.zeroValue2
  t3 := Tryd.underlying3
  a3 := Tryd.isAgg3
  z3 := Tryd.sizeOf3
  v3 := Tryd.zeroValue3
  t4 := Tryd.underlying4
  a4 := Tryd.isAgg4
  z4 := Tryd.sizeOf4
  v4 := Tryd.zeroValue4
  t5 := Tryd.underlying5
  a5 := Tryd.isAgg5
  z5 := Tryd.sizeOf5
  v5 := Tryd.zeroValue5
  t9 := Tryd.underlying9
  a9 := Tryd.isAgg9
  z9 := Tryd.sizeOf9
  v9 := Tryd.zeroValue9
  t20 := Tryd.underlying20
  a20 := Tryd.isAgg20
  z20 := Tryd.sizeOf20
  v20 := Tryd.zeroValue20
  t37 := Tryd.underlying100
  a37 := Tryd.isAgg100
  z37 := Tryd.sizeOf100
  v37 := Tryd.zeroValue100
  t46 := Tryd.underlying77
  a46 := Tryd.isAgg77
  z46 := Tryd.sizeOf77
  v46 := Tryd.zeroValue77
  t51 := Tryd.underlying103
  a51 := Tryd.isAgg103
  z51 := Tryd.sizeOf103
  v51 := Tryd.zeroValue103
  t53 := Tryd.underlying97
  a53 := Tryd.isAgg97
  z53 := Tryd.sizeOf97
  v53 := Tryd.zeroValue97
  t171 := Tryd.underlying96
  a171 := Tryd.isAgg96
  z171 := Tryd.sizeOf96
  v171 := Tryd.zeroValue96
  t173 := Tryd.underlying101
  a173 := Tryd.isAgg101
  z173 := Tryd.sizeOf101
  v173 := Tryd.zeroValue101
  t212 := Tryd.underlying108
  a212 := Tryd.isAgg108
  z212 := Tryd.sizeOf108
  v212 := Tryd.zeroValue108
  t213 := Tryd.underlying109
  a213 := Tryd.isAgg109
  z213 := Tryd.sizeOf109
  t232 := Tryd.underlying128
  a232 := Tryd.isAgg128
  z232 := Tryd.sizeOf128
  v232 := Tryd.zeroValue128
  t233 := Tryd.underlying129
  a233 := Tryd.isAgg129
  z233 := Tryd.sizeOf129
  v233 := Tryd.zeroValue129
  g17 := by kernel_rfl
  g18 := by kernel_rfl
  g19 := by kernel_rfl
  i0 := by kernel_rfl
  i2 := by kernel_rfl
  i3 := by kernel_rfl
  i4 := by kernel_rfl
  i5 := by kernel_rfl
  i9 := by kernel_rfl
  i20 := by kernel_rfl
  i37 := by kernel_rfl
  i46 := by kernel_rfl
  i51 := by kernel_rfl
  i53 := by kernel_rfl
  i171 := by kernel_rfl
  i173 := by kernel_rfl
  i212 := by kernel_rfl
  i232 := by kernel_rfl
  i233 := by kernel_rfl
  m17 := by kernel_rfl
  m18 := by kernel_rfl
  m19 := by kernel_rfl }
open Go.RowKit Go.Sort Go.Lib in /-- strconv.Itoa: "Itoa is equivalent to FormatInt(int64(i), 10).": i's DECIMAL NUMERAL ('Lib.itoa': a '-' where i is negative, then the digits), FOR EVERY int. The world behind the call: the world before it, new blocks behind the heap (the library's 'var a [24]byte'), draws. (LAID: no walk: one application.) -/ theorem Tryd.strconv_Itoa (n : Int) (h0 : -9223372036854775808 ≤ n) (h1 : n ≤ 9223372036854775807) (w : World) (htab : Lib.TabIs Tryd.prog w "internal/strconv.uint64pow10" .u64 Lib.pow10Tab) : Calls Tryd.prog 58 #[.int .i64 n] w fun e w' => e = .returned (.string ⟨(Lib.itoa n).toArray⟩) ∧ ∃ k os, w' = grow (w.drewN k) os := Any.strconv_Itoa Tryd.laysM171 n h0 h1 w htab
def Tryd.laysC172_ren : Go.Shelf.Ren := ⟨fun | 172 => 75 | 244 => 85 | 245 => 86 | 247 => 93 | 279 => 94 | 280 => 95 | 281 => 96 | 282 => 97 | 287 => 100 | 316 => 101 | 171 => 58 | 205 => 102 | 321 => 103 | 322 => 104 | 243 => 64 | 246 => 70 | 283 => 79 | 284 => 80 | 285 => 81 | 286 => 82 | 129 => 89 | 317 => 88 | 318 => 90 | 319 => 91 | 320 => 92 | 337 => 98 | 338 => 99 | n => n, fun | 9 => 9 | 3 => 3 | 75 => 90 | 76 => 91 | 4 => 4 | 5 => 5 | 167 => 111 | 37 => 100 | 0 => 0 | 85 => 112 | 2 => 2 | 168 => 114 | 53 => 97 | 175 => 122 | 46 => 77 | 210 => 126 | 127 => 132 | 145 => 135 | 143 => 133 | 21 => 21 | 171 => 96 | 173 => 101 | 212 => 108 | 51 => 103 | 20 => 20 | 213 => 109 | 232 => 128 | 233 => 129 | 80 => 136 | n => n, fun | 15 => 4 | 16 => 5 | 17 => 1 | 18 => 6 | 19 => 7 | n => n⟩
theorem Tryd.laysC172 : Go.Proofs.LaysC.n172 Tryd.prog Tryd.laysC172_ren := {
  mixed := by kernel_rfl
  f129 := Tryd.func89.trans (congrArg some (by kernel_rfl))
  f171 := Tryd.func58.trans (congrArg some (by kernel_rfl))
  f172 := Tryd.func75.trans (congrArg some (by kernel_rfl))
  f205 := Tryd.func102.trans (congrArg some (by kernel_rfl))
  f243 := Tryd.func64.trans (congrArg some (by kernel_rfl))
  f244 := Tryd.func85.trans (congrArg some (by kernel_rfl))
  f245 := Tryd.func86.trans (congrArg some (by kernel_rfl))
  f246 := Tryd.func70.trans (congrArg some (by kernel_rfl))
  f247 := Tryd.func93.trans (congrArg some (by kernel_rfl))
  f279 := Tryd.func94.trans (congrArg some (by kernel_rfl))
  f280 := Tryd.func95.trans (congrArg some (by kernel_rfl))
  f281 := Tryd.func96.trans (congrArg some (by kernel_rfl))
  f282 := Tryd.func97.trans (congrArg some (by kernel_rfl))
  f283 := Tryd.func79.trans (congrArg some (by kernel_rfl))
  f284 := Tryd.func80.trans (congrArg some (by kernel_rfl))
  f285 := Tryd.func81.trans (congrArg some (by kernel_rfl))
  f286 := Tryd.func82.trans (congrArg some (by kernel_rfl))
  f287 := Tryd.func100.trans (congrArg some (by kernel_rfl))
  f316 := Tryd.func101.trans (congrArg some (by kernel_rfl))
  f317 := Tryd.func88.trans (congrArg some (by kernel_rfl))
  f318 := Tryd.func90.trans (congrArg some (by kernel_rfl))
  f319 := Tryd.func91.trans (congrArg some (by kernel_rfl))
  f320 := Tryd.func92.trans (congrArg some (by kernel_rfl))
  f321 := Tryd.func103.trans (congrArg some (by kernel_rfl))
  f322 := Tryd.func104.trans (congrArg some (by kernel_rfl))
  f337 := Tryd.func98.trans (congrArg some (by kernel_rfl))
  f338 := Tryd.func99.trans (congrArg some (by kernel_rfl))
  t0 := Tryd.underlying0
  a0 := Tryd.isAgg0
  z0 := Tryd.sizeOf0
  v0 := Tryd.zeroValue0
  t2 := Tryd.underlying2
  a2 := Tryd.isAgg2
  z2 := Tryd.sizeOf2
  v2 := Tryd.zeroValue2
  t3 := Tryd.underlying3
  a3 := Tryd.isAgg3
  z3 := Tryd.sizeOf3
  v3 := Tryd.zeroValue3
  t4 := Tryd.underlying4
  a4 := Tryd.isAgg4
  z4 := Tryd.sizeOf4
  v4 := Tryd.zeroValue4
  t5 := Tryd.underlying5
  a5 := Tryd.isAgg5
  z5 := Tryd.sizeOf5
  v5 := Tryd.zeroValue5
  t9 := Tryd.underlying9
  a9 := Tryd.isAgg9
  z9 := Tryd.sizeOf9
  v9 := Tryd.zeroValue9
  t20 := Tryd.underlying20
  a20 := Tryd.isAgg20
  z20 := Tryd.sizeOf20
  v20 := Tryd.zeroValue20
  t21 := Tryd.underlying21
  a21 := Tryd.isAgg21
  z21 := Tryd.sizeOf21
  v21 := Tryd.zeroValue21
  t37 := Tryd.underlying100
  a37 := Tryd.isAgg100
  z37 := Tryd.sizeOf100
  v37 := Tryd.zeroValue100
  t46 := Tryd.underlying77
  a46 := Tryd.isAgg77
  z46 := Tryd.sizeOf77
  v46 := Tryd.zeroValue77
  t51 := Tryd.underlying103
  a51 := Tryd.isAgg103
  z51 := Tryd.sizeOf103
  v51 := Tryd.zeroValue103
  t53 := Tryd.underlying97
  a53 := Tryd.isAgg97
  z53 := Tryd.sizeOf97
  v53 := Tryd.zeroValue97
  t75 := Tryd.underlying90
  a75 := Tryd.isAgg90
  z75 := Tryd.sizeOf90
  v75 := Tryd.zeroValue90
  t76 := Tryd.underlying91
  a76 := Tryd.isAgg91
  z76 := Tryd.sizeOf91
  v76 := Tryd.zeroValue91
  t85 := Tryd.underlying112
  a85 := Tryd.isAgg112
  z85 := Tryd.sizeOf112
  v85 := Tryd.zeroValue112
  t127 := Tryd.underlying132
  a127 := Tryd.isAgg132
  z127 := Tryd.sizeOf132
  v127 := Tryd.zeroValue132
  t143 := Tryd.underlying133
  a143 := Tryd.isAgg133
  z143 := Tryd.sizeOf133
  v143 := Tryd.zeroValue133
  t145 := Tryd.underlying135
  a145 := Tryd.isAgg135
  z145 := Tryd.sizeOf135
  v145 := Tryd.zeroValue135
  t167 := Tryd.underlying111
  a167 := Tryd.isAgg111
  z167 := Tryd.sizeOf111
  v167 := Tryd.zeroValue111
  t168 := Tryd.underlying114
  a168 := Tryd.isAgg114
  z168 := Tryd.sizeOf114
  v168 := Tryd.zeroValue114
  t171 := Tryd.underlying96
  a171 := Tryd.isAgg96
  z171 := Tryd.sizeOf96
  v171 := Tryd.zeroValue96
  t173 := Tryd.underlying101
  a173 := Tryd.isAgg101
  z173 := Tryd.sizeOf101
  v173 := Tryd.zeroValue101
  t175 := Tryd.underlying122
  a175 := Tryd.isAgg122
  z175 := Tryd.sizeOf122
  v175 := Tryd.zeroValue122
  t210 := Tryd.underlying126
  a210 := Tryd.isAgg126
  z210 := Tryd.sizeOf126
  v210 := Tryd.zeroValue126
  t212 := Tryd.underlying108
  a212 := Tryd.isAgg108
  z212 := Tryd.sizeOf108
  v212 := Tryd.zeroValue108
  t213 := Tryd.underlying109
  a213 := Tryd.isAgg109
  z213 := Tryd.sizeOf109
  t232 := Tryd.underlying128
  a232 := Tryd.isAgg128
  z232 := Tryd.sizeOf128
  v232 := Tryd.zeroValue128
  t233 := Tryd.underlying129
  a233 := Tryd.isAgg129
  z233 := Tryd.sizeOf129
  v233 := Tryd.zeroValue129
  g15 := by kernel_rfl
  g16 := by kernel_rfl
  g17 := by kernel_rfl
  g18 := by kernel_rfl
  g19 := by kernel_rfl
  t80 := Tryd.underlying136
  a80 := Tryd.isAgg136
  z80 := Tryd.sizeOf136
  v80 := Tryd.zeroValue136
  i0 := by kernel_rfl
  i2 := by kernel_rfl
  i3 := by kernel_rfl
  i4 := by kernel_rfl
  i5 := by kernel_rfl
  i9 := by kernel_rfl
  i20 := by kernel_rfl
  i21 := by kernel_rfl
  i37 := by kernel_rfl
  i46 := by kernel_rfl
  i51 := by kernel_rfl
  i53 := by kernel_rfl
  i75 := by kernel_rfl
  i76 := by kernel_rfl
  i80 := by kernel_rfl
  i85 := by kernel_rfl
  i127 := by kernel_rfl
  i143 := by kernel_rfl
  i145 := by kernel_rfl
  i167 := by kernel_rfl
  i168 := by kernel_rfl
  i171 := by kernel_rfl
  i173 := by kernel_rfl
  i175 := by kernel_rfl
  i210 := by kernel_rfl
  i212 := by kernel_rfl
  i232 := by kernel_rfl
  i233 := by kernel_rfl
  m15 := by kernel_rfl
  m16 := by kernel_rfl
  m17 := by kernel_rfl
  m18 := by kernel_rfl
  m19 := by kernel_rfl
  c0 := by kernel_rfl
  c2 := by kernel_rfl
  c3 := by kernel_rfl
  c4 := by kernel_rfl
  c5 := by kernel_rfl
  c9 := by kernel_rfl
  c20 := by kernel_rfl
  c21 := by kernel_rfl
  c37 := by kernel_rfl
  c46 := by kernel_rfl
  c51 := by kernel_rfl
  c53 := by kernel_rfl
  c75 := by kernel_rfl
  c76 := by kernel_rfl
  c80 := by kernel_rfl
  c85 := by kernel_rfl
  c127 := by kernel_rfl
  c143 := by kernel_rfl
  c145 := by kernel_rfl
  c167 := by kernel_rfl
  c168 := by kernel_rfl
  c171 := by kernel_rfl
  c173 := by kernel_rfl
  c175 := by kernel_rfl
  c210 := by kernel_rfl
  c212 := by kernel_rfl
  c213 := by kernel_rfl
  c232 := by kernel_rfl
  c233 := by kernel_rfl }
open Go.RowKit in /-- strconv.Atoi, AT EVERY STRING THAT SPELLS AN int ('Lib.atoiAll .. = .ok v'; of whatever length: leading zeros count): v, AND NO ERROR. The world: as it was, or with the one new row that '[]byte(..)' lays. (LAID: no walk: one application.) -/ theorem Tryd.strconv_Atoi_ok (s : ByteArray) (hmax : s.size ≤ 9223372036854775806) (v : Int) (h : Lib.atoiAll s.data.toList = .ok v) (w : World) : Calls Tryd.prog 75 #[.string s] w fun e w' => e = .returned (.tuple #[.int .i64 v, .nilIface]) ∧ (w' = w ∨ ∃ t, w' = Lib.bytesWorld w 5 t) := Any.strconv_Atoi_ok Tryd.laysC172 s hmax v h w
open Go.RowKit in theorem Tryd.strconv_Atoi_syntax_var (s : ByteArray) (hlim : s.size ≤ 281474976710656) (h : Lib.atoiAll s.data.toList = Lib.NumEnd.syntax) (tp : TypeId) (p : Value) (w : World) (hvar : w.var? Tryd.prog "strconv.ErrSyntax" = some #[.iface tp p]) : Calls Tryd.prog 75 #[.string s] w fun e w' => ∃ N, e = .returned (.tuple #[.int .i64 0, .iface 114 (.pointer (some ⟨N, 0, none⟩))]) ∧ w.heap.size ≤ N ∧ w'.heap[N]? = some (.cells #[.string ⟨#[65, 116, 111, 105]⟩, .string s, .iface tp p] 126 (0, 0)) ∧ Below w.heap.size w w' := Any.strconv_Atoi_syntax_var Tryd.laysC172 s hlim h tp p w hvar
open Go.RowKit in theorem Tryd.strconv_Atoi_range_var (s : ByteArray) (hlim : s.size ≤ 281474976710656) (h : Lib.atoiAll s.data.toList = .range) (tp : TypeId) (p : Value) (w : World) (hvar : w.var? Tryd.prog "strconv.ErrRange" = some #[.iface tp p]) : Calls Tryd.prog 75 #[.string s] w fun e w' => ∃ N, e = .returned (.tuple #[.int .i64 (Lib.atoiSat s.data.toList), .iface 114 (.pointer (some ⟨N, 0, none⟩))]) ∧ w.heap.size ≤ N ∧ w'.heap[N]? = some (.cells #[.string ⟨#[65, 116, 111, 105]⟩, .string s, .iface tp p] 126 (0, 0)) ∧ Below w.heap.size w w' := Any.strconv_Atoi_range_var Tryd.laysC172 s hlim h tp p w hvar
def Tryd.lays145_ren : Go.Shelf.Ren := ⟨fun | 145 => 46 | 220 => 60 | 219 => 65 | 217 => 71 | 225 => 72 | 224 => 73 | 267 => 74 | 266 => 83 | 314 => 84 | n => n, fun | 9 => 9 | 4 => 4 | 59 => 61 | 3 => 3 | 5 => 5 | 46 => 77 | 146 => 104 | 51 => 103 | n => n, fun | 1 => 0 | n => n⟩
theorem Tryd.lays145 : Go.Proofs.Lays.n145 Tryd.prog Tryd.lays145_ren := {
  mixed := by kernel_rfl
  f145 := Tryd.func46.trans (congrArg some (by kernel_rfl))
  f217 := Tryd.func71.trans (congrArg some (by kernel_rfl))
  f219 := Tryd.func65.trans (congrArg some (by kernel_rfl))
  f220 := Tryd.func60.trans (congrArg some (by kernel_rfl))
  f224 := Tryd.func73.trans (congrArg some (by kernel_rfl))
  f225 := Tryd.func72.trans (congrArg some (by kernel_rfl))
  f266 := Tryd.func83.trans (congrArg some (by kernel_rfl))
  f267 := Tryd.func74.trans (congrArg some (by kernel_rfl))
  f314 := Tryd.func84.trans (congrArg some (by kernel_rfl))
  t3 := Tryd.underlying3
  a3 := Tryd.isAgg3
  z3 := Tryd.sizeOf3
  v3 := Tryd.zeroValue3
  t4 := Tryd.underlying4
  a4 := Tryd.isAgg4
  z4 := Tryd.sizeOf4
  v4 := Tryd.zeroValue4
  t5 := Tryd.underlying5
  a5 := Tryd.isAgg5
  z5 := Tryd.sizeOf5
  v5 := Tryd.zeroValue5
  t9 := Tryd.underlying9
  a9 := Tryd.isAgg9
  z9 := Tryd.sizeOf9
  v9 := Tryd.zeroValue9
  t46 := Tryd.underlying77
  a46 := Tryd.isAgg77
  z46 := Tryd.sizeOf77
  v46 := Tryd.zeroValue77
  t51 := Tryd.underlying103
  a51 := Tryd.isAgg103
  z51 := Tryd.sizeOf103
  v51 := Tryd.zeroValue103
  t59 := Tryd.underlying61
  a59 := Tryd.isAgg61
  z59 := Tryd.sizeOf61
  v59 := Tryd.zeroValue61
  t146 := Tryd.underlying104
  a146 := Tryd.isAgg104
  z146 := Tryd.sizeOf104
  v146 := Tryd.zeroValue104
  g1 := by kernel_rfl }
open Go.RowKit Go.Lib in /-- strings.Cut: "Cut slices s around the first instance of sep, returning the text before and after sep. The found result reports whether sep appears in s. If sep does not appear in s, cut returns s, "", false.": IT RETURNS 'Lib.cut s sep'; the world is as it was but for the count of draws. (LAID: no walk: one application.) -/ theorem Tryd.strings_Cut (s sep : ByteArray) (m : Int) (w : World) (hs : s.size < 4294967281) (hm : w.cell? ⟨0, 0, none⟩ = some (.int .i64 m)) : Calls Tryd.prog 46 #[.string s, .string sep] w fun e w' => e = .returned (.tuple #[.string ⟨(Lib.cut s.data.toList sep.data.toList).1.toArray⟩, .string ⟨(Lib.cut s.data.toList sep.data.toList).2.1.toArray⟩, .bool (Lib.cut s.data.toList sep.data.toList).2.2]) ∧ ∃ n, w' = w.drewN n := Any.strings_Cut Tryd.lays145 s sep m w hs hm
def Tryd.lays146_ren : Go.Shelf.Ren := ⟨fun | 146 => 48 | 221 => 62 | 268 => 67 | 138 => 68 | 143 => 69 | 195 => 76 | 197 => 77 | 218 => 78 | 219 => 65 | 260 => 87 | 217 => 71 | 225 => 72 | 224 => 73 | 267 => 74 | 266 => 83 | 314 => 84 | n => n, fun | 9 => 9 | 31 => 65 | 3 => 3 | 4 => 4 | 0 => 0 | 105 => 94 | 21 => 21 | 5 => 5 | 46 => 77 | 119 => 117 | 139 => 120 | 138 => 119 | 146 => 104 | 51 => 103 | n => n, fun | 1 => 0 | 3 => 2 | 4 => 3 | n => n⟩
theorem Tryd.lays146 : Go.Proofs.Lays.n146 Tryd.prog Tryd.lays146_ren := {
  mixed := by kernel_rfl
  f138 := Tryd.func68.trans (congrArg some (by kernel_rfl))
  f143 := Tryd.func69.trans (congrArg some (by kernel_rfl))
  f146 := Tryd.func48.trans (congrArg some (by kernel_rfl))
  f195 := Tryd.func76.trans (congrArg some (by kernel_rfl))
  f197 := Tryd.func77.trans (congrArg some (by kernel_rfl))
  f217 := Tryd.func71.trans (congrArg some (by kernel_rfl))
  f218 := Tryd.func78.trans (congrArg some (by kernel_rfl))
  f219 := Tryd.func65.trans (congrArg some (by kernel_rfl))
  f221 := Tryd.func62.trans (congrArg some (by kernel_rfl))
  f224 := Tryd.func73.trans (congrArg some (by kernel_rfl))
  f225 := Tryd.func72.trans (congrArg some (by kernel_rfl))
  f260 := Tryd.func87.trans (congrArg some (by kernel_rfl))
  f266 := Tryd.func83.trans (congrArg some (by kernel_rfl))
  f267 := Tryd.func74.trans (congrArg some (by kernel_rfl))
  f268 := Tryd.func67.trans (congrArg some (by kernel_rfl))
  f314 := Tryd.func84.trans (congrArg some (by kernel_rfl))
  t0 := Tryd.underlying0
  a0 := Tryd.isAgg0
  z0 := Tryd.sizeOf0
  v0 := Tryd.zeroValue0
  t3 := Tryd.underlying3
  a3 := Tryd.isAgg3
  z3 := Tryd.sizeOf3
  v3 := Tryd.zeroValue3
  t4 := Tryd.underlying4
  a4 := Tryd.isAgg4
  z4 := Tryd.sizeOf4
  v4 := Tryd.zeroValue4
  t5 := Tryd.underlying5
  a5 := Tryd.isAgg5
  z5 := Tryd.sizeOf5
  v5 := Tryd.zeroValue5
  t9 := Tryd.underlying9
  a9 := Tryd.isAgg9
  z9 := Tryd.sizeOf9
  v9 := Tryd.zeroValue9
  t21 := Tryd.underlying21
  a21 := Tryd.isAgg21
  z21 := Tryd.sizeOf21
  v21 := Tryd.zeroValue21
  t31 := Tryd.underlying65
  a31 := Tryd.isAgg65
  z31 := Tryd.sizeOf65
  v31 := Tryd.zeroValue65
  t46 := Tryd.underlying77
  a46 := Tryd.isAgg77
  z46 := Tryd.sizeOf77
  v46 := Tryd.zeroValue77
  t51 := Tryd.underlying103
  a51 := Tryd.isAgg103
  z51 := Tryd.sizeOf103
  v51 := Tryd.zeroValue103
  t105 := Tryd.underlying94
  a105 := Tryd.isAgg94
  z105 := Tryd.sizeOf94
  v105 := Tryd.zeroValue94
  t119 := Tryd.underlying117
  a119 := Tryd.isAgg117
  z119 := Tryd.sizeOf117
  t138 := Tryd.underlying119
  a138 := Tryd.isAgg119
  z138 := Tryd.sizeOf119
  v138 := Tryd.zeroValue119
  t139 := Tryd.underlying120
  a139 := Tryd.isAgg120
  z139 := Tryd.sizeOf120
  v139 := Tryd.zeroValue120
  t146 := Tryd.underlying104
  a146 := Tryd.isAgg104
  z146 := Tryd.sizeOf104
  v146 := Tryd.zeroValue104
  g1 := by kernel_rfl
  g3 := by kernel_rfl
  g4 := by kernel_rfl }
open Go.RowKit Go.Lib in /-- strings.Split. (LAID: no walk: one application.) -/ theorem Tryd.strings_Split (s sep : ByteArray) (m : Int) (w : World) (hs : s.size < 4294967281) (hm : w.cell? ⟨0, 0, none⟩ = some (.int .i64 m)) (h1 : 1 ≤ sep.size) : Calls Tryd.prog 48 #[.string s, .string sep] w fun e w' => e = .returned (.slice (some ⟨w.heap.size, 0, none⟩) (Lib.countB s sep + 1) (Lib.countB s sep + 1)) ∧ w' = w.alloc (.cells ((Lib.splitB sep 0 (Lib.countB s sep) s).map Value.string).toArray 9) := Any.strings_Split Tryd.lays146 (by kernel_rfl) s sep m w hs hm h1
end Go.Proofs
namespace Go.Proofs.YtmdfnambaedllaaDoor.X
open Go.RowKit
/-- The decimal numeral of an int. -/
def strconv_Itoa.f (a0 : Int) : Option ByteArray := if -9223372036854775808 ≤ a0 then (if a0 ≤ 9223372036854775807 then some ⟨(Lib.itoa a0).toArray⟩ else none) else none
theorem below_grow (w : World) (q : Nat) (os : Array Obj) : Below w.heap.size w (Sort.grow (w.drewN q) os) :=
  ⟨rfl, rfl, rfl, by show w.heap.size ≤ (w.heap ++ os).size; rw [Array.size_append]; omega, fun i hi => by
    show ((w.drewN q).heap ++ os)[i]? = _
    rw [Array.getElem?_append_left (by show i < w.heap.size; omega)]
    rfl⟩
theorem strconv_Itoa.calls (a0 : Int) (r : ByteArray) (w : World) (hG : GI w) (h : strconv_Itoa.f a0 = some r) :
    Calls Tryd.prog 58 #[.int .i64 a0] w fun e w' => e = .returned (.string r) ∧ Below w.heap.size w w' := by
  unfold strconv_Itoa.f at h
  by_cases h0 : -9223372036854775808 ≤ a0
  · by_cases h1 : a0 ≤ 9223372036854775807
    · rw [if_pos h0, if_pos h1] at h
      obtain rfl := Option.some.inj h
      refine (Tryd.strconv_Itoa a0 h0 h1 w hG.1).mono ?_
      rintro e w' ⟨rfl, k, os, rfl⟩
      exact ⟨rfl, below_grow w k os⟩
    · rw [if_pos h0, if_neg h1] at h
      cases h
  · rw [if_neg h0] at h
    cases h
end Go.Proofs.YtmdfnambaedllaaDoor.X
namespace Go.Proofs.YtmdfnambaedllaaDoor.Pr
open Go.RowKit Go.Proofs.YtmdfnambaedllaaDoorW.PrintWords Go.Proofs.YtmdfnambaedllaaDoorW.PrintLast Go.Proofs.YtmdfnambaedllaaDoorW.PrintMore Go.Proofs.YtmdfnambaedllaaDoor.X
attribute [local go_sem] max2_int min2_int max_two min_two max_three min_three max_four min_four   -- for this text's walks alone
set_option linter.unusedVariables false
set_option linter.unusedSimpArgs false
def correct_Around_1.f (l0 : List Int) (a1 : Int) (a2 : Int) : Option (Int × Int) := if 0 < (l0.length : Int) then (if 0 ≤ (wrap64 ((l0.length : Int) - 1)) then (if (wrap64 ((l0.length : Int) - 1)) < (l0.length : Int) then (some (mx (rd l0 0) (wrap64 (a1 - a2)), mn (rd l0 (wrap64 ((l0.length : Int) - 1))) (wrap64 (a1 + a2)))) else (none)) else (none)) else (none)
set_option maxHeartbeats 8000000 in
set_option maxRecDepth 100000 in
theorem correct_Around_1.calls (A0 : Option Addr) (c0 : Nat) (l0 : List Int) (a1 : Int) (a2 : Int) (r1 : Int) (r2 : Int) (w : World) (hr0 : Kd.C (Kd.int .i64) w A0 l0.length l0) (hc0 : l0.length ≤ c0) (h : correct_Around_1.f l0 a1 a2 = some (r1, r2)) :
  Calls Tryd.prog 28 #[.slice A0 l0.length c0, .int .i64 a1, .int .i64 a2] w fun e w' => e = .returned (.tuple #[.int .i64 r1, .int .i64 r2]) ∧ Below w.heap.size w w' := by
 have HR0 := Aside0.mk hr0; have HC0 := Aside0.mk hc0; clear hr0 hc0; have HB := Aside0.mk (Below.refl w.heap.size w); have H : (if 0 < (l0.length : Int) then (if 0 ≤ (wrap64 ((l0.length : Int) - 1)) then (if (wrap64 ((l0.length : Int) - 1)) < (l0.length : Int) then (some (mx (rd l0 0) (wrap64 (a1 - a2)), mn (rd l0 (wrap64 ((l0.length : Int) - 1))) (wrap64 (a1 + a2)))) else (none)) else (none)) else (none)) = some (r1, r2) := h; clear h; by_cases c4 : 0 < (l0.length : Int)
 ·
  rw [if_pos c4] at H; have c4b0 : decide (0 < (l0.length : Int)) = true := decide_eq_true c4; have c4b1 : decide (0 < l0.length) = true := decide_eq_true (by omega); clear c4; obtain ⟨ji5, hji5⟩ : ∃ j_ : Int, (mx (rd l0 0) (wrap64 (a1 - a2))) = j_ := ⟨_, rfl⟩; replace H : (if 0 ≤ (wrap64 ((l0.length : Int) - 1)) then (if (wrap64 ((l0.length : Int) - 1)) < (l0.length : Int) then (some (ji5, mn (rd l0 (wrap64 ((l0.length : Int) - 1))) (wrap64 (a1 + a2)))) else (none)) else (none)) = some (r1, r2) := by first | (rw [hji5] at H; exact H) | (simp only [hji5] at H ⊢; exact H)
  have hji5_ : (if (rd l0 0) < (wrap64 (a1 - a2)) then (wrap64 (a1 - a2)) else (rd l0 0)) = ji5 := hji5; obtain ⟨ji6, hji6⟩ : ∃ j_ : Int, (wrap64 ((l0.length : Int) - 1)) = j_ := ⟨_, rfl⟩; replace H : (if 0 ≤ (ji6) then (if (ji6) < (l0.length : Int) then (some (ji5, mn (rd l0 (ji6)) (wrap64 (a1 + a2)))) else (none)) else (none)) = some (r1, r2) := by first | (rw [hji6] at H; exact H) | (simp only [hji6] at H ⊢; exact H)
  have hji6w : (IntKind.i64.wrap ((l0.length : Int) - 1)) = ji6 := (i64_w _).trans hji6; by_cases c7 : 0 ≤ (ji6)
  ·
   rw [if_pos c7] at H; have c7b0 : decide (0 ≤ (ji6)) = true := decide_eq_true c7; clear c7; by_cases c8 : (ji6) < (l0.length : Int)
   ·
    rw [if_pos c8] at H; have c8b0 : decide ((ji6) < (l0.length : Int)) = true := decide_eq_true c8; clear c8; obtain ⟨ji9, hji9⟩ : ∃ j_ : Int, (mn (rd l0 (ji6)) (wrap64 (a1 + a2))) = j_ := ⟨_, rfl⟩; replace H : (some (ji5, ji9)) = some (r1, r2) := by first | (rw [hji9] at H; exact H) | (simp only [hji9] at H ⊢; exact H)
    have hji9_ : (if (wrap64 (a1 + a2)) < (rd l0 (ji6)) then (wrap64 (a1 + a2)) else (rd l0 (ji6))) = ji9 := hji9; simp only [Option.some.injEq, Prod.mk.injEq] at H; obtain ⟨rfl, rfl⟩ := H; have p154 : 0 ≤ (0 : Int) := (by omega); have q154 : 0 < (l0.length : Int) := of_decide_eq_true (by first | (with_reducible assumption) | assumption); obtain ⟨ad154, e154, hx154_0⟩ := Kd.at_int HR0.out 0 p154 q154; cases e154; have qi154 : (0 < l0.length) = True := eq_true (by omega); (try rw [show ((0 : Int)).toNat = 0 from rfl] at hx154_0)
    (try rw [Addr.add_zero'] at hx154_0)
    replace p154 := eq_true p154; replace q154 := eq_true q154; have p155 : 0 ≤ ((ji6) : Int) := of_decide_eq_true (by first | (with_reducible assumption) | assumption); have q155 : (ji6) < (l0.length : Int) := of_decide_eq_true (by first | (with_reducible assumption) | assumption); obtain ⟨ad155, e155, hx155_0⟩ := Kd.at_int HR0.out (ji6) p155 q155; obtain rfl : ad154 = ad155 := (by injection e155); replace p155 := eq_true p155; replace q155 := eq_true q155; go_enter Tryd.func28, Tryd.ntmps28
    go_wp2; repeat (go_quiet (fail); try go_wp2)
    go_ret2
    exact ⟨by first | rfl | (simp [errW_none, errW_some] <;> rfl) | (simp only [← hji5, ← hji6, ← hji9]; first | rfl | (simp [errW_none, errW_some] <;> rfl)) | (simp [*, errW_none, errW_some] <;> rfl), eG HB.out⟩
   · rw [if_neg c8] at H; exact absurd H (by simp)
  · rw [if_neg c7] at H; exact absurd H (by simp)
 · rw [if_neg c4] at H; exact absurd H (by simp)
def correct_Around.j0 : Nat → Int → Int → Int → Int → Bool → List Int → List Int → List (List Int) → Option (Int × Int × Int)
 | 0, _, _, _, _, _, _, _, _ => none
 | k + 1, x1, x2, x3, x4, x43, x157000, x157001, x157002 => if x43 = true then (some (0, 0, 2)) else ((correct_Around_1.f x157000 x1 x3).bind fun bt163 => ((correct_Around_1.f x157001 x2 x4).bind fun bt165 => ((correct_at.f k x157000 x157001 x157002 bt163.2 bt165.1).bind fun bt167 => ((correct_at.f k x157000 x157001 x157002 bt163.1 bt165.2).bind fun bt169 => (some (bt167.1, bt169.1, 0))))))
def correct_Around.f (k : Nat) (l0_0 : List Int) (l0_1 : List Int) (l0_2 : List (List Int)) (a1 : Int) (a2 : Int) (a3 : Int) (a4 : Int) : Option (Int × Int × Int) := (correct_Check.f k l0_0 l0_1 l0_2).bind fun t158 => (if t158 = 0 then ((correct_at.f k l0_0 l0_1 l0_2 a1 a2).bind fun bt159 => (if bt159.2 = true then ((correct_strange.f a3).bind fun t161 => (if t161 = true then (correct_Around.j0 k a1 a2 a3 a4 true l0_0 l0_1 l0_2) else ((correct_strange.f a4).bind fun t162 => (correct_Around.j0 k a1 a2 a3 a4 t162 l0_0 l0_1 l0_2)))) else (correct_Around.j0 k a1 a2 a3 a4 true l0_0 l0_1 l0_2))) else (some (0, 0, 1)))
set_option maxHeartbeats 8000000 in
set_option maxRecDepth 100000 in
theorem correct_Around.calls (k : Nat) (A0_0 : Option Addr) (c0_0 : Nat) (l0_0 : List Int) (A0_1 : Option Addr) (c0_1 : Nat) (l0_1 : List Int) (A0_2 : Option Addr) (c0_2 : Nat) (l0_2 : List (List Int)) (a1 : Int) (a2 : Int) (a3 : Int) (a4 : Int) (r1 : Int) (r2 : Int) (r3 : Int) (w : World) (hr0_0 : Kd.C (Kd.int .i64) w A0_0 l0_0.length l0_0) (hc0_0 : l0_0.length ≤ c0_0) (hr0_1 : Kd.C (Kd.int .i64) w A0_1 l0_1.length l0_1) (hc0_1 : l0_1.length ≤ c0_1) (hr0_2 : Kd.C (Kd.slice 3 (Kd.int .i64)) w A0_2 l0_2.length l0_2) (hc0_2 : l0_2.length ≤ c0_2) (h : correct_Around.f k l0_0 l0_1 l0_2 a1 a2 a3 a4 = some (r1, r2, r3)) :
  Calls Tryd.prog 12 #[.agg #[.slice A0_0 l0_0.length c0_0, .slice A0_1 l0_1.length c0_1, .slice A0_2 l0_2.length c0_2], .int .i64 a1, .int .i64 a2, .int .i64 a3, .int .i64 a4] w fun e w' => e = .returned (.tuple #[.agg #[.int .i64 r1, .int .i64 r2], .int .i64 r3]) ∧ Below w.heap.size w w' := by
 have hu25 := Tryd.underlying25; have hu29 := Tryd.underlying29; have HR0_0 := Aside0.mk hr0_0; have HC0_0 := Aside0.mk hc0_0; clear hr0_0 hc0_0; have HR0_1 := Aside0.mk hr0_1; have HC0_1 := Aside0.mk hc0_1; clear hr0_1 hc0_1; have HR0_2 := Aside0.mk hr0_2; have HC0_2 := Aside0.mk hc0_2; clear hr0_2 hc0_2; have HB := Aside0.mk (Below.refl w.heap.size w); have H : ((correct_Check.f k l0_0 l0_1 l0_2).bind fun t158 => (if t158 = 0 then ((correct_at.f k l0_0 l0_1 l0_2 a1 a2).bind fun bt159 => (if bt159.2 = true then ((correct_strange.f a3).bind fun t161 => (if t161 = true then (correct_Around.j0 k a1 a2 a3 a4 true l0_0 l0_1 l0_2) else ((correct_strange.f a4).bind fun t162 => (correct_Around.j0 k a1 a2 a3 a4 t162 l0_0 l0_1 l0_2)))) else (correct_Around.j0 k a1 a2 a3 a4 true l0_0 l0_1 l0_2))) else (some (0, 0, 1)))) = some (r1, r2, r3) := h; clear h; replace H := Option.bind_eq_some_iff.mp H; obtain ⟨t158, A60, H⟩ := H; replace H : (if t158 = 0 then ((correct_at.f k l0_0 l0_1 l0_2 a1 a2).bind fun bt159 => (if bt159.2 = true then ((correct_strange.f a3).bind fun t161 => (if t161 = true then (correct_Around.j0 k a1 a2 a3 a4 true l0_0 l0_1 l0_2) else ((correct_strange.f a4).bind fun t162 => (correct_Around.j0 k a1 a2 a3 a4 t162 l0_0 l0_1 l0_2)))) else (correct_Around.j0 k a1 a2 a3 a4 true l0_0 l0_1 l0_2))) else (some (0, 0, 1))) = some (r1, r2, r3) := H; have A6 := Aside0.mk A60; clear A60; by_cases c7 : t158 = 0
 ·
  rw [if_pos c7] at H; have c7b0 : (t158 == 0) = true := beq_iff_eq.mpr c7; have c7b1 : (t158 != 0) = false := bne_eq_false_iff_eq.mpr c7; clear c7; replace H := Option.bind_eq_some_iff.mp H; obtain ⟨⟨t159, t160⟩, A80, H⟩ := H; replace H : (if t160 = true then ((correct_strange.f a3).bind fun t161 => (if t161 = true then (correct_Around.j0 k a1 a2 a3 a4 true l0_0 l0_1 l0_2) else ((correct_strange.f a4).bind fun t162 => (correct_Around.j0 k a1 a2 a3 a4 t162 l0_0 l0_1 l0_2)))) else (correct_Around.j0 k a1 a2 a3 a4 true l0_0 l0_1 l0_2)) = some (r1, r2, r3) := H; have A8 := Aside0.mk A80; clear A80; have HC9 := Aside0.mk H; clear H; go_enter Tryd.func12, Tryd.ntmps12
  go_upto_region 4 with (first | ((with_reducible refine gate_dst (N := 5) rfl ?_); refine box_event ?hg (N := 5) ?hd (cs := #[.slice A0_0 l0_0.length c0_0, .slice A0_1 l0_1.length c0_1, .slice A0_2 l0_2.length c0_2]) (t := 25) ?hr ?_; (case hd => rfl); (case hg => rfl); (case hr => first | (go_simp; done) | (go_simp; rfl)); intro gb156 hg w10 hbox hb; have n0_ := Aside0.mk (below_step (eG HB.out) hb); have n1_ := Aside0.mk (hbox); have n2_ := Aside0.mk ((by rw [hg]; exact (below_size (eG HB.out)) : w.heap.size ≤ gb156)); have n3_ := Aside0.mk ((by rw [hg]; exact (below_size (eG HB.out)) : w.heap.size ≤ gb156)); clear HB; have HB := n0_; have BK156 := n1_; have GW156 := n2_; have GE156 := n3_; have ig156_ := geI GE156; clear n0_ n1_ n2_ n3_; clear hb hbox hg) | ((with_reducible refine gate_dst (N := 10) rfl ?_); refine box_event ?hg (N := 10) ?hd (cs := #[.int .i64 0, .int .i64 0]) (t := 29) ?hr ?_; (case hd => rfl); (case hg => rfl); (case hr => first | (go_simp; done) | (go_simp; rfl)); intro gb157 hg w11 hbox hb; have n0_ := Aside0.mk (blk_below (bG BK156.out) hb); have n1_ := Aside0.mk (below_step (eG HB.out) hb); have n2_ := Aside0.mk (hbox); have n3_ := Aside0.mk ((by rw [hg]; exact (below_size (eG HB.out)) : w.heap.size ≤ gb157)); have n4_ := Aside0.mk ((by rw [hg]; exact (below_size (eG HB.out)) : w.heap.size ≤ gb157)); have n5_ := Aside0.mk ((by rw [hg]; exact Nat.ne_of_lt (blk_lt (bG BK156.out)) : gb156 ≠ gb157)); have n6_ := Aside0.mk ((by rw [hg]; exact Nat.ne_of_gt (blk_lt (bG BK156.out)) : gb157 ≠ gb156)); clear BK156; clear HB; have BK156 := n0_; have HB := n1_; have BK157 := n2_; have GW157 := n3_; have GE157 := n4_; have ig157_ := geI GE157; have NB156_157 := n5_; have NB157_156 := n6_; clear n0_ n1_ n2_ n3_ n4_ n5_ n6_; clear hb hbox hg; have hnb12 := NB156_157.out; have hnc12 := NB157_156.out; have hcz13_0 : w11.cell? ⟨gb156, 0, none⟩ = some (.slice A0_0 l0_0.length c0_0) := (blk_cell BK156.out 0).trans rfl; have hcz13_1 : w11.cell? ⟨gb156, 1, none⟩ = some (.slice A0_1 l0_1.length c0_1) := (blk_cell BK156.out 1).trans rfl; have hcz13_2 : w11.cell? ⟨gb156, 2, none⟩ = some (.slice A0_2 l0_2.length c0_2) := (blk_cell BK156.out 2).trans rfl; have hfz13_0 := blk_frozen BK156.out 0; have hfz13_1 := blk_frozen BK156.out 1; have hfz13_2 := blk_frozen BK156.out 2) | ((with_reducible refine gate_callee (f := 18) rfl ?_); refine goesL_ (some 24) rfl rfl Tryd.func18 (by kernel_rfl) rfl #[.agg #[.slice A0_0 l0_0.length c0_0, .slice A0_1 l0_1.length c0_1, .slice A0_2 l0_2.length c0_2]] rfl (by (try simp only [List.map_toArray, List.map_cons, List.map_nil]); first | done | rfl | (simp only [List.length_drop, List.length_take]; rfl)) ?_; (with_reducible refine (correct_Check.calls k _ _ l0_0 _ _ l0_1 _ _ l0_2 t158 _ ?side1 ?side2 ?side3 ?side4 ?side5 ?side6 A6.out).mono ?_); (case side1 => repeat (first | exact (Kd.C_below HR0_0.out HB.out) | (with_reducible refine Kd.C_alloc ?_ _) | (with_reducible refine Kd.C_drewN ?_ _) | (with_reducible refine Kd.C_drew ?_))); (case side2 => exact HC0_0.out); (case side3 => repeat (first | exact (Kd.C_below HR0_1.out HB.out) | (with_reducible refine Kd.C_alloc ?_ _) | (with_reducible refine Kd.C_drewN ?_ _) | (with_reducible refine Kd.C_drew ?_))); (case side4 => exact HC0_1.out); (case side5 => repeat (first | exact (Kd.C_below HR0_2.out HB.out) | (with_reducible refine Kd.C_alloc ?_ _) | (with_reducible refine Kd.C_drewN ?_ _) | (with_reducible refine Kd.C_drew ?_))); (case side6 => exact HC0_2.out); rintro e w14 ⟨rfl, hb⟩; refine ⟨_, rfl, ?_⟩; have n0_ := Aside0.mk (blk_below (bG BK156.out) hb); have n1_ := Aside0.mk (blk_below (bG BK157.out) hb); have n2_ := Aside0.mk (below_step (eG HB.out) hb); clear BK156; clear BK157; clear HB; have BK156 := n0_; have BK157 := n1_; have HB := n2_; clear n0_ n1_ n2_; (try clear hb); (try clear hb2); (try clear hk); (try clear hi); have hcz15_0 : w14.cell? ⟨gb156, 0, none⟩ = some (.slice A0_0 l0_0.length c0_0) := (blk_cell BK156.out 0).trans rfl; have hcz15_1 : w14.cell? ⟨gb156, 1, none⟩ = some (.slice A0_1 l0_1.length c0_1) := (blk_cell BK156.out 1).trans rfl; have hcz15_2 : w14.cell? ⟨gb156, 2, none⟩ = some (.slice A0_2 l0_2.length c0_2) := (blk_cell BK156.out 2).trans rfl; have hfz15_0 := blk_frozen BK156.out 0; have hfz15_1 := blk_frozen BK156.out 1; have hfz15_2 := blk_frozen BK156.out 2) | ((with_reducible refine gate_callee (f := 26) rfl ?_); refine goesL_ (some 31) rfl rfl Tryd.func26 (by kernel_rfl) rfl #[.agg #[.slice A0_0 l0_0.length c0_0, .slice A0_1 l0_1.length c0_1, .slice A0_2 l0_2.length c0_2], .int .i64 a1, .int .i64 a2] rfl (by (try simp only [List.map_toArray, List.map_cons, List.map_nil]); first | done | rfl | (simp only [List.length_drop, List.length_take]; rfl)) ?_; (with_reducible refine (correct_at.calls k _ _ l0_0 _ _ l0_1 _ _ l0_2 a1 a2 t159 t160 _ ?side1 ?side2 ?side3 ?side4 ?side5 ?side6 A8.out).mono ?_); (case side1 => repeat (first | exact (Kd.C_below HR0_0.out HB.out) | (with_reducible refine Kd.C_alloc ?_ _) | (with_reducible refine Kd.C_drewN ?_ _) | (with_reducible refine Kd.C_drew ?_))); (case side2 => exact HC0_0.out); (case side3 => repeat (first | exact (Kd.C_below HR0_1.out HB.out) | (with_reducible refine Kd.C_alloc ?_ _) | (with_reducible refine Kd.C_drewN ?_ _) | (with_reducible refine Kd.C_drew ?_))); (case side4 => exact HC0_1.out); (case side5 => repeat (first | exact (Kd.C_below HR0_2.out HB.out) | (with_reducible refine Kd.C_alloc ?_ _) | (with_reducible refine Kd.C_drewN ?_ _) | (with_reducible refine Kd.C_drew ?_))); (case side6 => exact HC0_2.out); rintro e w16 ⟨rfl, hb⟩; refine ⟨_, rfl, ?_⟩; have n0_ := Aside0.mk (blk_below (bG BK156.out) hb); have n1_ := Aside0.mk (blk_below (bG BK157.out) hb); have n2_ := Aside0.mk (below_step (eG HB.out) hb); clear BK156; clear BK157; clear HB; have BK156 := n0_; have BK157 := n1_; have HB := n2_; clear n0_ n1_ n2_; (try clear hb); (try clear hb2); (try clear hk); (try clear hi)))
  (try simp only [Act.put, sIA, sC0, sCS])
  go_cut [43] (fun v43 wc => ∃ (kq : Nat) (x43_8 : Bool), v43 = .bool x43_8 ∧ Aside0 (correct_Around.j0 kq a1 a2 a3 a4 x43_8 l0_0 l0_1 l0_2 = some (r1, r2, r3)) ∧ Aside0 (kq ≤ k) ∧ Aside0 (wc.heap[gb156]? = some (.cells #[(.slice A0_0 l0_0.length c0_0), (.slice A0_1 l0_1.length c0_1), (.slice A0_2 l0_2.length c0_2)] 25 (0, 0))) ∧ Aside0 (wc.heap[gb157]? = some (.cells #[.int .i64 0, .int .i64 0] 29 (0, 0))) ∧ Aside0 (Below w.heap.size w wc))
  case first =>
   have H := HC9.out; clear HC9; by_cases c17 : t160 = true
   ·
    subst c17; replace H : ((correct_strange.f a3).bind fun t161 => (if t161 = true then (correct_Around.j0 k a1 a2 a3 a4 true l0_0 l0_1 l0_2) else ((correct_strange.f a4).bind fun t162 => (correct_Around.j0 k a1 a2 a3 a4 t162 l0_0 l0_1 l0_2)))) = some (r1, r2, r3) := by rw [if_pos rfl] at H; exact H
    replace H := Option.bind_eq_some_iff.mp H; obtain ⟨t161, A180, H⟩ := H; replace H : (if t161 = true then (correct_Around.j0 k a1 a2 a3 a4 true l0_0 l0_1 l0_2) else ((correct_strange.f a4).bind fun t162 => (correct_Around.j0 k a1 a2 a3 a4 t162 l0_0 l0_1 l0_2))) = some (r1, r2, r3) := H; have A18 := Aside0.mk A180; clear A180; by_cases c19 : t161 = true
    ·
     subst c19; replace H : (correct_Around.j0 k a1 a2 a3 a4 true l0_0 l0_1 l0_2) = some (r1, r2, r3) := by rw [if_pos rfl] at H; exact H
     have H' := Aside0.mk H; clear H; go_wp2_with (first | (go_at_call 27; (with_reducible refine (correct_strange.calls a3 true _ A18.out).mono ?_); rintro e w' ⟨rfl, ⟨nd, rfl⟩⟩))
     go_meet
     case rel => exact ⟨_, (true), (by first | rfl | (simp; done) | (simp [*]; done)), H', ⟨by first | omega | exact Nat.le_refl _⟩, ⟨by (with_reducible repeat first | apply bN | apply bD | apply bA); exact BK156.out⟩, ⟨by (with_reducible repeat first | apply bN | apply bD | apply bA); exact BK157.out⟩, ⟨eG HB.out⟩⟩
    ·
     replace c19 := Bool.eq_false_iff.mpr c19; subst c19; replace H : ((correct_strange.f a4).bind fun t162 => (correct_Around.j0 k a1 a2 a3 a4 t162 l0_0 l0_1 l0_2)) = some (r1, r2, r3) := by rw [if_neg (show ¬ (false = true) by decide)] at H; exact H
     replace H := Option.bind_eq_some_iff.mp H; obtain ⟨t162, A200, H⟩ := H; replace H : (correct_Around.j0 k a1 a2 a3 a4 t162 l0_0 l0_1 l0_2) = some (r1, r2, r3) := H; have A20 := Aside0.mk A200; clear A200; have H' := Aside0.mk H; clear H; go_wp2_with (first | (go_at_call 27; (with_reducible refine (correct_strange.calls a3 false _ A18.out).mono ?_); rintro e w' ⟨rfl, ⟨nd, rfl⟩⟩) | (go_at_call 27; (with_reducible refine (correct_strange.calls a4 t162 _ A20.out).mono ?_); rintro e w' ⟨rfl, ⟨nd, rfl⟩⟩))
     go_meet
     case rel => exact ⟨_, (t162), (by first | rfl | (simp; done) | (simp [*]; done)), H', ⟨by first | omega | exact Nat.le_refl _⟩, ⟨by (with_reducible repeat first | apply bN | apply bD | apply bA); exact BK156.out⟩, ⟨by (with_reducible repeat first | apply bN | apply bD | apply bA); exact BK157.out⟩, ⟨eG HB.out⟩⟩
   ·
    replace c17 := Bool.eq_false_iff.mpr c17; subst c17; replace H : (correct_Around.j0 k a1 a2 a3 a4 true l0_0 l0_1 l0_2) = some (r1, r2, r3) := by rw [if_neg (show ¬ (false = true) by decide)] at H; exact H
    have H' := Aside0.mk H; clear H; go_wp2; go_meet
    case rel => exact ⟨_, (true), (by first | rfl | (simp; done) | (simp [*]; done)), H', ⟨by first | omega | exact Nat.le_refl _⟩, ⟨by (with_reducible repeat first | apply bN | apply bD | apply bA); exact BK156.out⟩, ⟨by (with_reducible repeat first | apply bN | apply bD | apply bA); exact BK157.out⟩, ⟨eG HB.out⟩⟩
  case rest =>
   clear HC9; repeat first | clear c1 | clear c2 | clear p2 | clear c7 | clear c7b0 | clear c7b1 | clear c12 | clear c17 | clear c18 | clear c19 | clear hcz13_0 | clear hcz13_1 | clear hcz13_2 | clear hcz15_0 | clear hcz15_1 | clear hcz15_2 | clear hfz13_0 | clear hfz13_1 | clear hfz13_2 | clear hfz15_0 | clear hfz15_1 | clear hfz15_2
   obtain ⟨kq, x43_8, rfl, HA, HJ8, BK156, BK157, HB⟩ := hcut
   cases kq with
   | zero => exact absurd HA.out (by simp [correct_Around.j0])
   | succ kj8 =>
    have H := HA.out; clear HA; simp only [correct_Around.j0] at H; by_cases c21 : x43_8 = true
    ·
     subst c21; replace H : (some (0, 0, 2)) = some (r1, r2, r3) := by rw [if_pos rfl] at H; exact H
     simp only [Option.some.injEq, Prod.mk.injEq] at H; obtain ⟨rfl, rfl, rfl⟩ := H; have hnb22 := NB157_156.out; have hnc22 := NB156_157.out; have hcz23_0 : wc.cell? ⟨gb157, 0, none⟩ = some (.int .i64 0) := (blk_cell BK157.out 0).trans rfl; have hcz23_1 : wc.cell? ⟨gb157, 1, none⟩ = some (.int .i64 0) := (blk_cell BK157.out 1).trans rfl; have hfz23_0 := blk_frozen BK157.out 0; have hfz23_1 := blk_frozen BK157.out 1; go_wp2; refine bodyPost_ret (results_ct rfl _ _ gb157 29 #[.int .i64 0, .int .i64 0] (0, 0) _ rfl (by (with_reducible repeat first | apply bN | apply bD | apply bA); refine blk_put (cs := #[.int .i64 0, .int .i64 0]) ?_ 1 _ rfl; (with_reducible repeat first | apply bN | apply bD | apply bA); refine blk_put (cs := #[.int .i64 0, .int .i64 0]) ?_ 0 _ rfl; (with_reducible repeat first | apply bN | apply bD | apply bA); exact BK157.out) Tryd.underlying29 rfl (by kernel_rfl)) rfl ?_; exact ⟨by first | rfl | (simp [errW_none, errW_some] <;> rfl) | (simp [*, errW_none, errW_some] <;> rfl), eG HB.out⟩
    ·
     replace c21 := Bool.eq_false_iff.mpr c21; subst c21; replace H : ((correct_Around_1.f l0_0 a1 a3).bind fun bt163 => ((correct_Around_1.f l0_1 a2 a4).bind fun bt165 => ((correct_at.f kj8 l0_0 l0_1 l0_2 bt163.2 bt165.1).bind fun bt167 => ((correct_at.f kj8 l0_0 l0_1 l0_2 bt163.1 bt165.2).bind fun bt169 => (some (bt167.1, bt169.1, 0)))))) = some (r1, r2, r3) := by rw [if_neg (show ¬ (false = true) by decide)] at H; exact H
     replace H := Option.bind_eq_some_iff.mp H; obtain ⟨⟨t163, t164⟩, A240, H⟩ := H; replace H : ((correct_Around_1.f l0_1 a2 a4).bind fun bt165 => ((correct_at.f kj8 l0_0 l0_1 l0_2 t164 bt165.1).bind fun bt167 => ((correct_at.f kj8 l0_0 l0_1 l0_2 t163 bt165.2).bind fun bt169 => (some (bt167.1, bt169.1, 0))))) = some (r1, r2, r3) := H; have A24 := Aside0.mk A240; clear A240; replace H := Option.bind_eq_some_iff.mp H; obtain ⟨⟨t165, t166⟩, A250, H⟩ := H; replace H : ((correct_at.f kj8 l0_0 l0_1 l0_2 t164 t165).bind fun bt167 => ((correct_at.f kj8 l0_0 l0_1 l0_2 t163 t166).bind fun bt169 => (some (bt167.1, bt169.1, 0)))) = some (r1, r2, r3) := H; have A25 := Aside0.mk A250; clear A250; replace H := Option.bind_eq_some_iff.mp H; obtain ⟨⟨t167, t168⟩, A260, H⟩ := H; replace H : ((correct_at.f kj8 l0_0 l0_1 l0_2 t163 t166).bind fun bt169 => (some (t167, bt169.1, 0))) = some (r1, r2, r3) := H; have A26 := Aside0.mk A260; clear A260; replace H := Option.bind_eq_some_iff.mp H; obtain ⟨⟨t169, t170⟩, A270, H⟩ := H; replace H : (some (t167, t169, 0)) = some (r1, r2, r3) := H; have A27 := Aside0.mk A270; clear A270; simp only [Option.some.injEq, Prod.mk.injEq] at H; obtain ⟨rfl, rfl, rfl⟩ := H; have hnb28 := NB156_157.out; have hnc28 := NB157_156.out; have hcz29_0 : wc.cell? ⟨gb156, 0, none⟩ = some (.slice A0_0 l0_0.length c0_0) := (blk_cell BK156.out 0).trans rfl; have hcz29_1 : wc.cell? ⟨gb156, 1, none⟩ = some (.slice A0_1 l0_1.length c0_1) := (blk_cell BK156.out 1).trans rfl; have hcz29_2 : wc.cell? ⟨gb156, 2, none⟩ = some (.slice A0_2 l0_2.length c0_2) := (blk_cell BK156.out 2).trans rfl; have hfz29_0 := blk_frozen BK156.out 0; have hfz29_1 := blk_frozen BK156.out 1; have hfz29_2 := blk_frozen BK156.out 2; go_wp2_with (first | (go_at_call 28; (with_reducible refine (correct_Around_1.calls _ _ l0_0 a1 a3 t163 t164 _ ?side1 ?side2 A24.out).mono ?_); (case side1 => repeat (first | exact (Kd.C_below HR0_0.out HB.out) | (with_reducible refine Kd.C_alloc ?_ _) | (with_reducible refine Kd.C_drewN ?_ _) | (with_reducible refine Kd.C_drew ?_))); (case side2 => exact HC0_0.out); rintro e w30 ⟨rfl, hb⟩; have n0_ := Aside0.mk (blk_below (bG BK156.out) hb); have n1_ := Aside0.mk (blk_below (bG BK157.out) hb); have n2_ := Aside0.mk (below_step (eG HB.out) hb); clear BK156; clear BK157; clear HB; have BK156 := n0_; have BK157 := n1_; have HB := n2_; clear n0_ n1_ n2_; (try clear hb); (try clear hb2); (try clear hk); (try clear hi); have hcz31_0 : w30.cell? ⟨gb156, 0, none⟩ = some (.slice A0_0 l0_0.length c0_0) := (blk_cell BK156.out 0).trans rfl; have hcz31_1 : w30.cell? ⟨gb156, 1, none⟩ = some (.slice A0_1 l0_1.length c0_1) := (blk_cell BK156.out 1).trans rfl; have hcz31_2 : w30.cell? ⟨gb156, 2, none⟩ = some (.slice A0_2 l0_2.length c0_2) := (blk_cell BK156.out 2).trans rfl; have hfz31_0 := blk_frozen BK156.out 0; have hfz31_1 := blk_frozen BK156.out 1; have hfz31_2 := blk_frozen BK156.out 2) | (go_at_call 28; (with_reducible refine (correct_Around_1.calls _ _ l0_1 a2 a4 t165 t166 _ ?side1 ?side2 A25.out).mono ?_); (case side1 => repeat (first | exact (Kd.C_below HR0_1.out HB.out) | (with_reducible refine Kd.C_alloc ?_ _) | (with_reducible refine Kd.C_drewN ?_ _) | (with_reducible refine Kd.C_drew ?_))); (case side2 => exact HC0_1.out); rintro e w32 ⟨rfl, hb⟩; have n0_ := Aside0.mk (blk_below (bG BK156.out) hb); have n1_ := Aside0.mk (blk_below (bG BK157.out) hb); have n2_ := Aside0.mk (below_step (eG HB.out) hb); clear BK156; clear BK157; clear HB; have BK156 := n0_; have BK157 := n1_; have HB := n2_; clear n0_ n1_ n2_; (try clear hb); (try clear hb2); (try clear hk); (try clear hi); have hcz33_0 : w32.cell? ⟨gb156, 0, none⟩ = some (.slice A0_0 l0_0.length c0_0) := (blk_cell BK156.out 0).trans rfl; have hcz33_1 : w32.cell? ⟨gb156, 1, none⟩ = some (.slice A0_1 l0_1.length c0_1) := (blk_cell BK156.out 1).trans rfl; have hcz33_2 : w32.cell? ⟨gb156, 2, none⟩ = some (.slice A0_2 l0_2.length c0_2) := (blk_cell BK156.out 2).trans rfl; have hfz33_0 := blk_frozen BK156.out 0; have hfz33_1 := blk_frozen BK156.out 1; have hfz33_2 := blk_frozen BK156.out 2) | ((with_reducible refine gate_callee (f := 26) rfl ?_); refine goesL_ (some 67) rfl rfl Tryd.func26 (by kernel_rfl) rfl #[.agg #[.slice A0_0 l0_0.length c0_0, .slice A0_1 l0_1.length c0_1, .slice A0_2 l0_2.length c0_2], .int .i64 t164, .int .i64 t165] rfl (by (try simp only [List.map_toArray, List.map_cons, List.map_nil]); first | done | rfl | (simp only [List.length_drop, List.length_take]; rfl)) ?_; (with_reducible refine (correct_at.calls kj8 _ _ l0_0 _ _ l0_1 _ _ l0_2 t164 t165 t167 t168 _ ?side1 ?side2 ?side3 ?side4 ?side5 ?side6 A26.out).mono ?_); (case side1 => repeat (first | exact (Kd.C_below HR0_0.out HB.out) | (with_reducible refine Kd.C_alloc ?_ _) | (with_reducible refine Kd.C_drewN ?_ _) | (with_reducible refine Kd.C_drew ?_))); (case side2 => exact HC0_0.out); (case side3 => repeat (first | exact (Kd.C_below HR0_1.out HB.out) | (with_reducible refine Kd.C_alloc ?_ _) | (with_reducible refine Kd.C_drewN ?_ _) | (with_reducible refine Kd.C_drew ?_))); (case side4 => exact HC0_1.out); (case side5 => repeat (first | exact (Kd.C_below HR0_2.out HB.out) | (with_reducible refine Kd.C_alloc ?_ _) | (with_reducible refine Kd.C_drewN ?_ _) | (with_reducible refine Kd.C_drew ?_))); (case side6 => exact HC0_2.out); rintro e w34 ⟨rfl, hb⟩; refine ⟨_, rfl, ?_⟩; have n0_ := Aside0.mk (blk_below (bG BK156.out) hb); have n1_ := Aside0.mk (blk_below (bG BK157.out) hb); have n2_ := Aside0.mk (below_step (eG HB.out) hb); clear BK156; clear BK157; clear HB; have BK156 := n0_; have BK157 := n1_; have HB := n2_; clear n0_ n1_ n2_; (try clear hb); (try clear hb2); (try clear hk); (try clear hi); have hcz35_0 : w34.cell? ⟨gb156, 0, none⟩ = some (.slice A0_0 l0_0.length c0_0) := (blk_cell BK156.out 0).trans rfl; have hcz35_1 : w34.cell? ⟨gb156, 1, none⟩ = some (.slice A0_1 l0_1.length c0_1) := (blk_cell BK156.out 1).trans rfl; have hcz35_2 : w34.cell? ⟨gb156, 2, none⟩ = some (.slice A0_2 l0_2.length c0_2) := (blk_cell BK156.out 2).trans rfl; have hfz35_0 := blk_frozen BK156.out 0; have hfz35_1 := blk_frozen BK156.out 1; have hfz35_2 := blk_frozen BK156.out 2) | ((with_reducible refine gate_callee (f := 26) rfl ?_); refine goesL_ (some 74) rfl rfl Tryd.func26 (by kernel_rfl) rfl #[.agg #[.slice A0_0 l0_0.length c0_0, .slice A0_1 l0_1.length c0_1, .slice A0_2 l0_2.length c0_2], .int .i64 t163, .int .i64 t166] rfl (by (try simp only [List.map_toArray, List.map_cons, List.map_nil]); first | done | rfl | (simp only [List.length_drop, List.length_take]; rfl)) ?_; (with_reducible refine (correct_at.calls kj8 _ _ l0_0 _ _ l0_1 _ _ l0_2 t163 t166 t169 t170 _ ?side1 ?side2 ?side3 ?side4 ?side5 ?side6 A27.out).mono ?_); (case side1 => repeat (first | exact (Kd.C_below HR0_0.out HB.out) | (with_reducible refine Kd.C_alloc ?_ _) | (with_reducible refine Kd.C_drewN ?_ _) | (with_reducible refine Kd.C_drew ?_))); (case side2 => exact HC0_0.out); (case side3 => repeat (first | exact (Kd.C_below HR0_1.out HB.out) | (with_reducible refine Kd.C_alloc ?_ _) | (with_reducible refine Kd.C_drewN ?_ _) | (with_reducible refine Kd.C_drew ?_))); (case side4 => exact HC0_1.out); (case side5 => repeat (first | exact (Kd.C_below HR0_2.out HB.out) | (with_reducible refine Kd.C_alloc ?_ _) | (with_reducible refine Kd.C_drewN ?_ _) | (with_reducible refine Kd.C_drew ?_))); (case side6 => exact HC0_2.out); rintro e w36 ⟨rfl, hb⟩; refine ⟨_, rfl, ?_⟩; have n0_ := Aside0.mk (blk_below (bG BK156.out) hb); have n1_ := Aside0.mk (blk_below (bG BK157.out) hb); have n2_ := Aside0.mk (below_step (eG HB.out) hb); clear BK156; clear BK157; clear HB; have BK156 := n0_; have BK157 := n1_; have HB := n2_; clear n0_ n1_ n2_; (try clear hb); (try clear hb2); (try clear hk); (try clear hi); have hcz37_0 : w36.cell? ⟨gb157, 0, none⟩ = some (.int .i64 0) := (blk_cell BK157.out 0).trans rfl; have hcz37_1 : w36.cell? ⟨gb157, 1, none⟩ = some (.int .i64 0) := (blk_cell BK157.out 1).trans rfl; have hfz37_0 := blk_frozen BK157.out 0; have hfz37_1 := blk_frozen BK157.out 1))
     refine bodyPost_ret (results_ct rfl _ _ gb157 29 #[.int .i64 t167, .int .i64 t169] (0, 0) _ rfl (by (with_reducible repeat first | apply bN | apply bD | apply bA); refine blk_put (cs := #[.int .i64 t167, .int .i64 0]) ?_ 1 _ rfl; (with_reducible repeat first | apply bN | apply bD | apply bA); refine blk_put (cs := #[.int .i64 0, .int .i64 0]) ?_ 0 _ rfl; (with_reducible repeat first | apply bN | apply bD | apply bA); exact BK157.out) Tryd.underlying29 rfl (by kernel_rfl)) rfl ?_; exact ⟨by first | rfl | (simp [errW_none, errW_some] <;> rfl) | (simp [*, errW_none, errW_some] <;> rfl), eG HB.out⟩
 ·
  rw [if_neg c7] at H; have c7b0 : (t158 == 0) = false := beq_eq_false_iff_ne.mpr c7; have c7b1 : (t158 != 0) = true := bne_iff_ne.mpr c7; simp only [Option.some.injEq, Prod.mk.injEq] at H; obtain ⟨rfl, rfl, rfl⟩ := H; go_enter Tryd.func12, Tryd.ntmps12
  go_wp2_with (first | ((with_reducible refine gate_dst (N := 5) rfl ?_); refine box_event ?hg (N := 5) ?hd (cs := #[.slice A0_0 l0_0.length c0_0, .slice A0_1 l0_1.length c0_1, .slice A0_2 l0_2.length c0_2]) (t := 25) ?hr ?_; (case hd => rfl); (case hg => rfl); (case hr => first | (go_simp; done) | (go_simp; rfl)); intro gb156 hg w38 hbox hb; have n0_ := Aside0.mk (below_step (eG HB.out) hb); have n1_ := Aside0.mk (hbox); have n2_ := Aside0.mk ((by rw [hg]; exact (below_size (eG HB.out)) : w.heap.size ≤ gb156)); have n3_ := Aside0.mk ((by rw [hg]; exact (below_size (eG HB.out)) : w.heap.size ≤ gb156)); clear HB; have HB := n0_; have BK156 := n1_; have GW156 := n2_; have GE156 := n3_; have ig156_ := geI GE156; clear n0_ n1_ n2_ n3_; clear hb hbox hg) | ((with_reducible refine gate_dst (N := 10) rfl ?_); refine box_event ?hg (N := 10) ?hd (cs := #[.int .i64 0, .int .i64 0]) (t := 29) ?hr ?_; (case hd => rfl); (case hg => rfl); (case hr => first | (go_simp; done) | (go_simp; rfl)); intro gb157 hg w39 hbox hb; have n0_ := Aside0.mk (blk_below (bG BK156.out) hb); have n1_ := Aside0.mk (below_step (eG HB.out) hb); have n2_ := Aside0.mk (hbox); have n3_ := Aside0.mk ((by rw [hg]; exact (below_size (eG HB.out)) : w.heap.size ≤ gb157)); have n4_ := Aside0.mk ((by rw [hg]; exact (below_size (eG HB.out)) : w.heap.size ≤ gb157)); have n5_ := Aside0.mk ((by rw [hg]; exact Nat.ne_of_lt (blk_lt (bG BK156.out)) : gb156 ≠ gb157)); have n6_ := Aside0.mk ((by rw [hg]; exact Nat.ne_of_gt (blk_lt (bG BK156.out)) : gb157 ≠ gb156)); clear BK156; clear HB; have BK156 := n0_; have HB := n1_; have BK157 := n2_; have GW157 := n3_; have GE157 := n4_; have ig157_ := geI GE157; have NB156_157 := n5_; have NB157_156 := n6_; clear n0_ n1_ n2_ n3_ n4_ n5_ n6_; clear hb hbox hg; have hnb40 := NB156_157.out; have hnc40 := NB157_156.out; have hcz41_0 : w39.cell? ⟨gb156, 0, none⟩ = some (.slice A0_0 l0_0.length c0_0) := (blk_cell BK156.out 0).trans rfl; have hcz41_1 : w39.cell? ⟨gb156, 1, none⟩ = some (.slice A0_1 l0_1.length c0_1) := (blk_cell BK156.out 1).trans rfl; have hcz41_2 : w39.cell? ⟨gb156, 2, none⟩ = some (.slice A0_2 l0_2.length c0_2) := (blk_cell BK156.out 2).trans rfl; have hfz41_0 := blk_frozen BK156.out 0; have hfz41_1 := blk_frozen BK156.out 1; have hfz41_2 := blk_frozen BK156.out 2) | ((with_reducible refine gate_callee (f := 18) rfl ?_); refine goesL_ (some 24) rfl rfl Tryd.func18 (by kernel_rfl) rfl #[.agg #[.slice A0_0 l0_0.length c0_0, .slice A0_1 l0_1.length c0_1, .slice A0_2 l0_2.length c0_2]] rfl (by (try simp only [List.map_toArray, List.map_cons, List.map_nil]); first | done | rfl | (simp only [List.length_drop, List.length_take]; rfl)) ?_; (with_reducible refine (correct_Check.calls k _ _ l0_0 _ _ l0_1 _ _ l0_2 t158 _ ?side1 ?side2 ?side3 ?side4 ?side5 ?side6 A6.out).mono ?_); (case side1 => repeat (first | exact (Kd.C_below HR0_0.out HB.out) | (with_reducible refine Kd.C_alloc ?_ _) | (with_reducible refine Kd.C_drewN ?_ _) | (with_reducible refine Kd.C_drew ?_))); (case side2 => exact HC0_0.out); (case side3 => repeat (first | exact (Kd.C_below HR0_1.out HB.out) | (with_reducible refine Kd.C_alloc ?_ _) | (with_reducible refine Kd.C_drewN ?_ _) | (with_reducible refine Kd.C_drew ?_))); (case side4 => exact HC0_1.out); (case side5 => repeat (first | exact (Kd.C_below HR0_2.out HB.out) | (with_reducible refine Kd.C_alloc ?_ _) | (with_reducible refine Kd.C_drewN ?_ _) | (with_reducible refine Kd.C_drew ?_))); (case side6 => exact HC0_2.out); rintro e w42 ⟨rfl, hb⟩; refine ⟨_, rfl, ?_⟩; have n0_ := Aside0.mk (blk_below (bG BK156.out) hb); have n1_ := Aside0.mk (blk_below (bG BK157.out) hb); have n2_ := Aside0.mk (below_step (eG HB.out) hb); clear BK156; clear BK157; clear HB; have BK156 := n0_; have BK157 := n1_; have HB := n2_; clear n0_ n1_ n2_; (try clear hb); (try clear hb2); (try clear hk); (try clear hi); have hcz43_0 : w42.cell? ⟨gb157, 0, none⟩ = some (.int .i64 0) := (blk_cell BK157.out 0).trans rfl; have hcz43_1 : w42.cell? ⟨gb157, 1, none⟩ = some (.int .i64 0) := (blk_cell BK157.out 1).trans rfl; have hfz43_0 := blk_frozen BK157.out 0; have hfz43_1 := blk_frozen BK157.out 1))
  refine bodyPost_ret (results_ct rfl _ _ gb157 29 #[.int .i64 0, .int .i64 0] (0, 0) _ rfl (by (with_reducible repeat first | apply bN | apply bD | apply bA); refine blk_put (cs := #[.int .i64 0, .int .i64 0]) ?_ 1 _ rfl; (with_reducible repeat first | apply bN | apply bD | apply bA); refine blk_put (cs := #[.int .i64 0, .int .i64 0]) ?_ 0 _ rfl; (with_reducible repeat first | apply bN | apply bD | apply bA); exact BK157.out) Tryd.underlying29 rfl (by kernel_rfl)) rfl ?_; exact ⟨by first | rfl | (simp [errW_none, errW_some] <;> rfl) | (simp [*, errW_none, errW_some] <;> rfl), eG HB.out⟩
def correct_True.f (k : Nat) (l0_0 : List Int) (l0_1 : List Int) (l0_2 : List (List Int)) (a1 : Int) (a2 : Int) : Option (Int × Int) := (correct_Check.f k l0_0 l0_1 l0_2).bind fun t172 => (if t172 = 0 then ((correct_at.f k l0_0 l0_1 l0_2 a1 a2).bind fun bt173 => (if bt173.2 = true then (some (bt173.1, 0)) else (some (0, 2)))) else (some (0, 1)))
set_option maxHeartbeats 8000000 in
set_option maxRecDepth 100000 in
theorem correct_True.calls (k : Nat) (A0_0 : Option Addr) (c0_0 : Nat) (l0_0 : List Int) (A0_1 : Option Addr) (c0_1 : Nat) (l0_1 : List Int) (A0_2 : Option Addr) (c0_2 : Nat) (l0_2 : List (List Int)) (a1 : Int) (a2 : Int) (r1 : Int) (r2 : Int) (w : World) (hr0_0 : Kd.C (Kd.int .i64) w A0_0 l0_0.length l0_0) (hc0_0 : l0_0.length ≤ c0_0) (hr0_1 : Kd.C (Kd.int .i64) w A0_1 l0_1.length l0_1) (hc0_1 : l0_1.length ≤ c0_1) (hr0_2 : Kd.C (Kd.slice 3 (Kd.int .i64)) w A0_2 l0_2.length l0_2) (hc0_2 : l0_2.length ≤ c0_2) (h : correct_True.f k l0_0 l0_1 l0_2 a1 a2 = some (r1, r2)) :
  Calls Tryd.prog 14 #[.agg #[.slice A0_0 l0_0.length c0_0, .slice A0_1 l0_1.length c0_1, .slice A0_2 l0_2.length c0_2], .int .i64 a1, .int .i64 a2] w fun e w' => e = .returned (.tuple #[.int .i64 r1, .int .i64 r2]) ∧ Below w.heap.size w w' := by
 have hu25 := Tryd.underlying25; have HR0_0 := Aside0.mk hr0_0; have HC0_0 := Aside0.mk hc0_0; clear hr0_0 hc0_0; have HR0_1 := Aside0.mk hr0_1; have HC0_1 := Aside0.mk hc0_1; clear hr0_1 hc0_1; have HR0_2 := Aside0.mk hr0_2; have HC0_2 := Aside0.mk hc0_2; clear hr0_2 hc0_2; have HB := Aside0.mk (Below.refl w.heap.size w); have H : ((correct_Check.f k l0_0 l0_1 l0_2).bind fun t172 => (if t172 = 0 then ((correct_at.f k l0_0 l0_1 l0_2 a1 a2).bind fun bt173 => (if bt173.2 = true then (some (bt173.1, 0)) else (some (0, 2)))) else (some (0, 1)))) = some (r1, r2) := h; clear h; replace H := Option.bind_eq_some_iff.mp H; obtain ⟨t172, A40, H⟩ := H; replace H : (if t172 = 0 then ((correct_at.f k l0_0 l0_1 l0_2 a1 a2).bind fun bt173 => (if bt173.2 = true then (some (bt173.1, 0)) else (some (0, 2)))) else (some (0, 1))) = some (r1, r2) := H; have A4 := Aside0.mk A40; clear A40; by_cases c5 : t172 = 0
 ·
  rw [if_pos c5] at H; have c5b0 : (t172 == 0) = true := beq_iff_eq.mpr c5; have c5b1 : (t172 != 0) = false := bne_eq_false_iff_eq.mpr c5; clear c5; replace H := Option.bind_eq_some_iff.mp H; obtain ⟨⟨t173, t174⟩, A60, H⟩ := H; replace H : (if t174 = true then (some (t173, 0)) else (some (0, 2))) = some (r1, r2) := H; have A6 := Aside0.mk A60; clear A60; by_cases c7 : t174 = true
  ·
   subst c7; replace H : (some (t173, 0)) = some (r1, r2) := by rw [if_pos rfl] at H; exact H
   simp only [Option.some.injEq, Prod.mk.injEq] at H; obtain ⟨rfl, rfl⟩ := H; go_enter Tryd.func14, Tryd.ntmps14
   go_wp2_with (first | ((with_reducible refine gate_dst (N := 3) rfl ?_); refine box_event ?hg (N := 3) ?hd (cs := #[.slice A0_0 l0_0.length c0_0, .slice A0_1 l0_1.length c0_1, .slice A0_2 l0_2.length c0_2]) (t := 25) ?hr ?_; (case hd => rfl); (case hg => rfl); (case hr => first | (go_simp; done) | (go_simp; rfl)); intro gb171 hg w8 hbox hb; have n0_ := Aside0.mk (below_step (eG HB.out) hb); have n1_ := Aside0.mk (hbox); have n2_ := Aside0.mk ((by rw [hg]; exact (below_size (eG HB.out)) : w.heap.size ≤ gb171)); have n3_ := Aside0.mk ((by rw [hg]; exact (below_size (eG HB.out)) : w.heap.size ≤ gb171)); clear HB; have HB := n0_; have BK171 := n1_; have GW171 := n2_; have GE171 := n3_; have ig171_ := geI GE171; clear n0_ n1_ n2_ n3_; clear hb hbox hg; have hcz9_0 : w8.cell? ⟨gb171, 0, none⟩ = some (.slice A0_0 l0_0.length c0_0) := (blk_cell BK171.out 0).trans rfl; have hcz9_1 : w8.cell? ⟨gb171, 1, none⟩ = some (.slice A0_1 l0_1.length c0_1) := (blk_cell BK171.out 1).trans rfl; have hcz9_2 : w8.cell? ⟨gb171, 2, none⟩ = some (.slice A0_2 l0_2.length c0_2) := (blk_cell BK171.out 2).trans rfl; have hfz9_0 := blk_frozen BK171.out 0; have hfz9_1 := blk_frozen BK171.out 1; have hfz9_2 := blk_frozen BK171.out 2) | ((with_reducible refine gate_callee (f := 18) rfl ?_); refine goesL_ (some 11) rfl rfl Tryd.func18 (by kernel_rfl) rfl #[.agg #[.slice A0_0 l0_0.length c0_0, .slice A0_1 l0_1.length c0_1, .slice A0_2 l0_2.length c0_2]] rfl (by (try simp only [List.map_toArray, List.map_cons, List.map_nil]); first | done | rfl | (simp only [List.length_drop, List.length_take]; rfl)) ?_; (with_reducible refine (correct_Check.calls k _ _ l0_0 _ _ l0_1 _ _ l0_2 t172 _ ?side1 ?side2 ?side3 ?side4 ?side5 ?side6 A4.out).mono ?_); (case side1 => repeat (first | exact (Kd.C_below HR0_0.out HB.out) | (with_reducible refine Kd.C_alloc ?_ _) | (with_reducible refine Kd.C_drewN ?_ _) | (with_reducible refine Kd.C_drew ?_))); (case side2 => exact HC0_0.out); (case side3 => repeat (first | exact (Kd.C_below HR0_1.out HB.out) | (with_reducible refine Kd.C_alloc ?_ _) | (with_reducible refine Kd.C_drewN ?_ _) | (with_reducible refine Kd.C_drew ?_))); (case side4 => exact HC0_1.out); (case side5 => repeat (first | exact (Kd.C_below HR0_2.out HB.out) | (with_reducible refine Kd.C_alloc ?_ _) | (with_reducible refine Kd.C_drewN ?_ _) | (with_reducible refine Kd.C_drew ?_))); (case side6 => exact HC0_2.out); rintro e w10 ⟨rfl, hb⟩; refine ⟨_, rfl, ?_⟩; have n0_ := Aside0.mk (blk_below (bG BK171.out) hb); have n1_ := Aside0.mk (below_step (eG HB.out) hb); clear BK171; clear HB; have BK171 := n0_; have HB := n1_; clear n0_ n1_; (try clear hb); (try clear hb2); (try clear hk); (try clear hi); have hcz11_0 : w10.cell? ⟨gb171, 0, none⟩ = some (.slice A0_0 l0_0.length c0_0) := (blk_cell BK171.out 0).trans rfl; have hcz11_1 : w10.cell? ⟨gb171, 1, none⟩ = some (.slice A0_1 l0_1.length c0_1) := (blk_cell BK171.out 1).trans rfl; have hcz11_2 : w10.cell? ⟨gb171, 2, none⟩ = some (.slice A0_2 l0_2.length c0_2) := (blk_cell BK171.out 2).trans rfl; have hfz11_0 := blk_frozen BK171.out 0; have hfz11_1 := blk_frozen BK171.out 1; have hfz11_2 := blk_frozen BK171.out 2) | ((with_reducible refine gate_callee (f := 26) rfl ?_); refine goesL_ (some 17) rfl rfl Tryd.func26 (by kernel_rfl) rfl #[.agg #[.slice A0_0 l0_0.length c0_0, .slice A0_1 l0_1.length c0_1, .slice A0_2 l0_2.length c0_2], .int .i64 a1, .int .i64 a2] rfl (by (try simp only [List.map_toArray, List.map_cons, List.map_nil]); first | done | rfl | (simp only [List.length_drop, List.length_take]; rfl)) ?_; (with_reducible refine (correct_at.calls k _ _ l0_0 _ _ l0_1 _ _ l0_2 a1 a2 t173 true _ ?side1 ?side2 ?side3 ?side4 ?side5 ?side6 A6.out).mono ?_); (case side1 => repeat (first | exact (Kd.C_below HR0_0.out HB.out) | (with_reducible refine Kd.C_alloc ?_ _) | (with_reducible refine Kd.C_drewN ?_ _) | (with_reducible refine Kd.C_drew ?_))); (case side2 => exact HC0_0.out); (case side3 => repeat (first | exact (Kd.C_below HR0_1.out HB.out) | (with_reducible refine Kd.C_alloc ?_ _) | (with_reducible refine Kd.C_drewN ?_ _) | (with_reducible refine Kd.C_drew ?_))); (case side4 => exact HC0_1.out); (case side5 => repeat (first | exact (Kd.C_below HR0_2.out HB.out) | (with_reducible refine Kd.C_alloc ?_ _) | (with_reducible refine Kd.C_drewN ?_ _) | (with_reducible refine Kd.C_drew ?_))); (case side6 => exact HC0_2.out); rintro e w12 ⟨rfl, hb⟩; refine ⟨_, rfl, ?_⟩; have n0_ := Aside0.mk (blk_below (bG BK171.out) hb); have n1_ := Aside0.mk (below_step (eG HB.out) hb); clear BK171; clear HB; have BK171 := n0_; have HB := n1_; clear n0_ n1_; (try clear hb); (try clear hb2); (try clear hk); (try clear hi)))
   go_ret2
   exact ⟨by first | rfl | (simp [errW_none, errW_some] <;> rfl) | (simp [*, errW_none, errW_some] <;> rfl), eG HB.out⟩
  ·
   replace c7 := Bool.eq_false_iff.mpr c7; subst c7; replace H : (some (0, 2)) = some (r1, r2) := by rw [if_neg (show ¬ (false = true) by decide)] at H; exact H
   simp only [Option.some.injEq, Prod.mk.injEq] at H; obtain ⟨rfl, rfl⟩ := H; go_enter Tryd.func14, Tryd.ntmps14
   go_wp2_with (first | ((with_reducible refine gate_dst (N := 3) rfl ?_); refine box_event ?hg (N := 3) ?hd (cs := #[.slice A0_0 l0_0.length c0_0, .slice A0_1 l0_1.length c0_1, .slice A0_2 l0_2.length c0_2]) (t := 25) ?hr ?_; (case hd => rfl); (case hg => rfl); (case hr => first | (go_simp; done) | (go_simp; rfl)); intro gb171 hg w13 hbox hb; have n0_ := Aside0.mk (below_step (eG HB.out) hb); have n1_ := Aside0.mk (hbox); have n2_ := Aside0.mk ((by rw [hg]; exact (below_size (eG HB.out)) : w.heap.size ≤ gb171)); have n3_ := Aside0.mk ((by rw [hg]; exact (below_size (eG HB.out)) : w.heap.size ≤ gb171)); clear HB; have HB := n0_; have BK171 := n1_; have GW171 := n2_; have GE171 := n3_; have ig171_ := geI GE171; clear n0_ n1_ n2_ n3_; clear hb hbox hg; have hcz14_0 : w13.cell? ⟨gb171, 0, none⟩ = some (.slice A0_0 l0_0.length c0_0) := (blk_cell BK171.out 0).trans rfl; have hcz14_1 : w13.cell? ⟨gb171, 1, none⟩ = some (.slice A0_1 l0_1.length c0_1) := (blk_cell BK171.out 1).trans rfl; have hcz14_2 : w13.cell? ⟨gb171, 2, none⟩ = some (.slice A0_2 l0_2.length c0_2) := (blk_cell BK171.out 2).trans rfl; have hfz14_0 := blk_frozen BK171.out 0; have hfz14_1 := blk_frozen BK171.out 1; have hfz14_2 := blk_frozen BK171.out 2) | ((with_reducible refine gate_callee (f := 18) rfl ?_); refine goesL_ (some 11) rfl rfl Tryd.func18 (by kernel_rfl) rfl #[.agg #[.slice A0_0 l0_0.length c0_0, .slice A0_1 l0_1.length c0_1, .slice A0_2 l0_2.length c0_2]] rfl (by (try simp only [List.map_toArray, List.map_cons, List.map_nil]); first | done | rfl | (simp only [List.length_drop, List.length_take]; rfl)) ?_; (with_reducible refine (correct_Check.calls k _ _ l0_0 _ _ l0_1 _ _ l0_2 t172 _ ?side1 ?side2 ?side3 ?side4 ?side5 ?side6 A4.out).mono ?_); (case side1 => repeat (first | exact (Kd.C_below HR0_0.out HB.out) | (with_reducible refine Kd.C_alloc ?_ _) | (with_reducible refine Kd.C_drewN ?_ _) | (with_reducible refine Kd.C_drew ?_))); (case side2 => exact HC0_0.out); (case side3 => repeat (first | exact (Kd.C_below HR0_1.out HB.out) | (with_reducible refine Kd.C_alloc ?_ _) | (with_reducible refine Kd.C_drewN ?_ _) | (with_reducible refine Kd.C_drew ?_))); (case side4 => exact HC0_1.out); (case side5 => repeat (first | exact (Kd.C_below HR0_2.out HB.out) | (with_reducible refine Kd.C_alloc ?_ _) | (with_reducible refine Kd.C_drewN ?_ _) | (with_reducible refine Kd.C_drew ?_))); (case side6 => exact HC0_2.out); rintro e w15 ⟨rfl, hb⟩; refine ⟨_, rfl, ?_⟩; have n0_ := Aside0.mk (blk_below (bG BK171.out) hb); have n1_ := Aside0.mk (below_step (eG HB.out) hb); clear BK171; clear HB; have BK171 := n0_; have HB := n1_; clear n0_ n1_; (try clear hb); (try clear hb2); (try clear hk); (try clear hi); have hcz16_0 : w15.cell? ⟨gb171, 0, none⟩ = some (.slice A0_0 l0_0.length c0_0) := (blk_cell BK171.out 0).trans rfl; have hcz16_1 : w15.cell? ⟨gb171, 1, none⟩ = some (.slice A0_1 l0_1.length c0_1) := (blk_cell BK171.out 1).trans rfl; have hcz16_2 : w15.cell? ⟨gb171, 2, none⟩ = some (.slice A0_2 l0_2.length c0_2) := (blk_cell BK171.out 2).trans rfl; have hfz16_0 := blk_frozen BK171.out 0; have hfz16_1 := blk_frozen BK171.out 1; have hfz16_2 := blk_frozen BK171.out 2) | ((with_reducible refine gate_callee (f := 26) rfl ?_); refine goesL_ (some 17) rfl rfl Tryd.func26 (by kernel_rfl) rfl #[.agg #[.slice A0_0 l0_0.length c0_0, .slice A0_1 l0_1.length c0_1, .slice A0_2 l0_2.length c0_2], .int .i64 a1, .int .i64 a2] rfl (by (try simp only [List.map_toArray, List.map_cons, List.map_nil]); first | done | rfl | (simp only [List.length_drop, List.length_take]; rfl)) ?_; (with_reducible refine (correct_at.calls k _ _ l0_0 _ _ l0_1 _ _ l0_2 a1 a2 t173 false _ ?side1 ?side2 ?side3 ?side4 ?side5 ?side6 A6.out).mono ?_); (case side1 => repeat (first | exact (Kd.C_below HR0_0.out HB.out) | (with_reducible refine Kd.C_alloc ?_ _) | (with_reducible refine Kd.C_drewN ?_ _) | (with_reducible refine Kd.C_drew ?_))); (case side2 => exact HC0_0.out); (case side3 => repeat (first | exact (Kd.C_below HR0_1.out HB.out) | (with_reducible refine Kd.C_alloc ?_ _) | (with_reducible refine Kd.C_drewN ?_ _) | (with_reducible refine Kd.C_drew ?_))); (case side4 => exact HC0_1.out); (case side5 => repeat (first | exact (Kd.C_below HR0_2.out HB.out) | (with_reducible refine Kd.C_alloc ?_ _) | (with_reducible refine Kd.C_drewN ?_ _) | (with_reducible refine Kd.C_drew ?_))); (case side6 => exact HC0_2.out); rintro e w17 ⟨rfl, hb⟩; refine ⟨_, rfl, ?_⟩; have n0_ := Aside0.mk (blk_below (bG BK171.out) hb); have n1_ := Aside0.mk (below_step (eG HB.out) hb); clear BK171; clear HB; have BK171 := n0_; have HB := n1_; clear n0_ n1_; (try clear hb); (try clear hb2); (try clear hk); (try clear hi)))
   go_ret2
   exact ⟨by first | rfl | (simp [errW_none, errW_some] <;> rfl) | (simp [*, errW_none, errW_some] <;> rfl), eG HB.out⟩
 ·
  rw [if_neg c5] at H; have c5b0 : (t172 == 0) = false := beq_eq_false_iff_ne.mpr c5; have c5b1 : (t172 != 0) = true := bne_iff_ne.mpr c5; simp only [Option.some.injEq, Prod.mk.injEq] at H; obtain ⟨rfl, rfl⟩ := H; go_enter Tryd.func14, Tryd.ntmps14
  go_wp2_with (first | ((with_reducible refine gate_dst (N := 3) rfl ?_); refine box_event ?hg (N := 3) ?hd (cs := #[.slice A0_0 l0_0.length c0_0, .slice A0_1 l0_1.length c0_1, .slice A0_2 l0_2.length c0_2]) (t := 25) ?hr ?_; (case hd => rfl); (case hg => rfl); (case hr => first | (go_simp; done) | (go_simp; rfl)); intro gb171 hg w18 hbox hb; have n0_ := Aside0.mk (below_step (eG HB.out) hb); have n1_ := Aside0.mk (hbox); have n2_ := Aside0.mk ((by rw [hg]; exact (below_size (eG HB.out)) : w.heap.size ≤ gb171)); have n3_ := Aside0.mk ((by rw [hg]; exact (below_size (eG HB.out)) : w.heap.size ≤ gb171)); clear HB; have HB := n0_; have BK171 := n1_; have GW171 := n2_; have GE171 := n3_; have ig171_ := geI GE171; clear n0_ n1_ n2_ n3_; clear hb hbox hg; have hcz19_0 : w18.cell? ⟨gb171, 0, none⟩ = some (.slice A0_0 l0_0.length c0_0) := (blk_cell BK171.out 0).trans rfl; have hcz19_1 : w18.cell? ⟨gb171, 1, none⟩ = some (.slice A0_1 l0_1.length c0_1) := (blk_cell BK171.out 1).trans rfl; have hcz19_2 : w18.cell? ⟨gb171, 2, none⟩ = some (.slice A0_2 l0_2.length c0_2) := (blk_cell BK171.out 2).trans rfl; have hfz19_0 := blk_frozen BK171.out 0; have hfz19_1 := blk_frozen BK171.out 1; have hfz19_2 := blk_frozen BK171.out 2) | ((with_reducible refine gate_callee (f := 18) rfl ?_); refine goesL_ (some 11) rfl rfl Tryd.func18 (by kernel_rfl) rfl #[.agg #[.slice A0_0 l0_0.length c0_0, .slice A0_1 l0_1.length c0_1, .slice A0_2 l0_2.length c0_2]] rfl (by (try simp only [List.map_toArray, List.map_cons, List.map_nil]); first | done | rfl | (simp only [List.length_drop, List.length_take]; rfl)) ?_; (with_reducible refine (correct_Check.calls k _ _ l0_0 _ _ l0_1 _ _ l0_2 t172 _ ?side1 ?side2 ?side3 ?side4 ?side5 ?side6 A4.out).mono ?_); (case side1 => repeat (first | exact (Kd.C_below HR0_0.out HB.out) | (with_reducible refine Kd.C_alloc ?_ _) | (with_reducible refine Kd.C_drewN ?_ _) | (with_reducible refine Kd.C_drew ?_))); (case side2 => exact HC0_0.out); (case side3 => repeat (first | exact (Kd.C_below HR0_1.out HB.out) | (with_reducible refine Kd.C_alloc ?_ _) | (with_reducible refine Kd.C_drewN ?_ _) | (with_reducible refine Kd.C_drew ?_))); (case side4 => exact HC0_1.out); (case side5 => repeat (first | exact (Kd.C_below HR0_2.out HB.out) | (with_reducible refine Kd.C_alloc ?_ _) | (with_reducible refine Kd.C_drewN ?_ _) | (with_reducible refine Kd.C_drew ?_))); (case side6 => exact HC0_2.out); rintro e w20 ⟨rfl, hb⟩; refine ⟨_, rfl, ?_⟩; have n0_ := Aside0.mk (blk_below (bG BK171.out) hb); have n1_ := Aside0.mk (below_step (eG HB.out) hb); clear BK171; clear HB; have BK171 := n0_; have HB := n1_; clear n0_ n1_; (try clear hb); (try clear hb2); (try clear hk); (try clear hi)))
  go_ret2
  exact ⟨by first | rfl | (simp [errW_none, errW_some] <;> rfl) | (simp [*, errW_none, errW_some] <;> rfl), eG HB.out⟩
def correct_line.l0 : Nat → ByteArray → List Int → Int → Int → Option (ByteArray)
 | 0, _, _, _, _ => none
 | k + 1, x0, x7, x8, x9 => if x9 < x8 then (if 0 ≤ x9 then (if x9 < (x7.length : Int) then ((strconv_Itoa.f (rd x7 x9)).bind fun t176 => (if 1 + t176.size ≤ 9223372036854775807 then (if x0.size + ((⟨#[32]⟩ : ByteArray) ++ t176).size ≤ 9223372036854775807 then (correct_line.l0 k (x0 ++ ((⟨#[32]⟩ : ByteArray) ++ t176)) x7 x8 (wrap64 (x9 + 1))) else (none)) else (none))) else (none)) else (none)) else (if x0.size + 1 ≤ 9223372036854775807 then (some (x0 ++ (⟨#[10]⟩ : ByteArray))) else (none))
def correct_line.f (k : Nat) (a0 : ByteArray) (l1 : List Int) : Option (ByteArray) := correct_line.l0 k a0 l1 (l1.length : Int) 0
set_option maxHeartbeats 8000000 in
set_option maxRecDepth 100000 in
theorem correct_line.calls (k : Nat) (a0 : ByteArray) (A1 : Option Addr) (c1 : Nat) (l1 : List Int) (r : ByteArray) (w : World) (hr1 : Kd.C (Kd.int .i64) w A1 l1.length l1) (hc1 : l1.length ≤ c1) (hG : GI w) (h : correct_line.f k a0 l1 = some r) :
  Calls Tryd.prog 43 #[.string a0, .slice A1 l1.length c1] w fun e w' => e = .returned (.string r) ∧ Below w.heap.size w w' := by
 have HR1 := Aside0.mk hr1; have HC1 := Aside0.mk hc1; clear hr1 hc1; have HG := Aside0.mk hG; clear hG; have HB := Aside0.mk (Below.refl w.heap.size w); have H : (correct_line.l0 k a0 l1 (l1.length : Int) 0) = some r := h; clear h; have H' := Aside0.mk H; clear H; go_enter Tryd.func43, Tryd.ntmps43
 go_wp2; go_loopg [0, 9] k (fun kq v0 v9 w' => ∃ (x0_1 : ByteArray) (x9_1 : Int), v0 = .string x0_1 ∧ v9 = .int .i64 x9_1 ∧ Aside0 (correct_line.l0 kq x0_1 l1 (l1.length : Int) x9_1 = some r) ∧ Aside0 (kq ≤ k) ∧ Aside0 (Below w.heap.size w w'))
 case atStart => exact ⟨(a0), (0), (by first | rfl | (simp; done) | (simp [*]; done)), (by first | rfl | (simp; done) | (simp [*]; done)), H', ⟨Nat.le_refl _⟩, ⟨eG HB.out⟩⟩
 case round =>
  clear H'; try clear c1
  try clear p2
  obtain ⟨x0_1, x9_1, rfl, rfl, HA, HK1, HB⟩ := hrel
  cases gk with
  | zero => exact absurd HA.out (by simp [correct_line.l0])
  | succ k1 =>
   have H := HA.out; clear HA; simp only [correct_line.l0] at H; by_cases c3 : x9_1 < (l1.length : Int)
   ·
    rw [if_pos c3] at H; have c3b0 : decide (x9_1 < (l1.length : Int)) = true := decide_eq_true c3; clear c3; by_cases c4 : 0 ≤ x9_1
    ·
     rw [if_pos c4] at H; have c4b0 : decide (0 ≤ x9_1) = true := decide_eq_true c4; clear c4; by_cases c5 : x9_1 < (l1.length : Int)
     ·
      rw [if_pos c5] at H; have c5b0 : decide (x9_1 < (l1.length : Int)) = true := decide_eq_true c5; clear c5; replace H := Option.bind_eq_some_iff.mp H; obtain ⟨t176, A60, H⟩ := H; replace H : (if 1 + t176.size ≤ 9223372036854775807 then (if x0_1.size + ((⟨#[32]⟩ : ByteArray) ++ t176).size ≤ 9223372036854775807 then (correct_line.l0 k1 (x0_1 ++ ((⟨#[32]⟩ : ByteArray) ++ t176)) l1 (l1.length : Int) (wrap64 (x9_1 + 1))) else (none)) else (none)) = some r := H; have A6 := Aside0.mk A60; clear A60; by_cases c7 : 1 + t176.size ≤ 9223372036854775807
      ·
       rw [if_pos c7] at H; have c7b0 := eq_true c7; have c7b1 : decide (1 + t176.size ≤ 9223372036854775807) = true := decide_eq_true c7; try have c7b2 : (9223372036854775807 < 1 + t176.size) = False := eq_false (Nat.not_lt.2 c7)
       by_cases c8 : x0_1.size + ((⟨#[32]⟩ : ByteArray) ++ t176).size ≤ 9223372036854775807
       ·
        rw [if_pos c8] at H; have c8b0 := eq_true c8; have c8b1 : decide (x0_1.size + ((⟨#[32]⟩ : ByteArray) ++ t176).size ≤ 9223372036854775807) = true := decide_eq_true c8; try have c8b2 : (9223372036854775807 < x0_1.size + ((⟨#[32]⟩ : ByteArray) ++ t176).size) = False := eq_false (Nat.not_lt.2 c8)
        try have c8b3 : (9223372036854775807 < x0_1.size + (1 + t176.size)) = False := eq_false (Nat.not_lt.2 (by have h_ := c8; simp only [ByteArray.size_append] at h_; exact h_))
        have H' := Aside0.mk H; clear H; have p175 : 0 ≤ (x9_1 : Int) := of_decide_eq_true (by first | (with_reducible assumption) | assumption); have q175 : x9_1 < (l1.length : Int) := of_decide_eq_true (by first | (with_reducible assumption) | assumption); obtain ⟨ad175, e175, hx175_0⟩ := Kd.at_int HR1.out x9_1 p175 q175; cases e175; replace hx175_0 := (HB.out.cell (World.block_lt_of_cell? w _ hx175_0)).trans hx175_0; replace p175 := eq_true p175; replace q175 := eq_true q175; go_wp2_with (first | ((with_reducible refine gate_callee (f := 58) rfl ?_); refine goesL_ (some 15) rfl rfl Tryd.func58 (by kernel_rfl) rfl #[.int .i64 (rd l1 x9_1)] rfl (by (try simp only [List.map_toArray, List.map_cons, List.map_nil]); first | done | rfl | (simp only [List.length_drop, List.length_take]; rfl)) ?_; (with_reducible refine (strconv_Itoa.calls (rd l1 x9_1) t176 _ ?side1 A6.out).mono ?_); (case side1 => exact GI.below HG.out (eG HB.out)); rintro e w9 ⟨rfl, hb⟩; refine ⟨_, rfl, ?_⟩; have n0_ := Aside0.mk (below_step (eG HB.out) hb); clear HB; have HB := n0_; clear n0_; (try clear hb); (try clear hb2); (try clear hk); (try clear hi)))
        go_roundg k1
        case measure => have := HK1.out; omega
        case rel => exact ⟨(x0_1 ++ ((⟨#[32]⟩ : ByteArray) ++ t176)), (wrap64 (x9_1 + 1)), (by first | rfl | (simp; done) | (simp [*]; done)), (by first | rfl | (simp; done) | (simp [*]; done)), H', ⟨by have := HK1.out; omega⟩, ⟨eG HB.out⟩⟩
       · rw [if_neg c8] at H; exact absurd H (by simp)
      · rw [if_neg c7] at H; exact absurd H (by simp)
     · rw [if_neg c5] at H; exact absurd H (by simp)
    · rw [if_neg c4] at H; exact absurd H (by simp)
   ·
    rw [if_neg c3] at H; have c3b0 : decide (x9_1 < (l1.length : Int)) = false := decide_eq_false c3; clear c3; by_cases c10 : x0_1.size + 1 ≤ 9223372036854775807
    ·
     rw [if_pos c10] at H; have c10b0 := eq_true c10; have c10b1 : decide (x0_1.size + 1 ≤ 9223372036854775807) = true := decide_eq_true c10; try have c10b2 : (9223372036854775807 < x0_1.size + 1) = False := eq_false (Nat.not_lt.2 c10)
     obtain rfl := Option.some.inj H; go_wp2; go_ret
     exact ⟨by first | rfl | (simp [errW_none, errW_some] <;> rfl) | (simp [*, errW_none, errW_some] <;> rfl), eG HB.out⟩
    · rw [if_neg c10] at H; exact absurd H (by simp)
def correct_Print.l0 : Nat → ByteArray → List Int → Int → Int → List Int → List Int → List (List Int) → Option (ByteArray × Int)
 | 0, _, _, _, _, _, _, _ => none
 | k + 1, x4, x14, x15, x16, x178000, x178001, x178002 => if x16 < x15 then (if 0 ≤ x16 then (if x16 < (x14.length : Int) then ((some (([rd x14 x16] : List Int) : List Int)).bind fun y181 => (if x16 < (x178002.length : Int) then (if y181.length + (rd_L1 x178002 x16).length < 17592186044416 then ((correct_line.f k (⟨#[104, 101, 97, 116]⟩ : ByteArray) (y181 ++ (rd_L1 x178002 x16))).bind fun t188 => (if x4.size + t188.size ≤ 9223372036854775807 then (correct_Print.l0 k (x4 ++ t188) x14 x15 (wrap64 (x16 + 1)) x178000 x178001 x178002) else (none))) else (none)) else (none))) else (none)) else (none)) else (some (x4, 0))
def correct_Print.f (k : Nat) (l0_0 : List Int) (l0_1 : List Int) (l0_2 : List (List Int)) : Option (ByteArray × Int) := (correct_Check.f k l0_0 l0_1 l0_2).bind fun t178 => (if t178 = 0 then ((correct_line.f k (⟨#[97, 112, 112, 97, 114, 101, 110, 116]⟩ : ByteArray) l0_1).bind fun t179 => (correct_Print.l0 k t179 l0_0 (l0_0.length : Int) 0 l0_0 l0_1 l0_2)) else (some ((⟨#[]⟩ : ByteArray), 1)))
set_option maxHeartbeats 8000000 in
set_option maxRecDepth 100000 in
theorem correct_Print.calls (k : Nat) (A0_0 : Option Addr) (c0_0 : Nat) (l0_0 : List Int) (A0_1 : Option Addr) (c0_1 : Nat) (l0_1 : List Int) (A0_2 : Option Addr) (c0_2 : Nat) (l0_2 : List (List Int)) (r1 : ByteArray) (r2 : Int) (w : World) (hr0_0 : Kd.C (Kd.int .i64) w A0_0 l0_0.length l0_0) (hc0_0 : l0_0.length ≤ c0_0) (hr0_1 : Kd.C (Kd.int .i64) w A0_1 l0_1.length l0_1) (hc0_1 : l0_1.length ≤ c0_1) (hr0_2 : Kd.C (Kd.slice 3 (Kd.int .i64)) w A0_2 l0_2.length l0_2) (hc0_2 : l0_2.length ≤ c0_2) (hG : GI w) (h : correct_Print.f k l0_0 l0_1 l0_2 = some (r1, r2)) :
  Calls Tryd.prog 20 #[.agg #[.slice A0_0 l0_0.length c0_0, .slice A0_1 l0_1.length c0_1, .slice A0_2 l0_2.length c0_2]] w fun e w' => e = .returned (.tuple #[.string r1, .int .i64 r2]) ∧ Below w.heap.size w w' := by
 have hu25 := Tryd.underlying25; have HR0_0 := Aside0.mk hr0_0; have HC0_0 := Aside0.mk hc0_0; clear hr0_0 hc0_0; have HR0_1 := Aside0.mk hr0_1; have HC0_1 := Aside0.mk hc0_1; clear hr0_1 hc0_1; have HR0_2 := Aside0.mk hr0_2; have HC0_2 := Aside0.mk hc0_2; clear hr0_2 hc0_2; have HG := Aside0.mk hG; clear hG; have HB := Aside0.mk (Below.refl w.heap.size w); have H : ((correct_Check.f k l0_0 l0_1 l0_2).bind fun t178 => (if t178 = 0 then ((correct_line.f k (⟨#[97, 112, 112, 97, 114, 101, 110, 116]⟩ : ByteArray) l0_1).bind fun t179 => (correct_Print.l0 k t179 l0_0 (l0_0.length : Int) 0 l0_0 l0_1 l0_2)) else (some ((⟨#[]⟩ : ByteArray), 1)))) = some (r1, r2) := h; clear h; replace H := Option.bind_eq_some_iff.mp H; obtain ⟨t178, A20, H⟩ := H; replace H : (if t178 = 0 then ((correct_line.f k (⟨#[97, 112, 112, 97, 114, 101, 110, 116]⟩ : ByteArray) l0_1).bind fun t179 => (correct_Print.l0 k t179 l0_0 (l0_0.length : Int) 0 l0_0 l0_1 l0_2)) else (some ((⟨#[]⟩ : ByteArray), 1))) = some (r1, r2) := H; have A2 := Aside0.mk A20; clear A20; by_cases c3 : t178 = 0
 ·
  rw [if_pos c3] at H; have c3b0 : (t178 == 0) = true := beq_iff_eq.mpr c3; have c3b1 : (t178 != 0) = false := bne_eq_false_iff_eq.mpr c3; clear c3; replace H := Option.bind_eq_some_iff.mp H; obtain ⟨t179, A40, H⟩ := H; replace H : (correct_Print.l0 k t179 l0_0 (l0_0.length : Int) 0 l0_0 l0_1 l0_2) = some (r1, r2) := H; have A4 := Aside0.mk A40; clear A40; have H' := Aside0.mk H; clear H; go_enter Tryd.func20, Tryd.ntmps20
  go_wp2_with (first | ((with_reducible refine gate_dst (N := 1) rfl ?_); refine box_event ?hg (N := 1) ?hd (cs := #[.slice A0_0 l0_0.length c0_0, .slice A0_1 l0_1.length c0_1, .slice A0_2 l0_2.length c0_2]) (t := 25) ?hr ?_; (case hd => rfl); (case hg => rfl); (case hr => first | (go_simp; done) | (go_simp; rfl)); intro gb177 hg w5 hbox hb; have n0_ := Aside0.mk (below_step (eG HB.out) hb); have n1_ := Aside0.mk (hbox); have n2_ := Aside0.mk ((by rw [hg]; exact (below_size (eG HB.out)) : w.heap.size ≤ gb177)); have n3_ := Aside0.mk ((by rw [hg]; exact (below_size (eG HB.out)) : w.heap.size ≤ gb177)); clear HB; have HB := n0_; have BK177 := n1_; have GW177 := n2_; have GE177 := n3_; have ig177_ := geI GE177; clear n0_ n1_ n2_ n3_; clear hb hbox hg; have hcz6_0 : w5.cell? ⟨gb177, 0, none⟩ = some (.slice A0_0 l0_0.length c0_0) := (blk_cell BK177.out 0).trans rfl; have hcz6_1 : w5.cell? ⟨gb177, 1, none⟩ = some (.slice A0_1 l0_1.length c0_1) := (blk_cell BK177.out 1).trans rfl; have hcz6_2 : w5.cell? ⟨gb177, 2, none⟩ = some (.slice A0_2 l0_2.length c0_2) := (blk_cell BK177.out 2).trans rfl; have hfz6_0 := blk_frozen BK177.out 0; have hfz6_1 := blk_frozen BK177.out 1; have hfz6_2 := blk_frozen BK177.out 2) | ((with_reducible refine gate_callee (f := 18) rfl ?_); refine goesL_ (some 8) rfl rfl Tryd.func18 (by kernel_rfl) rfl #[.agg #[.slice A0_0 l0_0.length c0_0, .slice A0_1 l0_1.length c0_1, .slice A0_2 l0_2.length c0_2]] rfl (by (try simp only [List.map_toArray, List.map_cons, List.map_nil]); first | done | rfl | (simp only [List.length_drop, List.length_take]; rfl)) ?_; (with_reducible refine (correct_Check.calls k _ _ l0_0 _ _ l0_1 _ _ l0_2 t178 _ ?side1 ?side2 ?side3 ?side4 ?side5 ?side6 A2.out).mono ?_); (case side1 => repeat (first | exact (Kd.C_below HR0_0.out HB.out) | (with_reducible refine Kd.C_alloc ?_ _) | (with_reducible refine Kd.C_drewN ?_ _) | (with_reducible refine Kd.C_drew ?_))); (case side2 => exact HC0_0.out); (case side3 => repeat (first | exact (Kd.C_below HR0_1.out HB.out) | (with_reducible refine Kd.C_alloc ?_ _) | (with_reducible refine Kd.C_drewN ?_ _) | (with_reducible refine Kd.C_drew ?_))); (case side4 => exact HC0_1.out); (case side5 => repeat (first | exact (Kd.C_below HR0_2.out HB.out) | (with_reducible refine Kd.C_alloc ?_ _) | (with_reducible refine Kd.C_drewN ?_ _) | (with_reducible refine Kd.C_drew ?_))); (case side6 => exact HC0_2.out); rintro e w7 ⟨rfl, hb⟩; refine ⟨_, rfl, ?_⟩; have n0_ := Aside0.mk (blk_below (bG BK177.out) hb); have n1_ := Aside0.mk (below_step (eG HB.out) hb); clear BK177; clear HB; have BK177 := n0_; have HB := n1_; clear n0_ n1_; (try clear hb); (try clear hb2); (try clear hk); (try clear hi); have hcz8_0 : w7.cell? ⟨gb177, 0, none⟩ = some (.slice A0_0 l0_0.length c0_0) := (blk_cell BK177.out 0).trans rfl; have hcz8_1 : w7.cell? ⟨gb177, 1, none⟩ = some (.slice A0_1 l0_1.length c0_1) := (blk_cell BK177.out 1).trans rfl; have hcz8_2 : w7.cell? ⟨gb177, 2, none⟩ = some (.slice A0_2 l0_2.length c0_2) := (blk_cell BK177.out 2).trans rfl; have hfz8_0 := blk_frozen BK177.out 0; have hfz8_1 := blk_frozen BK177.out 1; have hfz8_2 := blk_frozen BK177.out 2) | ((with_reducible refine gate_callee (f := 43) rfl ?_); refine goesL_ (some 12) rfl rfl Tryd.func43 (by kernel_rfl) rfl #[.string (⟨#[97, 112, 112, 97, 114, 101, 110, 116]⟩ : ByteArray), .slice A0_1 l0_1.length c0_1] rfl (by (try simp only [List.map_toArray, List.map_cons, List.map_nil]); first | done | rfl | (simp only [List.length_drop, List.length_take]; rfl)) ?_; (with_reducible refine (correct_line.calls k (⟨#[97, 112, 112, 97, 114, 101, 110, 116]⟩ : ByteArray) _ _ l0_1 t179 _ ?side1 ?side2 ?side3 A4.out).mono ?_); (case side1 => repeat (first | exact (Kd.C_below HR0_1.out HB.out) | (with_reducible refine Kd.C_alloc ?_ _) | (with_reducible refine Kd.C_drewN ?_ _) | (with_reducible refine Kd.C_drew ?_))); (case side2 => exact HC0_1.out); (case side3 => exact GI.below HG.out (eG HB.out)); rintro e w9 ⟨rfl, hb⟩; refine ⟨_, rfl, ?_⟩; have n0_ := Aside0.mk (blk_below (bG BK177.out) hb); have n1_ := Aside0.mk (below_step (eG HB.out) hb); clear BK177; clear HB; have BK177 := n0_; have HB := n1_; clear n0_ n1_; (try clear hb); (try clear hb2); (try clear hk); (try clear hi); have hcz10_0 : w9.cell? ⟨gb177, 0, none⟩ = some (.slice A0_0 l0_0.length c0_0) := (blk_cell BK177.out 0).trans rfl; have hcz10_1 : w9.cell? ⟨gb177, 1, none⟩ = some (.slice A0_1 l0_1.length c0_1) := (blk_cell BK177.out 1).trans rfl; have hcz10_2 : w9.cell? ⟨gb177, 2, none⟩ = some (.slice A0_2 l0_2.length c0_2) := (blk_cell BK177.out 2).trans rfl; have hfz10_0 := blk_frozen BK177.out 0; have hfz10_1 := blk_frozen BK177.out 1; have hfz10_2 := blk_frozen BK177.out 2))
  go_loopg [4, 16] k (fun kq v4 v16 w' => ∃ (x4_1 : ByteArray) (x16_1 : Int), v4 = .string x4_1 ∧ v16 = .int .i64 x16_1 ∧ Aside0 (correct_Print.l0 kq x4_1 l0_0 (l0_0.length : Int) x16_1 l0_0 l0_1 l0_2 = some (r1, r2)) ∧ Aside0 (kq ≤ k) ∧ Aside0 (w'.heap[gb177]? = some (.cells #[(.slice A0_0 l0_0.length c0_0), (.slice A0_1 l0_1.length c0_1), (.slice A0_2 l0_2.length c0_2)] 25 (0, 0))) ∧ Aside0 (Below w.heap.size w w'))
  case atStart => exact ⟨(t179), (0), (by first | rfl | (simp; done) | (simp [*]; done)), (by first | rfl | (simp; done) | (simp [*]; done)), H', ⟨Nat.le_refl _⟩, ⟨by (with_reducible repeat first | apply bN | apply bD | apply bA); exact BK177.out⟩, ⟨eG HB.out⟩⟩
  case round =>
   clear H'; repeat first | clear c1 | clear c2 | clear p2 | clear c3 | clear c3b0 | clear c3b1 | clear c4 | clear hcz10_0 | clear hcz10_1 | clear hcz10_2 | clear hcz6_0 | clear hcz6_1 | clear hcz6_2 | clear hcz8_0 | clear hcz8_1 | clear hcz8_2 | clear hfz10_0 | clear hfz10_1 | clear hfz10_2 | clear hfz6_0 | clear hfz6_1 | clear hfz6_2 | clear hfz8_0 | clear hfz8_1 | clear hfz8_2
   obtain ⟨x4_1, x16_1, rfl, rfl, HA, HK1, BK177, HB⟩ := hrel
   cases gk with
   | zero => exact absurd HA.out (by simp [correct_Print.l0])
   | succ k1 =>
    have H := HA.out; clear HA; simp only [correct_Print.l0] at H; by_cases c11 : x16_1 < (l0_0.length : Int)
    ·
     rw [if_pos c11] at H; have c11b0 : decide (x16_1 < (l0_0.length : Int)) = true := decide_eq_true c11; clear c11; by_cases c12 : 0 ≤ x16_1
     ·
      rw [if_pos c12] at H; have c12b0 : decide (0 ≤ x16_1) = true := decide_eq_true c12; clear c12; by_cases c13 : x16_1 < (l0_0.length : Int)
      ·
       rw [if_pos c13] at H; have c13b0 : decide (x16_1 < (l0_0.length : Int)) = true := decide_eq_true c13; clear c13; obtain ⟨y181, hy181⟩ : ∃ y_ : List Int, y_ = (([rd l0_0 x16_1] : List Int)) := ⟨_, rfl⟩; replace H : (if x16_1 < (l0_2.length : Int) then (if y181.length + (rd_L1 l0_2 x16_1).length < 17592186044416 then ((correct_line.f k1 (⟨#[104, 101, 97, 116]⟩ : ByteArray) (y181 ++ (rd_L1 l0_2 x16_1))).bind fun t188 => (if x4_1.size + t188.size ≤ 9223372036854775807 then (correct_Print.l0 k1 (x4_1 ++ t188) l0_0 (l0_0.length : Int) (wrap64 (x16_1 + 1)) l0_0 l0_1 l0_2) else (none))) else (none)) else (none)) = some (r1, r2) := by first | (rw [hy181]; with_reducible exact H) | (have H2_ := (Option.bind_some _ _).symm.trans H; rw [hy181]; with_reducible exact H2_) | (have H2_ := (Option.bind_some _ _).symm.trans H; with_reducible exact H2_) | with_reducible exact H | (rw [hy181]; exact H) | exact H
       have Ny181 := Aside0.mk hy181; clear hy181; by_cases c14 : x16_1 < (l0_2.length : Int)
       ·
        rw [if_pos c14] at H; have c14b0 : decide (x16_1 < (l0_2.length : Int)) = true := decide_eq_true c14; clear c14; by_cases c15 : y181.length + (rd_L1 l0_2 x16_1).length < 17592186044416
        ·
         rw [if_pos c15] at H; have LMc15 := Aside0.mk c15; clear c15; obtain ⟨y185, hy185⟩ : ∃ y_ : List Int, y_ = (y181 ++ (rd_L1 l0_2 x16_1)) := ⟨_, rfl⟩; replace H : ((correct_line.f k1 (⟨#[104, 101, 97, 116]⟩ : ByteArray) y185).bind fun t188 => (if x4_1.size + t188.size ≤ 9223372036854775807 then (correct_Print.l0 k1 (x4_1 ++ t188) l0_0 (l0_0.length : Int) (wrap64 (x16_1 + 1)) l0_0 l0_1 l0_2) else (none))) = some (r1, r2) := by first | (rw [hy185]; with_reducible exact H) | (have H2_ := (Option.bind_some _ _).symm.trans H; rw [hy185]; with_reducible exact H2_) | (have H2_ := (Option.bind_some _ _).symm.trans H; with_reducible exact H2_) | with_reducible exact H | (rw [hy185]; exact H) | exact H
         have Ny185 := Aside0.mk hy185; clear hy185; replace H := Option.bind_eq_some_iff.mp H; obtain ⟨t188, A160, H⟩ := H; replace H : (if x4_1.size + t188.size ≤ 9223372036854775807 then (correct_Print.l0 k1 (x4_1 ++ t188) l0_0 (l0_0.length : Int) (wrap64 (x16_1 + 1)) l0_0 l0_1 l0_2) else (none)) = some (r1, r2) := H; have A16 := Aside0.mk A160; clear A160; by_cases c17 : x4_1.size + t188.size ≤ 9223372036854775807
         ·
          rw [if_pos c17] at H; have c17b0 := eq_true c17; have c17b1 : decide (x4_1.size + t188.size ≤ 9223372036854775807) = true := decide_eq_true c17; try have c17b2 : (9223372036854775807 < x4_1.size + t188.size) = False := eq_false (Nat.not_lt.2 c17)
          have H' := Aside0.mk H; clear H; have p180 : 0 ≤ (x16_1 : Int) := of_decide_eq_true (by first | (with_reducible assumption) | assumption); have q180 : x16_1 < (l0_0.length : Int) := of_decide_eq_true (by first | (with_reducible assumption) | assumption); obtain ⟨ad180, e180, hx180_0⟩ := Kd.at_int HR0_0.out x16_1 p180 q180; cases e180; replace hx180_0 := (HB.out.cell (World.block_lt_of_cell? w _ hx180_0)).trans hx180_0; replace p180 := eq_true p180; replace q180 := eq_true q180; go_wp2_with (first | ((with_reducible refine gate_dst (N := 23) rfl ?_); refine Kd.R_lit (Kd.int .i64) _ 3 ?hg (N := 23) ?hd (xs := ([rd l0_0 x16_1] : List Int)) (inner := [.int .i64 (rd l0_0 x16_1)]) (ok := fun _ => True) (okp := fun _ => True) ?hr ?hp (fun _ hk => hk) trivial (Below.refl _ _) (Nat.le_refl _) (by simp) ?_; (case hd => rfl); (case hg => rfl); (case hr => first | (go_simp; done) | (go_simp; rfl)); (case hp => exact (Reps.one (show Kd.M (Kd.int .i64) _ _ _ (rd l0_0 x16_1) [.int .i64 (rd l0_0 x16_1)] from rfl) (Reps.none _ _))); intro v182 w18 ho19 hb hg_ hnew_; clear hg_ hnew_; (first | rw [← Ny181.out] at ho19 | (simp only [Int.reduceToNat] at ho19; rw [← Ny181.out] at ho19)); have n0_ := Aside0.mk (Kd.R_lower ho19 (below_size (eG HB.out))); have n1_ := Aside0.mk (blk_below (bG BK177.out) hb); have n2_ := Aside0.mk (below_step (eG HB.out) hb); clear BK177; clear HB; have HO183 := n0_; have BK177 := n1_; have HB := n2_; clear n0_ n1_ n2_; clear hb ho19; have hcz20_0 : w18.cell? ⟨gb177, 0, none⟩ = some (.slice (some ad180) l0_0.length c0_0) := (blk_cell BK177.out 0).trans rfl; have hcz20_1 : w18.cell? ⟨gb177, 1, none⟩ = some (.slice A0_1 l0_1.length c0_1) := (blk_cell BK177.out 1).trans rfl; have hcz20_2 : w18.cell? ⟨gb177, 2, none⟩ = some (.slice A0_2 l0_2.length c0_2) := (blk_cell BK177.out 2).trans rfl; have hfz20_0 := blk_frozen BK177.out 0; have hfz20_1 := blk_frozen BK177.out 1; have hfz20_2 := blk_frozen BK177.out 2; have p184 : 0 ≤ (x16_1 : Int) := of_decide_eq_true (by first | (with_reducible assumption) | assumption); have q184 : x16_1 < (l0_2.length : Int) := of_decide_eq_true (by first | (with_reducible assumption) | assumption); obtain ⟨ad184, A184_0, c184_0, e184, hx184_0, hl184_0, hi184_0⟩ := at_L1 HR0_2.out x16_1 p184 q184; cases e184; replace hx184_0 := (HB.out.cell (World.block_lt_of_cell? w _ hx184_0)).trans hx184_0; have HR184_0 := Aside0.mk hi184_0; have HC184_0 := Aside0.mk hl184_0; clear hi184_0 hl184_0; replace p184 := eq_true p184; replace q184 := eq_true q184) | ((with_reducible refine gate_builtin (b := .append) (xs := #[.tmp 23, .tmp 28]) rfl ?_); at_builtin; refine Kd.R_append_rows (Kd.int .i64) (w0 := w) w.heap.size rfl (.tmp 23) (.tmp 28) 22 3 (.int .i64 0) 8 rfl Tryd.underlying22 info3 rfl (by decide) (by omega) v182 y181 (rd_L1 l0_2 x16_1) _ _ _ (fun _ => True) (fun _ => False) rfl rfl ?aO ?aR (fun _ _ h => h) (fun _ h => h.elim) ?aF ?aB ?aS ?aL ?_; (case aR => repeat (first | exact (Kd.C_below HR184_0.out HB.out) | (with_reducible refine Kd.C_alloc ?_ _) | (with_reducible refine Kd.C_drewN ?_ _) | (with_reducible refine Kd.C_drew ?_))); (case aB => exact (eG HB.out)); (case aF => exact (fun _ _ => trivial)); (case aO => exact (rG HO183.out)); (case aS => exact (below_size (eG HB.out))); (case aL => have := LMc15.out; omega); intro v186 w21 ho hb hg hat; rw [← Ny185.out] at ho; have n0_ := Aside0.mk (blk_grown (bG BK177.out) hg (Kd.R_ne HO183.out BK177.out (by decide))); have n1_ := Aside0.mk (hb); have n2_ := Aside0.mk (ho); clear BK177; clear HB; clear HO183; have BK177 := n0_; have HB := n1_; have HO187 := n2_; clear n0_ n1_ n2_; clear ho hb hg hat; obtain ⟨Ao22, co22, eo22⟩ := Kd.R_slice HO187.out; subst eo22) | ((with_reducible refine gate_callee (f := 43) rfl ?_); refine goesL_ (some 30) rfl rfl Tryd.func43 (by kernel_rfl) rfl #[.string (⟨#[104, 101, 97, 116]⟩ : ByteArray), .slice Ao22 y185.length co22] rfl (by (try simp only [List.map_toArray, List.map_cons, List.map_nil]); first | done | rfl | (simp only [List.length_drop, List.length_take]; rfl)) ?_; (with_reducible refine (correct_line.calls k1 (⟨#[104, 101, 97, 116]⟩ : ByteArray) _ _ y185 t188 _ ?side1 ?side2 ?side3 A16.out).mono ?_); (case side1 => repeat (first | exact (Kd.R_reads' HO187.out).2.2 | (with_reducible refine Kd.C_alloc ?_ _) | (with_reducible refine Kd.C_drewN ?_ _) | (with_reducible refine Kd.C_drew ?_))); (case side2 => exact (Kd.R_reads' HO187.out).2.1); (case side3 => exact GI.below HG.out (eG HB.out)); rintro e w23 ⟨rfl, hb⟩; refine ⟨_, rfl, ?_⟩; have n0_ := Aside0.mk (Kd.R_below (rG HO187.out) hb); have n1_ := Aside0.mk (blk_below (bG BK177.out) hb); have n2_ := Aside0.mk (below_step (eG HB.out) hb); clear HO187; clear BK177; clear HB; have HO187 := n0_; have BK177 := n1_; have HB := n2_; clear n0_ n1_ n2_; (try clear hb); (try clear hb2); (try clear hk); (try clear hi)))
          go_roundg k1
          case measure => have := HK1.out; omega
          case rel => exact ⟨(x4_1 ++ t188), (wrap64 (x16_1 + 1)), (by first | rfl | (simp; done) | (simp [*]; done)), (by first | rfl | (simp; done) | (simp [*]; done)), H', ⟨by have := HK1.out; omega⟩, ⟨by (with_reducible repeat first | apply bN | apply bD | apply bA); exact BK177.out⟩, ⟨eG HB.out⟩⟩
         · rw [if_neg c17] at H; exact absurd H (by simp)
        · rw [if_neg c15] at H; exact absurd H (by simp)
       · rw [if_neg c14] at H; exact absurd H (by simp)
      · rw [if_neg c13] at H; exact absurd H (by simp)
     · rw [if_neg c12] at H; exact absurd H (by simp)
    ·
     rw [if_neg c11] at H; have c11b0 : decide (x16_1 < (l0_0.length : Int)) = false := decide_eq_false c11; clear c11; simp only [Option.some.injEq, Prod.mk.injEq] at H; obtain ⟨rfl, rfl⟩ := H; go_wp2; go_ret2
     exact ⟨by first | rfl | (simp [errW_none, errW_some] <;> rfl) | (simp [*, errW_none, errW_some] <;> rfl), eG HB.out⟩
 ·
  rw [if_neg c3] at H; have c3b0 : (t178 == 0) = false := beq_eq_false_iff_ne.mpr c3; have c3b1 : (t178 != 0) = true := bne_iff_ne.mpr c3; simp only [Option.some.injEq, Prod.mk.injEq] at H; obtain ⟨rfl, rfl⟩ := H; go_enter Tryd.func20, Tryd.ntmps20
  go_wp2_with (first | ((with_reducible refine gate_dst (N := 1) rfl ?_); refine box_event ?hg (N := 1) ?hd (cs := #[.slice A0_0 l0_0.length c0_0, .slice A0_1 l0_1.length c0_1, .slice A0_2 l0_2.length c0_2]) (t := 25) ?hr ?_; (case hd => rfl); (case hg => rfl); (case hr => first | (go_simp; done) | (go_simp; rfl)); intro gb177 hg w24 hbox hb; have n0_ := Aside0.mk (below_step (eG HB.out) hb); have n1_ := Aside0.mk (hbox); have n2_ := Aside0.mk ((by rw [hg]; exact (below_size (eG HB.out)) : w.heap.size ≤ gb177)); have n3_ := Aside0.mk ((by rw [hg]; exact (below_size (eG HB.out)) : w.heap.size ≤ gb177)); clear HB; have HB := n0_; have BK177 := n1_; have GW177 := n2_; have GE177 := n3_; have ig177_ := geI GE177; clear n0_ n1_ n2_ n3_; clear hb hbox hg; have hcz25_0 : w24.cell? ⟨gb177, 0, none⟩ = some (.slice A0_0 l0_0.length c0_0) := (blk_cell BK177.out 0).trans rfl; have hcz25_1 : w24.cell? ⟨gb177, 1, none⟩ = some (.slice A0_1 l0_1.length c0_1) := (blk_cell BK177.out 1).trans rfl; have hcz25_2 : w24.cell? ⟨gb177, 2, none⟩ = some (.slice A0_2 l0_2.length c0_2) := (blk_cell BK177.out 2).trans rfl; have hfz25_0 := blk_frozen BK177.out 0; have hfz25_1 := blk_frozen BK177.out 1; have hfz25_2 := blk_frozen BK177.out 2) | ((with_reducible refine gate_callee (f := 18) rfl ?_); refine goesL_ (some 8) rfl rfl Tryd.func18 (by kernel_rfl) rfl #[.agg #[.slice A0_0 l0_0.length c0_0, .slice A0_1 l0_1.length c0_1, .slice A0_2 l0_2.length c0_2]] rfl (by (try simp only [List.map_toArray, List.map_cons, List.map_nil]); first | done | rfl | (simp only [List.length_drop, List.length_take]; rfl)) ?_; (with_reducible refine (correct_Check.calls k _ _ l0_0 _ _ l0_1 _ _ l0_2 t178 _ ?side1 ?side2 ?side3 ?side4 ?side5 ?side6 A2.out).mono ?_); (case side1 => repeat (first | exact (Kd.C_below HR0_0.out HB.out) | (with_reducible refine Kd.C_alloc ?_ _) | (with_reducible refine Kd.C_drewN ?_ _) | (with_reducible refine Kd.C_drew ?_))); (case side2 => exact HC0_0.out); (case side3 => repeat (first | exact (Kd.C_below HR0_1.out HB.out) | (with_reducible refine Kd.C_alloc ?_ _) | (with_reducible refine Kd.C_drewN ?_ _) | (with_reducible refine Kd.C_drew ?_))); (case side4 => exact HC0_1.out); (case side5 => repeat (first | exact (Kd.C_below HR0_2.out HB.out) | (with_reducible refine Kd.C_alloc ?_ _) | (with_reducible refine Kd.C_drewN ?_ _) | (with_reducible refine Kd.C_drew ?_))); (case side6 => exact HC0_2.out); rintro e w26 ⟨rfl, hb⟩; refine ⟨_, rfl, ?_⟩; have n0_ := Aside0.mk (blk_below (bG BK177.out) hb); have n1_ := Aside0.mk (below_step (eG HB.out) hb); clear BK177; clear HB; have BK177 := n0_; have HB := n1_; clear n0_ n1_; (try clear hb); (try clear hb2); (try clear hk); (try clear hi)))
  go_ret2
  exact ⟨by first | rfl | (simp [errW_none, errW_some] <;> rfl) | (simp [*, errW_none, errW_some] <;> rfl), eG HB.out⟩
def spilelaw19_awake.f  : Option (Bool) := some true
set_option maxHeartbeats 8000000 in
set_option maxRecDepth 100000 in
theorem spilelaw19_awake.calls  (r : Bool) (w : World) (hG : GI w) (h : spilelaw19_awake.f  = some r) :
  Calls Tryd.prog 10 #[] w fun e w' => e = .returned (.bool r) ∧ Below w.heap.size w w' := by
 have hu25 := Tryd.underlying25; have hu29 := Tryd.underlying29; have HG := Aside0.mk hG; clear hG; have HB := Aside0.mk (Below.refl w.heap.size w); have H : (some true) = some r := h; clear h; obtain ⟨y189, hy189⟩ : ∃ y_ : List Int, y_ = (([100, 300] : List Int)) := ⟨_, rfl⟩; have Ny189 := Aside0.mk hy189; clear hy189; obtain ⟨y192, hy192⟩ : ∃ y_ : List Int, y_ = (([4000, 5000] : List Int)) := ⟨_, rfl⟩; have Ny192 := Aside0.mk hy192; clear hy192; obtain ⟨y195, hy195⟩ : ∃ y_ : List Int, y_ = (([4400, 5400] : List Int)) := ⟨_, rfl⟩; have Ny195 := Aside0.mk hy195; clear hy195; obtain ⟨y198, hy198⟩ : ∃ y_ : List Int, y_ = (([3600, 4600] : List Int)) := ⟨_, rfl⟩; have Ny198 := Aside0.mk hy198; clear hy198; obtain ⟨y201, hy201⟩ : ∃ y_ : List (List Int), y_ = (([y195, y198] : List (List Int))) := ⟨_, rfl⟩; have Ny201 := Aside0.mk hy201; clear hy201; have A1 := Aside0.mk (show (correct_True.f 400 y189 y192 y201 200 4500) = some (4500, 0) from by (try rw [Ny201.out]); (try rw [Ny198.out]); (try rw [Ny195.out]); (try rw [Ny192.out]); (try rw [Ny189.out]); kernel_rfl); have A2 := Aside0.mk (show (correct_True.f 400 y189 y192 y201 150 4000) = some (4200, 0) from by (try rw [Ny201.out]); (try rw [Ny198.out]); (try rw [Ny195.out]); (try rw [Ny192.out]); (try rw [Ny189.out]); kernel_rfl); have A3 := Aside0.mk (show (correct_Around.f 400 y189 y192 y201 200 4500 10 20) = some (4440, 4560, 0) from by (try rw [Ny201.out]); (try rw [Ny198.out]); (try rw [Ny195.out]); (try rw [Ny192.out]); (try rw [Ny189.out]); kernel_rfl); have A4 := Aside0.mk (show (correct_Print.f 400 y189 y192 y201) = some ((⟨#[97, 112, 112, 97, 114, 101, 110, 116, 32, 52, 48, 48, 48, 32, 53, 48, 48, 48, 10, 104, 101, 97, 116, 32, 49, 48, 48, 32, 52, 52, 48, 48, 32, 53, 52, 48, 48, 10, 104, 101, 97, 116, 32, 51, 48, 48, 32, 51, 54, 48, 48, 32, 52, 54, 48, 48, 10]⟩ : ByteArray), 0) from by (try rw [Ny201.out]); (try rw [Ny198.out]); (try rw [Ny195.out]); (try rw [Ny192.out]); (try rw [Ny189.out]); kernel_rfl); obtain rfl := Option.some.inj H; go_enter Tryd.func10, Tryd.ntmps10
 try simp only [List.append_eq, List.cons_append, List.nil_append]
 go_wp2_with (first | ((with_reducible refine gate_dst (N := 10) rfl ?_); (try (refine gate_guard (by rfl) ?_; dsimp only)); refine Kd.R_lit (Kd.int .i64) _ 3 ?hg (N := 10) ?hd (xs := ([100, 300] : List Int)) (inner := [.int .i64 100, .int .i64 300]) (ok := fun _ => True) (okp := fun _ => True) ?hr ?hp (fun _ hk => hk) trivial (Below.refl _ _) (Nat.le_refl _) (by simp) ?_; (case hd => rfl); (case hg => rfl); (case hr => first | (go_simp; done) | (go_simp; rfl)); (case hp => exact (Reps.one (show Kd.M (Kd.int .i64) _ _ _ 100 [.int .i64 100] from rfl) (Reps.one (show Kd.M (Kd.int .i64) _ _ _ 300 [.int .i64 300] from rfl) (Reps.none _ _)))); intro v190 w5 ho6 hb hg_ hnew_; clear hg_ hnew_; (first | rw [← Ny189.out] at ho6 | (simp only [Int.reduceToNat] at ho6; rw [← Ny189.out] at ho6)); have n0_ := Aside0.mk (Kd.R_lower ho6 (below_size (eG HB.out))); have n1_ := Aside0.mk (below_step (eG HB.out) hb); clear HB; have HO191 := n0_; have HB := n1_; clear n0_ n1_; clear hb ho6) | ((with_reducible refine gate_dst (N := 11) rfl ?_); (try (refine gate_guard (by rfl) ?_; dsimp only)); refine Kd.R_lit (Kd.int .i64) _ 3 ?hg (N := 11) ?hd (xs := ([4000, 5000] : List Int)) (inner := [.int .i64 4000, .int .i64 5000]) (ok := fun _ => True) (okp := fun _ => True) ?hr ?hp (fun _ hk => hk) trivial (Below.refl _ _) (Nat.le_refl _) (by simp) ?_; (case hd => rfl); (case hg => rfl); (case hr => first | (go_simp; done) | (go_simp; rfl)); (case hp => exact (Reps.one (show Kd.M (Kd.int .i64) _ _ _ 4000 [.int .i64 4000] from rfl) (Reps.one (show Kd.M (Kd.int .i64) _ _ _ 5000 [.int .i64 5000] from rfl) (Reps.none _ _)))); intro v193 w7 ho8 hb hg_ hnew_; clear hg_ hnew_; (first | rw [← Ny192.out] at ho8 | (simp only [Int.reduceToNat] at ho8; rw [← Ny192.out] at ho8)); have n0_ := Aside0.mk (Kd.R_elder' (rG HO191.out) (Kd.R_base ho8) hb); have n1_ := Aside0.mk (Kd.R_lower (Kd.R_new' ho8 (Kd.R_lt (rG HO191.out))) (below_size (eG HB.out))); have n2_ := Aside0.mk (below_step (eG HB.out) hb); clear HO191; clear HB; have HO191 := n0_; have HO194 := n1_; have HB := n2_; clear n0_ n1_ n2_; clear hb ho8) | ((with_reducible refine gate_dst (N := 12) rfl ?_); (try (refine gate_guard (by rfl) ?_; dsimp only)); refine Kd.R_lit (Kd.int .i64) _ 3 ?hg (N := 12) ?hd (xs := ([4400, 5400] : List Int)) (inner := [.int .i64 4400, .int .i64 5400]) (ok := fun _ => True) (okp := fun _ => True) ?hr ?hp (fun _ hk => hk) trivial (Below.refl _ _) (Nat.le_refl _) (by simp) ?_; (case hd => rfl); (case hg => rfl); (case hr => first | (go_simp; done) | (go_simp; rfl)); (case hp => exact (Reps.one (show Kd.M (Kd.int .i64) _ _ _ 4400 [.int .i64 4400] from rfl) (Reps.one (show Kd.M (Kd.int .i64) _ _ _ 5400 [.int .i64 5400] from rfl) (Reps.none _ _)))); intro v196 w9 ho10 hb hg_ hnew_; clear hg_ hnew_; (first | rw [← Ny195.out] at ho10 | (simp only [Int.reduceToNat] at ho10; rw [← Ny195.out] at ho10)); have n0_ := Aside0.mk (Kd.R_elder' (rG HO191.out) (Kd.R_base ho10) hb); have n1_ := Aside0.mk (Kd.R_elder' (rG HO194.out) (Kd.R_base ho10) hb); have n2_ := Aside0.mk (Kd.R_lower (Kd.R_new' (Kd.R_new' ho10 (Kd.R_lt (rG HO191.out))) (Kd.R_lt (rG HO194.out))) (below_size (eG HB.out))); have n3_ := Aside0.mk (below_step (eG HB.out) hb); clear HO191; clear HO194; clear HB; have HO191 := n0_; have HO194 := n1_; have HO197 := n2_; have HB := n3_; clear n0_ n1_ n2_ n3_; clear hb ho10) | ((with_reducible refine gate_dst (N := 13) rfl ?_); (try (refine gate_guard (by rfl) ?_; dsimp only)); refine Kd.R_lit (Kd.int .i64) _ 3 ?hg (N := 13) ?hd (xs := ([3600, 4600] : List Int)) (inner := [.int .i64 3600, .int .i64 4600]) (ok := fun _ => True) (okp := fun _ => True) ?hr ?hp (fun _ hk => hk) trivial (Below.refl _ _) (Nat.le_refl _) (by simp) ?_; (case hd => rfl); (case hg => rfl); (case hr => first | (go_simp; done) | (go_simp; rfl)); (case hp => exact (Reps.one (show Kd.M (Kd.int .i64) _ _ _ 3600 [.int .i64 3600] from rfl) (Reps.one (show Kd.M (Kd.int .i64) _ _ _ 4600 [.int .i64 4600] from rfl) (Reps.none _ _)))); intro v199 w11 ho12 hb hg_ hnew_; clear hg_ hnew_; (first | rw [← Ny198.out] at ho12 | (simp only [Int.reduceToNat] at ho12; rw [← Ny198.out] at ho12)); have n0_ := Aside0.mk (Kd.R_elder' (rG HO191.out) (Kd.R_base ho12) hb); have n1_ := Aside0.mk (Kd.R_elder' (rG HO194.out) (Kd.R_base ho12) hb); have n2_ := Aside0.mk (Kd.R_elder' (rG HO197.out) (Kd.R_base ho12) hb); have n3_ := Aside0.mk (Kd.R_lower (Kd.R_new' (Kd.R_new' (Kd.R_new' ho12 (Kd.R_lt (rG HO191.out))) (Kd.R_lt (rG HO194.out))) (Kd.R_lt (rG HO197.out))) (below_size (eG HB.out))); have n4_ := Aside0.mk (below_step (eG HB.out) hb); clear HO191; clear HO194; clear HO197; clear HB; have HO191 := n0_; have HO194 := n1_; have HO197 := n2_; have HO200 := n3_; have HB := n4_; clear n0_ n1_ n2_ n3_ n4_; clear hb ho12; obtain ⟨Ao13, co13, eo13⟩ := Kd.R_slice HO197.out; subst eo13; obtain ⟨Ao14, co14, eo14⟩ := Kd.R_slice HO200.out; subst eo14) | ((with_reducible refine gate_dst (N := 14) rfl ?_); (try (refine gate_guard (by rfl) ?_; dsimp only)); refine Kd.N_lit (Kd.slice 3 (Kd.int .i64)) _ 22 ?hg (N' := 14) ?hd (xs := ([y195, y198] : List (List Int))) (inner := [.slice Ao13 y195.length co13, .slice Ao14 y198.length co14]) (ok := (fun k_ => some k_ ≠ (v190 : Value).ownBlock ∧ some k_ ≠ (v193 : Value).ownBlock)) (okp := (fun k_ => some k_ ≠ (v190 : Value).ownBlock ∧ some k_ ≠ (v193 : Value).ownBlock)) ?hr ?hp (fun _ hk => hk) ((show ∀ k_, w11.heap.size ≤ k_ → (fun k_ => some k_ ≠ (v190 : Value).ownBlock ∧ some k_ ≠ (v193 : Value).ownBlock) k_ from fun k_ hk => ⟨Kd.fresh' (Kd.R_lt (rG HO191.out)) k_ hk, Kd.fresh' (Kd.R_lt (rG HO194.out)) k_ hk⟩) _ (Nat.le_refl _)) (Below.refl _ _) (Nat.le_refl _) (by simp) ?_; (case hd => rfl); (case hg => rfl); (case hr => first | (go_simp; done) | (go_simp; rfl)); (case hp => exact (Reps.one (show Kd.FK (Kd.slice 3 (Kd.int .i64)) _ _ y195 [.slice Ao13 y195.length co13] from (Kd.FK_slice_mk (Kd.R_reads' (Kd.R_mono (ok' := (fun k_ => some k_ ≠ (v190 : Value).ownBlock ∧ some k_ ≠ (v193 : Value).ownBlock)) (HO197.out) (fun k_ hk => ⟨hk.1.1.2, hk.1.2⟩))).2.1 (Kd.R_F (Kd.R_mono (ok' := (fun k_ => some k_ ≠ (v190 : Value).ownBlock ∧ some k_ ≠ (v193 : Value).ownBlock)) (HO197.out) (fun k_ hk => ⟨hk.1.1.2, hk.1.2⟩))))) (Reps.one (show Kd.FK (Kd.slice 3 (Kd.int .i64)) _ _ y198 [.slice Ao14 y198.length co14] from (Kd.FK_slice_mk (Kd.R_reads' (Kd.R_mono (ok' := (fun k_ => some k_ ≠ (v190 : Value).ownBlock ∧ some k_ ≠ (v193 : Value).ownBlock)) (HO200.out) (fun k_ hk => ⟨hk.1.1.2, hk.1.2⟩))).2.1 (Kd.R_F (Kd.R_mono (ok' := (fun k_ => some k_ ≠ (v190 : Value).ownBlock ∧ some k_ ≠ (v193 : Value).ownBlock)) (HO200.out) (fun k_ hk => ⟨hk.1.1.2, hk.1.2⟩))))) (Reps.none _ _)))); intro v202 w15 ho16 hb hg_ hnew_; clear hg_ hnew_; (first | rw [← Ny201.out] at ho16 | (simp only [Int.reduceToNat] at ho16; rw [← Ny201.out] at ho16)); have n0_ := Aside0.mk (Kd.R_below (rG HO191.out) hb); have n1_ := Aside0.mk (Kd.R_below (rG HO194.out) hb); have n2_ := Aside0.mk (Kd.N_lower ho16 (below_size (eG HB.out))); have n3_ := Aside0.mk (below_step (eG HB.out) hb); clear HO191; clear HO194; clear HB; clear HO197; clear HO200; have HO191 := n0_; have HO194 := n1_; have HO203 := n2_; have HB := n3_; clear n0_ n1_ n2_ n3_; clear hb ho16; obtain ⟨Ao17, co17, eo17⟩ := Kd.N_slice HO203.out; subst eo17; obtain ⟨Ao18, co18, eo18⟩ := Kd.R_slice HO194.out; subst eo18; obtain ⟨Ao19, co19, eo19⟩ := Kd.R_slice HO191.out; subst eo19) | ((with_reducible refine gate_dst (N := 1) rfl ?_); (try (refine gate_guard (by rfl) ?_; dsimp only)); refine box_event ?hg (N := 1) ?hd (cs := #[.slice none 0 0, .slice none 0 0, .slice none 0 0]) (t := 25) ?hr ?_; (case hd => rfl); (case hg => rfl); (case hr => first | (go_simp; done) | (go_simp; rfl)); intro gb204 hg w20 hbox hb; have n0_ := Aside0.mk (Kd.R_below (rG HO191.out) hb); have n1_ := Aside0.mk (Kd.R_below (rG HO194.out) hb); have n2_ := Aside0.mk (Kd.N_below (Kd.N_elderB (by (with_reducible repeat (first | apply Kd.N_alloc | apply Kd.N_drewN | apply Kd.N_drew)); exact HO203.out) gb204 (Nat.le_of_eq hg.symm)) hb); have n3_ := Aside0.mk (below_step (eG HB.out) hb); have n4_ := Aside0.mk (hbox); have n5_ := Aside0.mk ((by rw [hg]; exact (below_size (eG HB.out)) : w.heap.size ≤ gb204)); have n6_ := Aside0.mk ((by rw [hg]; exact (below_size (eG HB.out)) : w.heap.size ≤ gb204)); clear HO191; clear HO194; clear HO203; clear HB; have HO191 := n0_; have HO194 := n1_; have HO203 := n2_; have HB := n3_; have BK204 := n4_; have GW204 := n5_; have GE204 := n6_; have ig204_ := geI GE204; clear n0_ n1_ n2_ n3_ n4_ n5_ n6_; clear hb hbox hg; have hcz21_0 : w20.cell? ⟨gb204, 0, none⟩ = some (.slice none 0 0) := (blk_cell BK204.out 0).trans rfl; have hcz21_1 : w20.cell? ⟨gb204, 1, none⟩ = some (.slice none 0 0) := (blk_cell BK204.out 1).trans rfl; have hcz21_2 : w20.cell? ⟨gb204, 2, none⟩ = some (.slice none 0 0) := (blk_cell BK204.out 2).trans rfl; have hfz21_0 := blk_frozen BK204.out 0; have hfz21_1 := blk_frozen BK204.out 1; have hfz21_2 := blk_frozen BK204.out 2) | ((with_reducible refine gate_callee (f := 14) rfl ?_); refine goesL_ (some 18) rfl rfl Tryd.func14 (by kernel_rfl) rfl #[.agg #[.slice Ao19 y189.length co19, .slice Ao18 y192.length co18, .slice Ao17 y201.length co17], .int .i64 200, .int .i64 4500] rfl (by (try simp only [List.map_toArray, List.map_cons, List.map_nil]); first | done | rfl | (simp only [List.length_drop, List.length_take]; rfl)) ?_; (with_reducible refine (correct_True.calls 400 _ _ y189 _ _ y192 _ _ y201 200 4500 4500 0 _ ?side1 ?side2 ?side3 ?side4 ?side5 ?side6 A1.out).mono ?_); (case side1 => refine (Kd.R_reads' (e := 3) (base := w.heap.size) (ok := fun k_ => (((True ∧ some k_ ≠ (.slice Ao18 y192.length co18 : Value).ownBlock) ∧ some k_ ≠ (.slice Ao13 y195.length co13 : Value).ownBlock) ∧ some k_ ≠ (.slice Ao14 y198.length co14 : Value).ownBlock)) (n := y189.length) (c := co19) ?_).2.2; exact (by (with_reducible repeat (first | apply Kd.R_alloc | apply Kd.R_drewN | apply Kd.R_drew)); exact (Kd.R_mono (Kd.R_far (p := ⟨gb204, 2, none⟩) (Kd.R_far (p := ⟨gb204, 1, none⟩) (Kd.R_far (p := ⟨gb204, 0, none⟩) (Kd.R_types HO191.out BK204.out (by decide)) (fun _ hk => hk.2) (.slice Ao19 y189.length co19)) (fun _ hk => hk.2) (.slice Ao18 y192.length co18)) (fun _ hk => hk.2) (.slice Ao17 y201.length co17)) (fun _ h_ => h_.1)))); (case side2 => exact (Kd.R_reads' HO191.out).2.1); (case side3 => refine (Kd.R_reads' (e := 3) (base := w.heap.size) (ok := fun k_ => (((True ∧ some k_ ≠ (.slice Ao19 y189.length co19 : Value).ownBlock) ∧ some k_ ≠ (.slice Ao13 y195.length co13 : Value).ownBlock) ∧ some k_ ≠ (.slice Ao14 y198.length co14 : Value).ownBlock)) (n := y192.length) (c := co18) ?_).2.2; exact (by (with_reducible repeat (first | apply Kd.R_alloc | apply Kd.R_drewN | apply Kd.R_drew)); exact (Kd.R_mono (Kd.R_far (p := ⟨gb204, 2, none⟩) (Kd.R_far (p := ⟨gb204, 1, none⟩) (Kd.R_far (p := ⟨gb204, 0, none⟩) (Kd.R_types HO194.out BK204.out (by decide)) (fun _ hk => hk.2) (.slice Ao19 y189.length co19)) (fun _ hk => hk.2) (.slice Ao18 y192.length co18)) (fun _ hk => hk.2) (.slice Ao17 y201.length co17)) (fun _ h_ => h_.1)))); (case side4 => exact (Kd.R_reads' HO194.out).2.1); (case side5 => refine (Kd.N_reads' (e := 22) (base := w.heap.size) (ok := fun k_ => ((some k_ ≠ (.slice Ao19 y189.length co19 : Value).ownBlock ∧ some k_ ≠ (.slice Ao18 y192.length co18 : Value).ownBlock) ∧ k_ ≠ gb204)) (n := y201.length) (c := co17) ?_).2.2; exact (by (with_reducible repeat (first | apply Kd.N_alloc | apply Kd.N_drewN | apply Kd.N_drew)); exact (Kd.N_mono (Kd.N_far (p := ⟨gb204, 2, none⟩) (Kd.N_far (p := ⟨gb204, 1, none⟩) (Kd.N_far (p := ⟨gb204, 0, none⟩) (Kd.N_mono HO203.out (fun k_ hk => (⟨hk, hk.2⟩ : _ ∧ k_ ≠ gb204))) (fun _ hk => hk.2) (.slice Ao19 y189.length co19)) (fun _ hk => hk.2) (.slice Ao18 y192.length co18)) (fun _ hk => hk.2) (.slice Ao17 y201.length co17)) (fun _ h_ => h_.1)))); (case side6 => exact (Kd.N_reads' HO203.out).2.1); rintro e w22 ⟨rfl, hb⟩; refine ⟨_, rfl, ?_⟩; have n0_ := Aside0.mk (Kd.R_below (by (with_reducible repeat (first | apply Kd.R_alloc | apply Kd.R_drewN | apply Kd.R_drew)); exact (Kd.R_mono (Kd.R_far (p := ⟨gb204, 2, none⟩) (Kd.R_far (p := ⟨gb204, 1, none⟩) (Kd.R_far (p := ⟨gb204, 0, none⟩) (Kd.R_types HO191.out BK204.out (by decide)) (fun _ hk => hk.2) (.slice Ao19 y189.length co19)) (fun _ hk => hk.2) (.slice Ao18 y192.length co18)) (fun _ hk => hk.2) (.slice Ao17 y201.length co17)) (fun _ h_ => h_.1))) hb); have n1_ := Aside0.mk (Kd.R_below (by (with_reducible repeat (first | apply Kd.R_alloc | apply Kd.R_drewN | apply Kd.R_drew)); exact (Kd.R_mono (Kd.R_far (p := ⟨gb204, 2, none⟩) (Kd.R_far (p := ⟨gb204, 1, none⟩) (Kd.R_far (p := ⟨gb204, 0, none⟩) (Kd.R_types HO194.out BK204.out (by decide)) (fun _ hk => hk.2) (.slice Ao19 y189.length co19)) (fun _ hk => hk.2) (.slice Ao18 y192.length co18)) (fun _ hk => hk.2) (.slice Ao17 y201.length co17)) (fun _ h_ => h_.1))) hb); have n2_ := Aside0.mk (Kd.N_below (by (with_reducible repeat (first | apply Kd.N_alloc | apply Kd.N_drewN | apply Kd.N_drew)); exact (Kd.N_mono (Kd.N_far (p := ⟨gb204, 2, none⟩) (Kd.N_far (p := ⟨gb204, 1, none⟩) (Kd.N_far (p := ⟨gb204, 0, none⟩) (Kd.N_mono HO203.out (fun k_ hk => (⟨hk, hk.2⟩ : _ ∧ k_ ≠ gb204))) (fun _ hk => hk.2) (.slice Ao19 y189.length co19)) (fun _ hk => hk.2) (.slice Ao18 y192.length co18)) (fun _ hk => hk.2) (.slice Ao17 y201.length co17)) (fun _ h_ => h_.1))) hb); have n3_ := Aside0.mk (blk_below (g := gb204) (o := .cells #[.slice Ao19 y189.length co19, .slice Ao18 y192.length co18, .slice Ao17 y201.length co17] 25 (0, 0)) (by (with_reducible repeat first | apply bN | apply bD | apply bA); refine blk_put (cs := #[.slice Ao19 y189.length co19, .slice Ao18 y192.length co18, .slice none 0 0]) ?_ 2 _ rfl; (with_reducible repeat first | apply bN | apply bD | apply bA); refine blk_put (cs := #[.slice Ao19 y189.length co19, .slice none 0 0, .slice none 0 0]) ?_ 1 _ rfl; (with_reducible repeat first | apply bN | apply bD | apply bA); refine blk_put (cs := #[.slice none 0 0, .slice none 0 0, .slice none 0 0]) ?_ 0 _ rfl; (with_reducible repeat first | apply bN | apply bD | apply bA); exact BK204.out) hb); have n4_ := Aside0.mk (below_step (eG HB.out) hb); clear HO191; clear HO194; clear HO203; clear BK204; clear HB; have HO191 := n0_; have HO194 := n1_; have HO203 := n2_; have BK204 := n3_; have HB := n4_; clear n0_ n1_ n2_ n3_ n4_; (try clear hb); (try clear hb2); (try clear hk); (try clear hi); have hcz23_0 : w22.cell? ⟨gb204, 0, none⟩ = some (.slice Ao19 y189.length co19) := (blk_cell BK204.out 0).trans rfl; have hcz23_1 : w22.cell? ⟨gb204, 1, none⟩ = some (.slice Ao18 y192.length co18) := (blk_cell BK204.out 1).trans rfl; have hcz23_2 : w22.cell? ⟨gb204, 2, none⟩ = some (.slice Ao17 y201.length co17) := (blk_cell BK204.out 2).trans rfl; have hfz23_0 := blk_frozen BK204.out 0; have hfz23_1 := blk_frozen BK204.out 1; have hfz23_2 := blk_frozen BK204.out 2) | ((with_reducible refine gate_callee (f := 14) rfl ?_); refine goesL_ (some 23) rfl rfl Tryd.func14 (by kernel_rfl) rfl #[.agg #[.slice Ao19 y189.length co19, .slice Ao18 y192.length co18, .slice Ao17 y201.length co17], .int .i64 150, .int .i64 4000] rfl (by (try simp only [List.map_toArray, List.map_cons, List.map_nil]); first | done | rfl | (simp only [List.length_drop, List.length_take]; rfl)) ?_; (with_reducible refine (correct_True.calls 400 _ _ y189 _ _ y192 _ _ y201 150 4000 4200 0 _ ?side1 ?side2 ?side3 ?side4 ?side5 ?side6 A2.out).mono ?_); (case side1 => repeat (first | exact (Kd.R_reads' HO191.out).2.2 | (with_reducible refine Kd.C_alloc ?_ _) | (with_reducible refine Kd.C_drewN ?_ _) | (with_reducible refine Kd.C_drew ?_))); (case side2 => exact (Kd.R_reads' HO191.out).2.1); (case side3 => repeat (first | exact (Kd.R_reads' HO194.out).2.2 | (with_reducible refine Kd.C_alloc ?_ _) | (with_reducible refine Kd.C_drewN ?_ _) | (with_reducible refine Kd.C_drew ?_))); (case side4 => exact (Kd.R_reads' HO194.out).2.1); (case side5 => repeat (first | exact (Kd.N_reads' HO203.out).2.2 | (with_reducible refine Kd.C_alloc ?_ _) | (with_reducible refine Kd.C_drewN ?_ _) | (with_reducible refine Kd.C_drew ?_))); (case side6 => exact (Kd.N_reads' HO203.out).2.1); rintro e w24 ⟨rfl, hb⟩; refine ⟨_, rfl, ?_⟩; have n0_ := Aside0.mk (Kd.R_below (rG HO191.out) hb); have n1_ := Aside0.mk (Kd.R_below (rG HO194.out) hb); have n2_ := Aside0.mk (Kd.N_below (by (with_reducible repeat (first | apply Kd.N_alloc | apply Kd.N_drewN | apply Kd.N_drew)); exact HO203.out) hb); have n3_ := Aside0.mk (blk_below (bG BK204.out) hb); have n4_ := Aside0.mk (below_step (eG HB.out) hb); clear HO191; clear HO194; clear HO203; clear BK204; clear HB; have HO191 := n0_; have HO194 := n1_; have HO203 := n2_; have BK204 := n3_; have HB := n4_; clear n0_ n1_ n2_ n3_ n4_; (try clear hb); (try clear hb2); (try clear hk); (try clear hi); have hcz25_0 : w24.cell? ⟨gb204, 0, none⟩ = some (.slice Ao19 y189.length co19) := (blk_cell BK204.out 0).trans rfl; have hcz25_1 : w24.cell? ⟨gb204, 1, none⟩ = some (.slice Ao18 y192.length co18) := (blk_cell BK204.out 1).trans rfl; have hcz25_2 : w24.cell? ⟨gb204, 2, none⟩ = some (.slice Ao17 y201.length co17) := (blk_cell BK204.out 2).trans rfl; have hfz25_0 := blk_frozen BK204.out 0; have hfz25_1 := blk_frozen BK204.out 1; have hfz25_2 := blk_frozen BK204.out 2) | ((with_reducible refine gate_callee (f := 12) rfl ?_); refine goesL_ (some 28) rfl rfl Tryd.func12 (by kernel_rfl) rfl #[.agg #[.slice Ao19 y189.length co19, .slice Ao18 y192.length co18, .slice Ao17 y201.length co17], .int .i64 200, .int .i64 4500, .int .i64 10, .int .i64 20] rfl (by (try simp only [List.map_toArray, List.map_cons, List.map_nil]); first | done | rfl | (simp only [List.length_drop, List.length_take]; rfl)) ?_; (with_reducible refine (correct_Around.calls 400 _ _ y189 _ _ y192 _ _ y201 200 4500 10 20 4440 4560 0 _ ?side1 ?side2 ?side3 ?side4 ?side5 ?side6 A3.out).mono ?_); (case side1 => repeat (first | exact (Kd.R_reads' HO191.out).2.2 | (with_reducible refine Kd.C_alloc ?_ _) | (with_reducible refine Kd.C_drewN ?_ _) | (with_reducible refine Kd.C_drew ?_))); (case side2 => exact (Kd.R_reads' HO191.out).2.1); (case side3 => repeat (first | exact (Kd.R_reads' HO194.out).2.2 | (with_reducible refine Kd.C_alloc ?_ _) | (with_reducible refine Kd.C_drewN ?_ _) | (with_reducible refine Kd.C_drew ?_))); (case side4 => exact (Kd.R_reads' HO194.out).2.1); (case side5 => repeat (first | exact (Kd.N_reads' HO203.out).2.2 | (with_reducible refine Kd.C_alloc ?_ _) | (with_reducible refine Kd.C_drewN ?_ _) | (with_reducible refine Kd.C_drew ?_))); (case side6 => exact (Kd.N_reads' HO203.out).2.1); rintro e w26 ⟨rfl, hb⟩; refine ⟨_, rfl, ?_⟩; have n0_ := Aside0.mk (Kd.R_below (rG HO191.out) hb); have n1_ := Aside0.mk (Kd.R_below (rG HO194.out) hb); have n2_ := Aside0.mk (Kd.N_below (by (with_reducible repeat (first | apply Kd.N_alloc | apply Kd.N_drewN | apply Kd.N_drew)); exact HO203.out) hb); have n3_ := Aside0.mk (blk_below (bG BK204.out) hb); have n4_ := Aside0.mk (below_step (eG HB.out) hb); clear HO191; clear HO194; clear HO203; clear BK204; clear HB; have HO191 := n0_; have HO194 := n1_; have HO203 := n2_; have BK204 := n3_; have HB := n4_; clear n0_ n1_ n2_ n3_ n4_; (try clear hb); (try clear hb2); (try clear hk); (try clear hi)) | ((with_reducible refine gate_dst (N := 6) rfl ?_); (try (refine gate_guard (by rfl) ?_; dsimp only)); refine box_event ?hg (N := 6) ?hd (cs := #[.int .i64 0, .int .i64 0]) (t := 29) ?hr ?_; (case hd => rfl); (case hg => rfl); (case hr => first | (go_simp; done) | (go_simp; rfl)); intro gb205 hg w27 hbox hb; have n0_ := Aside0.mk (Kd.R_below (rG HO191.out) hb); have n1_ := Aside0.mk (Kd.R_below (rG HO194.out) hb); have n2_ := Aside0.mk (Kd.N_below (Kd.N_elderB (by (with_reducible repeat (first | apply Kd.N_alloc | apply Kd.N_drewN | apply Kd.N_drew)); exact HO203.out) gb205 (Nat.le_of_eq hg.symm)) hb); have n3_ := Aside0.mk (blk_below (bG BK204.out) hb); have n4_ := Aside0.mk (below_step (eG HB.out) hb); have n5_ := Aside0.mk (hbox); have n6_ := Aside0.mk ((by rw [hg]; exact (below_size (eG HB.out)) : w.heap.size ≤ gb205)); have n7_ := Aside0.mk ((by rw [hg]; exact (below_size (eG HB.out)) : w.heap.size ≤ gb205)); have n8_ := Aside0.mk ((by rw [hg]; exact Nat.ne_of_lt (blk_lt (bG BK204.out)) : gb204 ≠ gb205)); have n9_ := Aside0.mk ((by rw [hg]; exact Nat.ne_of_gt (blk_lt (bG BK204.out)) : gb205 ≠ gb204)); clear HO191; clear HO194; clear HO203; clear BK204; clear HB; have HO191 := n0_; have HO194 := n1_; have HO203 := n2_; have BK204 := n3_; have HB := n4_; have BK205 := n5_; have GW205 := n6_; have GE205 := n7_; have ig205_ := geI GE205; have NB204_205 := n8_; have NB205_204 := n9_; clear n0_ n1_ n2_ n3_ n4_ n5_ n6_ n7_ n8_ n9_; clear hb hbox hg; have hnb28 := NB205_204.out; have hnc28 := NB204_205.out; have hcz29_0 : w27.cell? ⟨gb205, 0, none⟩ = some (.int .i64 0) := (blk_cell BK205.out 0).trans rfl; have hcz29_1 : w27.cell? ⟨gb205, 1, none⟩ = some (.int .i64 0) := (blk_cell BK205.out 1).trans rfl; have hfz29_0 := blk_frozen BK205.out 0; have hfz29_1 := blk_frozen BK205.out 1; have hcz30_0 : w27.cell? ⟨gb204, 0, none⟩ = some (.slice Ao19 y189.length co19) := (blk_cell BK204.out 0).trans rfl; have hcz30_1 : w27.cell? ⟨gb204, 1, none⟩ = some (.slice Ao18 y192.length co18) := (blk_cell BK204.out 1).trans rfl; have hcz30_2 : w27.cell? ⟨gb204, 2, none⟩ = some (.slice Ao17 y201.length co17) := (blk_cell BK204.out 2).trans rfl; have hfz30_0 := blk_frozen BK204.out 0; have hfz30_1 := blk_frozen BK204.out 1; have hfz30_2 := blk_frozen BK204.out 2) | ((with_reducible refine gate_callee (f := 20) rfl ?_); refine goesL_ (some 33) rfl rfl Tryd.func20 (by kernel_rfl) rfl #[.agg #[.slice Ao19 y189.length co19, .slice Ao18 y192.length co18, .slice Ao17 y201.length co17]] rfl (by (try simp only [List.map_toArray, List.map_cons, List.map_nil]); first | done | rfl | (simp only [List.length_drop, List.length_take]; rfl)) ?_; (with_reducible refine (correct_Print.calls 400 _ _ y189 _ _ y192 _ _ y201 (⟨#[97, 112, 112, 97, 114, 101, 110, 116, 32, 52, 48, 48, 48, 32, 53, 48, 48, 48, 10, 104, 101, 97, 116, 32, 49, 48, 48, 32, 52, 52, 48, 48, 32, 53, 52, 48, 48, 10, 104, 101, 97, 116, 32, 51, 48, 48, 32, 51, 54, 48, 48, 32, 52, 54, 48, 48, 10]⟩ : ByteArray) 0 _ ?side1 ?side2 ?side3 ?side4 ?side5 ?side6 ?side7 A4.out).mono ?_); (case side1 => refine (Kd.R_reads' (e := 3) (base := w.heap.size) (ok := fun k_ => (((True ∧ some k_ ≠ (.slice Ao18 y192.length co18 : Value).ownBlock) ∧ some k_ ≠ (.slice Ao13 y195.length co13 : Value).ownBlock) ∧ some k_ ≠ (.slice Ao14 y198.length co14 : Value).ownBlock)) (n := y189.length) (c := co19) ?_).2.2; exact (by (with_reducible repeat (first | apply Kd.R_alloc | apply Kd.R_drewN | apply Kd.R_drew)); exact (Kd.R_mono (Kd.R_far (p := ⟨gb205, 1, none⟩) (Kd.R_far (p := ⟨gb205, 0, none⟩) (Kd.R_types HO191.out BK205.out (by decide)) (fun _ hk => hk.2) (.int .i64 4440)) (fun _ hk => hk.2) (.int .i64 4560)) (fun _ h_ => h_.1)))); (case side2 => exact (Kd.R_reads' HO191.out).2.1); (case side3 => refine (Kd.R_reads' (e := 3) (base := w.heap.size) (ok := fun k_ => (((True ∧ some k_ ≠ (.slice Ao19 y189.length co19 : Value).ownBlock) ∧ some k_ ≠ (.slice Ao13 y195.length co13 : Value).ownBlock) ∧ some k_ ≠ (.slice Ao14 y198.length co14 : Value).ownBlock)) (n := y192.length) (c := co18) ?_).2.2; exact (by (with_reducible repeat (first | apply Kd.R_alloc | apply Kd.R_drewN | apply Kd.R_drew)); exact (Kd.R_mono (Kd.R_far (p := ⟨gb205, 1, none⟩) (Kd.R_far (p := ⟨gb205, 0, none⟩) (Kd.R_types HO194.out BK205.out (by decide)) (fun _ hk => hk.2) (.int .i64 4440)) (fun _ hk => hk.2) (.int .i64 4560)) (fun _ h_ => h_.1)))); (case side4 => exact (Kd.R_reads' HO194.out).2.1); (case side5 => refine (Kd.N_reads' (e := 22) (base := w.heap.size) (ok := fun k_ => (((some k_ ≠ (.slice Ao19 y189.length co19 : Value).ownBlock ∧ some k_ ≠ (.slice Ao18 y192.length co18 : Value).ownBlock) ∧ k_ ≠ gb204) ∧ k_ ≠ gb205)) (n := y201.length) (c := co17) ?_).2.2; exact (by (with_reducible repeat (first | apply Kd.N_alloc | apply Kd.N_drewN | apply Kd.N_drew)); exact (Kd.N_mono (Kd.N_far (p := ⟨gb205, 1, none⟩) (Kd.N_far (p := ⟨gb205, 0, none⟩) (Kd.N_mono HO203.out (fun k_ hk => (⟨hk, hk.2⟩ : _ ∧ k_ ≠ gb205))) (fun _ hk => hk.2) (.int .i64 4440)) (fun _ hk => hk.2) (.int .i64 4560)) (fun _ h_ => h_.1)))); (case side6 => exact (Kd.N_reads' HO203.out).2.1); (case side7 => exact GI.below HG.out (eG HB.out)); rintro e w31 ⟨rfl, hb⟩; refine ⟨_, rfl, ?_⟩; have n0_ := Aside0.mk (Kd.R_below (by (with_reducible repeat (first | apply Kd.R_alloc | apply Kd.R_drewN | apply Kd.R_drew)); exact (Kd.R_mono (Kd.R_far (p := ⟨gb205, 1, none⟩) (Kd.R_far (p := ⟨gb205, 0, none⟩) (Kd.R_types HO191.out BK205.out (by decide)) (fun _ hk => hk.2) (.int .i64 4440)) (fun _ hk => hk.2) (.int .i64 4560)) (fun _ h_ => h_.1))) hb); have n1_ := Aside0.mk (Kd.R_below (by (with_reducible repeat (first | apply Kd.R_alloc | apply Kd.R_drewN | apply Kd.R_drew)); exact (Kd.R_mono (Kd.R_far (p := ⟨gb205, 1, none⟩) (Kd.R_far (p := ⟨gb205, 0, none⟩) (Kd.R_types HO194.out BK205.out (by decide)) (fun _ hk => hk.2) (.int .i64 4440)) (fun _ hk => hk.2) (.int .i64 4560)) (fun _ h_ => h_.1))) hb); have n2_ := Aside0.mk (Kd.N_below (by (with_reducible repeat (first | apply Kd.N_alloc | apply Kd.N_drewN | apply Kd.N_drew)); exact (Kd.N_mono (Kd.N_far (p := ⟨gb205, 1, none⟩) (Kd.N_far (p := ⟨gb205, 0, none⟩) (Kd.N_mono HO203.out (fun k_ hk => (⟨hk, hk.2⟩ : _ ∧ k_ ≠ gb205))) (fun _ hk => hk.2) (.int .i64 4440)) (fun _ hk => hk.2) (.int .i64 4560)) (fun _ h_ => h_.1))) hb); have n3_ := Aside0.mk (blk_below (g := gb204) (o := .cells #[.slice Ao19 y189.length co19, .slice Ao18 y192.length co18, .slice Ao17 y201.length co17] 25 (0, 0)) (by (with_reducible repeat first | apply bN | apply bD | apply bA); refine blk_far ?_ NB204_205.out _; (with_reducible repeat first | apply bN | apply bD | apply bA); refine blk_far ?_ NB204_205.out _; (with_reducible repeat first | apply bN | apply bD | apply bA); exact BK204.out) hb); have n4_ := Aside0.mk (blk_below (g := gb205) (o := .cells #[.int .i64 4440, .int .i64 4560] 29 (0, 0)) (by (with_reducible repeat first | apply bN | apply bD | apply bA); refine blk_put (cs := #[.int .i64 4440, .int .i64 0]) ?_ 1 _ rfl; (with_reducible repeat first | apply bN | apply bD | apply bA); refine blk_put (cs := #[.int .i64 0, .int .i64 0]) ?_ 0 _ rfl; (with_reducible repeat first | apply bN | apply bD | apply bA); exact BK205.out) hb); have n5_ := Aside0.mk (below_step (eG HB.out) hb); clear HO191; clear HO194; clear HO203; clear BK204; clear BK205; clear HB; have HO191 := n0_; have HO194 := n1_; have HO203 := n2_; have BK204 := n3_; have BK205 := n4_; have HB := n5_; clear n0_ n1_ n2_ n3_ n4_ n5_; (try clear hb); (try clear hb2); (try clear hk); (try clear hi); have hcz32_0 : w31.cell? ⟨gb205, 0, none⟩ = some (.int .i64 4440) := (blk_cell BK205.out 0).trans rfl; have hcz32_1 : w31.cell? ⟨gb205, 1, none⟩ = some (.int .i64 4560) := (blk_cell BK205.out 1).trans rfl; have hfz32_0 := blk_frozen BK205.out 0; have hfz32_1 := blk_frozen BK205.out 1))
 go_ret
 exact ⟨by first | rfl | (simp [errW_none, errW_some] <;> rfl) | (simp [*, errW_none, errW_some] <;> rfl), eG HB.out⟩
def spileref19_small.f (a0 : Int) : Option (Bool) := if a0 ≤ 8 then (some true) else (if a0 > 32 then (some (decide (a0 ≤ 37))) else (some false))
set_option maxHeartbeats 8000000 in
set_option maxRecDepth 100000 in
theorem spileref19_small.calls (a0 : Int) (r : Bool) (w : World) (h : spileref19_small.f a0 = some r) :
  Calls Tryd.prog 25 #[.int .i64 a0] w fun e w' => e = .returned (.bool r) ∧ Drawn0 w w' := by
 have H : (if a0 ≤ 8 then (some true) else (if a0 > 32 then (some (decide (a0 ≤ 37))) else (some false))) = some r := h; clear h; by_cases c2 : a0 ≤ 8
 ·
  rw [if_pos c2] at H; have c2b0 : decide (a0 ≤ 8) = true := decide_eq_true c2; clear c2; obtain rfl := Option.some.inj H; go_enter Tryd.func25, Tryd.ntmps25
  go_wp2; go_ret
  exact ⟨by first | rfl | (simp; done) | (simp [*]; done), by repeat (first | exact Drawn0.refl _ | apply Drawn0.step)⟩
 ·
  rw [if_neg c2] at H; have c2b0 : decide (a0 ≤ 8) = false := decide_eq_false c2; clear c2; by_cases c3 : a0 > 32
  ·
   rw [if_pos c3] at H; have c3b0 : decide (32 < a0) = true := decide_eq_true c3; clear c3; obtain rfl := Option.some.inj H; go_enter Tryd.func25, Tryd.ntmps25
   go_wp2; go_ret
   exact ⟨by first | rfl | (simp; done) | (simp [*]; done), by repeat (first | exact Drawn0.refl _ | apply Drawn0.step)⟩
  ·
   rw [if_neg c3] at H; have c3b0 : decide (32 < a0) = false := decide_eq_false c3; clear c3; obtain rfl := Option.some.inj H; go_enter Tryd.func25, Tryd.ntmps25
   go_wp2; go_ret
   exact ⟨by first | rfl | (simp; done) | (simp [*]; done), by repeat (first | exact Drawn0.refl _ | apply Drawn0.step)⟩
end Go.Proofs.YtmdfnambaedllaaDoor.Pr
namespace Go.Proofs.YtmdfnambaedllaaDoor.Pr
open Go.RowKit Go.Proofs.YtmdfnambaedllaaDoorW.PrintWords Go.Proofs.YtmdfnambaedllaaDoorW.PrintLast Go.Proofs.YtmdfnambaedllaaDoorW.PrintMore Go.Proofs.YtmdfnambaedllaaDoor.X
attribute [local go_sem] max2_int min2_int max_two min_two max_three min_three max_four min_four   -- for this text's walks alone
set_option linter.unusedVariables false
set_option linter.unusedSimpArgs false
mutual
def spileref19_Few.j0 : Nat → Bool → List Int → List Int → List (List Int) → Option (Bool)
 | 0, _, _, _, _ => none
 | k + 1, x22, x207000, x207001, x207002 => if x22 = true then (some false) else (spileref19_Few.l0 k 0 x207000 x207001 x207002)
def spileref19_Few.l0 : Nat → Int → List Int → List Int → List (List Int) → Option (Bool)
 | 0, _, _, _, _ => none
 | k + 1, x3, x207000, x207001, x207002 => if x3 < (x207002.length : Int) then (if 0 ≤ x3 then ((spileref19_small.f ((rd_L1 x207002 x3).length : Int)).bind fun t211 => (if t211 = true then (spileref19_Few.l0 k (wrap64 (x3 + 1)) x207000 x207001 x207002) else (some false))) else (none)) else (some true)
end
def spileref19_Few.f (k : Nat) (l0_0 : List Int) (l0_1 : List Int) (l0_2 : List (List Int)) : Option (Bool) := (spileref19_small.f (l0_0.length : Int)).bind fun t207 => (if t207 = true then ((spileref19_small.f (l0_1.length : Int)).bind fun t208 => (if t208 = true then ((spileref19_small.f (l0_2.length : Int)).bind fun t209 => (spileref19_Few.j0 k (!t209) l0_0 l0_1 l0_2)) else (spileref19_Few.j0 k true l0_0 l0_1 l0_2))) else (spileref19_Few.j0 k true l0_0 l0_1 l0_2))
set_option maxHeartbeats 8000000 in
set_option maxRecDepth 100000 in
theorem spileref19_Few.calls (k : Nat) (A0_0 : Option Addr) (c0_0 : Nat) (l0_0 : List Int) (A0_1 : Option Addr) (c0_1 : Nat) (l0_1 : List Int) (A0_2 : Option Addr) (c0_2 : Nat) (l0_2 : List (List Int)) (r : Bool) (w : World) (hr0_0 : Kd.C (Kd.int .i64) w A0_0 l0_0.length l0_0) (hc0_0 : l0_0.length ≤ c0_0) (hr0_1 : Kd.C (Kd.int .i64) w A0_1 l0_1.length l0_1) (hc0_1 : l0_1.length ≤ c0_1) (hr0_2 : Kd.C (Kd.slice 3 (Kd.int .i64)) w A0_2 l0_2.length l0_2) (hc0_2 : l0_2.length ≤ c0_2) (h : spileref19_Few.f k l0_0 l0_1 l0_2 = some r) :
  Calls Tryd.prog 11 #[.agg #[.slice A0_0 l0_0.length c0_0, .slice A0_1 l0_1.length c0_1, .slice A0_2 l0_2.length c0_2]] w fun e w' => e = .returned (.bool r) ∧ Below w.heap.size w w' := by
 have hu25 := Tryd.underlying25; have HR0_0 := Aside0.mk hr0_0; have HC0_0 := Aside0.mk hc0_0; clear hr0_0 hc0_0; have HR0_1 := Aside0.mk hr0_1; have HC0_1 := Aside0.mk hc0_1; clear hr0_1 hc0_1; have HR0_2 := Aside0.mk hr0_2; have HC0_2 := Aside0.mk hc0_2; clear hr0_2 hc0_2; have HB := Aside0.mk (Below.refl w.heap.size w); have H : ((spileref19_small.f (l0_0.length : Int)).bind fun t207 => (if t207 = true then ((spileref19_small.f (l0_1.length : Int)).bind fun t208 => (if t208 = true then ((spileref19_small.f (l0_2.length : Int)).bind fun t209 => (spileref19_Few.j0 k (!t209) l0_0 l0_1 l0_2)) else (spileref19_Few.j0 k true l0_0 l0_1 l0_2))) else (spileref19_Few.j0 k true l0_0 l0_1 l0_2))) = some r := h; clear h; have HC2 := Aside0.mk H; clear H; go_enter Tryd.func11, Tryd.ntmps11
 go_upto_region 1 with (first | ((with_reducible refine gate_dst (N := 1) rfl ?_); (try (refine gate_guard (by rfl) ?_; dsimp only)); refine box_event ?hg (N := 1) ?hd (cs := #[.slice A0_0 l0_0.length c0_0, .slice A0_1 l0_1.length c0_1, .slice A0_2 l0_2.length c0_2]) (t := 25) ?hr ?_; (case hd => rfl); (case hg => rfl); (case hr => first | (go_simp; done) | (go_simp; rfl)); intro gb206 hg w3 hbox hb; have n0_ := Aside0.mk (below_step (eG HB.out) hb); have n1_ := Aside0.mk (hbox); have n2_ := Aside0.mk ((by rw [hg]; exact (below_size (eG HB.out)) : w.heap.size ≤ gb206)); have n3_ := Aside0.mk ((by rw [hg]; exact (below_size (eG HB.out)) : w.heap.size ≤ gb206)); clear HB; have HB := n0_; have BK206 := n1_; have GW206 := n2_; have GE206 := n3_; have ig206_ := geI GE206; clear n0_ n1_ n2_ n3_; clear hb hbox hg))
 (try simp only [Act.put, sIA, sC0, sCS])
 go_cut [22] (fun v22 wc => ∃ (kq : Nat) (x22_1 : Bool), v22 = .bool x22_1 ∧ Aside0 (spileref19_Few.j0 kq x22_1 l0_0 l0_1 l0_2 = some r) ∧ Aside0 (kq ≤ k) ∧ Aside0 (wc.heap[gb206]? = some (.cells #[(.slice A0_0 l0_0.length c0_0), (.slice A0_1 l0_1.length c0_1), (.slice A0_2 l0_2.length c0_2)] 25 (0, 0))) ∧ Aside0 (Below w.heap.size w wc))
 case first =>
  have H := HC2.out; clear HC2; replace H := Option.bind_eq_some_iff.mp H; obtain ⟨t207, A40, H⟩ := H; replace H : (if t207 = true then ((spileref19_small.f (l0_1.length : Int)).bind fun t208 => (if t208 = true then ((spileref19_small.f (l0_2.length : Int)).bind fun t209 => (spileref19_Few.j0 k (!t209) l0_0 l0_1 l0_2)) else (spileref19_Few.j0 k true l0_0 l0_1 l0_2))) else (spileref19_Few.j0 k true l0_0 l0_1 l0_2)) = some r := H; have A4 := Aside0.mk A40; clear A40; by_cases c5 : t207 = true
  ·
   subst c5; replace H : ((spileref19_small.f (l0_1.length : Int)).bind fun t208 => (if t208 = true then ((spileref19_small.f (l0_2.length : Int)).bind fun t209 => (spileref19_Few.j0 k (!t209) l0_0 l0_1 l0_2)) else (spileref19_Few.j0 k true l0_0 l0_1 l0_2))) = some r := by rw [if_pos rfl] at H; exact H
   replace H := Option.bind_eq_some_iff.mp H; obtain ⟨t208, A60, H⟩ := H; replace H : (if t208 = true then ((spileref19_small.f (l0_2.length : Int)).bind fun t209 => (spileref19_Few.j0 k (!t209) l0_0 l0_1 l0_2)) else (spileref19_Few.j0 k true l0_0 l0_1 l0_2)) = some r := H; have A6 := Aside0.mk A60; clear A60; by_cases c7 : t208 = true
   ·
    subst c7; replace H : ((spileref19_small.f (l0_2.length : Int)).bind fun t209 => (spileref19_Few.j0 k (!t209) l0_0 l0_1 l0_2)) = some r := by rw [if_pos rfl] at H; exact H
    replace H := Option.bind_eq_some_iff.mp H; obtain ⟨t209, A80, H⟩ := H; replace H : (spileref19_Few.j0 k (!t209) l0_0 l0_1 l0_2) = some r := H; have A8 := Aside0.mk A80; clear A80; have H' := Aside0.mk H; clear H; have hcz9_0 : w3.cell? ⟨gb206, 0, none⟩ = some (.slice A0_0 l0_0.length c0_0) := (blk_cell BK206.out 0).trans rfl; have hcz9_1 : w3.cell? ⟨gb206, 1, none⟩ = some (.slice A0_1 l0_1.length c0_1) := (blk_cell BK206.out 1).trans rfl; have hcz9_2 : w3.cell? ⟨gb206, 2, none⟩ = some (.slice A0_2 l0_2.length c0_2) := (blk_cell BK206.out 2).trans rfl; have hfz9_0 := blk_frozen BK206.out 0; have hfz9_1 := blk_frozen BK206.out 1; have hfz9_2 := blk_frozen BK206.out 2; go_wp2_with (first | ((with_reducible refine gate_callee (f := 25) rfl ?_); refine goesL_ (some 7) rfl rfl Tryd.func25 (by kernel_rfl) rfl #[.int .i64 (l0_0.length : Int)] rfl (by (try simp only [List.map_toArray, List.map_cons, List.map_nil]); first | done | rfl | (simp only [List.length_drop, List.length_take]; rfl)) ?_; (with_reducible refine (spileref19_small.calls (l0_0.length : Int) true _ A4.out).mono ?_); rintro e w' ⟨rfl, ⟨nd, rfl⟩⟩; refine ⟨_, rfl, ?_⟩) | (go_at_call 25; (with_reducible refine (spileref19_small.calls (l0_1.length : Int) true _ A6.out).mono ?_); rintro e w' ⟨rfl, ⟨nd, rfl⟩⟩) | (go_at_call 25; (with_reducible refine (spileref19_small.calls (l0_2.length : Int) t209 _ A8.out).mono ?_); rintro e w' ⟨rfl, ⟨nd, rfl⟩⟩))
    go_meet
    case rel => exact ⟨_, (!t209), (by first | rfl | (simp; done) | (simp [*]; done)), H', ⟨by first | omega | exact Nat.le_refl _⟩, ⟨by (with_reducible repeat first | apply bN | apply bD | apply bA); exact BK206.out⟩, ⟨eG HB.out⟩⟩
   ·
    replace c7 := Bool.eq_false_iff.mpr c7; subst c7; replace H : (spileref19_Few.j0 k true l0_0 l0_1 l0_2) = some r := by rw [if_neg (show ¬ (false = true) by decide)] at H; exact H
    have H' := Aside0.mk H; clear H; have hcz10_0 : w3.cell? ⟨gb206, 0, none⟩ = some (.slice A0_0 l0_0.length c0_0) := (blk_cell BK206.out 0).trans rfl; have hcz10_1 : w3.cell? ⟨gb206, 1, none⟩ = some (.slice A0_1 l0_1.length c0_1) := (blk_cell BK206.out 1).trans rfl; have hcz10_2 : w3.cell? ⟨gb206, 2, none⟩ = some (.slice A0_2 l0_2.length c0_2) := (blk_cell BK206.out 2).trans rfl; have hfz10_0 := blk_frozen BK206.out 0; have hfz10_1 := blk_frozen BK206.out 1; have hfz10_2 := blk_frozen BK206.out 2; go_wp2_with (first | ((with_reducible refine gate_callee (f := 25) rfl ?_); refine goesL_ (some 7) rfl rfl Tryd.func25 (by kernel_rfl) rfl #[.int .i64 (l0_0.length : Int)] rfl (by (try simp only [List.map_toArray, List.map_cons, List.map_nil]); first | done | rfl | (simp only [List.length_drop, List.length_take]; rfl)) ?_; (with_reducible refine (spileref19_small.calls (l0_0.length : Int) true _ A4.out).mono ?_); rintro e w' ⟨rfl, ⟨nd, rfl⟩⟩; refine ⟨_, rfl, ?_⟩) | (go_at_call 25; (with_reducible refine (spileref19_small.calls (l0_1.length : Int) false _ A6.out).mono ?_); rintro e w' ⟨rfl, ⟨nd, rfl⟩⟩))
    go_meet
    case rel => exact ⟨_, (true), (by first | rfl | (simp; done) | (simp [*]; done)), H', ⟨by first | omega | exact Nat.le_refl _⟩, ⟨by (with_reducible repeat first | apply bN | apply bD | apply bA); exact BK206.out⟩, ⟨eG HB.out⟩⟩
  ·
   replace c5 := Bool.eq_false_iff.mpr c5; subst c5; replace H : (spileref19_Few.j0 k true l0_0 l0_1 l0_2) = some r := by rw [if_neg (show ¬ (false = true) by decide)] at H; exact H
   have H' := Aside0.mk H; clear H; have hcz11_0 : w3.cell? ⟨gb206, 0, none⟩ = some (.slice A0_0 l0_0.length c0_0) := (blk_cell BK206.out 0).trans rfl; have hcz11_1 : w3.cell? ⟨gb206, 1, none⟩ = some (.slice A0_1 l0_1.length c0_1) := (blk_cell BK206.out 1).trans rfl; have hcz11_2 : w3.cell? ⟨gb206, 2, none⟩ = some (.slice A0_2 l0_2.length c0_2) := (blk_cell BK206.out 2).trans rfl; have hfz11_0 := blk_frozen BK206.out 0; have hfz11_1 := blk_frozen BK206.out 1; have hfz11_2 := blk_frozen BK206.out 2; go_wp2_with (first | ((with_reducible refine gate_callee (f := 25) rfl ?_); refine goesL_ (some 7) rfl rfl Tryd.func25 (by kernel_rfl) rfl #[.int .i64 (l0_0.length : Int)] rfl (by (try simp only [List.map_toArray, List.map_cons, List.map_nil]); first | done | rfl | (simp only [List.length_drop, List.length_take]; rfl)) ?_; (with_reducible refine (spileref19_small.calls (l0_0.length : Int) false _ A4.out).mono ?_); rintro e w' ⟨rfl, ⟨nd, rfl⟩⟩; refine ⟨_, rfl, ?_⟩))
   go_meet
   case rel => exact ⟨_, (true), (by first | rfl | (simp; done) | (simp [*]; done)), H', ⟨by first | omega | exact Nat.le_refl _⟩, ⟨by (with_reducible repeat first | apply bN | apply bD | apply bA); exact BK206.out⟩, ⟨eG HB.out⟩⟩
 case rest =>
  clear HC2; repeat first | clear c1 | clear c2 | clear p2 | clear c5 | clear c7 | clear c11 | clear hcz10_0 | clear hcz10_1 | clear hcz10_2 | clear hcz11_0 | clear hcz11_1 | clear hcz11_2 | clear hcz9_0 | clear hcz9_1 | clear hcz9_2 | clear hfz10_0 | clear hfz10_1 | clear hfz10_2 | clear hfz11_0 | clear hfz11_1 | clear hfz11_2 | clear hfz9_0 | clear hfz9_1 | clear hfz9_2
  obtain ⟨kq, x22_1, rfl, HA, HJ1, BK206, HB⟩ := hcut
  cases kq with
  | zero => exact absurd HA.out (by simp [spileref19_Few.j0])
  | succ kj1 =>
   have H := HA.out; clear HA; simp only [spileref19_Few.j0] at H; by_cases c12 : x22_1 = true
   ·
    subst c12; replace H : (some false) = some r := by rw [if_pos rfl] at H; exact H
    obtain rfl := Option.some.inj H; go_wp2; go_ret
    exact ⟨by first | rfl | (simp [errW_none, errW_some] <;> rfl) | (simp [*, errW_none, errW_some] <;> rfl), eG HB.out⟩
   ·
    replace c12 := Bool.eq_false_iff.mpr c12; subst c12; replace H : (spileref19_Few.l0 kj1 0 l0_0 l0_1 l0_2) = some r := by rw [if_neg (show ¬ (false = true) by decide)] at H; exact H
    have H' := Aside0.mk H; clear H; go_wp2; go_loopg [3] kj1 (fun kq v3 w' => ∃ (x3_2 : Int), v3 = .int .i64 x3_2 ∧ Aside0 (spileref19_Few.l0 kq x3_2 l0_0 l0_1 l0_2 = some r) ∧ Aside0 (kq ≤ kj1) ∧ Aside0 (w'.heap[gb206]? = some (.cells #[(.slice A0_0 l0_0.length c0_0), (.slice A0_1 l0_1.length c0_1), (.slice A0_2 l0_2.length c0_2)] 25 (0, 0))) ∧ Aside0 (Below w.heap.size w w'))
    case atStart => exact ⟨(0), (by first | rfl | (simp; done) | (simp [*]; done)), H', ⟨Nat.le_refl _⟩, ⟨by (with_reducible repeat first | apply bN | apply bD | apply bA); exact BK206.out⟩, ⟨eG HB.out⟩⟩
    case round =>
     clear H'; repeat first | clear c1 | clear c2 | clear p2 | clear c5 | clear c7 | clear c11 | clear c12 | clear hcz10_0 | clear hcz10_1 | clear hcz10_2 | clear hcz11_0 | clear hcz11_1 | clear hcz11_2 | clear hcz9_0 | clear hcz9_1 | clear hcz9_2 | clear hfz10_0 | clear hfz10_1 | clear hfz10_2 | clear hfz11_0 | clear hfz11_1 | clear hfz11_2 | clear hfz9_0 | clear hfz9_1 | clear hfz9_2 | clear p2
     obtain ⟨x3_2, rfl, HA, HK2, BK206, HB⟩ := hrel
     cases gk with
     | zero => exact absurd HA.out (by simp [spileref19_Few.l0])
     | succ k2 =>
      have H := HA.out; clear HA; simp only [spileref19_Few.l0] at H; by_cases c13 : x3_2 < (l0_2.length : Int)
      ·
       rw [if_pos c13] at H; have c13b0 : decide (x3_2 < (l0_2.length : Int)) = true := decide_eq_true c13; clear c13; by_cases c14 : 0 ≤ x3_2
       ·
        rw [if_pos c14] at H; have c14b0 : decide (0 ≤ x3_2) = true := decide_eq_true c14; clear c14; replace H := Option.bind_eq_some_iff.mp H; obtain ⟨t211, A150, H⟩ := H; replace H : (if t211 = true then (spileref19_Few.l0 k2 (wrap64 (x3_2 + 1)) l0_0 l0_1 l0_2) else (some false)) = some r := H; have A15 := Aside0.mk A150; clear A150; by_cases c16 : t211 = true
        ·
         subst c16; replace H : (spileref19_Few.l0 k2 (wrap64 (x3_2 + 1)) l0_0 l0_1 l0_2) = some r := by rw [if_pos rfl] at H; exact H
         have H' := Aside0.mk H; clear H; have hcz17_0 : wr.cell? ⟨gb206, 0, none⟩ = some (.slice A0_0 l0_0.length c0_0) := (blk_cell BK206.out 0).trans rfl; have hcz17_1 : wr.cell? ⟨gb206, 1, none⟩ = some (.slice A0_1 l0_1.length c0_1) := (blk_cell BK206.out 1).trans rfl; have hcz17_2 : wr.cell? ⟨gb206, 2, none⟩ = some (.slice A0_2 l0_2.length c0_2) := (blk_cell BK206.out 2).trans rfl; have hfz17_0 := blk_frozen BK206.out 0; have hfz17_1 := blk_frozen BK206.out 1; have hfz17_2 := blk_frozen BK206.out 2; have p210 : 0 ≤ (x3_2 : Int) := of_decide_eq_true (by first | (with_reducible assumption) | assumption); have q210 : x3_2 < (l0_2.length : Int) := of_decide_eq_true (by first | (with_reducible assumption) | assumption); obtain ⟨ad210, A210_0, c210_0, e210, hx210_0, hl210_0, hi210_0⟩ := at_L1 HR0_2.out x3_2 p210 q210; cases e210; replace hx210_0 := (HB.out.cell (World.block_lt_of_cell? w _ hx210_0)).trans hx210_0; have HR210_0 := Aside0.mk hi210_0; have HC210_0 := Aside0.mk hl210_0; clear hi210_0 hl210_0; replace p210 := eq_true p210; replace q210 := eq_true q210; go_wp2_with (first | ((with_reducible refine gate_callee (f := 25) rfl ?_); refine goesL_ (some 36) rfl rfl Tryd.func25 (by kernel_rfl) rfl #[.int .i64 ((rd_L1 l0_2 x3_2).length : Int)] rfl (by (try simp only [List.map_toArray, List.map_cons, List.map_nil]); first | done | rfl | (simp only [List.length_drop, List.length_take]; rfl)) ?_; (with_reducible refine (spileref19_small.calls ((rd_L1 l0_2 x3_2).length : Int) true _ A15.out).mono ?_); rintro e w' ⟨rfl, ⟨nd, rfl⟩⟩; refine ⟨_, rfl, ?_⟩))
         go_roundg k2
         case measure => have := HJ1.out; have := HK2.out; omega
         case rel => exact ⟨(wrap64 (x3_2 + 1)), (by first | rfl | (simp; done) | (simp [*]; done)), H', ⟨by have := HJ1.out; have := HK2.out; omega⟩, ⟨by (with_reducible repeat first | apply bN | apply bD | apply bA); exact BK206.out⟩, ⟨eG HB.out⟩⟩
        ·
         replace c16 := Bool.eq_false_iff.mpr c16; subst c16; replace H : (some false) = some r := by rw [if_neg (show ¬ (false = true) by decide)] at H; exact H
         obtain rfl := Option.some.inj H; have hcz18_0 : wr.cell? ⟨gb206, 0, none⟩ = some (.slice A0_0 l0_0.length c0_0) := (blk_cell BK206.out 0).trans rfl; have hcz18_1 : wr.cell? ⟨gb206, 1, none⟩ = some (.slice A0_1 l0_1.length c0_1) := (blk_cell BK206.out 1).trans rfl; have hcz18_2 : wr.cell? ⟨gb206, 2, none⟩ = some (.slice A0_2 l0_2.length c0_2) := (blk_cell BK206.out 2).trans rfl; have hfz18_0 := blk_frozen BK206.out 0; have hfz18_1 := blk_frozen BK206.out 1; have hfz18_2 := blk_frozen BK206.out 2; have p210 : 0 ≤ (x3_2 : Int) := of_decide_eq_true (by first | (with_reducible assumption) | assumption); have q210 : x3_2 < (l0_2.length : Int) := of_decide_eq_true (by first | (with_reducible assumption) | assumption); obtain ⟨ad210, A210_0, c210_0, e210, hx210_0, hl210_0, hi210_0⟩ := at_L1 HR0_2.out x3_2 p210 q210; cases e210; replace hx210_0 := (HB.out.cell (World.block_lt_of_cell? w _ hx210_0)).trans hx210_0; have HR210_0 := Aside0.mk hi210_0; have HC210_0 := Aside0.mk hl210_0; clear hi210_0 hl210_0; replace p210 := eq_true p210; replace q210 := eq_true q210; go_wp2_with (first | ((with_reducible refine gate_callee (f := 25) rfl ?_); refine goesL_ (some 36) rfl rfl Tryd.func25 (by kernel_rfl) rfl #[.int .i64 ((rd_L1 l0_2 x3_2).length : Int)] rfl (by (try simp only [List.map_toArray, List.map_cons, List.map_nil]); first | done | rfl | (simp only [List.length_drop, List.length_take]; rfl)) ?_; (with_reducible refine (spileref19_small.calls ((rd_L1 l0_2 x3_2).length : Int) false _ A15.out).mono ?_); rintro e w' ⟨rfl, ⟨nd, rfl⟩⟩; refine ⟨_, rfl, ?_⟩))
         go_ret
         exact ⟨by first | rfl | (simp [errW_none, errW_some] <;> rfl) | (simp [*, errW_none, errW_some] <;> rfl), eG HB.out⟩
       · rw [if_neg c14] at H; exact absurd H (by simp)
      ·
       rw [if_neg c13] at H; have c13b0 : decide (x3_2 < (l0_2.length : Int)) = false := decide_eq_false c13; clear c13; obtain rfl := Option.some.inj H; have hcz19_0 : wr.cell? ⟨gb206, 0, none⟩ = some (.slice A0_0 l0_0.length c0_0) := (blk_cell BK206.out 0).trans rfl; have hcz19_1 : wr.cell? ⟨gb206, 1, none⟩ = some (.slice A0_1 l0_1.length c0_1) := (blk_cell BK206.out 1).trans rfl; have hcz19_2 : wr.cell? ⟨gb206, 2, none⟩ = some (.slice A0_2 l0_2.length c0_2) := (blk_cell BK206.out 2).trans rfl; have hfz19_0 := blk_frozen BK206.out 0; have hfz19_1 := blk_frozen BK206.out 1; have hfz19_2 := blk_frozen BK206.out 2; go_wp2; go_ret
       exact ⟨by first | rfl | (simp [errW_none, errW_some] <;> rfl) | (simp [*, errW_none, errW_some] <;> rfl), eG HB.out⟩
mutual
def spileref19_shape.j0 : Nat → Bool → List Int → List Int → List (List Int) → Option (Int)
 | 0, _, _, _, _ => none
 | k + 1, x13, x213000, x213001, x213002 => if x13 = true then (some 9) else (if (x213000.length : Int) > 32 then (spileref19_shape.j1 k true x213000 x213001 x213002) else (spileref19_shape.j1 k (decide ((x213001.length : Int) > 32)) x213000 x213001 x213002))
def spileref19_shape.j1 : Nat → Bool → List Int → List Int → List (List Int) → Option (Int)
 | 0, _, _, _, _ => none
 | k + 1, x23, x213000, x213001, x213002 => if x23 = true then (some 8) else (if (x213002.length : Int) = (x213000.length : Int) then (spileref19_shape.l0 k 0 x213000 x213001 x213002) else (some 10))
def spileref19_shape.l0 : Nat → Int → List Int → List Int → List (List Int) → Option (Int)
 | 0, _, _, _, _ => none
 | k + 1, x3, x213000, x213001, x213002 => if x3 < (x213002.length : Int) then (if 0 ≤ x3 then (if ((rd_L1 x213002 x3).length : Int) = (x213001.length : Int) then (spileref19_shape.l0 k (wrap64 (x3 + 1)) x213000 x213001 x213002) else (some 10)) else (none)) else (some 0)
end
def spileref19_shape.f (k : Nat) (l0_0 : List Int) (l0_1 : List Int) (l0_2 : List (List Int)) : Option (Int) := if (l0_0.length : Int) < 2 then (spileref19_shape.j0 k true l0_0 l0_1 l0_2) else (spileref19_shape.j0 k (decide ((l0_1.length : Int) < 2)) l0_0 l0_1 l0_2)
end Go.Proofs.YtmdfnambaedllaaDoor.Pr
namespace Go.Proofs.YtmdfnambaedllaaDoor.Pr
open Go.RowKit Go.Proofs.YtmdfnambaedllaaDoorW.PrintWords Go.Proofs.YtmdfnambaedllaaDoorW.PrintLast Go.Proofs.YtmdfnambaedllaaDoorW.PrintMore Go.Proofs.YtmdfnambaedllaaDoor.X
attribute [local go_sem] max2_int min2_int max_two min_two max_three min_three max_four min_four   -- for this text's walks alone
set_option linter.unusedVariables false
set_option linter.unusedSimpArgs false
def spileref19_within.l0 : Nat → List Int → Int → Int → Int → Option (Bool)
 | 0, _, _, _, _ => none
 | k + 1, x0, x1, x2, x7 => if x7 < (x0.length : Int) then (if 0 ≤ x7 then (if (rd x0 x7) < x1 then (some false) else (if (rd x0 x7) > x2 then (some false) else (spileref19_within.l0 k x0 x1 x2 (wrap64 (x7 + 1))))) else (none)) else (some true)
def spileref19_within.f (k : Nat) (l0 : List Int) (a1 : Int) (a2 : Int) : Option (Bool) := spileref19_within.l0 k l0 a1 a2 0
def spileref19_rises.l0 : Nat → List Int → Int → Option (Bool)
 | 0, _, _ => none
 | k + 1, x0, x3 => if x3 < (x0.length : Int) then (if 0 ≤ x3 then (if 0 ≤ (wrap64 (x3 - 1)) then (if (wrap64 (x3 - 1)) < (x0.length : Int) then (if (rd x0 x3) ≤ (rd x0 (wrap64 (x3 - 1))) then (some false) else (spileref19_rises.l0 k x0 (wrap64 (x3 + 1)))) else (none)) else (none)) else (none)) else (some true)
def spileref19_rises.f (k : Nat) (l0 : List Int) : Option (Bool) := spileref19_rises.l0 k l0 1
end Go.Proofs.YtmdfnambaedllaaDoor.Pr
namespace Go.Proofs.YtmdfnambaedllaaDoor.Pr
open Go.RowKit Go.Proofs.YtmdfnambaedllaaDoorW.PrintWords Go.Proofs.YtmdfnambaedllaaDoorW.PrintLast Go.Proofs.YtmdfnambaedllaaDoorW.PrintMore Go.Proofs.YtmdfnambaedllaaDoor.X
attribute [local go_sem] max2_int min2_int max_two min_two max_three min_three max_four min_four   -- for this text's walks alone
set_option linter.unusedVariables false
set_option linter.unusedSimpArgs false
mutual
def spileref19_Check.j0 : Nat → Bool → List Int → List Int → List (List Int) → Option (Int)
 | 0, _, _, _, _ => none
 | k + 1, x21, x219000, x219001, x219002 => if x21 = true then (some 2) else (spileref19_Check.l0 k 0 x219000 x219001 x219002)
def spileref19_Check.l0 : Nat → Int → List Int → List Int → List (List Int) → Option (Int)
 | 0, _, _, _, _ => none
 | k + 1, x4, x219000, x219001, x219002 => if x4 < (x219002.length : Int) then (if 0 ≤ x4 then ((spileref19_within.f k (rd_L1 x219002 x4) 0 10000).bind fun t223 => (if t223 = true then (spileref19_Check.l0 k (wrap64 (x4 + 1)) x219000 x219001 x219002) else (some 2))) else (none)) else ((spileref19_rises.f k x219000).bind fun t224 => (if t224 = true then ((spileref19_rises.f k x219001).bind fun t225 => (spileref19_Check.j2 k (!t225) x219000 x219001 x219002)) else (spileref19_Check.j2 k true x219000 x219001 x219002)))
def spileref19_Check.j2 : Nat → Bool → List Int → List Int → List (List Int) → Option (Int)
 | 0, _, _, _, _ => none
 | k + 1, x45, x219000, x219001, x219002 => if x45 = true then (some 5) else (spileref19_Check.l1 k 0 x219000 x219001 x219002)
def spileref19_Check.l1 : Nat → Int → List Int → List Int → List (List Int) → Option (Int)
 | 0, _, _, _, _ => none
 | k + 1, x5, x219000, x219001, x219002 => if x5 < (x219002.length : Int) then (spileref19_Check.l2 k x5 0 x219000 x219001 x219002) else (some 0)
def spileref19_Check.l2 : Nat → Int → Int → List Int → List Int → List (List Int) → Option (Int)
 | 0, _, _, _, _, _ => none
 | k + 1, x5, x6, x219000, x219001, x219002 => if x6 < (x219001.length : Int) then (if x6 > 0 then (if 0 ≤ x5 then (if x5 < (x219002.length : Int) then (if 0 ≤ x6 then (if x6 < ((rd_L1 x219002 x5).length : Int) then (if 0 ≤ (wrap64 (x6 - 1)) then (if (wrap64 (x6 - 1)) < ((rd_L1 x219002 x5).length : Int) then (if (rd (rd_L1 x219002 x5) x6) < (rd (rd_L1 x219002 x5) (wrap64 (x6 - 1))) then (some 18) else (if x5 > 0 then (if 0 ≤ (wrap64 (x5 - 1)) then (if (wrap64 (x5 - 1)) < (x219002.length : Int) then (if x6 < ((rd_L1 x219002 (wrap64 (x5 - 1))).length : Int) then (if (rd (rd_L1 x219002 x5) x6) > (rd (rd_L1 x219002 (wrap64 (x5 - 1))) x6) then (some 18) else (spileref19_Check.l2 k x5 (wrap64 (x6 + 1)) x219000 x219001 x219002)) else (none)) else (none)) else (none)) else (spileref19_Check.l2 k x5 (wrap64 (x6 + 1)) x219000 x219001 x219002))) else (none)) else (none)) else (none)) else (none)) else (none)) else (none)) else (if x5 > 0 then (if 0 ≤ x5 then (if x5 < (x219002.length : Int) then (if 0 ≤ x6 then (if x6 < ((rd_L1 x219002 x5).length : Int) then (if 0 ≤ (wrap64 (x5 - 1)) then (if (wrap64 (x5 - 1)) < (x219002.length : Int) then (if x6 < ((rd_L1 x219002 (wrap64 (x5 - 1))).length : Int) then (if (rd (rd_L1 x219002 x5) x6) > (rd (rd_L1 x219002 (wrap64 (x5 - 1))) x6) then (some 18) else (spileref19_Check.l2 k x5 (wrap64 (x6 + 1)) x219000 x219001 x219002)) else (none)) else (none)) else (none)) else (none)) else (none)) else (none)) else (none)) else (spileref19_Check.l2 k x5 (wrap64 (x6 + 1)) x219000 x219001 x219002))) else (spileref19_Check.l1 k (wrap64 (x5 + 1)) x219000 x219001 x219002)
end
def spileref19_Check.f (k : Nat) (l0_0 : List Int) (l0_1 : List Int) (l0_2 : List (List Int)) : Option (Int) := (spileref19_shape.f k l0_0 l0_1 l0_2).bind fun t219 => (if t219 = 0 then ((spileref19_within.f k l0_0 (-400) 600).bind fun t220 => (if t220 = true then ((spileref19_within.f k l0_1 0 10000).bind fun t221 => (spileref19_Check.j0 k (!t221) l0_0 l0_1 l0_2)) else (spileref19_Check.j0 k true l0_0 l0_1 l0_2))) else (some t219))
end Go.Proofs.YtmdfnambaedllaaDoor.Pr
