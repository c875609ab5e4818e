/-
The law CorrectEncloses returns true for every input that can be read as data, and leaves its arguments as they were: the row, and the card that ties the listed variables to the program's text.
No condition of its own beyond those that the given row prints.
-/
import Derived.Test.YtmdfnambaedllaaDoorCards
import Derived.Test.YtmdfnambaedllaaDoorTie
import Derived.ProofKit
import Derived.OpenShut
import Derived.ShutString
import Derived.ChangeOld
import Derived.SizedLaws
import Derived.LaidMore
import Derived.Handed
import Derived.SevenTiedAt
import Derived.LaidSub
import Derived.LaidOnce
import Derived.Stop.Joined
import Derived.Stop.LaidErr
import Derived.Test.YtmdfnambaedllaaDoorGridBaseF
set_option linter.unusedVariables false
set_option linter.unusedSimpArgs false
namespace Go.Proofs.YtmdfnambaedllaaDoor.Pr
open Go.RowKit Go.Proofs.YtmdfnambaedllaaDoorW.PrintWords Go.Proofs.YtmdfnambaedllaaDoorW.PrintLast Go.Proofs.YtmdfnambaedllaaDoorW.PrintMore Go.Proofs.YtmdfnambaedllaaDoor.X
attribute [local go_sem] max2_int min2_int max_two min_two max_three min_three max_four min_four   -- for this text's walks alone
set_option linter.unusedVariables false
set_option linter.unusedSimpArgs false
attribute [local go_sem high] eqA29
def spilelaw19_CorrectEncloses.j0 : Nat → Int → Int → Int → Int → Int → Int → Bool → List Int → List Int → List (List Int) → Int → Int → Option (Bool)
 | 0, _, _, _, _, _, _, _, _, _, _, _, _ => none
 | k + 1, x1, x2, x5, x6, x15, x16, x97, x295000, x295001, x295002, x301000, x301001 => if x97 = true then (some false) else (if (wrap64 ((wrap64 (2 * x15)) + 1)) = 0 then (none) else (if (wrap64 ((wrap64 (2 * x16)) + 1)) = 0 then (none) else ((correct_True.f k x295000 x295001 x295002 (wrap64 ((wrap64 (x1 - x15)) + (Int.tmod (wrap64 (x5)) (wrap64 ((wrap64 (2 * x15)) + 1))))) (wrap64 ((wrap64 (x2 - x16)) + (Int.tmod (wrap64 (x6)) (wrap64 ((wrap64 (2 * x16)) + 1)))))).bind fun bt307 => (if bt307.2 = 0 then (if bt307.1 ≥ x301000 then (some (decide (bt307.1 ≤ x301001))) else (some false)) else (some true)))))
def spilelaw19_CorrectEncloses.f (k : Nat) (l0_0 : List Int) (l0_1 : List Int) (l0_2 : List (List Int)) (a1 : Int) (a2 : Int) (a3 : Int) (a4 : Int) (a5 : Int) (a6 : Int) : Option (Bool) := (spilelaw19_awake.f).bind fun t295 => (if t295 = true then ((spileref19_Few.f k l0_0 l0_1 l0_2).bind fun t296 => (if t296 = true then ((correct_Around.f k l0_0 l0_1 l0_2 a1 a2 (wrap64 (a3)) (wrap64 (a4))).bind fun bt297 => (if bt297.2.2 = 0 then ((correct_Around.f k l0_0 l0_1 l0_2 a1 a2 (wrap64 ((wrap64 (a3)) + 1)) (wrap64 ((wrap64 (a4)) + 1))).bind fun bt301 => ((correct_True.f k l0_0 l0_1 l0_2 a1 a2).bind fun bt305 => (if bt301.2.2 = 0 then (if bt305.2 = 0 then (if bt301.1 > bt297.1 then (spilelaw19_CorrectEncloses.j0 k a1 a2 a5 a6 (wrap64 (a3)) (wrap64 (a4)) true l0_0 l0_1 l0_2 bt297.1 bt297.2.1) else (if bt301.2.1 < bt297.2.1 then (spilelaw19_CorrectEncloses.j0 k a1 a2 a5 a6 (wrap64 (a3)) (wrap64 (a4)) true l0_0 l0_1 l0_2 bt297.1 bt297.2.1) else (if bt305.1 < bt297.1 then (spilelaw19_CorrectEncloses.j0 k a1 a2 a5 a6 (wrap64 (a3)) (wrap64 (a4)) true l0_0 l0_1 l0_2 bt297.1 bt297.2.1) else (spilelaw19_CorrectEncloses.j0 k a1 a2 a5 a6 (wrap64 (a3)) (wrap64 (a4)) (decide (bt305.1 > bt297.2.1)) l0_0 l0_1 l0_2 bt297.1 bt297.2.1)))) else (spilelaw19_CorrectEncloses.j0 k a1 a2 a5 a6 (wrap64 (a3)) (wrap64 (a4)) true l0_0 l0_1 l0_2 bt297.1 bt297.2.1)) else (spilelaw19_CorrectEncloses.j0 k a1 a2 a5 a6 (wrap64 (a3)) (wrap64 (a4)) true l0_0 l0_1 l0_2 bt297.1 bt297.2.1)))) else (some (bt297.1 == 0 && (bt297.2.1 == 0))))) else (some true))) else (some false))
theorem spilelaw19_CorrectEncloses.mono_l : ∀ k, (∀ y0 y1 y2 y3 y4 y5 y6 y7 y8 y9 y10 y11, LeO (spilelaw19_CorrectEncloses.j0 k y0 y1 y2 y3 y4 y5 y6 y7 y8 y9 y10 y11) (spilelaw19_CorrectEncloses.j0 (k + 1) y0 y1 y2 y3 y4 y5 y6 y7 y8 y9 y10 y11))
 | 0 => fun _ _ _ _ _ _ _ _ _ _ _ _ r h => by simp [spilelaw19_CorrectEncloses.j0] at h
 | k + 1 => by
  have ih0 := spilelaw19_CorrectEncloses.mono_l k
  ·
   intro y0 y1 y2 y3 y4 y5 y6 y7 y8 y9 y10 y11
   unfold spilelaw19_CorrectEncloses.j0
   repeat' first
   | (with_reducible exact ih0 _ _ _ _ _ _ _ _ _ _ _ _)
   | (with_reducible exact correct_Around.mono _ _ _ _ _ _ _ _)
   | (with_reducible exact correct_True.mono _ _ _ _ _ _)
   | (with_reducible exact spileref19_Few.mono _ _ _ _)
   | (with_reducible exact LeO.refl _)
   | (with_reducible exact LeO.none _)
   | (with_reducible refine LeO.ite ?_ ?_)
   | (with_reducible refine LeO.bind ?_ (fun _ => ?_))
   | exact ih0 _ _ _ _ _ _ _ _ _ _ _ _
   | exact correct_Around.mono _ _ _ _ _ _ _ _
   | exact correct_True.mono _ _ _ _ _ _
   | exact spileref19_Few.mono _ _ _ _
   | exact LeO.none _
   | refine LeO.ite ?_ ?_
   | refine LeO.bind ?_ (fun _ => ?_)
theorem spilelaw19_CorrectEncloses.mono : ∀ a0 a1 a2 a3 a4 a5 a6 a7 a8 k, LeO (spilelaw19_CorrectEncloses.f k a0 a1 a2 a3 a4 a5 a6 a7 a8) (spilelaw19_CorrectEncloses.f (k + 1) a0 a1 a2 a3 a4 a5 a6 a7 a8) := by
 intro a0 a1 a2 a3 a4 a5 a6 a7 a8 k
 have ih0 := spilelaw19_CorrectEncloses.mono_l k
 unfold spilelaw19_CorrectEncloses.f
 repeat' first
   | (with_reducible exact ih0 _ _ _ _ _ _ _ _ _ _ _ _)
   | (with_reducible exact correct_Around.mono _ _ _ _ _ _ _ _)
   | (with_reducible exact correct_True.mono _ _ _ _ _ _)
   | (with_reducible exact spileref19_Few.mono _ _ _ _)
   | (with_reducible exact LeO.refl _)
   | (with_reducible exact LeO.none _)
   | (with_reducible refine LeO.ite ?_ ?_)
   | (with_reducible refine LeO.bind ?_ (fun _ => ?_))
   | exact ih0 _ _ _ _ _ _ _ _ _ _ _ _
   | exact correct_Around.mono _ _ _ _ _ _ _ _
   | exact correct_True.mono _ _ _ _ _ _
   | exact spileref19_Few.mono _ _ _ _
   | exact LeO.none _
   | refine LeO.ite ?_ ?_
   | refine LeO.bind ?_ (fun _ => ?_)
def spilelaw19_CorrectEncloses.T13 : Bool × List (List Nat × List Nat) := (true, [([], []), ([], []), ([], []), ([1, 2], [1, 2]), ([], []), ([4], [4]), ([], []), ([6], [6]), ([7], [7]), ([5, 8], [5, 8]), ([3, 9], [3, 9]), ([], []), ([], []), ([11, 12], [11, 12]), ([], []), ([14], [14]), ([], []), ([16], [16]), ([17], [17]), ([15, 18], [15, 18]), ([13, 19], [13, 19]), ([0, 10, 20], [0, 10, 20]), ([21], [21]), ([22], [22]), ([22], [22]), ([23, 21, 0, 1, 2, 3, 4, 5, 6, 7, 8, 9, 10, 11, 12, 13, 14, 15, 16, 17, 18, 19, 20, 21, 22, 23], [23]), ([24, 25, 0, 1, 2, 3, 4, 5, 6, 7, 8, 9, 10, 11, 12, 13, 14, 15, 16, 17, 18, 19, 20, 21, 22, 23, 24, 25], [24])])
def spilelaw19_CorrectEncloses.B13 : List Nat := [0, 0, 0, 6, 0, 16, 0, 64, 192, 496, 1022, 0, 0, 6144, 0, 16384, 0, 65536, 196608, 507904, 1046528, 2097151, 4194303, 8388607, 8388607, 16777215, 67108863]
theorem spilelaw19_CorrectEncloses.tab13 : rtab .any (opsOf Tryd.f5 13) = spilelaw19_CorrectEncloses.T13 := by kernel_rfl
theorem spilelaw19_CorrectEncloses.bits13 : waitsOk spilelaw19_CorrectEncloses.T13.2 spilelaw19_CorrectEncloses.B13 = true := by kernel_rfl
set_option maxHeartbeats 8000000 in
set_option maxRecDepth 100000 in
theorem spilelaw19_CorrectEncloses.calls (k : Nat) (A0_0 : Option Addr) (c0_0 : Nat) (l0_0 : List Int) (A0_1 : Option Addr) (c0_1 : Nat) (l0_1 : List Int) (A0_2 : Option Addr) (c0_2 : Nat) (l0_2 : List (List Int)) (a1 : Int) (a2 : Int) (a3 : Int) (a4 : Int) (a5 : Int) (a6 : Int) (r : Bool) (w : World) (hr0_0 : Kd.C (Kd.int .i64) w A0_0 l0_0.length l0_0) (hc0_0 : l0_0.length ≤ c0_0) (hr0_1 : Kd.C (Kd.int .i64) w A0_1 l0_1.length l0_1) (hc0_1 : l0_1.length ≤ c0_1) (hr0_2 : Kd.C (Kd.slice 3 (Kd.int .i64)) w A0_2 l0_2.length l0_2) (hc0_2 : l0_2.length ≤ c0_2) (hG : GI w) (h : spilelaw19_CorrectEncloses.f k l0_0 l0_1 l0_2 a1 a2 a3 a4 a5 a6 = some r) :
  Calls Tryd.prog 5 #[.agg #[.slice A0_0 l0_0.length c0_0, .slice A0_1 l0_1.length c0_1, .slice A0_2 l0_2.length c0_2], .int .i64 a1, .int .i64 a2, .int .u8 a3, .int .u8 a4, .int .u8 a5, .int .u8 a6] w fun e w' => e = .returned (.bool r) ∧ Below w.heap.size w w' := by
 have hu25 := Tryd.underlying25
 have hu29 := Tryd.underlying29
 have HR0_0 := Aside0.mk hr0_0
 have HC0_0 := Aside0.mk hc0_0
 clear hr0_0 hc0_0
 have HR0_1 := Aside0.mk hr0_1
 have HC0_1 := Aside0.mk hc0_1
 clear hr0_1 hc0_1
 have HR0_2 := Aside0.mk hr0_2
 have HC0_2 := Aside0.mk hc0_2
 clear hr0_2 hc0_2
 have HG := Aside0.mk hG
 clear hG
 have HB := Aside0.mk (Below.refl w.heap.size w)
 have H : ((spilelaw19_awake.f).bind fun t295 => (if t295 = true then ((spileref19_Few.f k l0_0 l0_1 l0_2).bind fun t296 => (if t296 = true then ((correct_Around.f k l0_0 l0_1 l0_2 a1 a2 (wrap64 (a3)) (wrap64 (a4))).bind fun bt297 => (if bt297.2.2 = 0 then ((correct_Around.f k l0_0 l0_1 l0_2 a1 a2 (wrap64 ((wrap64 (a3)) + 1)) (wrap64 ((wrap64 (a4)) + 1))).bind fun bt301 => ((correct_True.f k l0_0 l0_1 l0_2 a1 a2).bind fun bt305 => (if bt301.2.2 = 0 then (if bt305.2 = 0 then (if bt301.1 > bt297.1 then (spilelaw19_CorrectEncloses.j0 k a1 a2 a5 a6 (wrap64 (a3)) (wrap64 (a4)) true l0_0 l0_1 l0_2 bt297.1 bt297.2.1) else (if bt301.2.1 < bt297.2.1 then (spilelaw19_CorrectEncloses.j0 k a1 a2 a5 a6 (wrap64 (a3)) (wrap64 (a4)) true l0_0 l0_1 l0_2 bt297.1 bt297.2.1) else (if bt305.1 < bt297.1 then (spilelaw19_CorrectEncloses.j0 k a1 a2 a5 a6 (wrap64 (a3)) (wrap64 (a4)) true l0_0 l0_1 l0_2 bt297.1 bt297.2.1) else (spilelaw19_CorrectEncloses.j0 k a1 a2 a5 a6 (wrap64 (a3)) (wrap64 (a4)) (decide (bt305.1 > bt297.2.1)) l0_0 l0_1 l0_2 bt297.1 bt297.2.1)))) else (spilelaw19_CorrectEncloses.j0 k a1 a2 a5 a6 (wrap64 (a3)) (wrap64 (a4)) true l0_0 l0_1 l0_2 bt297.1 bt297.2.1)) else (spilelaw19_CorrectEncloses.j0 k a1 a2 a5 a6 (wrap64 (a3)) (wrap64 (a4)) true l0_0 l0_1 l0_2 bt297.1 bt297.2.1)))) else (some (bt297.1 == 0 && (bt297.2.1 == 0))))) else (some true))) else (some false))) = some r := h
 clear h
 replace H := Option.bind_eq_some_iff.mp H
 obtain ⟨t295, A80, H⟩ := H
 replace H : (if t295 = true then ((spileref19_Few.f k l0_0 l0_1 l0_2).bind fun t296 => (if t296 = true then ((correct_Around.f k l0_0 l0_1 l0_2 a1 a2 (wrap64 (a3)) (wrap64 (a4))).bind fun bt297 => (if bt297.2.2 = 0 then ((correct_Around.f k l0_0 l0_1 l0_2 a1 a2 (wrap64 ((wrap64 (a3)) + 1)) (wrap64 ((wrap64 (a4)) + 1))).bind fun bt301 => ((correct_True.f k l0_0 l0_1 l0_2 a1 a2).bind fun bt305 => (if bt301.2.2 = 0 then (if bt305.2 = 0 then (if bt301.1 > bt297.1 then (spilelaw19_CorrectEncloses.j0 k a1 a2 a5 a6 (wrap64 (a3)) (wrap64 (a4)) true l0_0 l0_1 l0_2 bt297.1 bt297.2.1) else (if bt301.2.1 < bt297.2.1 then (spilelaw19_CorrectEncloses.j0 k a1 a2 a5 a6 (wrap64 (a3)) (wrap64 (a4)) true l0_0 l0_1 l0_2 bt297.1 bt297.2.1) else (if bt305.1 < bt297.1 then (spilelaw19_CorrectEncloses.j0 k a1 a2 a5 a6 (wrap64 (a3)) (wrap64 (a4)) true l0_0 l0_1 l0_2 bt297.1 bt297.2.1) else (spilelaw19_CorrectEncloses.j0 k a1 a2 a5 a6 (wrap64 (a3)) (wrap64 (a4)) (decide (bt305.1 > bt297.2.1)) l0_0 l0_1 l0_2 bt297.1 bt297.2.1)))) else (spilelaw19_CorrectEncloses.j0 k a1 a2 a5 a6 (wrap64 (a3)) (wrap64 (a4)) true l0_0 l0_1 l0_2 bt297.1 bt297.2.1)) else (spilelaw19_CorrectEncloses.j0 k a1 a2 a5 a6 (wrap64 (a3)) (wrap64 (a4)) true l0_0 l0_1 l0_2 bt297.1 bt297.2.1)))) else (some (bt297.1 == 0 && (bt297.2.1 == 0))))) else (some true))) else (some false)) = some r := H
 have A8 := Aside0.mk A80
 clear A80
 by_cases c9 : t295 = true
 ·
  subst c9
  have H1 : ((spileref19_Few.f k l0_0 l0_1 l0_2).bind fun t296 => (if t296 = true then ((correct_Around.f k l0_0 l0_1 l0_2 a1 a2 (wrap64 (a3)) (wrap64 (a4))).bind fun bt297 => (if bt297.2.2 = 0 then ((correct_Around.f k l0_0 l0_1 l0_2 a1 a2 (wrap64 ((wrap64 (a3)) + 1)) (wrap64 ((wrap64 (a4)) + 1))).bind fun bt301 => ((correct_True.f k l0_0 l0_1 l0_2 a1 a2).bind fun bt305 => (if bt301.2.2 = 0 then (if bt305.2 = 0 then (if bt301.1 > bt297.1 then (spilelaw19_CorrectEncloses.j0 k a1 a2 a5 a6 (wrap64 (a3)) (wrap64 (a4)) true l0_0 l0_1 l0_2 bt297.1 bt297.2.1) else (if bt301.2.1 < bt297.2.1 then (spilelaw19_CorrectEncloses.j0 k a1 a2 a5 a6 (wrap64 (a3)) (wrap64 (a4)) true l0_0 l0_1 l0_2 bt297.1 bt297.2.1) else (if bt305.1 < bt297.1 then (spilelaw19_CorrectEncloses.j0 k a1 a2 a5 a6 (wrap64 (a3)) (wrap64 (a4)) true l0_0 l0_1 l0_2 bt297.1 bt297.2.1) else (spilelaw19_CorrectEncloses.j0 k a1 a2 a5 a6 (wrap64 (a3)) (wrap64 (a4)) (decide (bt305.1 > bt297.2.1)) l0_0 l0_1 l0_2 bt297.1 bt297.2.1)))) else (spilelaw19_CorrectEncloses.j0 k a1 a2 a5 a6 (wrap64 (a3)) (wrap64 (a4)) true l0_0 l0_1 l0_2 bt297.1 bt297.2.1)) else (spilelaw19_CorrectEncloses.j0 k a1 a2 a5 a6 (wrap64 (a3)) (wrap64 (a4)) true l0_0 l0_1 l0_2 bt297.1 bt297.2.1)))) else (some (bt297.1 == 0 && (bt297.2.1 == 0))))) else (some true))) = some r := by rw [if_pos rfl] at H; exact H
  clear H
  have H := H1
  clear H1
  replace H := Option.bind_eq_some_iff.mp H
  obtain ⟨t296, A100, H⟩ := H
  replace H : (if t296 = true then ((correct_Around.f k l0_0 l0_1 l0_2 a1 a2 (wrap64 (a3)) (wrap64 (a4))).bind fun bt297 => (if bt297.2.2 = 0 then ((correct_Around.f k l0_0 l0_1 l0_2 a1 a2 (wrap64 ((wrap64 (a3)) + 1)) (wrap64 ((wrap64 (a4)) + 1))).bind fun bt301 => ((correct_True.f k l0_0 l0_1 l0_2 a1 a2).bind fun bt305 => (if bt301.2.2 = 0 then (if bt305.2 = 0 then (if bt301.1 > bt297.1 then (spilelaw19_CorrectEncloses.j0 k a1 a2 a5 a6 (wrap64 (a3)) (wrap64 (a4)) true l0_0 l0_1 l0_2 bt297.1 bt297.2.1) else (if bt301.2.1 < bt297.2.1 then (spilelaw19_CorrectEncloses.j0 k a1 a2 a5 a6 (wrap64 (a3)) (wrap64 (a4)) true l0_0 l0_1 l0_2 bt297.1 bt297.2.1) else (if bt305.1 < bt297.1 then (spilelaw19_CorrectEncloses.j0 k a1 a2 a5 a6 (wrap64 (a3)) (wrap64 (a4)) true l0_0 l0_1 l0_2 bt297.1 bt297.2.1) else (spilelaw19_CorrectEncloses.j0 k a1 a2 a5 a6 (wrap64 (a3)) (wrap64 (a4)) (decide (bt305.1 > bt297.2.1)) l0_0 l0_1 l0_2 bt297.1 bt297.2.1)))) else (spilelaw19_CorrectEncloses.j0 k a1 a2 a5 a6 (wrap64 (a3)) (wrap64 (a4)) true l0_0 l0_1 l0_2 bt297.1 bt297.2.1)) else (spilelaw19_CorrectEncloses.j0 k a1 a2 a5 a6 (wrap64 (a3)) (wrap64 (a4)) true l0_0 l0_1 l0_2 bt297.1 bt297.2.1)))) else (some (bt297.1 == 0 && (bt297.2.1 == 0))))) else (some true)) = some r := H
  have A10 := Aside0.mk A100
  clear A100
  by_cases c11 : t296 = true
  ·
   subst c11
   have H1 : ((correct_Around.f k l0_0 l0_1 l0_2 a1 a2 (wrap64 (a3)) (wrap64 (a4))).bind fun bt297 => (if bt297.2.2 = 0 then ((correct_Around.f k l0_0 l0_1 l0_2 a1 a2 (wrap64 ((wrap64 (a3)) + 1)) (wrap64 ((wrap64 (a4)) + 1))).bind fun bt301 => ((correct_True.f k l0_0 l0_1 l0_2 a1 a2).bind fun bt305 => (if bt301.2.2 = 0 then (if bt305.2 = 0 then (if bt301.1 > bt297.1 then (spilelaw19_CorrectEncloses.j0 k a1 a2 a5 a6 (wrap64 (a3)) (wrap64 (a4)) true l0_0 l0_1 l0_2 bt297.1 bt297.2.1) else (if bt301.2.1 < bt297.2.1 then (spilelaw19_CorrectEncloses.j0 k a1 a2 a5 a6 (wrap64 (a3)) (wrap64 (a4)) true l0_0 l0_1 l0_2 bt297.1 bt297.2.1) else (if bt305.1 < bt297.1 then (spilelaw19_CorrectEncloses.j0 k a1 a2 a5 a6 (wrap64 (a3)) (wrap64 (a4)) true l0_0 l0_1 l0_2 bt297.1 bt297.2.1) else (spilelaw19_CorrectEncloses.j0 k a1 a2 a5 a6 (wrap64 (a3)) (wrap64 (a4)) (decide (bt305.1 > bt297.2.1)) l0_0 l0_1 l0_2 bt297.1 bt297.2.1)))) else (spilelaw19_CorrectEncloses.j0 k a1 a2 a5 a6 (wrap64 (a3)) (wrap64 (a4)) true l0_0 l0_1 l0_2 bt297.1 bt297.2.1)) else (spilelaw19_CorrectEncloses.j0 k a1 a2 a5 a6 (wrap64 (a3)) (wrap64 (a4)) true l0_0 l0_1 l0_2 bt297.1 bt297.2.1)))) else (some (bt297.1 == 0 && (bt297.2.1 == 0))))) = some r := by rw [if_pos rfl] at H; exact H
   clear H
   have H := H1
   clear H1
   replace H := Option.bind_eq_some_iff.mp H
   obtain ⟨⟨t297, t298, t299⟩, A120, H⟩ := H
   replace H : (if t299 = 0 then ((correct_Around.f k l0_0 l0_1 l0_2 a1 a2 (wrap64 ((wrap64 (a3)) + 1)) (wrap64 ((wrap64 (a4)) + 1))).bind fun bt301 => ((correct_True.f k l0_0 l0_1 l0_2 a1 a2).bind fun bt305 => (if bt301.2.2 = 0 then (if bt305.2 = 0 then (if bt301.1 > t297 then (spilelaw19_CorrectEncloses.j0 k a1 a2 a5 a6 (wrap64 (a3)) (wrap64 (a4)) true l0_0 l0_1 l0_2 t297 t298) else (if bt301.2.1 < t298 then (spilelaw19_CorrectEncloses.j0 k a1 a2 a5 a6 (wrap64 (a3)) (wrap64 (a4)) true l0_0 l0_1 l0_2 t297 t298) else (if bt305.1 < t297 then (spilelaw19_CorrectEncloses.j0 k a1 a2 a5 a6 (wrap64 (a3)) (wrap64 (a4)) true l0_0 l0_1 l0_2 t297 t298) else (spilelaw19_CorrectEncloses.j0 k a1 a2 a5 a6 (wrap64 (a3)) (wrap64 (a4)) (decide (bt305.1 > t298)) l0_0 l0_1 l0_2 t297 t298)))) else (spilelaw19_CorrectEncloses.j0 k a1 a2 a5 a6 (wrap64 (a3)) (wrap64 (a4)) true l0_0 l0_1 l0_2 t297 t298)) else (spilelaw19_CorrectEncloses.j0 k a1 a2 a5 a6 (wrap64 (a3)) (wrap64 (a4)) true l0_0 l0_1 l0_2 t297 t298)))) else (some (t297 == 0 && (t298 == 0)))) = some r := H
   have A12 := Aside0.mk A120
   clear A120
   by_cases c13 : t299 = 0
   ·
    rw [if_pos c13] at H
    have c13b0 : (t299 == 0) = true := beq_iff_eq.mpr c13
    have c13b1 : (t299 != 0) = false := bne_eq_false_iff_eq.mpr c13
    clear c13
    replace H := Option.bind_eq_some_iff.mp H
    obtain ⟨⟨t301, t302, t303⟩, A140, H⟩ := H
    replace H : ((correct_True.f k l0_0 l0_1 l0_2 a1 a2).bind fun bt305 => (if t303 = 0 then (if bt305.2 = 0 then (if t301 > t297 then (spilelaw19_CorrectEncloses.j0 k a1 a2 a5 a6 (wrap64 (a3)) (wrap64 (a4)) true l0_0 l0_1 l0_2 t297 t298) else (if t302 < t298 then (spilelaw19_CorrectEncloses.j0 k a1 a2 a5 a6 (wrap64 (a3)) (wrap64 (a4)) true l0_0 l0_1 l0_2 t297 t298) else (if bt305.1 < t297 then (spilelaw19_CorrectEncloses.j0 k a1 a2 a5 a6 (wrap64 (a3)) (wrap64 (a4)) true l0_0 l0_1 l0_2 t297 t298) else (spilelaw19_CorrectEncloses.j0 k a1 a2 a5 a6 (wrap64 (a3)) (wrap64 (a4)) (decide (bt305.1 > t298)) l0_0 l0_1 l0_2 t297 t298)))) else (spilelaw19_CorrectEncloses.j0 k a1 a2 a5 a6 (wrap64 (a3)) (wrap64 (a4)) true l0_0 l0_1 l0_2 t297 t298)) else (spilelaw19_CorrectEncloses.j0 k a1 a2 a5 a6 (wrap64 (a3)) (wrap64 (a4)) true l0_0 l0_1 l0_2 t297 t298))) = some r := H
    have A14 := Aside0.mk A140
    clear A140
    replace H := Option.bind_eq_some_iff.mp H
    obtain ⟨⟨t305, t306⟩, A150, H⟩ := H
    replace H : (if t303 = 0 then (if t306 = 0 then (if t301 > t297 then (spilelaw19_CorrectEncloses.j0 k a1 a2 a5 a6 (wrap64 (a3)) (wrap64 (a4)) true l0_0 l0_1 l0_2 t297 t298) else (if t302 < t298 then (spilelaw19_CorrectEncloses.j0 k a1 a2 a5 a6 (wrap64 (a3)) (wrap64 (a4)) true l0_0 l0_1 l0_2 t297 t298) else (if t305 < t297 then (spilelaw19_CorrectEncloses.j0 k a1 a2 a5 a6 (wrap64 (a3)) (wrap64 (a4)) true l0_0 l0_1 l0_2 t297 t298) else (spilelaw19_CorrectEncloses.j0 k a1 a2 a5 a6 (wrap64 (a3)) (wrap64 (a4)) (decide (t305 > t298)) l0_0 l0_1 l0_2 t297 t298)))) else (spilelaw19_CorrectEncloses.j0 k a1 a2 a5 a6 (wrap64 (a3)) (wrap64 (a4)) true l0_0 l0_1 l0_2 t297 t298)) else (spilelaw19_CorrectEncloses.j0 k a1 a2 a5 a6 (wrap64 (a3)) (wrap64 (a4)) true l0_0 l0_1 l0_2 t297 t298)) = some r := H
    have A15 := Aside0.mk A150
    clear A150
    have HC16 := Aside0.mk H
    clear H
    go_enter Tryd.func5, Tryd.ntmps5
    go_upto_region 11 with (first | ((with_reducible refine gate_dst (N := 7) rfl ?_); refine box_event ?hg (N := 7) ?hd (cs := #[.slice A0_0 l0_0.length c0_0, .slice A0_1 l0_1.length c0_1, .slice A0_2 l0_2.length c0_2]) (t := 25) ?hr ?_; (case hd => rfl); (case hg => rfl); (case hr => first | (go_simp; done) | (go_simp; rfl)); intro gb294 hg w17 hbox hb; have n0_ := Aside0.mk (below_step (by repeat (first | (with_reducible first | exact HB.out | apply below_alloc | apply pw_below_drewN | apply below_drew1) | exact HB.out)) hb); have n1_ := Aside0.mk (hbox); have n2_ := Aside0.mk ((by rw [hg]; exact (below_size (by repeat (first | (with_reducible first | exact HB.out | apply below_alloc | apply pw_below_drewN | apply below_drew1) | exact HB.out))) : w.heap.size ≤ gb294)); have n3_ := Aside0.mk ((by rw [hg]; exact (below_size (by repeat (first | (with_reducible first | exact HB.out | apply below_alloc | apply pw_below_drewN | apply below_drew1) | exact HB.out))) : w.heap.size ≤ gb294)); clear HB; have HB := n0_; have BK294 := n1_; have GW294 := n2_; have GE294 := n3_; clear n0_ n1_ n2_ n3_; clear hb hbox hg) | ((with_reducible refine gate_callee (f := 10) rfl ?_); refine goesL_ (some 25) rfl rfl Tryd.func10 (by kernel_rfl) rfl #[] rfl (by (try simp only [List.map_toArray, List.map_cons, List.map_nil]); first | done | rfl | (simp only [List.length_drop, List.length_take]; rfl)) ?_; (with_reducible refine (spilelaw19_awake.calls  true _ ?side1 A8.out).mono ?_); (case side1 => exact GI.below HG.out (by repeat (first | (with_reducible first | exact HB.out | apply below_alloc | apply pw_below_drewN | apply below_drew1 | refine below_set ?_ GE294.out) | exact HB.out))); rintro e w18 ⟨rfl, hb⟩; refine ⟨_, rfl, ?_⟩; have n0_ := Aside0.mk (blk_below (g := gb294) (o := .cells #[.slice A0_0 l0_0.length c0_0, .slice A0_1 l0_1.length c0_1, .slice A0_2 l0_2.length c0_2] 25 (0, 0)) (by (with_reducible repeat (first | refine blk_drewN ?_ _ | refine blk_drew ?_ | refine blk_alloc ?_ _)); exact BK294.out) hb); have n1_ := Aside0.mk (below_step (by repeat (first | (with_reducible first | exact HB.out | apply below_alloc | apply pw_below_drewN | apply below_drew1 | refine below_set ?_ GE294.out) | exact HB.out)) hb); clear BK294; clear HB; have BK294 := n0_; have HB := n1_; clear n0_ n1_; (try clear hb); (try clear hb2); (try clear hk); (try clear hi); have hcz19_0 : w18.cell? ⟨gb294, 0, none⟩ = some (.slice A0_0 l0_0.length c0_0) := (blk_cell BK294.out 0).trans rfl; have hcz19_1 : w18.cell? ⟨gb294, 1, none⟩ = some (.slice A0_1 l0_1.length c0_1) := (blk_cell BK294.out 1).trans rfl; have hcz19_2 : w18.cell? ⟨gb294, 2, none⟩ = some (.slice A0_2 l0_2.length c0_2) := (blk_cell BK294.out 2).trans rfl; have hfz19_0 := blk_frozen BK294.out 0; have hfz19_1 := blk_frozen BK294.out 1; have hfz19_2 := blk_frozen BK294.out 2) | ((with_reducible refine gate_callee (f := 11) rfl ?_); refine goesL_ (some 28) rfl rfl Tryd.func11 (by kernel_rfl) rfl #[.agg #[.slice A0_0 l0_0.length c0_0, .slice A0_1 l0_1.length c0_1, .slice A0_2 l0_2.length c0_2]] rfl (by (try simp only [List.map_toArray, List.map_cons, List.map_nil]); first | done | rfl | (simp only [List.length_drop, List.length_take]; rfl)) ?_; (with_reducible refine (spileref19_Few.calls k _ _ l0_0 _ _ l0_1 _ _ l0_2 true _ ?side1 ?side2 ?side3 ?side4 ?side5 ?side6 A10.out).mono ?_); (case side1 => repeat (first | exact (Kd.C_below HR0_0.out HB.out) | (with_reducible refine Kd.C_alloc ?_ _) | (with_reducible refine Kd.C_drewN ?_ _) | (with_reducible refine Kd.C_drew ?_))); (case side2 => exact HC0_0.out); (case side3 => repeat (first | exact (Kd.C_below HR0_1.out HB.out) | (with_reducible refine Kd.C_alloc ?_ _) | (with_reducible refine Kd.C_drewN ?_ _) | (with_reducible refine Kd.C_drew ?_))); (case side4 => exact HC0_1.out); (case side5 => repeat (first | exact (Kd.C_below HR0_2.out HB.out) | (with_reducible refine Kd.C_alloc ?_ _) | (with_reducible refine Kd.C_drewN ?_ _) | (with_reducible refine Kd.C_drew ?_))); (case side6 => exact HC0_2.out); rintro e w20 ⟨rfl, hb⟩; refine ⟨_, rfl, ?_⟩; have n0_ := Aside0.mk (blk_below (g := gb294) (o := .cells #[.slice A0_0 l0_0.length c0_0, .slice A0_1 l0_1.length c0_1, .slice A0_2 l0_2.length c0_2] 25 (0, 0)) (by (with_reducible repeat (first | refine blk_drewN ?_ _ | refine blk_drew ?_ | refine blk_alloc ?_ _)); exact BK294.out) hb); have n1_ := Aside0.mk (below_step (by repeat (first | (with_reducible first | exact HB.out | apply below_alloc | apply pw_below_drewN | apply below_drew1 | refine below_set ?_ GE294.out) | exact HB.out)) hb); clear BK294; clear HB; have BK294 := n0_; have HB := n1_; clear n0_ n1_; (try clear hb); (try clear hb2); (try clear hk); (try clear hi); have hcz21_0 : w20.cell? ⟨gb294, 0, none⟩ = some (.slice A0_0 l0_0.length c0_0) := (blk_cell BK294.out 0).trans rfl; have hcz21_1 : w20.cell? ⟨gb294, 1, none⟩ = some (.slice A0_1 l0_1.length c0_1) := (blk_cell BK294.out 1).trans rfl; have hcz21_2 : w20.cell? ⟨gb294, 2, none⟩ = some (.slice A0_2 l0_2.length c0_2) := (blk_cell BK294.out 2).trans rfl; have hfz21_0 := blk_frozen BK294.out 0; have hfz21_1 := blk_frozen BK294.out 1; have hfz21_2 := blk_frozen BK294.out 2) | ((with_reducible refine gate_callee (f := 12) rfl ?_); refine goesL_ (some 40) rfl rfl Tryd.func12 (by kernel_rfl) rfl #[.agg #[.slice A0_0 l0_0.length c0_0, .slice A0_1 l0_1.length c0_1, .slice A0_2 l0_2.length c0_2], .int .i64 a1, .int .i64 a2, .int .i64 (wrap64 (a3)), .int .i64 (wrap64 (a4))] rfl (by (try simp only [List.map_toArray, List.map_cons, List.map_nil]); first | done | rfl | (simp only [List.length_drop, List.length_take]; rfl)) ?_; (with_reducible refine (correct_Around.calls k _ _ l0_0 _ _ l0_1 _ _ l0_2 a1 a2 (wrap64 (a3)) (wrap64 (a4)) t297 t298 t299 _ ?side1 ?side2 ?side3 ?side4 ?side5 ?side6 A12.out).mono ?_); (case side1 => repeat (first | exact (Kd.C_below HR0_0.out HB.out) | (with_reducible refine Kd.C_alloc ?_ _) | (with_reducible refine Kd.C_drewN ?_ _) | (with_reducible refine Kd.C_drew ?_))); (case side2 => exact HC0_0.out); (case side3 => repeat (first | exact (Kd.C_below HR0_1.out HB.out) | (with_reducible refine Kd.C_alloc ?_ _) | (with_reducible refine Kd.C_drewN ?_ _) | (with_reducible refine Kd.C_drew ?_))); (case side4 => exact HC0_1.out); (case side5 => repeat (first | exact (Kd.C_below HR0_2.out HB.out) | (with_reducible refine Kd.C_alloc ?_ _) | (with_reducible refine Kd.C_drewN ?_ _) | (with_reducible refine Kd.C_drew ?_))); (case side6 => exact HC0_2.out); rintro e w22 ⟨rfl, hb⟩; refine ⟨_, rfl, ?_⟩; have n0_ := Aside0.mk (blk_below (g := gb294) (o := .cells #[.slice A0_0 l0_0.length c0_0, .slice A0_1 l0_1.length c0_1, .slice A0_2 l0_2.length c0_2] 25 (0, 0)) (by (with_reducible repeat (first | refine blk_drewN ?_ _ | refine blk_drew ?_ | refine blk_alloc ?_ _)); exact BK294.out) hb); have n1_ := Aside0.mk (below_step (by repeat (first | (with_reducible first | exact HB.out | apply below_alloc | apply pw_below_drewN | apply below_drew1 | refine below_set ?_ GE294.out) | exact HB.out)) hb); clear BK294; clear HB; have BK294 := n0_; have HB := n1_; clear n0_ n1_; (try clear hb); (try clear hb2); (try clear hk); (try clear hi)) | ((with_reducible refine gate_dst (N := 17) rfl ?_); refine box_event ?hg (N := 17) ?hd (cs := #[.int .i64 0, .int .i64 0]) (t := 29) ?hr ?_; (case hd => rfl); (case hg => rfl); (case hr => first | (go_simp; done) | (go_simp; rfl)); intro gb300 hg w23 hbox hb; have n0_ := Aside0.mk (blk_below (g := gb294) (o := .cells #[.slice A0_0 l0_0.length c0_0, .slice A0_1 l0_1.length c0_1, .slice A0_2 l0_2.length c0_2] 25 (0, 0)) (by (with_reducible repeat (first | refine blk_drewN ?_ _ | refine blk_drew ?_ | refine blk_alloc ?_ _)); exact BK294.out) hb); have n1_ := Aside0.mk (below_step (by repeat (first | (with_reducible first | exact HB.out | apply below_alloc | apply pw_below_drewN | apply below_drew1 | refine below_set ?_ GE294.out) | exact HB.out)) hb); have n2_ := Aside0.mk (hbox); have n3_ := Aside0.mk ((by rw [hg]; exact (below_size (by repeat (first | (with_reducible first | exact HB.out | apply below_alloc | apply pw_below_drewN | apply below_drew1 | refine below_set ?_ GE294.out) | exact HB.out))) : w.heap.size ≤ gb300)); have n4_ := Aside0.mk ((by rw [hg]; exact (below_size (by repeat (first | (with_reducible first | exact HB.out | apply below_alloc | apply pw_below_drewN | apply below_drew1 | refine below_set ?_ GE294.out) | exact HB.out))) : w.heap.size ≤ gb300)); have n5_ := Aside0.mk ((by rw [hg]; exact Nat.ne_of_lt (blk_lt (g := gb294) (o := .cells #[.slice A0_0 l0_0.length c0_0, .slice A0_1 l0_1.length c0_1, .slice A0_2 l0_2.length c0_2] 25 (0, 0)) (by (with_reducible repeat (first | refine blk_drewN ?_ _ | refine blk_drew ?_ | refine blk_alloc ?_ _)); exact BK294.out)) : gb294 ≠ gb300)); have n6_ := Aside0.mk ((by rw [hg]; exact Nat.ne_of_gt (blk_lt (g := gb294) (o := .cells #[.slice A0_0 l0_0.length c0_0, .slice A0_1 l0_1.length c0_1, .slice A0_2 l0_2.length c0_2] 25 (0, 0)) (by (with_reducible repeat (first | refine blk_drewN ?_ _ | refine blk_drew ?_ | refine blk_alloc ?_ _)); exact BK294.out)) : gb300 ≠ gb294)); clear BK294; clear HB; have BK294 := n0_; have HB := n1_; have BK300 := n2_; have GW300 := n3_; have GE300 := n4_; have NB294_300 := n5_; have NB300_294 := n6_; clear n0_ n1_ n2_ n3_ n4_ n5_ n6_; clear hb hbox hg; have hnb24 := NB300_294.out; have hnc24 := NB294_300.out; have hcz25_0 : w23.cell? ⟨gb300, 0, none⟩ = some (.int .i64 0) := (blk_cell BK300.out 0).trans rfl; have hcz25_1 : w23.cell? ⟨gb300, 1, none⟩ = some (.int .i64 0) := (blk_cell BK300.out 1).trans rfl; have hfz25_0 := blk_frozen BK300.out 0; have hfz25_1 := blk_frozen BK300.out 1; have hcz26_0 : w23.cell? ⟨gb294, 0, none⟩ = some (.slice A0_0 l0_0.length c0_0) := (blk_cell BK294.out 0).trans rfl; have hcz26_1 : w23.cell? ⟨gb294, 1, none⟩ = some (.slice A0_1 l0_1.length c0_1) := (blk_cell BK294.out 1).trans rfl; have hcz26_2 : w23.cell? ⟨gb294, 2, none⟩ = some (.slice A0_2 l0_2.length c0_2) := (blk_cell BK294.out 2).trans rfl; have hfz26_0 := blk_frozen BK294.out 0; have hfz26_1 := blk_frozen BK294.out 1; have hfz26_2 := blk_frozen BK294.out 2) | ((with_reducible refine gate_callee (f := 12) rfl ?_); refine goesL_ (some 56) rfl rfl Tryd.func12 (by kernel_rfl) rfl #[.agg #[.slice A0_0 l0_0.length c0_0, .slice A0_1 l0_1.length c0_1, .slice A0_2 l0_2.length c0_2], .int .i64 a1, .int .i64 a2, .int .i64 (wrap64 ((wrap64 (a3)) + 1)), .int .i64 (wrap64 ((wrap64 (a4)) + 1))] rfl (by (try simp only [List.map_toArray, List.map_cons, List.map_nil]); first | done | rfl | (simp only [List.length_drop, List.length_take]; rfl)) ?_; (with_reducible refine (correct_Around.calls k _ _ l0_0 _ _ l0_1 _ _ l0_2 a1 a2 (wrap64 ((wrap64 (a3)) + 1)) (wrap64 ((wrap64 (a4)) + 1)) t301 t302 t303 _ ?side1 ?side2 ?side3 ?side4 ?side5 ?side6 A14.out).mono ?_); (case side1 => exact Kd.C_below HR0_0.out (by repeat (first | (with_reducible first | exact HB.out | apply below_alloc | apply pw_below_drewN | apply below_drew1 | refine below_set ?_ GE294.out | refine below_set ?_ GE300.out) | exact HB.out))); (case side2 => exact HC0_0.out); (case side3 => exact Kd.C_below HR0_1.out (by repeat (first | (with_reducible first | exact HB.out | apply below_alloc | apply pw_below_drewN | apply below_drew1 | refine below_set ?_ GE294.out | refine below_set ?_ GE300.out) | exact HB.out))); (case side4 => exact HC0_1.out); (case side5 => exact Kd.C_below HR0_2.out (by repeat (first | (with_reducible first | exact HB.out | apply below_alloc | apply pw_below_drewN | apply below_drew1 | refine below_set ?_ GE294.out | refine below_set ?_ GE300.out) | exact HB.out))); (case side6 => exact HC0_2.out); rintro e w27 ⟨rfl, hb⟩; refine ⟨_, rfl, ?_⟩; have n0_ := Aside0.mk (blk_below (g := gb294) (o := .cells #[.slice A0_0 l0_0.length c0_0, .slice A0_1 l0_1.length c0_1, .slice A0_2 l0_2.length c0_2] 25 (0, 0)) (by (with_reducible repeat (first | refine blk_drewN ?_ _ | refine blk_drew ?_ | refine blk_alloc ?_ _)); refine blk_far ?_ NB294_300.out _; (with_reducible repeat (first | refine blk_drewN ?_ _ | refine blk_drew ?_ | refine blk_alloc ?_ _)); refine blk_far ?_ NB294_300.out _; (with_reducible repeat (first | refine blk_drewN ?_ _ | refine blk_drew ?_ | refine blk_alloc ?_ _)); exact BK294.out) hb); have n1_ := Aside0.mk (blk_below (g := gb300) (o := .cells #[.int .i64 t297, .int .i64 t298] 29 (0, 0)) (by (with_reducible repeat (first | refine blk_drewN ?_ _ | refine blk_drew ?_ | refine blk_alloc ?_ _)); refine blk_put (cs := #[.int .i64 t297, .int .i64 0]) ?_ 1 _ rfl; (with_reducible repeat (first | refine blk_drewN ?_ _ | refine blk_drew ?_ | refine blk_alloc ?_ _)); refine blk_put (cs := #[.int .i64 0, .int .i64 0]) ?_ 0 _ rfl; (with_reducible repeat (first | refine blk_drewN ?_ _ | refine blk_drew ?_ | refine blk_alloc ?_ _)); exact BK300.out) hb); have n2_ := Aside0.mk (below_step (by repeat (first | (with_reducible first | exact HB.out | apply below_alloc | apply pw_below_drewN | apply below_drew1 | refine below_set ?_ GE294.out | refine below_set ?_ GE300.out) | exact HB.out)) hb); clear BK294; clear BK300; clear HB; have BK294 := n0_; have BK300 := n1_; have HB := n2_; clear n0_ n1_ n2_; (try clear hb); (try clear hb2); (try clear hk); (try clear hi)) | ((with_reducible refine gate_dst (N := 19) rfl ?_); refine box_event ?hg (N := 19) ?hd (cs := #[.int .i64 0, .int .i64 0]) (t := 29) ?hr ?_; (case hd => rfl); (case hg => rfl); (case hr => first | (go_simp; done) | (go_simp; rfl)); intro gb304 hg w28 hbox hb; have n0_ := Aside0.mk (blk_below (g := gb294) (o := .cells #[.slice A0_0 l0_0.length c0_0, .slice A0_1 l0_1.length c0_1, .slice A0_2 l0_2.length c0_2] 25 (0, 0)) (by (with_reducible repeat (first | refine blk_drewN ?_ _ | refine blk_drew ?_ | refine blk_alloc ?_ _)); exact BK294.out) hb); have n1_ := Aside0.mk (blk_below (g := gb300) (o := .cells #[.int .i64 t297, .int .i64 t298] 29 (0, 0)) (by (with_reducible repeat (first | refine blk_drewN ?_ _ | refine blk_drew ?_ | refine blk_alloc ?_ _)); exact BK300.out) hb); have n2_ := Aside0.mk (below_step (by repeat (first | (with_reducible first | exact HB.out | apply below_alloc | apply pw_below_drewN | apply below_drew1 | refine below_set ?_ GE294.out | refine below_set ?_ GE300.out) | exact HB.out)) hb); have n3_ := Aside0.mk (hbox); have n4_ := Aside0.mk ((by rw [hg]; exact (below_size (by repeat (first | (with_reducible first | exact HB.out | apply below_alloc | apply pw_below_drewN | apply below_drew1 | refine below_set ?_ GE294.out | refine below_set ?_ GE300.out) | exact HB.out))) : w.heap.size ≤ gb304)); have n5_ := Aside0.mk ((by rw [hg]; exact (below_size (by repeat (first | (with_reducible first | exact HB.out | apply below_alloc | apply pw_below_drewN | apply below_drew1 | refine below_set ?_ GE294.out | refine below_set ?_ GE300.out) | exact HB.out))) : w.heap.size ≤ gb304)); have n6_ := Aside0.mk ((by rw [hg]; exact Nat.ne_of_lt (blk_lt (g := gb294) (o := .cells #[.slice A0_0 l0_0.length c0_0, .slice A0_1 l0_1.length c0_1, .slice A0_2 l0_2.length c0_2] 25 (0, 0)) (by (with_reducible repeat (first | refine blk_drewN ?_ _ | refine blk_drew ?_ | refine blk_alloc ?_ _)); exact BK294.out)) : gb294 ≠ gb304)); have n7_ := Aside0.mk ((by rw [hg]; exact Nat.ne_of_gt (blk_lt (g := gb294) (o := .cells #[.slice A0_0 l0_0.length c0_0, .slice A0_1 l0_1.length c0_1, .slice A0_2 l0_2.length c0_2] 25 (0, 0)) (by (with_reducible repeat (first | refine blk_drewN ?_ _ | refine blk_drew ?_ | refine blk_alloc ?_ _)); exact BK294.out)) : gb304 ≠ gb294)); have n8_ := Aside0.mk ((by rw [hg]; exact Nat.ne_of_lt (blk_lt (g := gb300) (o := .cells #[.int .i64 t297, .int .i64 t298] 29 (0, 0)) (by (with_reducible repeat (first | refine blk_drewN ?_ _ | refine blk_drew ?_ | refine blk_alloc ?_ _)); exact BK300.out)) : gb300 ≠ gb304)); have n9_ := Aside0.mk ((by rw [hg]; exact Nat.ne_of_gt (blk_lt (g := gb300) (o := .cells #[.int .i64 t297, .int .i64 t298] 29 (0, 0)) (by (with_reducible repeat (first | refine blk_drewN ?_ _ | refine blk_drew ?_ | refine blk_alloc ?_ _)); exact BK300.out)) : gb304 ≠ gb300)); clear BK294; clear BK300; clear HB; have BK294 := n0_; have BK300 := n1_; have HB := n2_; have BK304 := n3_; have GW304 := n4_; have GE304 := n5_; have NB294_304 := n6_; have NB304_294 := n7_; have NB300_304 := n8_; have NB304_300 := n9_; clear n0_ n1_ n2_ n3_ n4_ n5_ n6_ n7_ n8_ n9_; clear hb hbox hg; have hnb29 := NB304_294.out; have hnc29 := NB294_304.out; have hnb30 := NB304_300.out; have hnc30 := NB300_304.out; have hcz31_0 : w28.cell? ⟨gb304, 0, none⟩ = some (.int .i64 0) := (blk_cell BK304.out 0).trans rfl; have hcz31_1 : w28.cell? ⟨gb304, 1, none⟩ = some (.int .i64 0) := (blk_cell BK304.out 1).trans rfl; have hfz31_0 := blk_frozen BK304.out 0; have hfz31_1 := blk_frozen BK304.out 1; have hcz32_0 : w28.cell? ⟨gb294, 0, none⟩ = some (.slice A0_0 l0_0.length c0_0) := (blk_cell BK294.out 0).trans rfl; have hcz32_1 : w28.cell? ⟨gb294, 1, none⟩ = some (.slice A0_1 l0_1.length c0_1) := (blk_cell BK294.out 1).trans rfl; have hcz32_2 : w28.cell? ⟨gb294, 2, none⟩ = some (.slice A0_2 l0_2.length c0_2) := (blk_cell BK294.out 2).trans rfl; have hfz32_0 := blk_frozen BK294.out 0; have hfz32_1 := blk_frozen BK294.out 1; have hfz32_2 := blk_frozen BK294.out 2) | ((with_reducible refine gate_callee (f := 14) rfl ?_); refine goesL_ (some 63) rfl rfl Tryd.func14 (by kernel_rfl) rfl #[.agg #[.slice A0_0 l0_0.length c0_0, .slice A0_1 l0_1.length c0_1, .slice A0_2 l0_2.length c0_2], .int .i64 a1, .int .i64 a2] rfl (by (try simp only [List.map_toArray, List.map_cons, List.map_nil]); first | done | rfl | (simp only [List.length_drop, List.length_take]; rfl)) ?_; (with_reducible refine (correct_True.calls k _ _ l0_0 _ _ l0_1 _ _ l0_2 a1 a2 t305 t306 _ ?side1 ?side2 ?side3 ?side4 ?side5 ?side6 A15.out).mono ?_); (case side1 => exact Kd.C_below HR0_0.out (by repeat (first | (with_reducible first | exact HB.out | apply below_alloc | apply pw_below_drewN | apply below_drew1 | refine below_set ?_ GE294.out | refine below_set ?_ GE300.out | refine below_set ?_ GE304.out) | exact HB.out))); (case side2 => exact HC0_0.out); (case side3 => exact Kd.C_below HR0_1.out (by repeat (first | (with_reducible first | exact HB.out | apply below_alloc | apply pw_below_drewN | apply below_drew1 | refine below_set ?_ GE294.out | refine below_set ?_ GE300.out | refine below_set ?_ GE304.out) | exact HB.out))); (case side4 => exact HC0_1.out); (case side5 => exact Kd.C_below HR0_2.out (by repeat (first | (with_reducible first | exact HB.out | apply below_alloc | apply pw_below_drewN | apply below_drew1 | refine below_set ?_ GE294.out | refine below_set ?_ GE300.out | refine below_set ?_ GE304.out) | exact HB.out))); (case side6 => exact HC0_2.out); rintro e w33 ⟨rfl, hb⟩; refine ⟨_, rfl, ?_⟩; have n0_ := Aside0.mk (blk_below (g := gb294) (o := .cells #[.slice A0_0 l0_0.length c0_0, .slice A0_1 l0_1.length c0_1, .slice A0_2 l0_2.length c0_2] 25 (0, 0)) (by (with_reducible repeat (first | refine blk_drewN ?_ _ | refine blk_drew ?_ | refine blk_alloc ?_ _)); refine blk_far ?_ NB294_304.out _; (with_reducible repeat (first | refine blk_drewN ?_ _ | refine blk_drew ?_ | refine blk_alloc ?_ _)); refine blk_far ?_ NB294_304.out _; (with_reducible repeat (first | refine blk_drewN ?_ _ | refine blk_drew ?_ | refine blk_alloc ?_ _)); exact BK294.out) hb); have n1_ := Aside0.mk (blk_below (g := gb300) (o := .cells #[.int .i64 t297, .int .i64 t298] 29 (0, 0)) (by (with_reducible repeat (first | refine blk_drewN ?_ _ | refine blk_drew ?_ | refine blk_alloc ?_ _)); refine blk_far ?_ NB300_304.out _; (with_reducible repeat (first | refine blk_drewN ?_ _ | refine blk_drew ?_ | refine blk_alloc ?_ _)); refine blk_far ?_ NB300_304.out _; (with_reducible repeat (first | refine blk_drewN ?_ _ | refine blk_drew ?_ | refine blk_alloc ?_ _)); exact BK300.out) hb); have n2_ := Aside0.mk (blk_below (g := gb304) (o := .cells #[.int .i64 t301, .int .i64 t302] 29 (0, 0)) (by (with_reducible repeat (first | refine blk_drewN ?_ _ | refine blk_drew ?_ | refine blk_alloc ?_ _)); refine blk_put (cs := #[.int .i64 t301, .int .i64 0]) ?_ 1 _ rfl; (with_reducible repeat (first | refine blk_drewN ?_ _ | refine blk_drew ?_ | refine blk_alloc ?_ _)); refine blk_put (cs := #[.int .i64 0, .int .i64 0]) ?_ 0 _ rfl; (with_reducible repeat (first | refine blk_drewN ?_ _ | refine blk_drew ?_ | refine blk_alloc ?_ _)); exact BK304.out) hb); have n3_ := Aside0.mk (below_step (by repeat (first | (with_reducible first | exact HB.out | apply below_alloc | apply pw_below_drewN | apply below_drew1 | refine below_set ?_ GE294.out | refine below_set ?_ GE300.out | refine below_set ?_ GE304.out) | exact HB.out)) hb); clear BK294; clear BK300; clear BK304; clear HB; have BK294 := n0_; have BK300 := n1_; have BK304 := n2_; have HB := n3_; clear n0_ n1_ n2_ n3_; (try clear hb); (try clear hb2); (try clear hk); (try clear hi)))
    (try simp only [Act.put, List.setIfInBounds_toArray, List.set_cons_zero, List.set_cons_succ])
    go_cut [97] (fun v97 wc => ∃ (kq : Nat) (x97_15 : Bool), v97 = .bool x97_15 ∧ Aside0 (spilelaw19_CorrectEncloses.j0 kq a1 a2 a5 a6 (wrap64 (a3)) (wrap64 (a4)) x97_15 l0_0 l0_1 l0_2 t297 t298 = some r) ∧ Aside0 (kq ≤ k) ∧ Aside0 (wc.heap[gb294]? = some (.cells #[(.slice A0_0 l0_0.length c0_0), (.slice A0_1 l0_1.length c0_1), (.slice A0_2 l0_2.length c0_2)] 25 (0, 0))) ∧ Aside0 (wc.heap[gb300]? = some (.cells #[.int .i64 t297, .int .i64 t298] 29 (0, 0))) ∧ Aside0 (wc.heap[gb304]? = some (.cells #[.int .i64 t301, .int .i64 t302] 29 (0, 0))) ∧ Aside0 (Below w.heap.size w wc))
    case first =>
     have H := HC16.out
     clear HC16
     by_cases c34 : t303 = 0
     ·
      rw [if_pos c34] at H
      have c34b0 : (t303 == 0) = true := beq_iff_eq.mpr c34
      have c34b1 : (t303 != 0) = false := bne_eq_false_iff_eq.mpr c34
      clear c34
      (first | rw [c34b0] | (simp only [i64_w, i32_w]; rw [c34b0]) | skip)
      by_cases c35 : t306 = 0
      ·
       rw [if_pos c35] at H
       have c35b0 : (t306 == 0) = true := beq_iff_eq.mpr c35
       have c35b1 : (t306 != 0) = false := bne_eq_false_iff_eq.mpr c35
       clear c35
       by_cases c36 : t301 > t297
       ·
        rw [if_pos c36] at H
        have c36b0 : decide (t297 < t301) = true := decide_eq_true c36
        clear c36
        have H' := Aside0.mk H
        clear H
        have hnb37 := NB304_294.out
        have hnc37 := NB294_304.out
        have hnb38 := NB304_300.out
        have hnc38 := NB300_304.out
        have hcz39_0 : w33.cell? ⟨gb304, 0, none⟩ = some (.int .i64 t301) := (blk_cell BK304.out 0).trans rfl
        have hcz39_1 : w33.cell? ⟨gb304, 1, none⟩ = some (.int .i64 t302) := (blk_cell BK304.out 1).trans rfl
        have hfz39_0 := blk_frozen BK304.out 0
        have hfz39_1 := blk_frozen BK304.out 1
        have hnb40 := NB300_294.out
        have hnc40 := NB294_300.out
        have hcz41_0 : w33.cell? ⟨gb300, 0, none⟩ = some (.int .i64 t297) := (blk_cell BK300.out 0).trans rfl
        have hcz41_1 : w33.cell? ⟨gb300, 1, none⟩ = some (.int .i64 t298) := (blk_cell BK300.out 1).trans rfl
        have hfz41_0 := blk_frozen BK300.out 0
        have hfz41_1 := blk_frozen BK300.out 1
        go_wp2
        go_meet
        case rel => exact ⟨_, (true), (by first | rfl | (simp; done) | (simp [*]; done)), H', ⟨by first | omega | exact Nat.le_refl _⟩, ⟨by (with_reducible repeat (first | refine blk_drewN ?_ _ | refine blk_drew ?_ | refine blk_alloc ?_ _)); exact BK294.out⟩, ⟨by (with_reducible repeat (first | refine blk_drewN ?_ _ | refine blk_drew ?_ | refine blk_alloc ?_ _)); exact BK300.out⟩, ⟨by (with_reducible repeat (first | refine blk_drewN ?_ _ | refine blk_drew ?_ | refine blk_alloc ?_ _)); exact BK304.out⟩, ⟨by repeat (first | (with_reducible first | exact HB.out | apply below_alloc | apply pw_below_drewN | apply below_drew1 | refine below_set ?_ GE294.out | refine below_set ?_ GE300.out | refine below_set ?_ GE304.out) | exact HB.out)⟩⟩
       ·
        rw [if_neg c36] at H
        have c36b0 : decide (t297 < t301) = false := decide_eq_false c36
        clear c36
        by_cases c42 : t302 < t298
        ·
         rw [if_pos c42] at H
         have c42b0 : decide (t302 < t298) = true := decide_eq_true c42
         clear c42
         have H' := Aside0.mk H
         clear H
         have hnb43 := NB304_294.out
         have hnc43 := NB294_304.out
         have hnb44 := NB304_300.out
         have hnc44 := NB300_304.out
         have hcz45_0 : w33.cell? ⟨gb304, 0, none⟩ = some (.int .i64 t301) := (blk_cell BK304.out 0).trans rfl
         have hcz45_1 : w33.cell? ⟨gb304, 1, none⟩ = some (.int .i64 t302) := (blk_cell BK304.out 1).trans rfl
         have hfz45_0 := blk_frozen BK304.out 0
         have hfz45_1 := blk_frozen BK304.out 1
         have hnb46 := NB300_294.out
         have hnc46 := NB294_300.out
         have hcz47_0 : w33.cell? ⟨gb300, 0, none⟩ = some (.int .i64 t297) := (blk_cell BK300.out 0).trans rfl
         have hcz47_1 : w33.cell? ⟨gb300, 1, none⟩ = some (.int .i64 t298) := (blk_cell BK300.out 1).trans rfl
         have hfz47_0 := blk_frozen BK300.out 0
         have hfz47_1 := blk_frozen BK300.out 1
         go_wp2
         go_meet
         case rel => exact ⟨_, (true), (by first | rfl | (simp; done) | (simp [*]; done)), H', ⟨by first | omega | exact Nat.le_refl _⟩, ⟨by (with_reducible repeat (first | refine blk_drewN ?_ _ | refine blk_drew ?_ | refine blk_alloc ?_ _)); exact BK294.out⟩, ⟨by (with_reducible repeat (first | refine blk_drewN ?_ _ | refine blk_drew ?_ | refine blk_alloc ?_ _)); exact BK300.out⟩, ⟨by (with_reducible repeat (first | refine blk_drewN ?_ _ | refine blk_drew ?_ | refine blk_alloc ?_ _)); exact BK304.out⟩, ⟨by repeat (first | (with_reducible first | exact HB.out | apply below_alloc | apply pw_below_drewN | apply below_drew1 | refine below_set ?_ GE294.out | refine below_set ?_ GE300.out | refine below_set ?_ GE304.out) | exact HB.out)⟩⟩
        ·
         rw [if_neg c42] at H
         have c42b0 : decide (t302 < t298) = false := decide_eq_false c42
         clear c42
         by_cases c48 : t305 < t297
         ·
          rw [if_pos c48] at H
          have c48b0 : decide (t305 < t297) = true := decide_eq_true c48
          clear c48
          have H' := Aside0.mk H
          clear H
          have hnb49 := NB304_294.out
          have hnc49 := NB294_304.out
          have hnb50 := NB304_300.out
          have hnc50 := NB300_304.out
          have hcz51_0 : w33.cell? ⟨gb304, 0, none⟩ = some (.int .i64 t301) := (blk_cell BK304.out 0).trans rfl
          have hcz51_1 : w33.cell? ⟨gb304, 1, none⟩ = some (.int .i64 t302) := (blk_cell BK304.out 1).trans rfl
          have hfz51_0 := blk_frozen BK304.out 0
          have hfz51_1 := blk_frozen BK304.out 1
          have hnb52 := NB300_294.out
          have hnc52 := NB294_300.out
          have hcz53_0 : w33.cell? ⟨gb300, 0, none⟩ = some (.int .i64 t297) := (blk_cell BK300.out 0).trans rfl
          have hcz53_1 : w33.cell? ⟨gb300, 1, none⟩ = some (.int .i64 t298) := (blk_cell BK300.out 1).trans rfl
          have hfz53_0 := blk_frozen BK300.out 0
          have hfz53_1 := blk_frozen BK300.out 1
          go_wp2
          go_meet
          case rel => exact ⟨_, (true), (by first | rfl | (simp; done) | (simp [*]; done)), H', ⟨by first | omega | exact Nat.le_refl _⟩, ⟨by (with_reducible repeat (first | refine blk_drewN ?_ _ | refine blk_drew ?_ | refine blk_alloc ?_ _)); exact BK294.out⟩, ⟨by (with_reducible repeat (first | refine blk_drewN ?_ _ | refine blk_drew ?_ | refine blk_alloc ?_ _)); exact BK300.out⟩, ⟨by (with_reducible repeat (first | refine blk_drewN ?_ _ | refine blk_drew ?_ | refine blk_alloc ?_ _)); exact BK304.out⟩, ⟨by repeat (first | (with_reducible first | exact HB.out | apply below_alloc | apply pw_below_drewN | apply below_drew1 | refine below_set ?_ GE294.out | refine below_set ?_ GE300.out | refine below_set ?_ GE304.out) | exact HB.out)⟩⟩
         ·
          rw [if_neg c48] at H
          have c48b0 : decide (t305 < t297) = false := decide_eq_false c48
          clear c48
          have H' := Aside0.mk H
          clear H
          have hnb54 := NB304_294.out
          have hnc54 := NB294_304.out
          have hnb55 := NB304_300.out
          have hnc55 := NB300_304.out
          have hcz56_0 : w33.cell? ⟨gb304, 0, none⟩ = some (.int .i64 t301) := (blk_cell BK304.out 0).trans rfl
          have hcz56_1 : w33.cell? ⟨gb304, 1, none⟩ = some (.int .i64 t302) := (blk_cell BK304.out 1).trans rfl
          have hfz56_0 := blk_frozen BK304.out 0
          have hfz56_1 := blk_frozen BK304.out 1
          have hnb57 := NB300_294.out
          have hnc57 := NB294_300.out
          have hcz58_0 : w33.cell? ⟨gb300, 0, none⟩ = some (.int .i64 t297) := (blk_cell BK300.out 0).trans rfl
          have hcz58_1 : w33.cell? ⟨gb300, 1, none⟩ = some (.int .i64 t298) := (blk_cell BK300.out 1).trans rfl
          have hfz58_0 := blk_frozen BK300.out 0
          have hfz58_1 := blk_frozen BK300.out 1
          go_wp2
          go_meet
          case rel => exact ⟨_, (decide (t305 > t298)), (by first | rfl | (simp; done) | (simp [*]; done)), H', ⟨by first | omega | exact Nat.le_refl _⟩, ⟨by (with_reducible repeat (first | refine blk_drewN ?_ _ | refine blk_drew ?_ | refine blk_alloc ?_ _)); exact BK294.out⟩, ⟨by (with_reducible repeat (first | refine blk_drewN ?_ _ | refine blk_drew ?_ | refine blk_alloc ?_ _)); exact BK300.out⟩, ⟨by (with_reducible repeat (first | refine blk_drewN ?_ _ | refine blk_drew ?_ | refine blk_alloc ?_ _)); exact BK304.out⟩, ⟨by repeat (first | (with_reducible first | exact HB.out | apply below_alloc | apply pw_below_drewN | apply below_drew1 | refine below_set ?_ GE294.out | refine below_set ?_ GE300.out | refine below_set ?_ GE304.out) | exact HB.out)⟩⟩
      ·
       rw [if_neg c35] at H
       have c35b0 : (t306 == 0) = false := beq_eq_false_iff_ne.mpr c35
       have c35b1 : (t306 != 0) = true := bne_iff_ne.mpr c35
       have H' := Aside0.mk H
       clear H
       go_wp2
       go_meet
       case rel => exact ⟨_, (true), (by first | rfl | (simp; done) | (simp [*]; done)), H', ⟨by first | omega | exact Nat.le_refl _⟩, ⟨by (with_reducible repeat (first | refine blk_drewN ?_ _ | refine blk_drew ?_ | refine blk_alloc ?_ _)); exact BK294.out⟩, ⟨by (with_reducible repeat (first | refine blk_drewN ?_ _ | refine blk_drew ?_ | refine blk_alloc ?_ _)); exact BK300.out⟩, ⟨by (with_reducible repeat (first | refine blk_drewN ?_ _ | refine blk_drew ?_ | refine blk_alloc ?_ _)); exact BK304.out⟩, ⟨by repeat (first | (with_reducible first | exact HB.out | apply below_alloc | apply pw_below_drewN | apply below_drew1 | refine below_set ?_ GE294.out | refine below_set ?_ GE300.out | refine below_set ?_ GE304.out) | exact HB.out)⟩⟩
     ·
      rw [if_neg c34] at H
      have c34b0 : (t303 == 0) = false := beq_eq_false_iff_ne.mpr c34
      have c34b1 : (t303 != 0) = true := bne_iff_ne.mpr c34
      (first | rw [c34b0] | (simp only [i64_w, i32_w]; rw [c34b0]) | skip)
      have H' := Aside0.mk H
      clear H
      go_wp2
      go_meet
      case rel => exact ⟨_, (true), (by first | rfl | (simp; done) | (simp [*]; done)), H', ⟨by first | omega | exact Nat.le_refl _⟩, ⟨by (with_reducible repeat (first | refine blk_drewN ?_ _ | refine blk_drew ?_ | refine blk_alloc ?_ _)); exact BK294.out⟩, ⟨by (with_reducible repeat (first | refine blk_drewN ?_ _ | refine blk_drew ?_ | refine blk_alloc ?_ _)); exact BK300.out⟩, ⟨by (with_reducible repeat (first | refine blk_drewN ?_ _ | refine blk_drew ?_ | refine blk_alloc ?_ _)); exact BK304.out⟩, ⟨by repeat (first | (with_reducible first | exact HB.out | apply below_alloc | apply pw_below_drewN | apply below_drew1 | refine below_set ?_ GE294.out | refine below_set ?_ GE300.out | refine below_set ?_ GE304.out) | exact HB.out)⟩⟩
    case rest =>
     clear HC16
     try clear c1
     try clear c2
     try clear p2
     try clear c3
     try clear c4
     try clear c5
     try clear p6
     try clear c9
     try clear c10
     try clear c11
     try clear c12
     try clear c13
     try clear c13b0
     try clear c13b1
     try clear c14
     try clear c24
     try clear c29
     try clear c30
     try clear c34
     try clear c34b0
     try clear c34b1
     try clear c35
     try clear c35b0
     try clear c35b1
     try clear c36
     try clear c36b0
     try clear c37
     try clear c38
     try clear c40
     try clear c42
     try clear c42b0
     try clear c43
     try clear c44
     try clear c46
     try clear c48
     try clear c48b0
     try clear c49
     try clear c50
     try clear c52
     try clear c54
     try clear c55
     try clear c57
     try clear hcz19_0
     try clear hcz19_1
     try clear hcz19_2
     try clear hcz21_0
     try clear hcz21_1
     try clear hcz21_2
     try clear hcz25_0
     try clear hcz25_1
     try clear hcz26_0
     try clear hcz26_1
     try clear hcz26_2
     try clear hcz31_0
     try clear hcz31_1
     try clear hcz32_0
     try clear hcz32_1
     try clear hcz32_2
     try clear hcz39_0
     try clear hcz39_1
     try clear hcz41_0
     try clear hcz41_1
     try clear hcz45_0
     try clear hcz45_1
     try clear hcz47_0
     try clear hcz47_1
     try clear hcz51_0
     try clear hcz51_1
     try clear hcz53_0
     try clear hcz53_1
     try clear hcz56_0
     try clear hcz56_1
     try clear hcz58_0
     try clear hcz58_1
     try clear hfz19_0
     try clear hfz19_1
     try clear hfz19_2
     try clear hfz21_0
     try clear hfz21_1
     try clear hfz21_2
     try clear hfz25_0
     try clear hfz25_1
     try clear hfz26_0
     try clear hfz26_1
     try clear hfz26_2
     try clear hfz31_0
     try clear hfz31_1
     try clear hfz32_0
     try clear hfz32_1
     try clear hfz32_2
     try clear hfz39_0
     try clear hfz39_1
     try clear hfz41_0
     try clear hfz41_1
     try clear hfz45_0
     try clear hfz45_1
     try clear hfz47_0
     try clear hfz47_1
     try clear hfz51_0
     try clear hfz51_1
     try clear hfz53_0
     try clear hfz53_1
     try clear hfz56_0
     try clear hfz56_1
     try clear hfz58_0
     try clear hfz58_1
     obtain ⟨kq, x97_15, rfl, HA, HJ15, BK294, BK300, BK304, HB⟩ := hcut
     cases kq with
     | zero => exact absurd HA.out (by simp [spilelaw19_CorrectEncloses.j0])
     | succ kj15 =>
      have H := HA.out
      clear HA
      simp only [spilelaw19_CorrectEncloses.j0] at H
      by_cases c59 : x97_15 = true
      ·
       subst c59
       have H1 : (some false) = some r := by rw [if_pos rfl] at H; exact H
       clear H
       have H := H1
       clear H1
       obtain rfl := Option.some.inj H
       go_wp2
       go_ret
       exact ⟨by first | rfl | (simp [errW_none, errW_some] <;> rfl) | (simp [*, errW_none, errW_some] <;> rfl), by repeat (first | (with_reducible first | exact HB.out | apply below_alloc | apply pw_below_drewN | apply below_drew1 | refine below_set ?_ GE294.out | refine below_set ?_ GE300.out | refine below_set ?_ GE304.out) | exact HB.out)⟩
      ·
       replace c59 := Bool.eq_false_iff.mpr c59
       subst c59
       have H1 : (if (wrap64 ((wrap64 (2 * (wrap64 (a3)))) + 1)) = 0 then (none) else (if (wrap64 ((wrap64 (2 * (wrap64 (a4)))) + 1)) = 0 then (none) else ((correct_True.f kj15 l0_0 l0_1 l0_2 (wrap64 ((wrap64 (a1 - (wrap64 (a3)))) + (Int.tmod (wrap64 (a5)) (wrap64 ((wrap64 (2 * (wrap64 (a3)))) + 1))))) (wrap64 ((wrap64 (a2 - (wrap64 (a4)))) + (Int.tmod (wrap64 (a6)) (wrap64 ((wrap64 (2 * (wrap64 (a4)))) + 1)))))).bind fun bt307 => (if bt307.2 = 0 then (if bt307.1 ≥ t297 then (some (decide (bt307.1 ≤ t298))) else (some false)) else (some true))))) = some r := by rw [if_neg (show ¬ (false = true) by decide)] at H; exact H
       clear H
       have H := H1
       clear H1
       by_cases c60 : (wrap64 ((wrap64 (2 * (wrap64 (a3)))) + 1)) = 0
       ·
        rw [if_pos c60] at H
        exact absurd H (by simp)
       ·
        rw [if_neg c60] at H
        have c60b0 : ((wrap64 ((wrap64 (2 * (wrap64 (a3)))) + 1)) == 0) = false := beq_eq_false_iff_ne.mpr c60
        have c60b1 : ((wrap64 ((wrap64 (2 * (wrap64 (a3)))) + 1)) != 0) = true := bne_iff_ne.mpr c60
        by_cases c61 : (wrap64 ((wrap64 (2 * (wrap64 (a4)))) + 1)) = 0
        ·
         rw [if_pos c61] at H
         exact absurd H (by simp)
        ·
         rw [if_neg c61] at H
         have c61b0 : ((wrap64 ((wrap64 (2 * (wrap64 (a4)))) + 1)) == 0) = false := beq_eq_false_iff_ne.mpr c61
         have c61b1 : ((wrap64 ((wrap64 (2 * (wrap64 (a4)))) + 1)) != 0) = true := bne_iff_ne.mpr c61
         replace H := Option.bind_eq_some_iff.mp H
         obtain ⟨⟨t307, t308⟩, A620, H⟩ := H
         replace H : (if t308 = 0 then (if t307 ≥ t297 then (some (decide (t307 ≤ t298))) else (some false)) else (some true)) = some r := H
         have A62 := Aside0.mk A620
         clear A620
         by_cases c63 : t308 = 0
         ·
          rw [if_pos c63] at H
          have c63b0 : (t308 == 0) = true := beq_iff_eq.mpr c63
          have c63b1 : (t308 != 0) = false := bne_eq_false_iff_eq.mpr c63
          clear c63
          by_cases c64 : t307 ≥ t297
          ·
           rw [if_pos c64] at H
           have c64b0 : decide (t297 ≤ t307) = true := decide_eq_true c64
           clear c64
           obtain rfl := Option.some.inj H
           try go_wp2
           have n0_ := Aside0.mk (blk_drew BK294.out)
           have n1_ := Aside0.mk (blk_drew BK300.out)
           have n2_ := Aside0.mk (blk_drew BK304.out)
           have n3_ := Aside0.mk (below_drew1 HB.out)
           clear BK294
           clear BK300
           clear BK304
           clear HB
           have BK294 := n0_
           have BK300 := n1_
           have BK304 := n2_
           have HB := n3_
           clear n0_ n1_ n2_ n3_
           refine start_ (n := 27) (S := fun w' => w'.cell? ⟨gb294, 0, none⟩ = some (.slice A0_0 l0_0.length c0_0) ∧ w'.cell? ⟨gb294, 1, none⟩ = some (.slice A0_1 l0_1.length c0_1) ∧ w'.cell? ⟨gb294, 2, none⟩ = some (.slice A0_2 l0_2.length c0_2)) (ds := []) #[false, false, false, false, false, false, false, false, false, false, false, false, false, false, false, false, false, false, false, false, false, false, false, false, false, false, false] (by kernel_rfl) rfl rfl ⟨(blk_cell BK294.out 0).trans rfl, (blk_cell BK294.out 1).trans rfl, (blk_cell BK294.out 2).trans rfl⟩ (fun hHeld => ?_); refine with_tabW spilelaw19_CorrectEncloses.tab13 spilelaw19_CorrectEncloses.bits13 (fun HT_ HW_ => ?_)
           generalize wc.drew = w65 at BK294 BK300 BK304 HB hHeld ⊢
           refine pure_ (i := 1) (N := some 100) (v := ?_) (a' := ?_) #[false, true, false, false, false, false, false, false, false, false, false, false, false, false, false, false, false, false, false, false, false, false, false, false, false, false, false] rfl rfl (any_of HT_.out (by kernel_rfl)) (fun _ _ _ h => h) (Or.inl ⟨by rfl, ?_⟩) ?_ ?_
           rotate_left
           ·
            intro w'
            go_simp
            with_reducible rfl
           rotate_left
           ·
            simp only [Act.put, List.setIfInBounds_toArray, List.set_cons_zero, List.set_cons_succ, i64_w, i32_w]
            rfl
           refine pure_ (i := 2) (N := some 101) (v := ?_) (a' := ?_) #[false, true, true, false, false, false, false, false, false, false, false, false, false, false, false, false, false, false, false, false, false, false, false, false, false, false, false] rfl rfl (any_of HT_.out (by kernel_rfl)) (fun _ _ _ h => h) (Or.inl ⟨by rfl, ?_⟩) ?_ ?_
           rotate_left
           ·
            intro w'
            go_simp
            with_reducible rfl
           rotate_left
           ·
            simp only [Act.put, List.setIfInBounds_toArray, List.set_cons_zero, List.set_cons_succ, i64_w, i32_w]
            rfl
           refine pure_ (i := 3) (N := some 102) (v := ?_) (a' := ?_) #[false, true, true, true, false, false, false, false, false, false, false, false, false, false, false, false, false, false, false, false, false, false, false, false, false, false, false] rfl rfl (any_of HT_.out (by kernel_rfl)) (fun _ _ _ h => h) (Or.inl ⟨by rfl, ?_⟩) ?_ ?_
           rotate_left
           ·
            intro w'
            go_simp
            with_reducible rfl
           rotate_left
           ·
            simp only [Act.put, List.setIfInBounds_toArray, List.set_cons_zero, List.set_cons_succ, i64_w, i32_w]
            rfl
           refine pure_ (i := 4) (N := some 103) (v := ?_) (a' := ?_) #[false, true, true, true, true, false, false, false, false, false, false, false, false, false, false, false, false, false, false, false, false, false, false, false, false, false, false] rfl rfl (any_of HT_.out (by kernel_rfl)) (fun _ _ _ h => h) (Or.inl ⟨by rfl, ?_⟩) ?_ ?_
           rotate_left
           ·
            intro w'
            go_simp
            with_reducible rfl
           rotate_left
           ·
            simp only [Act.put, List.setIfInBounds_toArray, List.set_cons_zero, List.set_cons_succ, i64_w, i32_w]
            rfl
           refine pure_ (i := 5) (N := some 104) (v := ?_) (a' := ?_) #[false, true, true, true, true, true, false, false, false, false, false, false, false, false, false, false, false, false, false, false, false, false, false, false, false, false, false] rfl rfl (any_of HT_.out (by kernel_rfl)) (fun _ _ _ h => h) (Or.inl ⟨by rfl, ?_⟩) ?_ ?_
           rotate_left
           ·
            intro w'
            go_simp
            with_reducible rfl
           rotate_left
           ·
            simp only [Act.put, List.setIfInBounds_toArray, List.set_cons_zero, List.set_cons_succ, i64_w, i32_w]
            rfl
           refine pure_ (i := 6) (N := some 105) (v := ?_) (a' := ?_) #[false, true, true, true, true, true, true, false, false, false, false, false, false, false, false, false, false, false, false, false, false, false, false, false, false, false, false] rfl rfl (any_of HT_.out (by kernel_rfl)) (fun _ _ _ h => h) (Or.inl ⟨by rfl, ?_⟩) ?_ ?_
           rotate_left
           ·
            intro w'
            go_simp
            with_reducible rfl
           rotate_left
           ·
            simp only [Act.put, List.setIfInBounds_toArray, List.set_cons_zero, List.set_cons_succ, i64_w, i32_w]
            rfl
           refine pure_ (i := 7) (N := some 106) (v := ?_) (a' := ?_) #[false, true, true, true, true, true, true, true, false, false, false, false, false, false, false, false, false, false, false, false, false, false, false, false, false, false, false] rfl rfl (any_of HT_.out (by kernel_rfl)) (fun _ _ _ h => h) (Or.inl ⟨by rfl, ?_⟩) ?_ ?_
           rotate_left
           ·
            intro w'
            go_simp
            with_reducible rfl
           rotate_left
           ·
            simp only [Act.put, List.setIfInBounds_toArray, List.set_cons_zero, List.set_cons_succ, i64_w, i32_w]
            rfl
           refine pure_ (i := 8) (N := some 107) (v := ?_) (a' := ?_) #[false, true, true, true, true, true, true, true, true, false, false, false, false, false, false, false, false, false, false, false, false, false, false, false, false, false, false] rfl rfl (any_of HT_.out (by kernel_rfl)) (fun _ _ _ h => h) (Or.inl ⟨by rfl, ?_⟩) ?_ ?_
           rotate_left
           ·
            intro w'
            go_simp
            with_reducible rfl
           rotate_left
           ·
            simp only [Act.put, List.setIfInBounds_toArray, List.set_cons_zero, List.set_cons_succ, i64_w, i32_w]
            rfl
           refine pure_ (i := 9) (N := some 108) (v := ?_) (a' := ?_) #[false, true, true, true, true, true, true, true, true, true, false, false, false, false, false, false, false, false, false, false, false, false, false, false, false, false, false] rfl rfl (any_of HT_.out (by kernel_rfl)) (fun _ _ _ h => h) (Or.inl ⟨by rfl, ?_⟩) ?_ ?_
           rotate_left
           ·
            intro w'
            go_simp
            with_reducible rfl
           rotate_left
           ·
            simp only [Act.put, List.setIfInBounds_toArray, List.set_cons_zero, List.set_cons_succ, i64_w, i32_w]
            rfl
           refine pure_ (i := 10) (N := some 109) (v := ?_) (a' := ?_) #[false, true, true, true, true, true, true, true, true, true, true, false, false, false, false, false, false, false, false, false, false, false, false, false, false, false, false] rfl rfl (any_of HT_.out (by kernel_rfl)) (fun _ _ _ h => h) (Or.inl ⟨by rfl, ?_⟩) ?_ ?_
           rotate_left
           ·
            intro w'
            go_simp
            with_reducible rfl
           rotate_left
           ·
            simp only [Act.put, List.setIfInBounds_toArray, List.set_cons_zero, List.set_cons_succ, i64_w, i32_w]
            rfl
           refine pure_ (i := 11) (N := some 110) (v := ?_) (a' := ?_) #[false, true, true, true, true, true, true, true, true, true, true, true, false, false, false, false, false, false, false, false, false, false, false, false, false, false, false] rfl rfl (any_of HT_.out (by kernel_rfl)) (fun _ _ _ h => h) (Or.inl ⟨by rfl, ?_⟩) ?_ ?_
           rotate_left
           ·
            intro w'
            go_simp
            with_reducible rfl
           rotate_left
           ·
            simp only [Act.put, List.setIfInBounds_toArray, List.set_cons_zero, List.set_cons_succ, i64_w, i32_w]
            rfl
           refine pure_ (i := 12) (N := some 111) (v := ?_) (a' := ?_) #[false, true, true, true, true, true, true, true, true, true, true, true, true, false, false, false, false, false, false, false, false, false, false, false, false, false, false] rfl rfl (any_of HT_.out (by kernel_rfl)) (fun _ _ _ h => h) (Or.inl ⟨by rfl, ?_⟩) ?_ ?_
           rotate_left
           ·
            intro w'
            go_simp
            with_reducible rfl
           rotate_left
           ·
            simp only [Act.put, List.setIfInBounds_toArray, List.set_cons_zero, List.set_cons_succ, i64_w, i32_w]
            rfl
           refine pure_ (i := 13) (N := some 112) (v := ?_) (a' := ?_) #[false, true, true, true, true, true, true, true, true, true, true, true, true, true, false, false, false, false, false, false, false, false, false, false, false, false, false] rfl rfl (any_of HT_.out (by kernel_rfl)) (fun _ _ _ h => h) (Or.inl ⟨by rfl, ?_⟩) ?_ ?_
           rotate_left
           ·
            intro w'
            go_simp
            with_reducible rfl
           rotate_left
           ·
            simp only [Act.put, List.setIfInBounds_toArray, List.set_cons_zero, List.set_cons_succ, i64_w, i32_w]
            rfl
           refine pure_ (i := 14) (N := some 113) (v := ?_) (a' := ?_) #[false, true, true, true, true, true, true, true, true, true, true, true, true, true, true, false, false, false, false, false, false, false, false, false, false, false, false] rfl rfl (any_of HT_.out (by kernel_rfl)) (fun _ _ _ h => h) (Or.inl ⟨by rfl, ?_⟩) ?_ ?_
           rotate_left
           ·
            intro w'
            go_simp
            with_reducible rfl
           rotate_left
           ·
            simp only [Act.put, List.setIfInBounds_toArray, List.set_cons_zero, List.set_cons_succ, i64_w, i32_w]
            rfl
           refine pure_ (i := 15) (N := some 114) (v := ?_) (a' := ?_) #[false, true, true, true, true, true, true, true, true, true, true, true, true, true, true, true, false, false, false, false, false, false, false, false, false, false, false] rfl rfl (any_of HT_.out (by kernel_rfl)) (fun _ _ _ h => h) (Or.inl ⟨by rfl, ?_⟩) ?_ ?_
           rotate_left
           ·
            intro w'
            go_simp
            with_reducible rfl
           rotate_left
           ·
            simp only [Act.put, List.setIfInBounds_toArray, List.set_cons_zero, List.set_cons_succ, i64_w, i32_w]
            rfl
           refine pure_ (i := 16) (N := some 115) (v := ?_) (a' := ?_) #[false, true, true, true, true, true, true, true, true, true, true, true, true, true, true, true, true, false, false, false, false, false, false, false, false, false, false] rfl rfl (any_of HT_.out (by kernel_rfl)) (fun _ _ _ h => h) (Or.inl ⟨by rfl, ?_⟩) ?_ ?_
           rotate_left
           ·
            intro w'
            go_simp
            with_reducible rfl
           rotate_left
           ·
            simp only [Act.put, List.setIfInBounds_toArray, List.set_cons_zero, List.set_cons_succ, i64_w, i32_w]
            rfl
           refine pure_ (i := 17) (N := some 116) (v := ?_) (a' := ?_) #[false, true, true, true, true, true, true, true, true, true, true, true, true, true, true, true, true, true, false, false, false, false, false, false, false, false, false] rfl rfl (any_of HT_.out (by kernel_rfl)) (fun _ _ _ h => h) (Or.inl ⟨by rfl, ?_⟩) ?_ ?_
           rotate_left
           ·
            intro w'
            go_simp
            with_reducible rfl
           rotate_left
           ·
            simp only [Act.put, List.setIfInBounds_toArray, List.set_cons_zero, List.set_cons_succ, i64_w, i32_w]
            rfl
           refine pure_ (i := 18) (N := some 117) (v := ?_) (a' := ?_) #[false, true, true, true, true, true, true, true, true, true, true, true, true, true, true, true, true, true, true, false, false, false, false, false, false, false, false] rfl rfl (any_of HT_.out (by kernel_rfl)) (fun _ _ _ h => h) (Or.inl ⟨by rfl, ?_⟩) ?_ ?_
           rotate_left
           ·
            intro w'
            go_simp
            with_reducible rfl
           rotate_left
           ·
            simp only [Act.put, List.setIfInBounds_toArray, List.set_cons_zero, List.set_cons_succ, i64_w, i32_w]
            rfl
           refine pure_ (i := 19) (N := some 118) (v := ?_) (a' := ?_) #[false, true, true, true, true, true, true, true, true, true, true, true, true, true, true, true, true, true, true, true, false, false, false, false, false, false, false] rfl rfl (any_of HT_.out (by kernel_rfl)) (fun _ _ _ h => h) (Or.inl ⟨by rfl, ?_⟩) ?_ ?_
           rotate_left
           ·
            intro w'
            go_simp
            with_reducible rfl
           rotate_left
           ·
            simp only [Act.put, List.setIfInBounds_toArray, List.set_cons_zero, List.set_cons_succ, i64_w, i32_w]
            rfl
           refine pure_ (i := 20) (N := some 119) (v := ?_) (a' := ?_) #[false, true, true, true, true, true, true, true, true, true, true, true, true, true, true, true, true, true, true, true, true, false, false, false, false, false, false] rfl rfl (any_of HT_.out (by kernel_rfl)) (fun _ _ _ h => h) (Or.inl ⟨by rfl, ?_⟩) ?_ ?_
           rotate_left
           ·
            intro w'
            go_simp
            with_reducible rfl
           rotate_left
           ·
            simp only [Act.put, List.setIfInBounds_toArray, List.set_cons_zero, List.set_cons_succ, i64_w, i32_w]
            rfl
           refine take_ (i := 0) (N := some 99) (v := ?_) (a' := ?_) #[true, true, true, true, true, true, true, true, true, true, true, true, true, true, true, true, true, true, true, true, true, false, false, false, false, false, false] rfl rfl (take_ofW HT_.out HW_.out (by kernel_rfl)) (fun _ _ _ h => h) (Or.inl ⟨by rfl, ?_⟩) hHeld ?_ ?_
           rotate_left
           ·
            rintro w' ⟨s0, s1, s2⟩
            go_simp
            with_reducible rfl
           rotate_left
           ·
            simp only [Act.put, List.setIfInBounds_toArray, List.set_cons_zero, List.set_cons_succ, i64_w, i32_w]
            rfl
           refine one_ (i := 21) (N := some 120) #[true, true, true, true, true, true, true, true, true, true, true, true, true, true, true, true, true, true, true, true, true, true, false, false, false, false, false] rfl rfl (one_of HT_.out (by kernel_rfl)) (by decide) (fun K hK => ?_)
           refine goes_ Tryd.func14 (by kernel_rfl) rfl #[.agg #[.slice A0_0 l0_0.length c0_0, .slice A0_1 l0_1.length c0_1, .slice A0_2 l0_2.length c0_2], .int .i64 (wrap64 ((wrap64 (a1 - (wrap64 (a3)))) + (Int.tmod (wrap64 (a5)) (wrap64 ((wrap64 (2 * (wrap64 (a3)))) + 1))))), .int .i64 (wrap64 ((wrap64 (a2 - (wrap64 (a4)))) + (Int.tmod (wrap64 (a6)) (wrap64 ((wrap64 (2 * (wrap64 (a4)))) + 1)))))] (by rfl) rfl rfl (by (try simp only [List.map_toArray, List.map_cons, List.map_nil]); first | done | rfl | (simp only [List.length_drop, List.length_take]; rfl)) ?_
           with_reducible refine (correct_True.calls kj15 _ _ l0_0 _ _ l0_1 _ _ l0_2 (wrap64 ((wrap64 (a1 - (wrap64 (a3)))) + (Int.tmod (wrap64 (a5)) (wrap64 ((wrap64 (2 * (wrap64 (a3)))) + 1))))) (wrap64 ((wrap64 (a2 - (wrap64 (a4)))) + (Int.tmod (wrap64 (a6)) (wrap64 ((wrap64 (2 * (wrap64 (a4)))) + 1))))) t307 t308 _ ?side1 ?side2 ?side3 ?side4 ?side5 ?side6 A62.out).mono ?_
           (case side1 => repeat (first | exact (Kd.C_below HR0_0.out HB.out) | (with_reducible refine Kd.C_alloc ?_ _) | (with_reducible refine Kd.C_drewN ?_ _) | (with_reducible refine Kd.C_drew ?_)))
           (case side2 => exact HC0_0.out)
           (case side3 => repeat (first | exact (Kd.C_below HR0_1.out HB.out) | (with_reducible refine Kd.C_alloc ?_ _) | (with_reducible refine Kd.C_drewN ?_ _) | (with_reducible refine Kd.C_drew ?_)))
           (case side4 => exact HC0_1.out)
           (case side5 => repeat (first | exact (Kd.C_below HR0_2.out HB.out) | (with_reducible refine Kd.C_alloc ?_ _) | (with_reducible refine Kd.C_drewN ?_ _) | (with_reducible refine Kd.C_drew ?_)))
           (case side6 => exact HC0_2.out)
           rintro e w66 ⟨rfl, hb⟩
           refine ⟨_, rfl, ?_⟩
           have n0_ := Aside0.mk (blk_below (g := gb294) (o := .cells #[.slice A0_0 l0_0.length c0_0, .slice A0_1 l0_1.length c0_1, .slice A0_2 l0_2.length c0_2] 25 (0, 0)) (by (with_reducible repeat (first | refine blk_drewN ?_ _ | refine blk_drew ?_ | refine blk_alloc ?_ _)); exact BK294.out) hb)
           have n1_ := Aside0.mk (blk_below (g := gb300) (o := .cells #[.int .i64 t297, .int .i64 t298] 29 (0, 0)) (by (with_reducible repeat (first | refine blk_drewN ?_ _ | refine blk_drew ?_ | refine blk_alloc ?_ _)); exact BK300.out) hb)
           have n2_ := Aside0.mk (blk_below (g := gb304) (o := .cells #[.int .i64 t301, .int .i64 t302] 29 (0, 0)) (by (with_reducible repeat (first | refine blk_drewN ?_ _ | refine blk_drew ?_ | refine blk_alloc ?_ _)); exact BK304.out) hb)
           have n3_ := Aside0.mk (below_step (by repeat (first | (with_reducible first | exact HB.out | apply below_alloc | apply pw_below_drewN | apply below_drew1 | refine below_set ?_ GE294.out | refine below_set ?_ GE300.out | refine below_set ?_ GE304.out) | exact HB.out)) hb)
           clear BK294
           clear BK300
           clear BK304
           clear HB
           have BK294 := n0_
           have BK300 := n1_
           have BK304 := n2_
           have HB := n3_
           clear n0_ n1_ n2_ n3_
           (try clear hb)
           (try clear hb2)
           (try clear hk)
           (try clear hi)
           refine hK.out _ _ ⟨(blk_cell BK294.out 0).trans rfl, (blk_cell BK294.out 1).trans rfl, (blk_cell BK294.out 2).trans rfl⟩ (fun hHeld => ?_)
           clear hK K
           refine norm_ (a' := ?_) ?_ ?_
           rotate_left
           ·
            show Act.put _ (some 120) _ = _
            simp only [Act.put, List.setIfInBounds_toArray, List.set_cons_zero, List.set_cons_succ, i64_w, i32_w]
            rfl
           refine pure_ (i := 22) (N := some 98) (v := ?_) (a' := ?_) #[true, true, true, true, true, true, true, true, true, true, true, true, true, true, true, true, true, true, true, true, true, true, true, false, false, false, false] rfl rfl (any_of HT_.out (by kernel_rfl)) (fun _ _ _ h => h) (Or.inl ⟨by rfl, ?_⟩) ?_ ?_
           rotate_left
           ·
            intro w'
            go_simp
            with_reducible rfl
           rotate_left
           ·
            simp only [Act.put, List.setIfInBounds_toArray, List.set_cons_zero, List.set_cons_succ, i64_w, i32_w]
            rfl
           refine pure_ (i := 23) (N := some 121) (v := ?_) (a' := ?_) #[true, true, true, true, true, true, true, true, true, true, true, true, true, true, true, true, true, true, true, true, true, true, true, true, false, false, false] rfl rfl (any_of HT_.out (by kernel_rfl)) (fun _ _ _ h => h) (Or.inl ⟨by rfl, ?_⟩) ?_ ?_
           rotate_left
           ·
            intro w'
            go_simp
            with_reducible rfl
           rotate_left
           ·
            simp only [Act.put, List.setIfInBounds_toArray, List.set_cons_zero, List.set_cons_succ, i64_w, i32_w]
            rfl
           refine pure_ (i := 24) (N := some 122) (v := ?_) (a' := ?_) #[true, true, true, true, true, true, true, true, true, true, true, true, true, true, true, true, true, true, true, true, true, true, true, true, true, false, false] rfl rfl (any_of HT_.out (by kernel_rfl)) (fun _ _ _ h => h) (Or.inl ⟨by rfl, ?_⟩) ?_ ?_
           rotate_left
           ·
            intro w'
            go_simp
            with_reducible rfl
           rotate_left
           ·
            simp only [Act.put, List.setIfInBounds_toArray, List.set_cons_zero, List.set_cons_succ, i64_w, i32_w]
            rfl
           refine pure_ (i := 25) (N := some 23) (v := ?_) (a' := ?_) #[true, true, true, true, true, true, true, true, true, true, true, true, true, true, true, true, true, true, true, true, true, true, true, true, true, true, false] rfl rfl (any_of HT_.out (by kernel_rfl)) (fun _ _ _ h => h) (Or.inl ⟨by rfl, ?_⟩) ?_ ?_
           rotate_left
           ·
            intro w'
            go_simp
            with_reducible rfl
           rotate_left
           ·
            simp only [Act.put, List.setIfInBounds_toArray, List.set_cons_zero, List.set_cons_succ, i64_w, i32_w]
            rfl
           refine pure_ (i := 26) (N := some 24) (v := ?_) (a' := ?_) #[true, true, true, true, true, true, true, true, true, true, true, true, true, true, true, true, true, true, true, true, true, true, true, true, true, true, true] rfl rfl (any_of HT_.out (by kernel_rfl)) (fun _ _ _ h => h) (Or.inl ⟨by rfl, ?_⟩) ?_ ?_
           rotate_left
           ·
            intro w'
            go_simp
            with_reducible rfl
           rotate_left
           ·
            simp only [Act.put, List.setIfInBounds_toArray, List.set_cons_zero, List.set_cons_succ, i64_w, i32_w]
            rfl
           refine done_ (done_of HT_.out (by kernel_rfl)) ?_
           have hnb67 := NB300_294.out
           have hnc67 := NB294_300.out
           have hnb68 := NB300_304.out
           have hnc68 := NB304_300.out
           have hcz69_0 : w66.cell? ⟨gb300, 0, none⟩ = some (.int .i64 t297) := (blk_cell BK300.out 0).trans rfl
           have hcz69_1 : w66.cell? ⟨gb300, 1, none⟩ = some (.int .i64 t298) := (blk_cell BK300.out 1).trans rfl
           have hfz69_0 := blk_frozen BK300.out 0
           have hfz69_1 := blk_frozen BK300.out 1
           try go_wp2
           go_ret
           exact ⟨by first | rfl | (simp [errW_none, errW_some] <;> rfl) | (simp [*, errW_none, errW_some] <;> rfl), by repeat (first | (with_reducible first | exact HB.out | apply below_alloc | apply pw_below_drewN | apply below_drew1 | refine below_set ?_ GE294.out | refine below_set ?_ GE300.out | refine below_set ?_ GE304.out) | exact HB.out)⟩
          ·
           rw [if_neg c64] at H
           have c64b0 : decide (t297 ≤ t307) = false := decide_eq_false c64
           clear c64
           obtain rfl := Option.some.inj H
           try go_wp2
           have n0_ := Aside0.mk (blk_drew BK294.out)
           have n1_ := Aside0.mk (blk_drew BK300.out)
           have n2_ := Aside0.mk (blk_drew BK304.out)
           have n3_ := Aside0.mk (below_drew1 HB.out)
           clear BK294
           clear BK300
           clear BK304
           clear HB
           have BK294 := n0_
           have BK300 := n1_
           have BK304 := n2_
           have HB := n3_
           clear n0_ n1_ n2_ n3_
           refine start_ (n := 27) (S := fun w' => w'.cell? ⟨gb294, 0, none⟩ = some (.slice A0_0 l0_0.length c0_0) ∧ w'.cell? ⟨gb294, 1, none⟩ = some (.slice A0_1 l0_1.length c0_1) ∧ w'.cell? ⟨gb294, 2, none⟩ = some (.slice A0_2 l0_2.length c0_2)) (ds := []) #[false, false, false, false, false, false, false, false, false, false, false, false, false, false, false, false, false, false, false, false, false, false, false, false, false, false, false] (by kernel_rfl) rfl rfl ⟨(blk_cell BK294.out 0).trans rfl, (blk_cell BK294.out 1).trans rfl, (blk_cell BK294.out 2).trans rfl⟩ (fun hHeld => ?_); refine with_tabW spilelaw19_CorrectEncloses.tab13 spilelaw19_CorrectEncloses.bits13 (fun HT_ HW_ => ?_)
           generalize wc.drew = w70 at BK294 BK300 BK304 HB hHeld ⊢
           refine pure_ (i := 1) (N := some 100) (v := ?_) (a' := ?_) #[false, true, false, false, false, false, false, false, false, false, false, false, false, false, false, false, false, false, false, false, false, false, false, false, false, false, false] rfl rfl (any_of HT_.out (by kernel_rfl)) (fun _ _ _ h => h) (Or.inl ⟨by rfl, ?_⟩) ?_ ?_
           rotate_left
           ·
            intro w'
            go_simp
            with_reducible rfl
           rotate_left
           ·
            simp only [Act.put, List.setIfInBounds_toArray, List.set_cons_zero, List.set_cons_succ, i64_w, i32_w]
            rfl
           refine pure_ (i := 2) (N := some 101) (v := ?_) (a' := ?_) #[false, true, true, false, false, false, false, false, false, false, false, false, false, false, false, false, false, false, false, false, false, false, false, false, false, false, false] rfl rfl (any_of HT_.out (by kernel_rfl)) (fun _ _ _ h => h) (Or.inl ⟨by rfl, ?_⟩) ?_ ?_
           rotate_left
           ·
            intro w'
            go_simp
            with_reducible rfl
           rotate_left
           ·
            simp only [Act.put, List.setIfInBounds_toArray, List.set_cons_zero, List.set_cons_succ, i64_w, i32_w]
            rfl
           refine pure_ (i := 3) (N := some 102) (v := ?_) (a' := ?_) #[false, true, true, true, false, false, false, false, false, false, false, false, false, false, false, false, false, false, false, false, false, false, false, false, false, false, false] rfl rfl (any_of HT_.out (by kernel_rfl)) (fun _ _ _ h => h) (Or.inl ⟨by rfl, ?_⟩) ?_ ?_
           rotate_left
           ·
            intro w'
            go_simp
            with_reducible rfl
           rotate_left
           ·
            simp only [Act.put, List.setIfInBounds_toArray, List.set_cons_zero, List.set_cons_succ, i64_w, i32_w]
            rfl
           refine pure_ (i := 4) (N := some 103) (v := ?_) (a' := ?_) #[false, true, true, true, true, false, false, false, false, false, false, false, false, false, false, false, false, false, false, false, false, false, false, false, false, false, false] rfl rfl (any_of HT_.out (by kernel_rfl)) (fun _ _ _ h => h) (Or.inl ⟨by rfl, ?_⟩) ?_ ?_
           rotate_left
           ·
            intro w'
            go_simp
            with_reducible rfl
           rotate_left
           ·
            simp only [Act.put, List.setIfInBounds_toArray, List.set_cons_zero, List.set_cons_succ, i64_w, i32_w]
            rfl
           refine pure_ (i := 5) (N := some 104) (v := ?_) (a' := ?_) #[false, true, true, true, true, true, false, false, false, false, false, false, false, false, false, false, false, false, false, false, false, false, false, false, false, false, false] rfl rfl (any_of HT_.out (by kernel_rfl)) (fun _ _ _ h => h) (Or.inl ⟨by rfl, ?_⟩) ?_ ?_
           rotate_left
           ·
            intro w'
            go_simp
            with_reducible rfl
           rotate_left
           ·
            simp only [Act.put, List.setIfInBounds_toArray, List.set_cons_zero, List.set_cons_succ, i64_w, i32_w]
            rfl
           refine pure_ (i := 6) (N := some 105) (v := ?_) (a' := ?_) #[false, true, true, true, true, true, true, false, false, false, false, false, false, false, false, false, false, false, false, false, false, false, false, false, false, false, false] rfl rfl (any_of HT_.out (by kernel_rfl)) (fun _ _ _ h => h) (Or.inl ⟨by rfl, ?_⟩) ?_ ?_
           rotate_left
           ·
            intro w'
            go_simp
            with_reducible rfl
           rotate_left
           ·
            simp only [Act.put, List.setIfInBounds_toArray, List.set_cons_zero, List.set_cons_succ, i64_w, i32_w]
            rfl
           refine pure_ (i := 7) (N := some 106) (v := ?_) (a' := ?_) #[false, true, true, true, true, true, true, true, false, false, false, false, false, false, false, false, false, false, false, false, false, false, false, false, false, false, false] rfl rfl (any_of HT_.out (by kernel_rfl)) (fun _ _ _ h => h) (Or.inl ⟨by rfl, ?_⟩) ?_ ?_
           rotate_left
           ·
            intro w'
            go_simp
            with_reducible rfl
           rotate_left
           ·
            simp only [Act.put, List.setIfInBounds_toArray, List.set_cons_zero, List.set_cons_succ, i64_w, i32_w]
            rfl
           refine pure_ (i := 8) (N := some 107) (v := ?_) (a' := ?_) #[false, true, true, true, true, true, true, true, true, false, false, false, false, false, false, false, false, false, false, false, false, false, false, false, false, false, false] rfl rfl (any_of HT_.out (by kernel_rfl)) (fun _ _ _ h => h) (Or.inl ⟨by rfl, ?_⟩) ?_ ?_
           rotate_left
           ·
            intro w'
            go_simp
            with_reducible rfl
           rotate_left
           ·
            simp only [Act.put, List.setIfInBounds_toArray, List.set_cons_zero, List.set_cons_succ, i64_w, i32_w]
            rfl
           refine pure_ (i := 9) (N := some 108) (v := ?_) (a' := ?_) #[false, true, true, true, true, true, true, true, true, true, false, false, false, false, false, false, false, false, false, false, false, false, false, false, false, false, false] rfl rfl (any_of HT_.out (by kernel_rfl)) (fun _ _ _ h => h) (Or.inl ⟨by rfl, ?_⟩) ?_ ?_
           rotate_left
           ·
            intro w'
            go_simp
            with_reducible rfl
           rotate_left
           ·
            simp only [Act.put, List.setIfInBounds_toArray, List.set_cons_zero, List.set_cons_succ, i64_w, i32_w]
            rfl
           refine pure_ (i := 10) (N := some 109) (v := ?_) (a' := ?_) #[false, true, true, true, true, true, true, true, true, true, true, false, false, false, false, false, false, false, false, false, false, false, false, false, false, false, false] rfl rfl (any_of HT_.out (by kernel_rfl)) (fun _ _ _ h => h) (Or.inl ⟨by rfl, ?_⟩) ?_ ?_
           rotate_left
           ·
            intro w'
            go_simp
            with_reducible rfl
           rotate_left
           ·
            simp only [Act.put, List.setIfInBounds_toArray, List.set_cons_zero, List.set_cons_succ, i64_w, i32_w]
            rfl
           refine pure_ (i := 11) (N := some 110) (v := ?_) (a' := ?_) #[false, true, true, true, true, true, true, true, true, true, true, true, false, false, false, false, false, false, false, false, false, false, false, false, false, false, false] rfl rfl (any_of HT_.out (by kernel_rfl)) (fun _ _ _ h => h) (Or.inl ⟨by rfl, ?_⟩) ?_ ?_
           rotate_left
           ·
            intro w'
            go_simp
            with_reducible rfl
           rotate_left
           ·
            simp only [Act.put, List.setIfInBounds_toArray, List.set_cons_zero, List.set_cons_succ, i64_w, i32_w]
            rfl
           refine pure_ (i := 12) (N := some 111) (v := ?_) (a' := ?_) #[false, true, true, true, true, true, true, true, true, true, true, true, true, false, false, false, false, false, false, false, false, false, false, false, false, false, false] rfl rfl (any_of HT_.out (by kernel_rfl)) (fun _ _ _ h => h) (Or.inl ⟨by rfl, ?_⟩) ?_ ?_
           rotate_left
           ·
            intro w'
            go_simp
            with_reducible rfl
           rotate_left
           ·
            simp only [Act.put, List.setIfInBounds_toArray, List.set_cons_zero, List.set_cons_succ, i64_w, i32_w]
            rfl
           refine pure_ (i := 13) (N := some 112) (v := ?_) (a' := ?_) #[false, true, true, true, true, true, true, true, true, true, true, true, true, true, false, false, false, false, false, false, false, false, false, false, false, false, false] rfl rfl (any_of HT_.out (by kernel_rfl)) (fun _ _ _ h => h) (Or.inl ⟨by rfl, ?_⟩) ?_ ?_
           rotate_left
           ·
            intro w'
            go_simp
            with_reducible rfl
           rotate_left
           ·
            simp only [Act.put, List.setIfInBounds_toArray, List.set_cons_zero, List.set_cons_succ, i64_w, i32_w]
            rfl
           refine pure_ (i := 14) (N := some 113) (v := ?_) (a' := ?_) #[false, true, true, true, true, true, true, true, true, true, true, true, true, true, true, false, false, false, false, false, false, false, false, false, false, false, false] rfl rfl (any_of HT_.out (by kernel_rfl)) (fun _ _ _ h => h) (Or.inl ⟨by rfl, ?_⟩) ?_ ?_
           rotate_left
           ·
            intro w'
            go_simp
            with_reducible rfl
           rotate_left
           ·
            simp only [Act.put, List.setIfInBounds_toArray, List.set_cons_zero, List.set_cons_succ, i64_w, i32_w]
            rfl
           refine pure_ (i := 15) (N := some 114) (v := ?_) (a' := ?_) #[false, true, true, true, true, true, true, true, true, true, true, true, true, true, true, true, false, false, false, false, false, false, false, false, false, false, false] rfl rfl (any_of HT_.out (by kernel_rfl)) (fun _ _ _ h => h) (Or.inl ⟨by rfl, ?_⟩) ?_ ?_
           rotate_left
           ·
            intro w'
            go_simp
            with_reducible rfl
           rotate_left
           ·
            simp only [Act.put, List.setIfInBounds_toArray, List.set_cons_zero, List.set_cons_succ, i64_w, i32_w]
            rfl
           refine pure_ (i := 16) (N := some 115) (v := ?_) (a' := ?_) #[false, true, true, true, true, true, true, true, true, true, true, true, true, true, true, true, true, false, false, false, false, false, false, false, false, false, false] rfl rfl (any_of HT_.out (by kernel_rfl)) (fun _ _ _ h => h) (Or.inl ⟨by rfl, ?_⟩) ?_ ?_
           rotate_left
           ·
            intro w'
            go_simp
            with_reducible rfl
           rotate_left
           ·
            simp only [Act.put, List.setIfInBounds_toArray, List.set_cons_zero, List.set_cons_succ, i64_w, i32_w]
            rfl
           refine pure_ (i := 17) (N := some 116) (v := ?_) (a' := ?_) #[false, true, true, true, true, true, true, true, true, true, true, true, true, true, true, true, true, true, false, false, false, false, false, false, false, false, false] rfl rfl (any_of HT_.out (by kernel_rfl)) (fun _ _ _ h => h) (Or.inl ⟨by rfl, ?_⟩) ?_ ?_
           rotate_left
           ·
            intro w'
            go_simp
            with_reducible rfl
           rotate_left
           ·
            simp only [Act.put, List.setIfInBounds_toArray, List.set_cons_zero, List.set_cons_succ, i64_w, i32_w]
            rfl
           refine pure_ (i := 18) (N := some 117) (v := ?_) (a' := ?_) #[false, true, true, true, true, true, true, true, true, true, true, true, true, true, true, true, true, true, true, false, false, false, false, false, false, false, false] rfl rfl (any_of HT_.out (by kernel_rfl)) (fun _ _ _ h => h) (Or.inl ⟨by rfl, ?_⟩) ?_ ?_
           rotate_left
           ·
            intro w'
            go_simp
            with_reducible rfl
           rotate_left
           ·
            simp only [Act.put, List.setIfInBounds_toArray, List.set_cons_zero, List.set_cons_succ, i64_w, i32_w]
            rfl
           refine pure_ (i := 19) (N := some 118) (v := ?_) (a' := ?_) #[false, true, true, true, true, true, true, true, true, true, true, true, true, true, true, true, true, true, true, true, false, false, false, false, false, false, false] rfl rfl (any_of HT_.out (by kernel_rfl)) (fun _ _ _ h => h) (Or.inl ⟨by rfl, ?_⟩) ?_ ?_
           rotate_left
           ·
            intro w'
            go_simp
            with_reducible rfl
           rotate_left
           ·
            simp only [Act.put, List.setIfInBounds_toArray, List.set_cons_zero, List.set_cons_succ, i64_w, i32_w]
            rfl
           refine pure_ (i := 20) (N := some 119) (v := ?_) (a' := ?_) #[false, true, true, true, true, true, true, true, true, true, true, true, true, true, true, true, true, true, true, true, true, false, false, false, false, false, false] rfl rfl (any_of HT_.out (by kernel_rfl)) (fun _ _ _ h => h) (Or.inl ⟨by rfl, ?_⟩) ?_ ?_
           rotate_left
           ·
            intro w'
            go_simp
            with_reducible rfl
           rotate_left
           ·
            simp only [Act.put, List.setIfInBounds_toArray, List.set_cons_zero, List.set_cons_succ, i64_w, i32_w]
            rfl
           refine take_ (i := 0) (N := some 99) (v := ?_) (a' := ?_) #[true, true, true, true, true, true, true, true, true, true, true, true, true, true, true, true, true, true, true, true, true, false, false, false, false, false, false] rfl rfl (take_ofW HT_.out HW_.out (by kernel_rfl)) (fun _ _ _ h => h) (Or.inl ⟨by rfl, ?_⟩) hHeld ?_ ?_
           rotate_left
           ·
            rintro w' ⟨s0, s1, s2⟩
            go_simp
            with_reducible rfl
           rotate_left
           ·
            simp only [Act.put, List.setIfInBounds_toArray, List.set_cons_zero, List.set_cons_succ, i64_w, i32_w]
            rfl
           refine one_ (i := 21) (N := some 120) #[true, true, true, true, true, true, true, true, true, true, true, true, true, true, true, true, true, true, true, true, true, true, false, false, false, false, false] rfl rfl (one_of HT_.out (by kernel_rfl)) (by decide) (fun K hK => ?_)
           refine goes_ Tryd.func14 (by kernel_rfl) rfl #[.agg #[.slice A0_0 l0_0.length c0_0, .slice A0_1 l0_1.length c0_1, .slice A0_2 l0_2.length c0_2], .int .i64 (wrap64 ((wrap64 (a1 - (wrap64 (a3)))) + (Int.tmod (wrap64 (a5)) (wrap64 ((wrap64 (2 * (wrap64 (a3)))) + 1))))), .int .i64 (wrap64 ((wrap64 (a2 - (wrap64 (a4)))) + (Int.tmod (wrap64 (a6)) (wrap64 ((wrap64 (2 * (wrap64 (a4)))) + 1)))))] (by rfl) rfl rfl (by (try simp only [List.map_toArray, List.map_cons, List.map_nil]); first | done | rfl | (simp only [List.length_drop, List.length_take]; rfl)) ?_
           with_reducible refine (correct_True.calls kj15 _ _ l0_0 _ _ l0_1 _ _ l0_2 (wrap64 ((wrap64 (a1 - (wrap64 (a3)))) + (Int.tmod (wrap64 (a5)) (wrap64 ((wrap64 (2 * (wrap64 (a3)))) + 1))))) (wrap64 ((wrap64 (a2 - (wrap64 (a4)))) + (Int.tmod (wrap64 (a6)) (wrap64 ((wrap64 (2 * (wrap64 (a4)))) + 1))))) t307 t308 _ ?side1 ?side2 ?side3 ?side4 ?side5 ?side6 A62.out).mono ?_
           (case side1 => repeat (first | exact (Kd.C_below HR0_0.out HB.out) | (with_reducible refine Kd.C_alloc ?_ _) | (with_reducible refine Kd.C_drewN ?_ _) | (with_reducible refine Kd.C_drew ?_)))
           (case side2 => exact HC0_0.out)
           (case side3 => repeat (first | exact (Kd.C_below HR0_1.out HB.out) | (with_reducible refine Kd.C_alloc ?_ _) | (with_reducible refine Kd.C_drewN ?_ _) | (with_reducible refine Kd.C_drew ?_)))
           (case side4 => exact HC0_1.out)
           (case side5 => repeat (first | exact (Kd.C_below HR0_2.out HB.out) | (with_reducible refine Kd.C_alloc ?_ _) | (with_reducible refine Kd.C_drewN ?_ _) | (with_reducible refine Kd.C_drew ?_)))
           (case side6 => exact HC0_2.out)
           rintro e w71 ⟨rfl, hb⟩
           refine ⟨_, rfl, ?_⟩
           have n0_ := Aside0.mk (blk_below (g := gb294) (o := .cells #[.slice A0_0 l0_0.length c0_0, .slice A0_1 l0_1.length c0_1, .slice A0_2 l0_2.length c0_2] 25 (0, 0)) (by (with_reducible repeat (first | refine blk_drewN ?_ _ | refine blk_drew ?_ | refine blk_alloc ?_ _)); exact BK294.out) hb)
           have n1_ := Aside0.mk (blk_below (g := gb300) (o := .cells #[.int .i64 t297, .int .i64 t298] 29 (0, 0)) (by (with_reducible repeat (first | refine blk_drewN ?_ _ | refine blk_drew ?_ | refine blk_alloc ?_ _)); exact BK300.out) hb)
           have n2_ := Aside0.mk (blk_below (g := gb304) (o := .cells #[.int .i64 t301, .int .i64 t302] 29 (0, 0)) (by (with_reducible repeat (first | refine blk_drewN ?_ _ | refine blk_drew ?_ | refine blk_alloc ?_ _)); exact BK304.out) hb)
           have n3_ := Aside0.mk (below_step (by repeat (first | (with_reducible first | exact HB.out | apply below_alloc | apply pw_below_drewN | apply below_drew1 | refine below_set ?_ GE294.out | refine below_set ?_ GE300.out | refine below_set ?_ GE304.out) | exact HB.out)) hb)
           clear BK294
           clear BK300
           clear BK304
           clear HB
           have BK294 := n0_
           have BK300 := n1_
           have BK304 := n2_
           have HB := n3_
           clear n0_ n1_ n2_ n3_
           (try clear hb)
           (try clear hb2)
           (try clear hk)
           (try clear hi)
           refine hK.out _ _ ⟨(blk_cell BK294.out 0).trans rfl, (blk_cell BK294.out 1).trans rfl, (blk_cell BK294.out 2).trans rfl⟩ (fun hHeld => ?_)
           clear hK K
           refine norm_ (a' := ?_) ?_ ?_
           rotate_left
           ·
            show Act.put _ (some 120) _ = _
            simp only [Act.put, List.setIfInBounds_toArray, List.set_cons_zero, List.set_cons_succ, i64_w, i32_w]
            rfl
           refine pure_ (i := 22) (N := some 98) (v := ?_) (a' := ?_) #[true, true, true, true, true, true, true, true, true, true, true, true, true, true, true, true, true, true, true, true, true, true, true, false, false, false, false] rfl rfl (any_of HT_.out (by kernel_rfl)) (fun _ _ _ h => h) (Or.inl ⟨by rfl, ?_⟩) ?_ ?_
           rotate_left
           ·
            intro w'
            go_simp
            with_reducible rfl
           rotate_left
           ·
            simp only [Act.put, List.setIfInBounds_toArray, List.set_cons_zero, List.set_cons_succ, i64_w, i32_w]
            rfl
           refine pure_ (i := 23) (N := some 121) (v := ?_) (a' := ?_) #[true, true, true, true, true, true, true, true, true, true, true, true, true, true, true, true, true, true, true, true, true, true, true, true, false, false, false] rfl rfl (any_of HT_.out (by kernel_rfl)) (fun _ _ _ h => h) (Or.inl ⟨by rfl, ?_⟩) ?_ ?_
           rotate_left
           ·
            intro w'
            go_simp
            with_reducible rfl
           rotate_left
           ·
            simp only [Act.put, List.setIfInBounds_toArray, List.set_cons_zero, List.set_cons_succ, i64_w, i32_w]
            rfl
           refine pure_ (i := 24) (N := some 122) (v := ?_) (a' := ?_) #[true, true, true, true, true, true, true, true, true, true, true, true, true, true, true, true, true, true, true, true, true, true, true, true, true, false, false] rfl rfl (any_of HT_.out (by kernel_rfl)) (fun _ _ _ h => h) (Or.inl ⟨by rfl, ?_⟩) ?_ ?_
           rotate_left
           ·
            intro w'
            go_simp
            with_reducible rfl
           rotate_left
           ·
            simp only [Act.put, List.setIfInBounds_toArray, List.set_cons_zero, List.set_cons_succ, i64_w, i32_w]
            rfl
           refine pure_ (i := 25) (N := some 23) (v := ?_) (a' := ?_) #[true, true, true, true, true, true, true, true, true, true, true, true, true, true, true, true, true, true, true, true, true, true, true, true, true, true, false] rfl rfl (any_of HT_.out (by kernel_rfl)) (fun _ _ _ h => h) (Or.inl ⟨by rfl, ?_⟩) ?_ ?_
           rotate_left
           ·
            intro w'
            go_simp
            with_reducible rfl
           rotate_left
           ·
            simp only [Act.put, List.setIfInBounds_toArray, List.set_cons_zero, List.set_cons_succ, i64_w, i32_w]
            rfl
           refine pure_ (i := 26) (N := some 24) (v := ?_) (a' := ?_) #[true, true, true, true, true, true, true, true, true, true, true, true, true, true, true, true, true, true, true, true, true, true, true, true, true, true, true] rfl rfl (any_of HT_.out (by kernel_rfl)) (fun _ _ _ h => h) (Or.inl ⟨by rfl, ?_⟩) ?_ ?_
           rotate_left
           ·
            intro w'
            go_simp
            with_reducible rfl
           rotate_left
           ·
            simp only [Act.put, List.setIfInBounds_toArray, List.set_cons_zero, List.set_cons_succ, i64_w, i32_w]
            rfl
           refine done_ (done_of HT_.out (by kernel_rfl)) ?_
           have hnb72 := NB300_294.out
           have hnc72 := NB294_300.out
           have hnb73 := NB300_304.out
           have hnc73 := NB304_300.out
           have hcz74_0 : w71.cell? ⟨gb300, 0, none⟩ = some (.int .i64 t297) := (blk_cell BK300.out 0).trans rfl
           have hcz74_1 : w71.cell? ⟨gb300, 1, none⟩ = some (.int .i64 t298) := (blk_cell BK300.out 1).trans rfl
           have hfz74_0 := blk_frozen BK300.out 0
           have hfz74_1 := blk_frozen BK300.out 1
           try go_wp2
           go_ret
           exact ⟨by first | rfl | (simp [errW_none, errW_some] <;> rfl) | (simp [*, errW_none, errW_some] <;> rfl), by repeat (first | (with_reducible first | exact HB.out | apply below_alloc | apply pw_below_drewN | apply below_drew1 | refine below_set ?_ GE294.out | refine below_set ?_ GE300.out | refine below_set ?_ GE304.out) | exact HB.out)⟩
         ·
          rw [if_neg c63] at H
          have c63b0 : (t308 == 0) = false := beq_eq_false_iff_ne.mpr c63
          have c63b1 : (t308 != 0) = true := bne_iff_ne.mpr c63
          obtain rfl := Option.some.inj H
          try go_wp2
          have n0_ := Aside0.mk (blk_drew BK294.out)
          have n1_ := Aside0.mk (blk_drew BK300.out)
          have n2_ := Aside0.mk (blk_drew BK304.out)
          have n3_ := Aside0.mk (below_drew1 HB.out)
          clear BK294
          clear BK300
          clear BK304
          clear HB
          have BK294 := n0_
          have BK300 := n1_
          have BK304 := n2_
          have HB := n3_
          clear n0_ n1_ n2_ n3_
          refine start_ (n := 27) (S := fun w' => w'.cell? ⟨gb294, 0, none⟩ = some (.slice A0_0 l0_0.length c0_0) ∧ w'.cell? ⟨gb294, 1, none⟩ = some (.slice A0_1 l0_1.length c0_1) ∧ w'.cell? ⟨gb294, 2, none⟩ = some (.slice A0_2 l0_2.length c0_2)) (ds := []) #[false, false, false, false, false, false, false, false, false, false, false, false, false, false, false, false, false, false, false, false, false, false, false, false, false, false, false] (by kernel_rfl) rfl rfl ⟨(blk_cell BK294.out 0).trans rfl, (blk_cell BK294.out 1).trans rfl, (blk_cell BK294.out 2).trans rfl⟩ (fun hHeld => ?_); refine with_tabW spilelaw19_CorrectEncloses.tab13 spilelaw19_CorrectEncloses.bits13 (fun HT_ HW_ => ?_)
          generalize wc.drew = w75 at BK294 BK300 BK304 HB hHeld ⊢
          refine pure_ (i := 1) (N := some 100) (v := ?_) (a' := ?_) #[false, true, false, false, false, false, false, false, false, false, false, false, false, false, false, false, false, false, false, false, false, false, false, false, false, false, false] rfl rfl (any_of HT_.out (by kernel_rfl)) (fun _ _ _ h => h) (Or.inl ⟨by rfl, ?_⟩) ?_ ?_
          rotate_left
          ·
           intro w'
           go_simp
           with_reducible rfl
          rotate_left
          ·
           simp only [Act.put, List.setIfInBounds_toArray, List.set_cons_zero, List.set_cons_succ, i64_w, i32_w]
           rfl
          refine pure_ (i := 2) (N := some 101) (v := ?_) (a' := ?_) #[false, true, true, false, false, false, false, false, false, false, false, false, false, false, false, false, false, false, false, false, false, false, false, false, false, false, false] rfl rfl (any_of HT_.out (by kernel_rfl)) (fun _ _ _ h => h) (Or.inl ⟨by rfl, ?_⟩) ?_ ?_
          rotate_left
          ·
           intro w'
           go_simp
           with_reducible rfl
          rotate_left
          ·
           simp only [Act.put, List.setIfInBounds_toArray, List.set_cons_zero, List.set_cons_succ, i64_w, i32_w]
           rfl
          refine pure_ (i := 3) (N := some 102) (v := ?_) (a' := ?_) #[false, true, true, true, false, false, false, false, false, false, false, false, false, false, false, false, false, false, false, false, false, false, false, false, false, false, false] rfl rfl (any_of HT_.out (by kernel_rfl)) (fun _ _ _ h => h) (Or.inl ⟨by rfl, ?_⟩) ?_ ?_
          rotate_left
          ·
           intro w'
           go_simp
           with_reducible rfl
          rotate_left
          ·
           simp only [Act.put, List.setIfInBounds_toArray, List.set_cons_zero, List.set_cons_succ, i64_w, i32_w]
           rfl
          refine pure_ (i := 4) (N := some 103) (v := ?_) (a' := ?_) #[false, true, true, true, true, false, false, false, false, false, false, false, false, false, false, false, false, false, false, false, false, false, false, false, false, false, false] rfl rfl (any_of HT_.out (by kernel_rfl)) (fun _ _ _ h => h) (Or.inl ⟨by rfl, ?_⟩) ?_ ?_
          rotate_left
          ·
           intro w'
           go_simp
           with_reducible rfl
          rotate_left
          ·
           simp only [Act.put, List.setIfInBounds_toArray, List.set_cons_zero, List.set_cons_succ, i64_w, i32_w]
           rfl
          refine pure_ (i := 5) (N := some 104) (v := ?_) (a' := ?_) #[false, true, true, true, true, true, false, false, false, false, false, false, false, false, false, false, false, false, false, false, false, false, false, false, false, false, false] rfl rfl (any_of HT_.out (by kernel_rfl)) (fun _ _ _ h => h) (Or.inl ⟨by rfl, ?_⟩) ?_ ?_
          rotate_left
          ·
           intro w'
           go_simp
           with_reducible rfl
          rotate_left
          ·
           simp only [Act.put, List.setIfInBounds_toArray, List.set_cons_zero, List.set_cons_succ, i64_w, i32_w]
           rfl
          refine pure_ (i := 6) (N := some 105) (v := ?_) (a' := ?_) #[false, true, true, true, true, true, true, false, false, false, false, false, false, false, false, false, false, false, false, false, false, false, false, false, false, false, false] rfl rfl (any_of HT_.out (by kernel_rfl)) (fun _ _ _ h => h) (Or.inl ⟨by rfl, ?_⟩) ?_ ?_
          rotate_left
          ·
           intro w'
           go_simp
           with_reducible rfl
          rotate_left
          ·
           simp only [Act.put, List.setIfInBounds_toArray, List.set_cons_zero, List.set_cons_succ, i64_w, i32_w]
           rfl
          refine pure_ (i := 7) (N := some 106) (v := ?_) (a' := ?_) #[false, true, true, true, true, true, true, true, false, false, false, false, false, false, false, false, false, false, false, false, false, false, false, false, false, false, false] rfl rfl (any_of HT_.out (by kernel_rfl)) (fun _ _ _ h => h) (Or.inl ⟨by rfl, ?_⟩) ?_ ?_
          rotate_left
          ·
           intro w'
           go_simp
           with_reducible rfl
          rotate_left
          ·
           simp only [Act.put, List.setIfInBounds_toArray, List.set_cons_zero, List.set_cons_succ, i64_w, i32_w]
           rfl
          refine pure_ (i := 8) (N := some 107) (v := ?_) (a' := ?_) #[false, true, true, true, true, true, true, true, true, false, false, false, false, false, false, false, false, false, false, false, false, false, false, false, false, false, false] rfl rfl (any_of HT_.out (by kernel_rfl)) (fun _ _ _ h => h) (Or.inl ⟨by rfl, ?_⟩) ?_ ?_
          rotate_left
          ·
           intro w'
           go_simp
           with_reducible rfl
          rotate_left
          ·
           simp only [Act.put, List.setIfInBounds_toArray, List.set_cons_zero, List.set_cons_succ, i64_w, i32_w]
           rfl
          refine pure_ (i := 9) (N := some 108) (v := ?_) (a' := ?_) #[false, true, true, true, true, true, true, true, true, true, false, false, false, false, false, false, false, false, false, false, false, false, false, false, false, false, false] rfl rfl (any_of HT_.out (by kernel_rfl)) (fun _ _ _ h => h) (Or.inl ⟨by rfl, ?_⟩) ?_ ?_
          rotate_left
          ·
           intro w'
           go_simp
           with_reducible rfl
          rotate_left
          ·
           simp only [Act.put, List.setIfInBounds_toArray, List.set_cons_zero, List.set_cons_succ, i64_w, i32_w]
           rfl
          refine pure_ (i := 10) (N := some 109) (v := ?_) (a' := ?_) #[false, true, true, true, true, true, true, true, true, true, true, false, false, false, false, false, false, false, false, false, false, false, false, false, false, false, false] rfl rfl (any_of HT_.out (by kernel_rfl)) (fun _ _ _ h => h) (Or.inl ⟨by rfl, ?_⟩) ?_ ?_
          rotate_left
          ·
           intro w'
           go_simp
           with_reducible rfl
          rotate_left
          ·
           simp only [Act.put, List.setIfInBounds_toArray, List.set_cons_zero, List.set_cons_succ, i64_w, i32_w]
           rfl
          refine pure_ (i := 11) (N := some 110) (v := ?_) (a' := ?_) #[false, true, true, true, true, true, true, true, true, true, true, true, false, false, false, false, false, false, false, false, false, false, false, false, false, false, false] rfl rfl (any_of HT_.out (by kernel_rfl)) (fun _ _ _ h => h) (Or.inl ⟨by rfl, ?_⟩) ?_ ?_
          rotate_left
          ·
           intro w'
           go_simp
           with_reducible rfl
          rotate_left
          ·
           simp only [Act.put, List.setIfInBounds_toArray, List.set_cons_zero, List.set_cons_succ, i64_w, i32_w]
           rfl
          refine pure_ (i := 12) (N := some 111) (v := ?_) (a' := ?_) #[false, true, true, true, true, true, true, true, true, true, true, true, true, false, false, false, false, false, false, false, false, false, false, false, false, false, false] rfl rfl (any_of HT_.out (by kernel_rfl)) (fun _ _ _ h => h) (Or.inl ⟨by rfl, ?_⟩) ?_ ?_
          rotate_left
          ·
           intro w'
           go_simp
           with_reducible rfl
          rotate_left
          ·
           simp only [Act.put, List.setIfInBounds_toArray, List.set_cons_zero, List.set_cons_succ, i64_w, i32_w]
           rfl
          refine pure_ (i := 13) (N := some 112) (v := ?_) (a' := ?_) #[false, true, true, true, true, true, true, true, true, true, true, true, true, true, false, false, false, false, false, false, false, false, false, false, false, false, false] rfl rfl (any_of HT_.out (by kernel_rfl)) (fun _ _ _ h => h) (Or.inl ⟨by rfl, ?_⟩) ?_ ?_
          rotate_left
          ·
           intro w'
           go_simp
           with_reducible rfl
          rotate_left
          ·
           simp only [Act.put, List.setIfInBounds_toArray, List.set_cons_zero, List.set_cons_succ, i64_w, i32_w]
           rfl
          refine pure_ (i := 14) (N := some 113) (v := ?_) (a' := ?_) #[false, true, true, true, true, true, true, true, true, true, true, true, true, true, true, false, false, false, false, false, false, false, false, false, false, false, false] rfl rfl (any_of HT_.out (by kernel_rfl)) (fun _ _ _ h => h) (Or.inl ⟨by rfl, ?_⟩) ?_ ?_
          rotate_left
          ·
           intro w'
           go_simp
           with_reducible rfl
          rotate_left
          ·
           simp only [Act.put, List.setIfInBounds_toArray, List.set_cons_zero, List.set_cons_succ, i64_w, i32_w]
           rfl
          refine pure_ (i := 15) (N := some 114) (v := ?_) (a' := ?_) #[false, true, true, true, true, true, true, true, true, true, true, true, true, true, true, true, false, false, false, false, false, false, false, false, false, false, false] rfl rfl (any_of HT_.out (by kernel_rfl)) (fun _ _ _ h => h) (Or.inl ⟨by rfl, ?_⟩) ?_ ?_
          rotate_left
          ·
           intro w'
           go_simp
           with_reducible rfl
          rotate_left
          ·
           simp only [Act.put, List.setIfInBounds_toArray, List.set_cons_zero, List.set_cons_succ, i64_w, i32_w]
           rfl
          refine pure_ (i := 16) (N := some 115) (v := ?_) (a' := ?_) #[false, true, true, true, true, true, true, true, true, true, true, true, true, true, true, true, true, false, false, false, false, false, false, false, false, false, false] rfl rfl (any_of HT_.out (by kernel_rfl)) (fun _ _ _ h => h) (Or.inl ⟨by rfl, ?_⟩) ?_ ?_
          rotate_left
          ·
           intro w'
           go_simp
           with_reducible rfl
          rotate_left
          ·
           simp only [Act.put, List.setIfInBounds_toArray, List.set_cons_zero, List.set_cons_succ, i64_w, i32_w]
           rfl
          refine pure_ (i := 17) (N := some 116) (v := ?_) (a' := ?_) #[false, true, true, true, true, true, true, true, true, true, true, true, true, true, true, true, true, true, false, false, false, false, false, false, false, false, false] rfl rfl (any_of HT_.out (by kernel_rfl)) (fun _ _ _ h => h) (Or.inl ⟨by rfl, ?_⟩) ?_ ?_
          rotate_left
          ·
           intro w'
           go_simp
           with_reducible rfl
          rotate_left
          ·
           simp only [Act.put, List.setIfInBounds_toArray, List.set_cons_zero, List.set_cons_succ, i64_w, i32_w]
           rfl
          refine pure_ (i := 18) (N := some 117) (v := ?_) (a' := ?_) #[false, true, true, true, true, true, true, true, true, true, true, true, true, true, true, true, true, true, true, false, false, false, false, false, false, false, false] rfl rfl (any_of HT_.out (by kernel_rfl)) (fun _ _ _ h => h) (Or.inl ⟨by rfl, ?_⟩) ?_ ?_
          rotate_left
          ·
           intro w'
           go_simp
           with_reducible rfl
          rotate_left
          ·
           simp only [Act.put, List.setIfInBounds_toArray, List.set_cons_zero, List.set_cons_succ, i64_w, i32_w]
           rfl
          refine pure_ (i := 19) (N := some 118) (v := ?_) (a' := ?_) #[false, true, true, true, true, true, true, true, true, true, true, true, true, true, true, true, true, true, true, true, false, false, false, false, false, false, false] rfl rfl (any_of HT_.out (by kernel_rfl)) (fun _ _ _ h => h) (Or.inl ⟨by rfl, ?_⟩) ?_ ?_
          rotate_left
          ·
           intro w'
           go_simp
           with_reducible rfl
          rotate_left
          ·
           simp only [Act.put, List.setIfInBounds_toArray, List.set_cons_zero, List.set_cons_succ, i64_w, i32_w]
           rfl
          refine pure_ (i := 20) (N := some 119) (v := ?_) (a' := ?_) #[false, true, true, true, true, true, true, true, true, true, true, true, true, true, true, true, true, true, true, true, true, false, false, false, false, false, false] rfl rfl (any_of HT_.out (by kernel_rfl)) (fun _ _ _ h => h) (Or.inl ⟨by rfl, ?_⟩) ?_ ?_
          rotate_left
          ·
           intro w'
           go_simp
           with_reducible rfl
          rotate_left
          ·
           simp only [Act.put, List.setIfInBounds_toArray, List.set_cons_zero, List.set_cons_succ, i64_w, i32_w]
           rfl
          refine take_ (i := 0) (N := some 99) (v := ?_) (a' := ?_) #[true, true, true, true, true, true, true, true, true, true, true, true, true, true, true, true, true, true, true, true, true, false, false, false, false, false, false] rfl rfl (take_ofW HT_.out HW_.out (by kernel_rfl)) (fun _ _ _ h => h) (Or.inl ⟨by rfl, ?_⟩) hHeld ?_ ?_
          rotate_left
          ·
           rintro w' ⟨s0, s1, s2⟩
           go_simp
           with_reducible rfl
          rotate_left
          ·
           simp only [Act.put, List.setIfInBounds_toArray, List.set_cons_zero, List.set_cons_succ, i64_w, i32_w]
           rfl
          refine one_ (i := 21) (N := some 120) #[true, true, true, true, true, true, true, true, true, true, true, true, true, true, true, true, true, true, true, true, true, true, false, false, false, false, false] rfl rfl (one_of HT_.out (by kernel_rfl)) (by decide) (fun K hK => ?_)
          refine goes_ Tryd.func14 (by kernel_rfl) rfl #[.agg #[.slice A0_0 l0_0.length c0_0, .slice A0_1 l0_1.length c0_1, .slice A0_2 l0_2.length c0_2], .int .i64 (wrap64 ((wrap64 (a1 - (wrap64 (a3)))) + (Int.tmod (wrap64 (a5)) (wrap64 ((wrap64 (2 * (wrap64 (a3)))) + 1))))), .int .i64 (wrap64 ((wrap64 (a2 - (wrap64 (a4)))) + (Int.tmod (wrap64 (a6)) (wrap64 ((wrap64 (2 * (wrap64 (a4)))) + 1)))))] (by rfl) rfl rfl (by (try simp only [List.map_toArray, List.map_cons, List.map_nil]); first | done | rfl | (simp only [List.length_drop, List.length_take]; rfl)) ?_
          with_reducible refine (correct_True.calls kj15 _ _ l0_0 _ _ l0_1 _ _ l0_2 (wrap64 ((wrap64 (a1 - (wrap64 (a3)))) + (Int.tmod (wrap64 (a5)) (wrap64 ((wrap64 (2 * (wrap64 (a3)))) + 1))))) (wrap64 ((wrap64 (a2 - (wrap64 (a4)))) + (Int.tmod (wrap64 (a6)) (wrap64 ((wrap64 (2 * (wrap64 (a4)))) + 1))))) t307 t308 _ ?side1 ?side2 ?side3 ?side4 ?side5 ?side6 A62.out).mono ?_
          (case side1 => repeat (first | exact (Kd.C_below HR0_0.out HB.out) | (with_reducible refine Kd.C_alloc ?_ _) | (with_reducible refine Kd.C_drewN ?_ _) | (with_reducible refine Kd.C_drew ?_)))
          (case side2 => exact HC0_0.out)
          (case side3 => repeat (first | exact (Kd.C_below HR0_1.out HB.out) | (with_reducible refine Kd.C_alloc ?_ _) | (with_reducible refine Kd.C_drewN ?_ _) | (with_reducible refine Kd.C_drew ?_)))
          (case side4 => exact HC0_1.out)
          (case side5 => repeat (first | exact (Kd.C_below HR0_2.out HB.out) | (with_reducible refine Kd.C_alloc ?_ _) | (with_reducible refine Kd.C_drewN ?_ _) | (with_reducible refine Kd.C_drew ?_)))
          (case side6 => exact HC0_2.out)
          rintro e w76 ⟨rfl, hb⟩
          refine ⟨_, rfl, ?_⟩
          have n0_ := Aside0.mk (blk_below (g := gb294) (o := .cells #[.slice A0_0 l0_0.length c0_0, .slice A0_1 l0_1.length c0_1, .slice A0_2 l0_2.length c0_2] 25 (0, 0)) (by (with_reducible repeat (first | refine blk_drewN ?_ _ | refine blk_drew ?_ | refine blk_alloc ?_ _)); exact BK294.out) hb)
          have n1_ := Aside0.mk (blk_below (g := gb300) (o := .cells #[.int .i64 t297, .int .i64 t298] 29 (0, 0)) (by (with_reducible repeat (first | refine blk_drewN ?_ _ | refine blk_drew ?_ | refine blk_alloc ?_ _)); exact BK300.out) hb)
          have n2_ := Aside0.mk (blk_below (g := gb304) (o := .cells #[.int .i64 t301, .int .i64 t302] 29 (0, 0)) (by (with_reducible repeat (first | refine blk_drewN ?_ _ | refine blk_drew ?_ | refine blk_alloc ?_ _)); exact BK304.out) hb)
          have n3_ := Aside0.mk (below_step (by repeat (first | (with_reducible first | exact HB.out | apply below_alloc | apply pw_below_drewN | apply below_drew1 | refine below_set ?_ GE294.out | refine below_set ?_ GE300.out | refine below_set ?_ GE304.out) | exact HB.out)) hb)
          clear BK294
          clear BK300
          clear BK304
          clear HB
          have BK294 := n0_
          have BK300 := n1_
          have BK304 := n2_
          have HB := n3_
          clear n0_ n1_ n2_ n3_
          (try clear hb)
          (try clear hb2)
          (try clear hk)
          (try clear hi)
          refine hK.out _ _ ⟨(blk_cell BK294.out 0).trans rfl, (blk_cell BK294.out 1).trans rfl, (blk_cell BK294.out 2).trans rfl⟩ (fun hHeld => ?_)
          clear hK K
          refine norm_ (a' := ?_) ?_ ?_
          rotate_left
          ·
           show Act.put _ (some 120) _ = _
           simp only [Act.put, List.setIfInBounds_toArray, List.set_cons_zero, List.set_cons_succ, i64_w, i32_w]
           rfl
          refine pure_ (i := 22) (N := some 98) (v := ?_) (a' := ?_) #[true, true, true, true, true, true, true, true, true, true, true, true, true, true, true, true, true, true, true, true, true, true, true, false, false, false, false] rfl rfl (any_of HT_.out (by kernel_rfl)) (fun _ _ _ h => h) (Or.inl ⟨by rfl, ?_⟩) ?_ ?_
          rotate_left
          ·
           intro w'
           go_simp
           with_reducible rfl
          rotate_left
          ·
           simp only [Act.put, List.setIfInBounds_toArray, List.set_cons_zero, List.set_cons_succ, i64_w, i32_w]
           rfl
          refine pure_ (i := 23) (N := some 121) (v := ?_) (a' := ?_) #[true, true, true, true, true, true, true, true, true, true, true, true, true, true, true, true, true, true, true, true, true, true, true, true, false, false, false] rfl rfl (any_of HT_.out (by kernel_rfl)) (fun _ _ _ h => h) (Or.inl ⟨by rfl, ?_⟩) ?_ ?_
          rotate_left
          ·
           intro w'
           go_simp
           with_reducible rfl
          rotate_left
          ·
           simp only [Act.put, List.setIfInBounds_toArray, List.set_cons_zero, List.set_cons_succ, i64_w, i32_w]
           rfl
          refine pure_ (i := 24) (N := some 122) (v := ?_) (a' := ?_) #[true, true, true, true, true, true, true, true, true, true, true, true, true, true, true, true, true, true, true, true, true, true, true, true, true, false, false] rfl rfl (any_of HT_.out (by kernel_rfl)) (fun _ _ _ h => h) (Or.inl ⟨by rfl, ?_⟩) ?_ ?_
          rotate_left
          ·
           intro w'
           go_simp
           with_reducible rfl
          rotate_left
          ·
           simp only [Act.put, List.setIfInBounds_toArray, List.set_cons_zero, List.set_cons_succ, i64_w, i32_w]
           rfl
          refine pure_ (i := 25) (N := some 23) (v := ?_) (a' := ?_) #[true, true, true, true, true, true, true, true, true, true, true, true, true, true, true, true, true, true, true, true, true, true, true, true, true, true, false] rfl rfl (any_of HT_.out (by kernel_rfl)) (fun _ _ _ h => h) (Or.inl ⟨by rfl, ?_⟩) ?_ ?_
          rotate_left
          ·
           intro w'
           go_simp
           with_reducible rfl
          rotate_left
          ·
           simp only [Act.put, List.setIfInBounds_toArray, List.set_cons_zero, List.set_cons_succ, i64_w, i32_w]
           rfl
          refine pure_ (i := 26) (N := some 24) (v := ?_) (a' := ?_) #[true, true, true, true, true, true, true, true, true, true, true, true, true, true, true, true, true, true, true, true, true, true, true, true, true, true, true] rfl rfl (any_of HT_.out (by kernel_rfl)) (fun _ _ _ h => h) (Or.inl ⟨by rfl, ?_⟩) ?_ ?_
          rotate_left
          ·
           intro w'
           go_simp
           with_reducible rfl
          rotate_left
          ·
           simp only [Act.put, List.setIfInBounds_toArray, List.set_cons_zero, List.set_cons_succ, i64_w, i32_w]
           rfl
          refine done_ (done_of HT_.out (by kernel_rfl)) ?_
          try go_wp2
          go_ret
          exact ⟨by first | rfl | (simp [errW_none, errW_some] <;> rfl) | (simp [*, errW_none, errW_some] <;> rfl), by repeat (first | (with_reducible first | exact HB.out | apply below_alloc | apply pw_below_drewN | apply below_drew1 | refine below_set ?_ GE294.out | refine below_set ?_ GE300.out | refine below_set ?_ GE304.out) | exact HB.out)⟩
   ·
    rw [if_neg c13] at H
    have c13b0 : (t299 == 0) = false := beq_eq_false_iff_ne.mpr c13
    have c13b1 : (t299 != 0) = true := bne_iff_ne.mpr c13
    obtain rfl := Option.some.inj H
    go_enter Tryd.func5, Tryd.ntmps5
    go_wp2_with (first | ((with_reducible refine gate_dst (N := 7) rfl ?_); refine box_event ?hg (N := 7) ?hd (cs := #[.slice A0_0 l0_0.length c0_0, .slice A0_1 l0_1.length c0_1, .slice A0_2 l0_2.length c0_2]) (t := 25) ?hr ?_; (case hd => rfl); (case hg => rfl); (case hr => first | (go_simp; done) | (go_simp; rfl)); intro gb294 hg w77 hbox hb; have n0_ := Aside0.mk (below_step (by repeat (first | (with_reducible first | exact HB.out | apply below_alloc | apply pw_below_drewN | apply below_drew1) | exact HB.out)) hb); have n1_ := Aside0.mk (hbox); have n2_ := Aside0.mk ((by rw [hg]; exact (below_size (by repeat (first | (with_reducible first | exact HB.out | apply below_alloc | apply pw_below_drewN | apply below_drew1) | exact HB.out))) : w.heap.size ≤ gb294)); have n3_ := Aside0.mk ((by rw [hg]; exact (below_size (by repeat (first | (with_reducible first | exact HB.out | apply below_alloc | apply pw_below_drewN | apply below_drew1) | exact HB.out))) : w.heap.size ≤ gb294)); clear HB; have HB := n0_; have BK294 := n1_; have GW294 := n2_; have GE294 := n3_; clear n0_ n1_ n2_ n3_; clear hb hbox hg) | ((with_reducible refine gate_callee (f := 10) rfl ?_); refine goesL_ (some 25) rfl rfl Tryd.func10 (by kernel_rfl) rfl #[] rfl (by (try simp only [List.map_toArray, List.map_cons, List.map_nil]); first | done | rfl | (simp only [List.length_drop, List.length_take]; rfl)) ?_; (with_reducible refine (spilelaw19_awake.calls  true _ ?side1 A8.out).mono ?_); (case side1 => exact GI.below HG.out (by repeat (first | (with_reducible first | exact HB.out | apply below_alloc | apply pw_below_drewN | apply below_drew1 | refine below_set ?_ GE294.out) | exact HB.out))); rintro e w78 ⟨rfl, hb⟩; refine ⟨_, rfl, ?_⟩; have n0_ := Aside0.mk (blk_below (g := gb294) (o := .cells #[.slice A0_0 l0_0.length c0_0, .slice A0_1 l0_1.length c0_1, .slice A0_2 l0_2.length c0_2] 25 (0, 0)) (by (with_reducible repeat (first | refine blk_drewN ?_ _ | refine blk_drew ?_ | refine blk_alloc ?_ _)); exact BK294.out) hb); have n1_ := Aside0.mk (below_step (by repeat (first | (with_reducible first | exact HB.out | apply below_alloc | apply pw_below_drewN | apply below_drew1 | refine below_set ?_ GE294.out) | exact HB.out)) hb); clear BK294; clear HB; have BK294 := n0_; have HB := n1_; clear n0_ n1_; (try clear hb); (try clear hb2); (try clear hk); (try clear hi); have hcz79_0 : w78.cell? ⟨gb294, 0, none⟩ = some (.slice A0_0 l0_0.length c0_0) := (blk_cell BK294.out 0).trans rfl; have hcz79_1 : w78.cell? ⟨gb294, 1, none⟩ = some (.slice A0_1 l0_1.length c0_1) := (blk_cell BK294.out 1).trans rfl; have hcz79_2 : w78.cell? ⟨gb294, 2, none⟩ = some (.slice A0_2 l0_2.length c0_2) := (blk_cell BK294.out 2).trans rfl; have hfz79_0 := blk_frozen BK294.out 0; have hfz79_1 := blk_frozen BK294.out 1; have hfz79_2 := blk_frozen BK294.out 2) | ((with_reducible refine gate_callee (f := 11) rfl ?_); refine goesL_ (some 28) rfl rfl Tryd.func11 (by kernel_rfl) rfl #[.agg #[.slice A0_0 l0_0.length c0_0, .slice A0_1 l0_1.length c0_1, .slice A0_2 l0_2.length c0_2]] rfl (by (try simp only [List.map_toArray, List.map_cons, List.map_nil]); first | done | rfl | (simp only [List.length_drop, List.length_take]; rfl)) ?_; (with_reducible refine (spileref19_Few.calls k _ _ l0_0 _ _ l0_1 _ _ l0_2 true _ ?side1 ?side2 ?side3 ?side4 ?side5 ?side6 A10.out).mono ?_); (case side1 => repeat (first | exact (Kd.C_below HR0_0.out HB.out) | (with_reducible refine Kd.C_alloc ?_ _) | (with_reducible refine Kd.C_drewN ?_ _) | (with_reducible refine Kd.C_drew ?_))); (case side2 => exact HC0_0.out); (case side3 => repeat (first | exact (Kd.C_below HR0_1.out HB.out) | (with_reducible refine Kd.C_alloc ?_ _) | (with_reducible refine Kd.C_drewN ?_ _) | (with_reducible refine Kd.C_drew ?_))); (case side4 => exact HC0_1.out); (case side5 => repeat (first | exact (Kd.C_below HR0_2.out HB.out) | (with_reducible refine Kd.C_alloc ?_ _) | (with_reducible refine Kd.C_drewN ?_ _) | (with_reducible refine Kd.C_drew ?_))); (case side6 => exact HC0_2.out); rintro e w80 ⟨rfl, hb⟩; refine ⟨_, rfl, ?_⟩; have n0_ := Aside0.mk (blk_below (g := gb294) (o := .cells #[.slice A0_0 l0_0.length c0_0, .slice A0_1 l0_1.length c0_1, .slice A0_2 l0_2.length c0_2] 25 (0, 0)) (by (with_reducible repeat (first | refine blk_drewN ?_ _ | refine blk_drew ?_ | refine blk_alloc ?_ _)); exact BK294.out) hb); have n1_ := Aside0.mk (below_step (by repeat (first | (with_reducible first | exact HB.out | apply below_alloc | apply pw_below_drewN | apply below_drew1 | refine below_set ?_ GE294.out) | exact HB.out)) hb); clear BK294; clear HB; have BK294 := n0_; have HB := n1_; clear n0_ n1_; (try clear hb); (try clear hb2); (try clear hk); (try clear hi); have hcz81_0 : w80.cell? ⟨gb294, 0, none⟩ = some (.slice A0_0 l0_0.length c0_0) := (blk_cell BK294.out 0).trans rfl; have hcz81_1 : w80.cell? ⟨gb294, 1, none⟩ = some (.slice A0_1 l0_1.length c0_1) := (blk_cell BK294.out 1).trans rfl; have hcz81_2 : w80.cell? ⟨gb294, 2, none⟩ = some (.slice A0_2 l0_2.length c0_2) := (blk_cell BK294.out 2).trans rfl; have hfz81_0 := blk_frozen BK294.out 0; have hfz81_1 := blk_frozen BK294.out 1; have hfz81_2 := blk_frozen BK294.out 2) | ((with_reducible refine gate_callee (f := 12) rfl ?_); refine goesL_ (some 40) rfl rfl Tryd.func12 (by kernel_rfl) rfl #[.agg #[.slice A0_0 l0_0.length c0_0, .slice A0_1 l0_1.length c0_1, .slice A0_2 l0_2.length c0_2], .int .i64 a1, .int .i64 a2, .int .i64 (wrap64 (a3)), .int .i64 (wrap64 (a4))] rfl (by (try simp only [List.map_toArray, List.map_cons, List.map_nil]); first | done | rfl | (simp only [List.length_drop, List.length_take]; rfl)) ?_; (with_reducible refine (correct_Around.calls k _ _ l0_0 _ _ l0_1 _ _ l0_2 a1 a2 (wrap64 (a3)) (wrap64 (a4)) t297 t298 t299 _ ?side1 ?side2 ?side3 ?side4 ?side5 ?side6 A12.out).mono ?_); (case side1 => repeat (first | exact (Kd.C_below HR0_0.out HB.out) | (with_reducible refine Kd.C_alloc ?_ _) | (with_reducible refine Kd.C_drewN ?_ _) | (with_reducible refine Kd.C_drew ?_))); (case side2 => exact HC0_0.out); (case side3 => repeat (first | exact (Kd.C_below HR0_1.out HB.out) | (with_reducible refine Kd.C_alloc ?_ _) | (with_reducible refine Kd.C_drewN ?_ _) | (with_reducible refine Kd.C_drew ?_))); (case side4 => exact HC0_1.out); (case side5 => repeat (first | exact (Kd.C_below HR0_2.out HB.out) | (with_reducible refine Kd.C_alloc ?_ _) | (with_reducible refine Kd.C_drewN ?_ _) | (with_reducible refine Kd.C_drew ?_))); (case side6 => exact HC0_2.out); rintro e w82 ⟨rfl, hb⟩; refine ⟨_, rfl, ?_⟩; have n0_ := Aside0.mk (blk_below (g := gb294) (o := .cells #[.slice A0_0 l0_0.length c0_0, .slice A0_1 l0_1.length c0_1, .slice A0_2 l0_2.length c0_2] 25 (0, 0)) (by (with_reducible repeat (first | refine blk_drewN ?_ _ | refine blk_drew ?_ | refine blk_alloc ?_ _)); exact BK294.out) hb); have n1_ := Aside0.mk (below_step (by repeat (first | (with_reducible first | exact HB.out | apply below_alloc | apply pw_below_drewN | apply below_drew1 | refine below_set ?_ GE294.out) | exact HB.out)) hb); clear BK294; clear HB; have BK294 := n0_; have HB := n1_; clear n0_ n1_; (try clear hb); (try clear hb2); (try clear hk); (try clear hi)) | ((with_reducible refine gate_dst (N := 17) rfl ?_); refine box_event ?hg (N := 17) ?hd (cs := #[.int .i64 0, .int .i64 0]) (t := 29) ?hr ?_; (case hd => rfl); (case hg => rfl); (case hr => first | (go_simp; done) | (go_simp; rfl)); intro gb300 hg w83 hbox hb; have n0_ := Aside0.mk (blk_below (g := gb294) (o := .cells #[.slice A0_0 l0_0.length c0_0, .slice A0_1 l0_1.length c0_1, .slice A0_2 l0_2.length c0_2] 25 (0, 0)) (by (with_reducible repeat (first | refine blk_drewN ?_ _ | refine blk_drew ?_ | refine blk_alloc ?_ _)); exact BK294.out) hb); have n1_ := Aside0.mk (below_step (by repeat (first | (with_reducible first | exact HB.out | apply below_alloc | apply pw_below_drewN | apply below_drew1 | refine below_set ?_ GE294.out) | exact HB.out)) hb); have n2_ := Aside0.mk (hbox); have n3_ := Aside0.mk ((by rw [hg]; exact (below_size (by repeat (first | (with_reducible first | exact HB.out | apply below_alloc | apply pw_below_drewN | apply below_drew1 | refine below_set ?_ GE294.out) | exact HB.out))) : w.heap.size ≤ gb300)); have n4_ := Aside0.mk ((by rw [hg]; exact (below_size (by repeat (first | (with_reducible first | exact HB.out | apply below_alloc | apply pw_below_drewN | apply below_drew1 | refine below_set ?_ GE294.out) | exact HB.out))) : w.heap.size ≤ gb300)); have n5_ := Aside0.mk ((by rw [hg]; exact Nat.ne_of_lt (blk_lt (g := gb294) (o := .cells #[.slice A0_0 l0_0.length c0_0, .slice A0_1 l0_1.length c0_1, .slice A0_2 l0_2.length c0_2] 25 (0, 0)) (by (with_reducible repeat (first | refine blk_drewN ?_ _ | refine blk_drew ?_ | refine blk_alloc ?_ _)); exact BK294.out)) : gb294 ≠ gb300)); have n6_ := Aside0.mk ((by rw [hg]; exact Nat.ne_of_gt (blk_lt (g := gb294) (o := .cells #[.slice A0_0 l0_0.length c0_0, .slice A0_1 l0_1.length c0_1, .slice A0_2 l0_2.length c0_2] 25 (0, 0)) (by (with_reducible repeat (first | refine blk_drewN ?_ _ | refine blk_drew ?_ | refine blk_alloc ?_ _)); exact BK294.out)) : gb300 ≠ gb294)); clear BK294; clear HB; have BK294 := n0_; have HB := n1_; have BK300 := n2_; have GW300 := n3_; have GE300 := n4_; have NB294_300 := n5_; have NB300_294 := n6_; clear n0_ n1_ n2_ n3_ n4_ n5_ n6_; clear hb hbox hg; have hnb84 := NB300_294.out; have hnc84 := NB294_300.out; have hcz85_0 : w83.cell? ⟨gb300, 0, none⟩ = some (.int .i64 0) := (blk_cell BK300.out 0).trans rfl; have hcz85_1 : w83.cell? ⟨gb300, 1, none⟩ = some (.int .i64 0) := (blk_cell BK300.out 1).trans rfl; have hfz85_0 := blk_frozen BK300.out 0; have hfz85_1 := blk_frozen BK300.out 1))
    go_ret
    exact ⟨by first | rfl | (simp [errW_none, errW_some] <;> rfl) | (simp [*, errW_none, errW_some] <;> rfl), by repeat (first | (with_reducible first | exact HB.out | apply below_alloc | apply pw_below_drewN | apply below_drew1 | refine below_set ?_ GE294.out | refine below_set ?_ GE300.out) | exact HB.out)⟩
  ·
   replace c11 := Bool.eq_false_iff.mpr c11
   subst c11
   have H1 : (some true) = some r := by rw [if_neg (show ¬ (false = true) by decide)] at H; exact H
   clear H
   have H := H1
   clear H1
   obtain rfl := Option.some.inj H
   go_enter Tryd.func5, Tryd.ntmps5
   go_wp2_with (first | ((with_reducible refine gate_dst (N := 7) rfl ?_); refine box_event ?hg (N := 7) ?hd (cs := #[.slice A0_0 l0_0.length c0_0, .slice A0_1 l0_1.length c0_1, .slice A0_2 l0_2.length c0_2]) (t := 25) ?hr ?_; (case hd => rfl); (case hg => rfl); (case hr => first | (go_simp; done) | (go_simp; rfl)); intro gb294 hg w86 hbox hb; have n0_ := Aside0.mk (below_step (by repeat (first | (with_reducible first | exact HB.out | apply below_alloc | apply pw_below_drewN | apply below_drew1) | exact HB.out)) hb); have n1_ := Aside0.mk (hbox); have n2_ := Aside0.mk ((by rw [hg]; exact (below_size (by repeat (first | (with_reducible first | exact HB.out | apply below_alloc | apply pw_below_drewN | apply below_drew1) | exact HB.out))) : w.heap.size ≤ gb294)); have n3_ := Aside0.mk ((by rw [hg]; exact (below_size (by repeat (first | (with_reducible first | exact HB.out | apply below_alloc | apply pw_below_drewN | apply below_drew1) | exact HB.out))) : w.heap.size ≤ gb294)); clear HB; have HB := n0_; have BK294 := n1_; have GW294 := n2_; have GE294 := n3_; clear n0_ n1_ n2_ n3_; clear hb hbox hg) | ((with_reducible refine gate_callee (f := 10) rfl ?_); refine goesL_ (some 25) rfl rfl Tryd.func10 (by kernel_rfl) rfl #[] rfl (by (try simp only [List.map_toArray, List.map_cons, List.map_nil]); first | done | rfl | (simp only [List.length_drop, List.length_take]; rfl)) ?_; (with_reducible refine (spilelaw19_awake.calls  true _ ?side1 A8.out).mono ?_); (case side1 => exact GI.below HG.out (by repeat (first | (with_reducible first | exact HB.out | apply below_alloc | apply pw_below_drewN | apply below_drew1 | refine below_set ?_ GE294.out) | exact HB.out))); rintro e w87 ⟨rfl, hb⟩; refine ⟨_, rfl, ?_⟩; have n0_ := Aside0.mk (blk_below (g := gb294) (o := .cells #[.slice A0_0 l0_0.length c0_0, .slice A0_1 l0_1.length c0_1, .slice A0_2 l0_2.length c0_2] 25 (0, 0)) (by (with_reducible repeat (first | refine blk_drewN ?_ _ | refine blk_drew ?_ | refine blk_alloc ?_ _)); exact BK294.out) hb); have n1_ := Aside0.mk (below_step (by repeat (first | (with_reducible first | exact HB.out | apply below_alloc | apply pw_below_drewN | apply below_drew1 | refine below_set ?_ GE294.out) | exact HB.out)) hb); clear BK294; clear HB; have BK294 := n0_; have HB := n1_; clear n0_ n1_; (try clear hb); (try clear hb2); (try clear hk); (try clear hi); have hcz88_0 : w87.cell? ⟨gb294, 0, none⟩ = some (.slice A0_0 l0_0.length c0_0) := (blk_cell BK294.out 0).trans rfl; have hcz88_1 : w87.cell? ⟨gb294, 1, none⟩ = some (.slice A0_1 l0_1.length c0_1) := (blk_cell BK294.out 1).trans rfl; have hcz88_2 : w87.cell? ⟨gb294, 2, none⟩ = some (.slice A0_2 l0_2.length c0_2) := (blk_cell BK294.out 2).trans rfl; have hfz88_0 := blk_frozen BK294.out 0; have hfz88_1 := blk_frozen BK294.out 1; have hfz88_2 := blk_frozen BK294.out 2) | ((with_reducible refine gate_callee (f := 11) rfl ?_); refine goesL_ (some 28) rfl rfl Tryd.func11 (by kernel_rfl) rfl #[.agg #[.slice A0_0 l0_0.length c0_0, .slice A0_1 l0_1.length c0_1, .slice A0_2 l0_2.length c0_2]] rfl (by (try simp only [List.map_toArray, List.map_cons, List.map_nil]); first | done | rfl | (simp only [List.length_drop, List.length_take]; rfl)) ?_; (with_reducible refine (spileref19_Few.calls k _ _ l0_0 _ _ l0_1 _ _ l0_2 false _ ?side1 ?side2 ?side3 ?side4 ?side5 ?side6 A10.out).mono ?_); (case side1 => repeat (first | exact (Kd.C_below HR0_0.out HB.out) | (with_reducible refine Kd.C_alloc ?_ _) | (with_reducible refine Kd.C_drewN ?_ _) | (with_reducible refine Kd.C_drew ?_))); (case side2 => exact HC0_0.out); (case side3 => repeat (first | exact (Kd.C_below HR0_1.out HB.out) | (with_reducible refine Kd.C_alloc ?_ _) | (with_reducible refine Kd.C_drewN ?_ _) | (with_reducible refine Kd.C_drew ?_))); (case side4 => exact HC0_1.out); (case side5 => repeat (first | exact (Kd.C_below HR0_2.out HB.out) | (with_reducible refine Kd.C_alloc ?_ _) | (with_reducible refine Kd.C_drewN ?_ _) | (with_reducible refine Kd.C_drew ?_))); (case side6 => exact HC0_2.out); rintro e w89 ⟨rfl, hb⟩; refine ⟨_, rfl, ?_⟩; have n0_ := Aside0.mk (blk_below (g := gb294) (o := .cells #[.slice A0_0 l0_0.length c0_0, .slice A0_1 l0_1.length c0_1, .slice A0_2 l0_2.length c0_2] 25 (0, 0)) (by (with_reducible repeat (first | refine blk_drewN ?_ _ | refine blk_drew ?_ | refine blk_alloc ?_ _)); exact BK294.out) hb); have n1_ := Aside0.mk (below_step (by repeat (first | (with_reducible first | exact HB.out | apply below_alloc | apply pw_below_drewN | apply below_drew1 | refine below_set ?_ GE294.out) | exact HB.out)) hb); clear BK294; clear HB; have BK294 := n0_; have HB := n1_; clear n0_ n1_; (try clear hb); (try clear hb2); (try clear hk); (try clear hi)))
   go_ret
   exact ⟨by first | rfl | (simp [errW_none, errW_some] <;> rfl) | (simp [*, errW_none, errW_some] <;> rfl), by repeat (first | (with_reducible first | exact HB.out | apply below_alloc | apply pw_below_drewN | apply below_drew1 | refine below_set ?_ GE294.out) | exact HB.out)⟩
 ·
  replace c9 := Bool.eq_false_iff.mpr c9
  subst c9
  have H1 : (some false) = some r := by rw [if_neg (show ¬ (false = true) by decide)] at H; exact H
  clear H
  have H := H1
  clear H1
  obtain rfl := Option.some.inj H
  go_enter Tryd.func5, Tryd.ntmps5
  go_wp2_with (first | ((with_reducible refine gate_dst (N := 7) rfl ?_); refine box_event ?hg (N := 7) ?hd (cs := #[.slice A0_0 l0_0.length c0_0, .slice A0_1 l0_1.length c0_1, .slice A0_2 l0_2.length c0_2]) (t := 25) ?hr ?_; (case hd => rfl); (case hg => rfl); (case hr => first | (go_simp; done) | (go_simp; rfl)); intro gb294 hg w90 hbox hb; have n0_ := Aside0.mk (below_step (by repeat (first | (with_reducible first | exact HB.out | apply below_alloc | apply pw_below_drewN | apply below_drew1) | exact HB.out)) hb); have n1_ := Aside0.mk (hbox); have n2_ := Aside0.mk ((by rw [hg]; exact (below_size (by repeat (first | (with_reducible first | exact HB.out | apply below_alloc | apply pw_below_drewN | apply below_drew1) | exact HB.out))) : w.heap.size ≤ gb294)); have n3_ := Aside0.mk ((by rw [hg]; exact (below_size (by repeat (first | (with_reducible first | exact HB.out | apply below_alloc | apply pw_below_drewN | apply below_drew1) | exact HB.out))) : w.heap.size ≤ gb294)); clear HB; have HB := n0_; have BK294 := n1_; have GW294 := n2_; have GE294 := n3_; clear n0_ n1_ n2_ n3_; clear hb hbox hg) | ((with_reducible refine gate_callee (f := 10) rfl ?_); refine goesL_ (some 25) rfl rfl Tryd.func10 (by kernel_rfl) rfl #[] rfl (by (try simp only [List.map_toArray, List.map_cons, List.map_nil]); first | done | rfl | (simp only [List.length_drop, List.length_take]; rfl)) ?_; (with_reducible refine (spilelaw19_awake.calls  false _ ?side1 A8.out).mono ?_); (case side1 => exact GI.below HG.out (by repeat (first | (with_reducible first | exact HB.out | apply below_alloc | apply pw_below_drewN | apply below_drew1 | refine below_set ?_ GE294.out) | exact HB.out))); rintro e w91 ⟨rfl, hb⟩; refine ⟨_, rfl, ?_⟩; have n0_ := Aside0.mk (blk_below (g := gb294) (o := .cells #[.slice A0_0 l0_0.length c0_0, .slice A0_1 l0_1.length c0_1, .slice A0_2 l0_2.length c0_2] 25 (0, 0)) (by (with_reducible repeat (first | refine blk_drewN ?_ _ | refine blk_drew ?_ | refine blk_alloc ?_ _)); exact BK294.out) hb); have n1_ := Aside0.mk (below_step (by repeat (first | (with_reducible first | exact HB.out | apply below_alloc | apply pw_below_drewN | apply below_drew1 | refine below_set ?_ GE294.out) | exact HB.out)) hb); clear BK294; clear HB; have BK294 := n0_; have HB := n1_; clear n0_ n1_; (try clear hb); (try clear hb2); (try clear hk); (try clear hi)))
  go_ret
  exact ⟨by first | rfl | (simp [errW_none, errW_some] <;> rfl) | (simp [*, errW_none, errW_some] <;> rfl), by repeat (first | (with_reducible first | exact HB.out | apply below_alloc | apply pw_below_drewN | apply below_drew1 | refine below_set ?_ GE294.out) | exact HB.out)⟩
end Go.Proofs.YtmdfnambaedllaaDoor.Pr
namespace Go.Proofs.YtmdfnambaedllaaDoor.Pure
open Go Go.RowKit Go.Proofs.YtmdfnambaedllaaDoorW.PrintWords Go.Proofs.YtmdfnambaedllaaDoorW.PrintLast Go.Proofs.YtmdfnambaedllaaDoorW.PrintMore Go.Proofs.YtmdfnambaedllaaDoor.Pr Go.Proofs.YtmdfnambaedllaaDoor.PL
/-- Around at a right table. -/
theorem around_prog {hs as_ : List Int} {ts : List (List Int)} (v : Valid hs as_ ts) (p : Ev (fun k => correct_Check.f k hs as_ ts) 0) {h a e f : Int} (hh : In hs h) (ha : In as_ a) (e0 : 0 ≤ e) (e1 : e ≤ 10000) (f0 : 0 ≤ f) (f1 : f ≤ 10000) :
    ∃ x y, Ev (fun k => correct_Around.f k hs as_ ts h a e f) (x, y, 0) ∧ IsStr hs as_ ts (mn (rd hs ((hs.length : Int) - 1)) (h + e)) (mx (rd as_ 0) (a - f)) x ∧ IsStr hs as_ ts (mx (rd hs 0) (h - e)) (mn (rd as_ ((as_.length : Int) - 1)) (a + f)) y := by
  have n1 := v.hs2; have n2 := v.as2; have n3 := v.hs32; have n4 := v.as32
  have B1 := (v.heat 0 (by omega) (by omega)).1
  have B2 := (v.heat ((hs.length : Int) - 1) (by omega) (by omega)).2
  have B3 := (v.str 0 (by omega) (by omega)).1
  have B4 := (v.str ((as_.length : Int) - 1) (by omega) (by omega)).2
  have H1 := hh.1; have H2 := hh.2; have A1 := ha.1; have A2 := ha.2
  have k1 : wrap64 (h - e) = h - e := w64 (by omega) (by omega)
  have k2 : wrap64 (h + e) = h + e := w64 (by omega) (by omega)
  have k3 : wrap64 (a - f) = a - f := w64 (by omega) (by omega)
  have k4 : wrap64 (a + f) = a + f := w64 (by omega) (by omega)
  have cold := mx_in v.hris (by omega) hh B1 (by omega) e0 (show e ≤ 10001 by omega)
  have warm := mn_in v.hris (by omega) hh B1 (by omega) e0 (show e ≤ 10001 by omega)
  have weak := mx_in v.aris (by omega) ha (by omega) B4 f0 (show f ≤ 10001 by omega)
  have strong := mn_in v.aris (by omega) ha (by omega) B4 f0 (show f ≤ 10001 by omega)
  rw [k1] at cold
  rw [k2] at warm
  rw [k3] at weak
  rw [k4] at strong
  obtain ⟨x, hx⟩ := IsStr.mk' v warm weak
  obtain ⟨y, hy⟩ := IsStr.mk' v cold strong
  obtain ⟨z, hz⟩ := IsStr.mk' v hh ha
  refine ⟨x, y, ?_, hx, hy⟩
  unfold correct_Around.f
  refine evb p (evp rfl (evb (hz.prog v) (evp rfl (evb (a := false) (evc (fun _ => rfl) (by rw [strange_eq, decide_eq_false (by simp only [Out]; omega)])) (evn (by decide) (evb (a := false) (evc (fun _ => rfl) (by rw [strange_eq, decide_eq_false (by simp only [Out]; omega)])) ?_))))))
  refine Ev.step (fun k => correct_Around.j0.eq_2 ..) (evn (by decide) (evb (evc (fun _ => rfl) (around_ends (by omega) (by omega) _ _)) (evb (evc (fun _ => rfl) (around_ends (by omega) (by omega) _ _)) ?_)))
  rw [k1, k2, k3, k4]
  exact evb (hx.prog v) (evb (hy.prog v) (Ev.now _))
theorem around_bad {hs as_ : List Int} {ts : List (List Int)} (v : Valid hs as_ ts) (p : Ev (fun k => correct_Check.f k hs as_ ts) 0) {h a e f : Int} (hn : ¬ (In hs h ∧ In as_ a)) : Ev (fun k => correct_Around.f k hs as_ ts h a e f) (0, 0, 2) := by
  unfold correct_Around.f
  exact evb p (evp rfl (evb ((at_prog v h a).1 hn) (evn (by decide) (Ev.step (fun k => correct_Around.j0.eq_2 ..) (evp rfl (Ev.now _))))))
theorem u8_of_wf {x : Int} (h : (Lit.int .u8 x).wf = true) : 0 ≤ x ∧ x ≤ 255 := by
  simp [Lit.wf, IntKind.min, IntKind.max, IntKind.signed, IntKind.bits] at h
  omega
end Go.Proofs.YtmdfnambaedllaaDoor.Pure
namespace Go.Proofs.YtmdfnambaedllaaDoor.Pure
open Go Go.RowKit Go.Proofs.YtmdfnambaedllaaDoor.Pr Go.Proofs.YtmdfnambaedllaaDoor.Opn
def correctEnclosesPure : Prop := ∀ (l0_0 : (List Int)) (l0_1 : (List Int)) (l0_2 : (List (List Int))) (a1 : Int) (a2 : Int) (a3 : Int) (a4 : Int) (a5 : Int) (a6 : Int), (l0_0.length ≤ maxLen ∧ ∀ x0_, x0_ ∈ l0_0 → (Lit.int .i64 x0_).wf = true) → (l0_1.length ≤ maxLen ∧ ∀ x0_, x0_ ∈ l0_1 → (Lit.int .i64 x0_).wf = true) → (l0_2.length ≤ maxLen ∧ ∀ x0_, x0_ ∈ l0_2 → (x0_.length ≤ maxLen ∧ ∀ x1_, x1_ ∈ x0_ → (Lit.int .i64 x1_).wf = true)) → (Lit.int .i64 a1).wf = true → (Lit.int .i64 a2).wf = true → (Lit.int .u8 a3).wf = true → (Lit.int .u8 a4).wf = true → (Lit.int .u8 a5).wf = true → (Lit.int .u8 a6).wf = true → ∃ k, spilelaw19_CorrectEncloses.f k l0_0 l0_1 l0_2 a1 a2 a3 a4 a5 a6 = some true
end Go.Proofs.YtmdfnambaedllaaDoor.Pure
namespace Go.Proofs.YtmdfnambaedllaaDoor.Pure
open Go Go.RowKit Go.Proofs.YtmdfnambaedllaaDoorW.PrintWords Go.Proofs.YtmdfnambaedllaaDoorW.PrintLast Go.Proofs.YtmdfnambaedllaaDoorW.PrintMore Go.Proofs.YtmdfnambaedllaaDoor.Pr Go.Proofs.YtmdfnambaedllaaDoor.PL Go.Proofs.YtmdfnambaedllaaDoor.Opn Go.Proofs.YtmdfnambaedllaaDoor.X
theorem IsStr.both {hs as_ : List Int} {ts : List (List Int)} (v : Valid hs as_ ts) {h g a b x y : Int} (hg : h ≤ g) (ab : a ≤ b) (hx : IsStr hs as_ ts g a x) (hy : IsStr hs as_ ts h b y) : x ≤ y := by
  obtain ⟨z, hz⟩ := IsStr.mk' v hx.1 hy.2.1
  exact Int.le_trans (hx.mono_a v ab hz) (hy.mono_h v hg hz)
theorem mn_le {a b c : Int} (h : c ≤ a) (h2 : c ≤ b) : c ≤ mn a b := by unfold mn; split <;> omega
theorem mx_le {a b c : Int} (h : a ≤ c) (h2 : b ≤ c) : mx a b ≤ c := by unfold mx; split <;> omega
theorem mn_mono {a b c : Int} (h : b ≤ c) : mn a b ≤ mn a c := by unfold mn; repeat' split <;> omega
theorem mx_mono {a b c : Int} (h : b ≤ c) : mx a b ≤ mx a c := by unfold mx; repeat' split <;> omega
theorem tmod_range {p e : Int} (p0 : 0 ≤ p) (e0 : 0 ≤ e) : 0 ≤ Int.tmod p (2 * e + 1) ∧ Int.tmod p (2 * e + 1) ≤ 2 * e := by
  rw [Int.tmod_eq_emod_of_nonneg p0]
  have := Int.emod_nonneg p (show 2 * e + 1 ≠ 0 by omega)
  have := Int.emod_lt_of_pos p (show 0 < 2 * e + 1 by omega)
  omega
theorem CorrectEncloses : correctEnclosesPure := by
  intro hs as_ ts a1 a2 a3 a4 a5 a6 ⟨hh, _⟩ ⟨ha, _⟩ ⟨ht, hr⟩ _ _ u3 u4 u5 u6
  obtain ⟨u30, u31⟩ := u8_of_wf u3
  obtain ⟨u40, u41⟩ := u8_of_wf u4
  obtain ⟨u50, u51⟩ := u8_of_wf u5
  obtain ⟨u60, u61⟩ := u8_of_wf u6
  clear u3 u4 u5 u6
  refine Ev.rounds (r := true) ?_
  unfold spilelaw19_CorrectEncloses.f
  rw [w64 (x := a3) (by omega) (by omega), w64 (x := a4) (by omega) (by omega), w64 (x := a3 + 1) (by omega) (by omega), w64 (x := a4 + 1) (by omega) (by omega)]
  refine evb (a := true) (evc (fun _ => rfl) rfl) (evp rfl ?_)
  obtain ⟨b, hb⟩ := few_some hs as_ ts ht
  refine evb hb ?_
  cases b with
  | false => exact evn (by decide) (Ev.now _)
  | true =>
    refine evp rfl ?_
    obtain ⟨c, p, _, hc⟩ := check_both hs as_ ts hh ha ht (fun x hx => (hr x hx).1)
    by_cases c0 : c = 0
    · subst c0
      have v := hc.1 rfl
      have n1 := v.hs2; have n2 := v.as2; have n3 := v.hs32; have n4 := v.as32
      have B1 := (v.heat 0 (by omega) (by omega)).1
      have B2 := (v.heat ((hs.length : Int) - 1) (by omega) (by omega)).2
      have B3 := (v.str 0 (by omega) (by omega)).1
      have B4 := (v.str ((as_.length : Int) - 1) (by omega) (by omega)).2
      by_cases hin : In hs a1 ∧ In as_ a2
      · obtain ⟨i1, i2⟩ := hin
        have H1 := i1.1; have H2 := i1.2; have A1 := i2.1; have A2 := i2.2
        obtain ⟨x, y, e1, hx, hy⟩ := around_prog v p i1 i2 (e := a3) (f := a4) u30 (by omega) u40 (by omega)
        obtain ⟨x2, y2, e2, hx2, hy2⟩ := around_prog v p i1 i2 (e := a3 + 1) (f := a4 + 1) (by omega) (by omega) (by omega) (by omega)
        obtain ⟨z, hz⟩ := IsStr.mk' v i1 i2
        have q1 : x2 ≤ x := hx2.both v (mn_mono (by omega)) (mx_mono (by omega)) hx
        have q2 : y ≤ y2 := hy.both v (mx_mono (by omega)) (mn_mono (by omega)) hy2
        have q3 : x ≤ z := hx.both v (mn_le H2 (by omega)) (mx_le A1 (by omega)) hz
        have q4 : z ≤ y := hz.both v (mx_le H1 (by omega)) (mn_le A2 (by omega)) hy
        refine evb e1 (evp rfl (evb e2 (evb ((true_prog v p a1 a2).2 z hz) (evp rfl (evp rfl (evn (by show ¬ x2 > x; omega) (evn (by show ¬ y2 < y; omega) (evn (by show ¬ z < x; omega) ?_))))))))
        rw [decide_eq_false (show ¬ z > y by omega)]
        refine Ev.step (fun k => spilelaw19_CorrectEncloses.j0.eq_2 ..) (evn (by decide) ?_)
        have m1 := tmod_range u50 u30
        have m2 := tmod_range u60 u40
        rw [w64 (x := a5) (by omega) (by omega), w64 (x := a6) (by omega) (by omega), w64 (x := 2 * a3) (by omega) (by omega), w64 (x := 2 * a4) (by omega) (by omega), w64 (x := 2 * a3 + 1) (by omega) (by omega), w64 (x := 2 * a4 + 1) (by omega) (by omega), w64 (x := a1 - a3) (by omega) (by omega), w64 (x := a2 - a4) (by omega) (by omega), w64 (x := a1 - a3 + Int.tmod a5 (2 * a3 + 1)) (by omega) (by omega), w64 (x := a2 - a4 + Int.tmod a6 (2 * a4 + 1)) (by omega) (by omega)]
        refine evn (by omega) (evn (by omega) ?_)
        by_cases g : In hs (a1 - a3 + Int.tmod a5 (2 * a3 + 1)) ∧ In as_ (a2 - a4 + Int.tmod a6 (2 * a4 + 1))
        · obtain ⟨u, hu⟩ := IsStr.mk' v g.1 g.2
          have G1 := g.1.1; have G2 := g.1.2; have G3 := g.2.1; have G4 := g.2.2
          have q5 : x ≤ u := hx.both v (mn_le G2 (by omega)) (mx_le G3 (by omega)) hu
          have q6 : u ≤ y := hu.both v (mx_le G1 (by omega)) (mn_le G4 (by omega)) hy
          exact evb ((true_prog v p _ _).2 u hu) (evp rfl (evp q5 (evr (decide_eq_true q6))))
        · exact evb ((true_prog v p _ _).1 g) (evn (by decide) (Ev.now _))
      · exact evb (around_bad v p hin) (evn (by decide) (evr rfl))
    · have bad : Ev (fun k => correct_Around.f k hs as_ ts a1 a2 a3 a4) (0, 0, 1) := by
        unfold correct_Around.f
        exact evb p (evn c0 (Ev.now _))
      exact evb bad (evn (by decide) (evr rfl))
end Go.Proofs.YtmdfnambaedllaaDoor.Pure
namespace Go.Proofs.YtmdfnambaedllaaDoor.correctEncloses
open Go Go.ChangeShapes Go.WideShapes Go.ChangeAt Go.RowKit
open Go.ChangeMaps (open_string shut_string)
open Go.Proofs.YtmdfnambaedllaaDoorW.PrintWords Go.Proofs.YtmdfnambaedllaaDoor.O Go.Proofs.YtmdfnambaedllaaDoor.Opn Go.Proofs.YtmdfnambaedllaaDoor.Pr Go.Proofs.YtmdfnambaedllaaDoor.X
theorem own : ownKnob Tryd.prog.godebug = none := by kernel_rfl
theorem laidOut : laidOutB Tryd.prog = true := by kernel_rfl
abbrev laidL : List (String × DataW Unit) := [("math/bits.deBruijn32tab", Rows.laid_math_bits_deBruijn32tab), ("math/bits.deBruijn64tab", Rows.laid_math_bits_deBruijn64tab), ("internal/strconv.uint64pow10", Rows.laid_internal_strconv_uint64pow10)]
set_option maxRecDepth 100000 in
theorem lifted (os : Os) (started : os.Started) (H : Type) (enc : TypeId × Value → H)
    (hwit : ∀ args : Array Value, laidMetH Tryd.prog laidL ((World.doorLaid Tryd.prog 400 os).forCall (fun _ _ => 0) ⟨#[], args, []⟩).memory) :
    ReturnsInHanded {} Tryd.checked os 5 .any (fun w args => (Rows.correctEnclosesSpec.pre enc Tryd.prog Tryd.f5 [] false w args ∧ laidMetH Tryd.prog laidL w) ∧ sizedMet enc Tryd.prog Tryd.f5 (OpenSpec.ofChange Rows.correctEnclosesSpec) false w args)
      (Rows.correctEnclosesSpec.post enc Tryd.prog Tryd.f5 false true false false) := by
  refine returnsInHanded_of_change_and (C := Tryd.checked) (X := (fun w _ => laidMetH Tryd.prog laidL w)) (fun _ _ _ hh h => h.of_heap hh) own started (by kernel_rfl) Tryd.func5
    (ChangeSpec.witness_shaped (enc := enc) (C := Tryd.checked) (os := os) (X := (fun w _ => laidMetH Tryd.prog laidL w)) false (World.doorLaid Tryd.prog 400 os) #[.agg #[.slice none 0 0, .slice none 0 0, .slice none 0 0], .int .i64 0, .int .i64 0, .int .u8 0, .int .u8 0, .int .u8 0, .int .u8 0] 8 rfl (World.shaped_of_RefB (by kernel_rfl) (by kernel_rfl)) (by kernel_rfl) (by kernel_rfl) (by kernel_rfl) (hwit _)) ?_
  intro W base args ds gs before hval0 hW _ _ hL _
  have hval : ∀ (j : Nat) t v, Tryd.f5.params[j]? = some t → args[j]? = some v → Value.okWide Tryd.prog W .any base t v := hval0
  have hW' := hW
  obtain ⟨p, q, hA0, hV, rfl, hfz, hnd⟩ := hW
  have hA : DataW.TrodAll enc Tryd.prog W 0 (fun _ => true) true Tryd.f5.params.toList args.toList ds p := hA0
  rw [Tryd.params5] at hA hval
  obtain ⟨v0, vs0, d0, ds0, p0, q0, hargs, rfl, rfl, h0, r0⟩ := trodAll_cons hA
  obtain ⟨v1, vs1, d1, ds1, p1, q1, rfl, rfl, rfl, h1, r1⟩ := trodAll_cons r0
  obtain ⟨v2, vs2, d2, ds2, p2, q2, rfl, rfl, rfl, h2, r2⟩ := trodAll_cons r1
  obtain ⟨v3, vs3, d3, ds3, p3, q3, rfl, rfl, rfl, h3, r3⟩ := trodAll_cons r2
  obtain ⟨v4, vs4, d4, ds4, p4, q4, rfl, rfl, rfl, h4, r4⟩ := trodAll_cons r3
  obtain ⟨v5, vs5, d5, ds5, p5, q5, rfl, rfl, rfl, h5, r5⟩ := trodAll_cons r4
  obtain ⟨v6, vs6, d6, ds6, p6, q6, rfl, rfl, rfl, h6, r6⟩ := trodAll_cons r5
  obtain ⟨rfl, rfl, rfl⟩ := trodAll_nil r6
  obtain rfl : args = #[v0, v1, v2, v3, v4, v5, v6] := by cases args; simp_all
  obtain ⟨rfl, rfl⟩ := trodVars_none hV
  obtain ⟨cs0, rfl, _⟩ := okWide_struct Tryd.underlying25 (hval 0 25 v0 rfl rfl)
  have k0 := h0
  have lt0 : ∀ x ∈ p0, x.block < W.heap.size := by obtain ⟨m, hm⟩ := k0; exact DataW.trod_lt m _ _ _ hm
  obtain ⟨x0, K0, ok0⟩ : ∃ x, k25.K W x cs0.toList ∧ ok25 x := by
    obtain ⟨fuel, hf⟩ := h0
    exact opens25.2 _ _ _ _ _ _ _ _ _ hf
  obtain ⟨A0_0, c0_0, A0_1, c0_1, A0_2, c0_2, e0, g0_0, hr0_0, g0_1, hr0_1, g0_2, hr0_2⟩ := k25_open K0
  obtain rfl : cs0 = #[.slice A0_0 (x0.f0).length c0_0, .slice A0_1 (x0.f1).length c0_1, .slice A0_2 (x0.f2).length c0_2] := by cases cs0; simpa using e0
  obtain ⟨a1, rfl, rfl, rfl, w1⟩ := open_int Tryd.underlying3 (hval 1 3 v1 rfl rfl) h1
  obtain ⟨a2, rfl, rfl, rfl, w2⟩ := open_int Tryd.underlying3 (hval 2 3 v2 rfl rfl) h2
  obtain ⟨a3, rfl, rfl, rfl, w3⟩ := open_int Tryd.underlying5 (hval 3 5 v3 rfl rfl) h3
  obtain ⟨a4, rfl, rfl, rfl, w4⟩ := open_int Tryd.underlying5 (hval 4 5 v4 rfl rfl) h4
  obtain ⟨a5, rfl, rfl, rfl, w5⟩ := open_int Tryd.underlying5 (hval 5 5 v5 rfl rfl) h5
  obtain ⟨a6, rfl, rfl, rfl, w6⟩ := open_int Tryd.underlying5 (hval 6 5 v6 rfl rfl) h6
  clear hA0 hval0
  obtain ⟨k, hp⟩ := Pure.CorrectEncloses (x0.f0) (x0.f1) (x0.f2) a1 a2 a3 a4 a5 a6 ok0.1 ok0.2.1 ok0.2.2 w1 w2 w3 w4 w5 w6
  have hG : GI W := GI.of_laid laidL (by simp [laidL]) hL
  refine (spilelaw19_CorrectEncloses.calls k _ _ (x0.f0) _ _ (x0.f1) _ _ (x0.f2) a1 a2 a3 a4 a5 a6 true W hr0_0 g0_0 hr0_1 g0_1 hr0_2 g0_2 hG hp).mono fun e W' ⟨he, bel⟩ => ?_
  subst he
  exact ⟨_, rfl, _, _, _, [], _, [], hW', trodAll_mk1 (shut_bool Tryd.underlying4 _), (trodAll_cons_mk (Below.trod laidOut (by kernel_rfl) (of_decide_eq_true (by kernel_rfl)) k0 bel lt0) (trodAll_cons_mk (shut_int Tryd.underlying3 w1) (trodAll_cons_mk (shut_int Tryd.underlying3 w2) (trodAll_cons_mk (shut_int Tryd.underlying5 w3) (trodAll_cons_mk (shut_int Tryd.underlying5 w4) (trodAll_cons_mk (shut_int Tryd.underlying5 w5) (trodAll_cons_mk (shut_int Tryd.underlying5 w6) trodAll_mk0))))))), rfl, bel.frame _, fun h => by cases h⟩
theorem holds (hwit : ∀ (os : Os) (args : Array Value), laidMetH Tryd.prog laidL ((World.doorLaid Tryd.prog 400 os).forCall (fun _ _ => 0) ⟨#[], args, []⟩).memory) : Rows.CorrectEnclosesSaid :=
  OpenClaim.holds_of_wide 5 Tryd.f5 rfl rfl rfl rfl rfl rfl rfl ⟨rfl, rfl, rfl, rfl, rfl⟩ rfl rfl rfl rfl rfl (by kernel_rfl) Tryd.func5 (by kernel_rfl)
    (of_decide_eq_true (by kernel_rfl)) (by unfold Func.isWrapper; first | (rw [if_pos (by decide +kernel)]; kernel_rfl) | (rw [if_neg (by decide +kernel)]; exact ⟨rfl, rfl⟩))
    (fun os started H enc _ => lifted os started H enc (hwit os))
theorem door_met (os : Os) (args : Array Value) : laidMetH Tryd.prog laidL ((World.doorLaid Tryd.prog 400 os).forCall (fun _ _ => 0) ⟨#[], args, []⟩).memory :=
  laidMetH_of_parts3 (fuel := 8) (laidMet_of_run' 8 (by kernel_rfl) (by kernel_rfl)) (by kernel_rfl) (by kernel_rfl)
theorem card : Rows.CorrectEnclosesCardSaid :=
  Claim7.holds_tied_plain_at .later [] [.data, .data, .data] true (true, "43761afd2ec77655b7605f986a4f9a4256ebde91a38a7a669bad47d42540965e") true
    (holds door_met) (fun _ h => by cases h) (by kernel_rfl) (fun _ h => by cases h) correctEncloses_row_tie rfl ⟨rfl, rfl⟩ (by kernel_rfl) rfl
    (fun f fn hf hfn => by
      obtain rfl : f = 5 := Option.some.inj ((show Tryd.prog.funcNamed "spile/spilelaw19.CorrectEncloses" = some 5 by kernel_rfl).symm.trans hf) |>.symm
      obtain rfl : fn = Tryd.f5 := (Option.some.inj (Tryd.func5.symm.trans hfn)).symm
      exact ⟨by kernel_rfl, fun j t ht => by
        rw [Tryd.params5] at ht
        have hm : t ∈ [25, 3, 3, 5, 5, 5, 5] := by simpa using Array.mem_of_getElem? ht
        have hall : ([25, 3, 3, 5, 5, 5, 5].all fun u => !Tryd.prog.wantsStandIn u) = true := by kernel_rfl
        exact (show Tryd.prog.wantsStandIn t = false by simpa using List.all_eq_true.1 hall t hm)⟩)
    (by kernel_rfl)
end Go.Proofs.YtmdfnambaedllaaDoor.correctEncloses
namespace Go.Proofs.YtmdfnambaedllaaDoor
/-- The card, under a short name, for the claim. -/
theorem correctEncloses_holds : Rows.CorrectEnclosesCardSaid := correctEncloses.card
#print axioms correctEncloses_holds
end Go.Proofs.YtmdfnambaedllaaDoor
