/-
The law RodExact returns true for every input that can be read as data, and leaves its arguments as they were: the row, and the card that ties the listed variables to the program's text.
No condition of its own beyond those that the given row prints.
-/
import Derived.HandedShaped
import Derived.Handed
import Derived.Test.YtkolhpacpbhceaaDoorCards
import Derived.Test.YtkolhpacpbhceaaDoorTie
import Derived.ProofKit
import Derived.OpenShut
import Derived.ShutString
import Derived.ChangeOld
import Derived.SizedLaws
import Derived.LaidMore
import Derived.Lay
import Derived.MakeChecks
import Derived.SevenTiedAt
import Derived.LaidSub
import Derived.LaidOnce
import Derived.Stop.Joined
import Derived.Stop.LaidErr
import Derived.Test.YtkolhpacpbhceaaDoorRodExactD
set_option linter.unusedVariables false
set_option linter.unusedSimpArgs false
namespace Go.Proofs.YtkolhpacpbhceaaDoor.Pr
open Go.RowKit Go.Proofs.YtkolhpacpbhceaaDoorW.PrintWords Go.Proofs.YtkolhpacpbhceaaDoorW.PrintLast Go.Proofs.YtkolhpacpbhceaaDoorW.PrintMore Go.Proofs.YtkolhpacpbhceaaDoor.X
attribute [local go_sem] max2_int min2_int max_two min_two max_three min_three max_four min_four   -- for this text's walks alone
set_option linter.unusedVariables false
set_option linter.unusedSimpArgs false
mutual
def spilelaw14_RodExact.j0 : Nat → Int → List (S39) → Bool → List (S39) → Int → Option (Bool)
 | 0, _, _, _, _, _ => none
 | k + 1, x1, x5, x49, x337000, x337001 => if x49 = true then (some false) else (spilelaw14_RodExact.l0 k x1 x5 x5 (x5.length : Int) 0 x337000 x337001)
def spilelaw14_RodExact.l0 : Nat → Int → List (S39) → List (S39) → Int → Int → List (S39) → Int → Option (Bool)
 | 0, _, _, _, _, _, _, _ => none
 | k + 1, x1, x5, x50, x51, x52, x337000, x337001 => if x52 < x51 then (if 0 ≤ x52 then (if x52 < (x50.length : Int) then ((spileref13_Copy.f x337000 x337001).bind fun bt355 => ((dip_Read.f k bt355.1 bt355.2 ((rd_T39 x50 x52).f0)).bind fun bt359 => (if bt359.2 = 0 then (if x1 = 0 then (none) else (if (Int.tmod ((rd_T39 x50 x52).f1) x1) = 0 then (if bt359.1 < ((rd_T39 x50 x52).f1) then (spilelaw14_RodExact.j2 k x1 x5 x50 x51 x52 true x337000 x337001 ((rd_T39 x50 x52).f0) ((rd_T39 x50 x52).f1)) else (spilelaw14_RodExact.j2 k x1 x5 x50 x51 x52 (decide (bt359.1 ≥ (wrap64 (((rd_T39 x50 x52).f1) + x1)))) x337000 x337001 ((rd_T39 x50 x52).f0) ((rd_T39 x50 x52).f1))) else (spilelaw14_RodExact.j2 k x1 x5 x50 x51 x52 true x337000 x337001 ((rd_T39 x50 x52).f0) ((rd_T39 x50 x52).f1)))) else (spilelaw14_RodExact.j2 k x1 x5 x50 x51 x52 true x337000 x337001 ((rd_T39 x50 x52).f0) ((rd_T39 x50 x52).f1))))) else (none)) else (none)) else (if 0 ≤ (wrap64 ((x337000.length : Int) - 1)) then (if (wrap64 ((x337000.length : Int) - 1)) < (x337000.length : Int) then (if 0 ≤ (wrap64 ((x5.length : Int) - 1)) then (if (wrap64 ((x5.length : Int) - 1)) < (x5.length : Int) then (if x1 = 0 then (none) else (some (((rd_T39 x5 (wrap64 ((x5.length : Int) - 1))).f1) == (wrap64 ((wrap64 (Int.tdiv ((rd_T39 x337000 (wrap64 ((x337000.length : Int) - 1))).f1) x1)) * x1))))) else (none)) else (none)) else (none)) else (none))
def spilelaw14_RodExact.j2 : Nat → Int → List (S39) → List (S39) → Int → Int → Bool → List (S39) → Int → Int → Int → Option (Bool)
 | 0, _, _, _, _, _, _, _, _, _, _ => none
 | k + 1, x1, x5, x50, x51, x52, x86, x337000, x337001, x355000, x355001 => if x86 = true then (some false) else ((spileref13_Copy.f x337000 x337001).bind fun bt361 => ((dip_Read.f k bt361.1 bt361.2 (wrap64 (x355000 - 1))).bind fun bt365 => (if bt365.2 = 0 then (if bt365.1 ≥ x355001 then (some false) else (spilelaw14_RodExact.l0 k x1 x5 x50 x51 (wrap64 (x52 + 1)) x337000 x337001)) else (spilelaw14_RodExact.l0 k x1 x5 x50 x51 (wrap64 (x52 + 1)) x337000 x337001))))
end
def spilelaw14_RodExact.f (k : Nat) (l0_0 : List (S39)) (a0_1 : Int) (a1 : Int) : Option (Bool) := (spilelaw14_awake.f).bind fun t337 => (if t337 = true then ((spilelaw14_few.f ([] : List (S39)) l0_0 a0_1).bind fun t338 => (if t338 = true then ((spileref13_Copy.f l0_0 a0_1).bind fun bt339 => ((rod_Make.f k bt339.1 bt339.2 a1).bind fun bt343 => (if bt343.2 = 0 then ((slices_Clone39.f bt343.1).bind fun t347 => ((rod_Check.f k t347).bind fun t350 => (if t350 = 0 then (if (l0_0.length : Int) < 2 then (spilelaw14_RodExact.j0 k a1 bt343.1 true l0_0 a0_1) else (if (bt343.1.length : Int) = 0 then (spilelaw14_RodExact.j0 k a1 bt343.1 true l0_0 a0_1) else (spilelaw14_RodExact.j0 k a1 bt343.1 (decide (a1 < 1)) l0_0 a0_1))) else (spilelaw14_RodExact.j0 k a1 bt343.1 true l0_0 a0_1)))) else (some ((bt343.1.length : Int) == 0))))) else (some true))) else (some false))
def spilelaw14_RodExact.T13 : Bool × List (List Nat × List Nat) := (true, [([], []), ([0], [0]), ([], []), ([2], [2]), ([1, 3, 1], [1, 3]), ([4], [4]), ([5], [5]), ([5], [5]), ([6, 4, 0, 1, 2, 3, 4, 5, 6], [6]), ([7, 8, 0, 1, 2, 3, 4, 5, 6, 7, 8], [7])])
def spilelaw14_RodExact.B13 : List Nat := [0, 1, 0, 4, 15, 31, 63, 63, 127, 511]
theorem spilelaw14_RodExact.tab13 : rtab .any (opsOf Tryd.f6 13) = spilelaw14_RodExact.T13 := by kernel_rfl
theorem spilelaw14_RodExact.bits13 : waitsOk spilelaw14_RodExact.T13.2 spilelaw14_RodExact.B13 = true := by kernel_rfl
def spilelaw14_RodExact.T16 : Bool × List (List Nat × List Nat) := (true, [([], []), ([0], [0]), ([], []), ([2], [2]), ([3], [3]), ([1, 4, 1], [1, 4]), ([5], [5]), ([6], [6]), ([6], [6]), ([7, 5, 0, 1, 2, 3, 4, 5, 6, 7], [7]), ([8, 9, 0, 1, 2, 3, 4, 5, 6, 7, 8, 9], [8])])
def spilelaw14_RodExact.B16 : List Nat := [0, 1, 0, 4, 12, 31, 63, 127, 127, 255, 1023]
theorem spilelaw14_RodExact.tab16 : rtab .any (opsOf Tryd.f6 16) = spilelaw14_RodExact.T16 := by kernel_rfl
theorem spilelaw14_RodExact.bits16 : waitsOk spilelaw14_RodExact.T16.2 spilelaw14_RodExact.B16 = true := by kernel_rfl
def spilelaw14_RodExact.T21 : Bool × List (List Nat × List Nat) := (true, [([], []), ([], []), ([1], [1]), ([2], [2]), ([0, 3], [0, 3]), ([4], [4]), ([5], [5]), ([], []), ([], []), ([7, 8], [7, 8]), ([], []), ([9, 10], [9, 10]), ([6, 11], [6, 11]), ([12, 0, 1, 2, 3, 4, 5, 6, 7, 8, 9, 10, 11, 12], [12])])
def spilelaw14_RodExact.B21 : List Nat := [0, 0, 2, 6, 15, 31, 63, 0, 0, 384, 0, 1920, 4095, 8191]
theorem spilelaw14_RodExact.tab21 : rtab .any (opsOf Tryd.f6 21) = spilelaw14_RodExact.T21 := by kernel_rfl
theorem spilelaw14_RodExact.bits21 : waitsOk spilelaw14_RodExact.T21.2 spilelaw14_RodExact.B21 = true := by kernel_rfl
set_option maxHeartbeats 8000000 in
set_option maxRecDepth 100000 in
theorem spilelaw14_RodExact.calls (k : Nat) (A0_0 : Option Addr) (c0_0 : Nat) (l0_0 : List (S39)) (a0_1 : Int) (a1 : Int) (r : Bool) (w : World) (hr0_0 : Kd.C k39 w A0_0 l0_0.length l0_0) (hc0_0 : l0_0.length ≤ c0_0) (hG : GI w) (hr_ : r = true) (h : spilelaw14_RodExact.f k l0_0 a0_1 a1 = some r) :
  Calls Tryd.prog 6 #[.agg #[.slice A0_0 l0_0.length c0_0, .int .i64 a0_1], .int .i64 a1] w fun e w' => e = .returned (.bool r) ∧ Below w.heap.size w w' := by
 have hu24 := Tryd.underlying24
 have hu39 := Tryd.underlying39
 have HR0_0 := Aside0.mk hr0_0
 have HC0_0 := Aside0.mk hc0_0
 clear hr0_0 hc0_0
 have HG := Aside0.mk hG
 clear hG
 have HB := Aside0.mk (Below.refl w.heap.size w)
 have H : ((spilelaw14_awake.f).bind fun t337 => (if t337 = true then ((spilelaw14_few.f ([] : List (S39)) l0_0 a0_1).bind fun t338 => (if t338 = true then ((spileref13_Copy.f l0_0 a0_1).bind fun bt339 => ((rod_Make.f k bt339.1 bt339.2 a1).bind fun bt343 => (if bt343.2 = 0 then ((slices_Clone39.f bt343.1).bind fun t347 => ((rod_Check.f k t347).bind fun t350 => (if t350 = 0 then (if (l0_0.length : Int) < 2 then (spilelaw14_RodExact.j0 k a1 bt343.1 true l0_0 a0_1) else (if (bt343.1.length : Int) = 0 then (spilelaw14_RodExact.j0 k a1 bt343.1 true l0_0 a0_1) else (spilelaw14_RodExact.j0 k a1 bt343.1 (decide (a1 < 1)) l0_0 a0_1))) else (spilelaw14_RodExact.j0 k a1 bt343.1 true l0_0 a0_1)))) else (some ((bt343.1.length : Int) == 0))))) else (some true))) else (some false))) = some r := h
 clear h
 replace H := Option.bind_eq_some_iff.mp H
 obtain ⟨t337, A30, H⟩ := H
 replace H : (if t337 = true then ((spilelaw14_few.f ([] : List (S39)) l0_0 a0_1).bind fun t338 => (if t338 = true then ((spileref13_Copy.f l0_0 a0_1).bind fun bt339 => ((rod_Make.f k bt339.1 bt339.2 a1).bind fun bt343 => (if bt343.2 = 0 then ((slices_Clone39.f bt343.1).bind fun t347 => ((rod_Check.f k t347).bind fun t350 => (if t350 = 0 then (if (l0_0.length : Int) < 2 then (spilelaw14_RodExact.j0 k a1 bt343.1 true l0_0 a0_1) else (if (bt343.1.length : Int) = 0 then (spilelaw14_RodExact.j0 k a1 bt343.1 true l0_0 a0_1) else (spilelaw14_RodExact.j0 k a1 bt343.1 (decide (a1 < 1)) l0_0 a0_1))) else (spilelaw14_RodExact.j0 k a1 bt343.1 true l0_0 a0_1)))) else (some ((bt343.1.length : Int) == 0))))) else (some true))) else (some false)) = some r := H
 have A3 := Aside0.mk A30
 clear A30
 by_cases c4 : t337 = true
 ·
  subst c4
  have H1 : ((spilelaw14_few.f ([] : List (S39)) l0_0 a0_1).bind fun t338 => (if t338 = true then ((spileref13_Copy.f l0_0 a0_1).bind fun bt339 => ((rod_Make.f k bt339.1 bt339.2 a1).bind fun bt343 => (if bt343.2 = 0 then ((slices_Clone39.f bt343.1).bind fun t347 => ((rod_Check.f k t347).bind fun t350 => (if t350 = 0 then (if (l0_0.length : Int) < 2 then (spilelaw14_RodExact.j0 k a1 bt343.1 true l0_0 a0_1) else (if (bt343.1.length : Int) = 0 then (spilelaw14_RodExact.j0 k a1 bt343.1 true l0_0 a0_1) else (spilelaw14_RodExact.j0 k a1 bt343.1 (decide (a1 < 1)) l0_0 a0_1))) else (spilelaw14_RodExact.j0 k a1 bt343.1 true l0_0 a0_1)))) else (some ((bt343.1.length : Int) == 0))))) else (some true))) = some r := by rw [if_pos rfl] at H; exact H
  clear H
  have H := H1
  clear H1
  replace H := Option.bind_eq_some_iff.mp H
  obtain ⟨t338, A50, H⟩ := H
  replace H : (if t338 = true then ((spileref13_Copy.f l0_0 a0_1).bind fun bt339 => ((rod_Make.f k bt339.1 bt339.2 a1).bind fun bt343 => (if bt343.2 = 0 then ((slices_Clone39.f bt343.1).bind fun t347 => ((rod_Check.f k t347).bind fun t350 => (if t350 = 0 then (if (l0_0.length : Int) < 2 then (spilelaw14_RodExact.j0 k a1 bt343.1 true l0_0 a0_1) else (if (bt343.1.length : Int) = 0 then (spilelaw14_RodExact.j0 k a1 bt343.1 true l0_0 a0_1) else (spilelaw14_RodExact.j0 k a1 bt343.1 (decide (a1 < 1)) l0_0 a0_1))) else (spilelaw14_RodExact.j0 k a1 bt343.1 true l0_0 a0_1)))) else (some ((bt343.1.length : Int) == 0))))) else (some true)) = some r := H
  have A5 := Aside0.mk A50
  clear A50
  by_cases c6 : t338 = true
  ·
   subst c6
   have H1 : ((spileref13_Copy.f l0_0 a0_1).bind fun bt339 => ((rod_Make.f k bt339.1 bt339.2 a1).bind fun bt343 => (if bt343.2 = 0 then ((slices_Clone39.f bt343.1).bind fun t347 => ((rod_Check.f k t347).bind fun t350 => (if t350 = 0 then (if (l0_0.length : Int) < 2 then (spilelaw14_RodExact.j0 k a1 bt343.1 true l0_0 a0_1) else (if (bt343.1.length : Int) = 0 then (spilelaw14_RodExact.j0 k a1 bt343.1 true l0_0 a0_1) else (spilelaw14_RodExact.j0 k a1 bt343.1 (decide (a1 < 1)) l0_0 a0_1))) else (spilelaw14_RodExact.j0 k a1 bt343.1 true l0_0 a0_1)))) else (some ((bt343.1.length : Int) == 0))))) = some r := by rw [if_pos rfl] at H; exact H
   clear H
   have H := H1
   clear H1
   replace H := Option.bind_eq_some_iff.mp H
   obtain ⟨⟨t339, t342⟩, A70, H⟩ := H
   replace H : ((rod_Make.f k t339 t342 a1).bind fun bt343 => (if bt343.2 = 0 then ((slices_Clone39.f bt343.1).bind fun t347 => ((rod_Check.f k t347).bind fun t350 => (if t350 = 0 then (if (l0_0.length : Int) < 2 then (spilelaw14_RodExact.j0 k a1 bt343.1 true l0_0 a0_1) else (if (bt343.1.length : Int) = 0 then (spilelaw14_RodExact.j0 k a1 bt343.1 true l0_0 a0_1) else (spilelaw14_RodExact.j0 k a1 bt343.1 (decide (a1 < 1)) l0_0 a0_1))) else (spilelaw14_RodExact.j0 k a1 bt343.1 true l0_0 a0_1)))) else (some ((bt343.1.length : Int) == 0)))) = some r := H
   have A7 := Aside0.mk A70
   clear A70
   replace H := Option.bind_eq_some_iff.mp H
   obtain ⟨⟨t343, t346⟩, A80, H⟩ := H
   replace H : (if t346 = 0 then ((slices_Clone39.f t343).bind fun t347 => ((rod_Check.f k t347).bind fun t350 => (if t350 = 0 then (if (l0_0.length : Int) < 2 then (spilelaw14_RodExact.j0 k a1 t343 true l0_0 a0_1) else (if (t343.length : Int) = 0 then (spilelaw14_RodExact.j0 k a1 t343 true l0_0 a0_1) else (spilelaw14_RodExact.j0 k a1 t343 (decide (a1 < 1)) l0_0 a0_1))) else (spilelaw14_RodExact.j0 k a1 t343 true l0_0 a0_1)))) else (some ((t343.length : Int) == 0))) = some r := H
   have A8 := Aside0.mk A80
   clear A80
   by_cases c9 : t346 = 0
   ·
    rw [if_pos c9] at H
    have c9b0 : (t346 == 0) = true := beq_iff_eq.mpr c9
    have c9b1 : (t346 != 0) = false := bne_eq_false_iff_eq.mpr c9
    clear c9
    have HC10 := Aside0.mk H
    clear H
    go_enter Tryd.func6, Tryd.ntmps6
    go_upto_region 8 with (first | ((with_reducible refine gate_dst (N := 2) rfl ?_); (try (refine gate_guard (by rfl) ?_; dsimp only)); refine box_event ?hg (N := 2) ?hd (cs := #[.slice A0_0 l0_0.length c0_0, .int .i64 a0_1]) (t := 24) ?hr ?_; (case hd => rfl); (case hg => rfl); (case hr => first | (go_simp; done) | (go_simp; rfl)); intro gb336 hg w11 hbox hb; have n0_ := Aside0.mk (below_step (by repeat (first | (with_reducible first | exact HB.out | apply below_alloc | apply pw_below_drewN | apply below_drew1) | exact HB.out)) hb); have n1_ := Aside0.mk (hbox); have n2_ := Aside0.mk ((by rw [hg]; exact (below_size (by repeat (first | (with_reducible first | exact HB.out | apply below_alloc | apply pw_below_drewN | apply below_drew1) | exact HB.out))) : w.heap.size ≤ gb336)); have n3_ := Aside0.mk ((by rw [hg]; exact (below_size (by repeat (first | (with_reducible first | exact HB.out | apply below_alloc | apply pw_below_drewN | apply below_drew1) | exact HB.out))) : w.heap.size ≤ gb336)); clear HB; have HB := n0_; have BK336 := n1_; have GW336 := n2_; have GE336 := n3_; clear n0_ n1_ n2_ n3_; clear hb hbox hg) | ((with_reducible refine gate_callee (f := 10) rfl ?_); refine goesL_ (some 14) rfl rfl Tryd.func10 (by kernel_rfl) rfl #[] rfl (by (try simp only [List.map_toArray, List.map_cons, List.map_nil]); first | done | rfl | (simp only [List.length_drop, List.length_take]; rfl)) ?_; (with_reducible refine (spilelaw14_awake.calls  true _ ?side1 A3.out).mono ?_); (case side1 => exact GI.below HG.out (by repeat (first | (with_reducible first | exact HB.out | apply below_alloc | apply pw_below_drewN | apply below_drew1 | refine below_set ?_ GE336.out) | exact HB.out))); rintro e w12 ⟨rfl, hb⟩; refine ⟨_, rfl, ?_⟩; have n0_ := Aside0.mk (blk_below (g := gb336) (o := .cells #[.slice A0_0 l0_0.length c0_0, .int .i64 a0_1] 24 (0, 0)) (by (with_reducible repeat (first | refine blk_drewN ?_ _ | refine blk_drew ?_ | refine blk_alloc ?_ _)); exact BK336.out) hb); have n1_ := Aside0.mk (below_step (by repeat (first | (with_reducible first | exact HB.out | apply below_alloc | apply pw_below_drewN | apply below_drew1 | refine below_set ?_ GE336.out) | exact HB.out)) hb); clear BK336; clear HB; have BK336 := n0_; have HB := n1_; clear n0_ n1_; (try clear hb); (try clear hb2); (try clear hk); (try clear hi); have hcz13_0 : w12.cell? ⟨gb336, 0, none⟩ = some (.slice A0_0 l0_0.length c0_0) := (blk_cell BK336.out 0).trans rfl; have hcz13_1 : w12.cell? ⟨gb336, 1, none⟩ = some (.int .i64 a0_1) := (blk_cell BK336.out 1).trans rfl; have hfz13_0 := blk_frozen BK336.out 0; have hfz13_1 := blk_frozen BK336.out 1) | ((with_reducible refine gate_callee (f := 11) rfl ?_); refine goesL_ (some 17) rfl rfl Tryd.func11 (by kernel_rfl) rfl #[.slice none 0 0, .agg #[.slice A0_0 l0_0.length c0_0, .int .i64 a0_1]] rfl (by (try simp only [List.map_toArray, List.map_cons, List.map_nil]); first | done | rfl | (simp only [List.length_drop, List.length_take]; rfl)) ?_; (refine (spilelaw14_few.calls _ _ ([] : List (S39)) _ _ l0_0 a0_1 true _ ?side1 ?side2 ?side3 ?side4 A5.out).mono ?_); (case side1 => exact Kd.C_nil _ _); (case side2 => exact Nat.le_refl _); (case side3 => repeat (first | exact (Kd.C_below HR0_0.out HB.out) | (with_reducible refine Kd.C_alloc ?_ _) | (with_reducible refine Kd.C_drewN ?_ _) | (with_reducible refine Kd.C_drew ?_))); (case side4 => exact HC0_0.out); rintro e w14 ⟨rfl, hb⟩; refine ⟨_, rfl, ?_⟩; have n0_ := Aside0.mk (blk_below (g := gb336) (o := .cells #[.slice A0_0 l0_0.length c0_0, .int .i64 a0_1] 24 (0, 0)) (by (with_reducible repeat (first | refine blk_drewN ?_ _ | refine blk_drew ?_ | refine blk_alloc ?_ _)); exact BK336.out) hb); have n1_ := Aside0.mk (below_step (by repeat (first | (with_reducible first | exact HB.out | apply below_alloc | apply pw_below_drewN | apply below_drew1 | refine below_set ?_ GE336.out) | exact HB.out)) hb); clear BK336; clear HB; have BK336 := n0_; have HB := n1_; clear n0_ n1_; (try clear hb); (try clear hb2); (try clear hk); (try clear hi); have hcz15_0 : w14.cell? ⟨gb336, 0, none⟩ = some (.slice A0_0 l0_0.length c0_0) := (blk_cell BK336.out 0).trans rfl; have hcz15_1 : w14.cell? ⟨gb336, 1, none⟩ = some (.int .i64 a0_1) := (blk_cell BK336.out 1).trans rfl; have hfz15_0 := blk_frozen BK336.out 0; have hfz15_1 := blk_frozen BK336.out 1) | ((with_reducible refine gate_callee (f := 13) rfl ?_); refine goesL_ (some 21) rfl rfl Tryd.func13 (by kernel_rfl) rfl #[.agg #[.slice A0_0 l0_0.length c0_0, .int .i64 a0_1]] rfl (by (try simp only [List.map_toArray, List.map_cons, List.map_nil]); first | done | rfl | (simp only [List.length_drop, List.length_take]; rfl)) ?_; (with_reducible refine (spileref13_Copy.calls _ _ l0_0 a0_1 t339 t342 _ ?side1 ?side2 A7.out).mono ?_); (case side1 => repeat (first | exact (Kd.C_below HR0_0.out HB.out) | (with_reducible refine Kd.C_alloc ?_ _) | (with_reducible refine Kd.C_drewN ?_ _) | (with_reducible refine Kd.C_drew ?_))); (case side2 => exact HC0_0.out); rintro e w16 ⟨v340, rfl, ho0, hb⟩; refine ⟨_, rfl, ?_⟩; have n0_ := Aside0.mk (Kd.R_lower ho0 (below_size (by repeat (first | (with_reducible first | exact HB.out | apply below_alloc | apply pw_below_drewN | apply below_drew1 | refine below_set ?_ GE336.out) | exact HB.out)))); have n1_ := Aside0.mk (blk_below (g := gb336) (o := .cells #[.slice A0_0 l0_0.length c0_0, .int .i64 a0_1] 24 (0, 0)) (by (with_reducible repeat (first | refine blk_drewN ?_ _ | refine blk_drew ?_ | refine blk_alloc ?_ _)); exact BK336.out) hb); have n2_ := Aside0.mk (below_step (by repeat (first | (with_reducible first | exact HB.out | apply below_alloc | apply pw_below_drewN | apply below_drew1 | refine below_set ?_ GE336.out) | exact HB.out)) hb); clear BK336; clear HB; have HO341 := n0_; have BK336 := n1_; have HB := n2_; clear n0_ n1_ n2_; (try clear hb); (try clear hb2); (try clear hk); (try clear hi); (try clear ho0); obtain ⟨Ao17, co17, eo17⟩ := Kd.R_slice HO341.out; subst eo17) | ((with_reducible refine gate_callee (f := 12) rfl ?_); refine goesL_ (some 23) rfl rfl Tryd.func12 (by kernel_rfl) rfl #[.agg #[.slice Ao17 t339.length co17, .int .i64 t342], .int .i64 a1] rfl (by (try simp only [List.map_toArray, List.map_cons, List.map_nil]); first | done | rfl | (simp only [List.length_drop, List.length_take]; rfl)) ?_; (with_reducible refine (rod_Make.calls k _ _ t339 t342 a1 t343 t346 _ ?side1 ?side2 A8.out).mono ?_); (case side1 => repeat (first | exact (Kd.R_reads' HO341.out).2.2 | (with_reducible refine Kd.C_alloc ?_ _) | (with_reducible refine Kd.C_drewN ?_ _) | (with_reducible refine Kd.C_drew ?_))); (case side2 => exact (Kd.R_reads' HO341.out).2.1); rintro e w18 ⟨v344, rfl, ho0, hb⟩; refine ⟨_, rfl, ?_⟩; have n0_ := Aside0.mk (Kd.R_elder' (by (with_reducible repeat (first | apply Kd.R_alloc | apply Kd.R_drewN | apply Kd.R_drew)); exact HO341.out) (Kd.R_base ho0) hb); have n1_ := Aside0.mk (Kd.R_lower (Kd.R_new' ho0 (Kd.R_lt (by (with_reducible repeat (first | apply Kd.R_alloc | apply Kd.R_drewN | apply Kd.R_drew)); exact HO341.out))) (below_size (by repeat (first | (with_reducible first | exact HB.out | apply below_alloc | apply pw_below_drewN | apply below_drew1 | refine below_set ?_ GE336.out) | exact HB.out)))); have n2_ := Aside0.mk (blk_below (g := gb336) (o := .cells #[.slice A0_0 l0_0.length c0_0, .int .i64 a0_1] 24 (0, 0)) (by (with_reducible repeat (first | refine blk_drewN ?_ _ | refine blk_drew ?_ | refine blk_alloc ?_ _)); exact BK336.out) hb); have n3_ := Aside0.mk (below_step (by repeat (first | (with_reducible first | exact HB.out | apply below_alloc | apply pw_below_drewN | apply below_drew1 | refine below_set ?_ GE336.out) | exact HB.out)) hb); clear HO341; clear BK336; clear HB; have HO341 := n0_; have HO345 := n1_; have BK336 := n2_; have HB := n3_; clear n0_ n1_ n2_ n3_; (try clear hb); (try clear hb2); (try clear hk); (try clear hi); (try clear ho0)))
    (try simp only [Act.put, List.setIfInBounds_toArray, List.set_cons_zero, List.set_cons_succ])
    go_cut [49] (fun v49 wc => ∃ (kq : Nat) (x49_9 : Bool), v49 = .bool x49_9 ∧ Aside0 (spilelaw14_RodExact.j0 kq a1 t343 x49_9 l0_0 a0_1 = some r) ∧ Aside0 (kq ≤ k) ∧ Aside0 (Kd.R k39 39 wc w.heap.size (fun _ => True) v344 t343) ∧ Aside0 (wc.heap[gb336]? = some (.cells #[(.slice A0_0 l0_0.length c0_0), .int .i64 a0_1] 24 (0, 0))) ∧ Aside0 (Below w.heap.size w wc))
    case first =>
     have H := HC10.out
     clear HC10
     replace H := Option.bind_eq_some_iff.mp H
     obtain ⟨t347, A190, H⟩ := H
     replace H : ((rod_Check.f k t347).bind fun t350 => (if t350 = 0 then (if (l0_0.length : Int) < 2 then (spilelaw14_RodExact.j0 k a1 t343 true l0_0 a0_1) else (if (t343.length : Int) = 0 then (spilelaw14_RodExact.j0 k a1 t343 true l0_0 a0_1) else (spilelaw14_RodExact.j0 k a1 t343 (decide (a1 < 1)) l0_0 a0_1))) else (spilelaw14_RodExact.j0 k a1 t343 true l0_0 a0_1))) = some r := H
     have A19 := Aside0.mk A190
     clear A190
     replace H := Option.bind_eq_some_iff.mp H
     obtain ⟨t350, A200, H⟩ := H
     replace H : (if t350 = 0 then (if (l0_0.length : Int) < 2 then (spilelaw14_RodExact.j0 k a1 t343 true l0_0 a0_1) else (if (t343.length : Int) = 0 then (spilelaw14_RodExact.j0 k a1 t343 true l0_0 a0_1) else (spilelaw14_RodExact.j0 k a1 t343 (decide (a1 < 1)) l0_0 a0_1))) else (spilelaw14_RodExact.j0 k a1 t343 true l0_0 a0_1)) = some r := H
     have A20 := Aside0.mk A200
     clear A200
     by_cases c21 : t350 = 0
     ·
      rw [if_pos c21] at H
      have c21b0 : (t350 == 0) = true := beq_iff_eq.mpr c21
      have c21b1 : (t350 != 0) = false := bne_eq_false_iff_eq.mpr c21
      clear c21
      (first | rw [c21b0] | (simp only [i64_w, i32_w]; rw [c21b0]) | skip)
      by_cases c22 : (l0_0.length : Int) < 2
      ·
       rw [if_pos c22] at H
       have c22b0 : decide ((l0_0.length : Int) < 2) = true := decide_eq_true c22
       have c22b1 : decide (l0_0.length < 2) = true := decide_eq_true (by omega)
       clear c22
       have H' := Aside0.mk H
       clear H
       obtain ⟨Ao23, co23, eo23⟩ := Kd.R_slice HO345.out
       subst eo23
       go_wp2_with (first | ((with_reducible refine gate_callee (f := 17) rfl ?_); refine goesL_ (some 32) rfl rfl Tryd.func17 (by kernel_rfl) rfl #[.slice Ao23 t343.length co23] rfl (by (try simp only [List.map_toArray, List.map_cons, List.map_nil]); first | done | rfl | (simp only [List.length_drop, List.length_take]; rfl)) ?_; (with_reducible refine (slices_Clone39.calls _ _ t343 t347 _ ?side1 ?side2 A19.out).mono ?_); (case side1 => repeat (first | exact (Kd.R_reads' HO345.out).2.2 | (with_reducible refine Kd.C_alloc ?_ _) | (with_reducible refine Kd.C_drewN ?_ _) | (with_reducible refine Kd.C_drew ?_))); (case side2 => exact (Kd.R_reads' HO345.out).2.1); rintro e w24 ⟨v348, rfl, ho0, hb⟩; refine ⟨_, rfl, ?_⟩; have n0_ := Aside0.mk (Kd.R_elder' (by (with_reducible repeat (first | apply Kd.R_alloc | apply Kd.R_drewN | apply Kd.R_drew)); exact HO341.out) (Kd.R_base ho0) hb); have n1_ := Aside0.mk (Kd.R_elder' (by (with_reducible repeat (first | apply Kd.R_alloc | apply Kd.R_drewN | apply Kd.R_drew)); exact HO345.out) (Kd.R_base ho0) hb); have n2_ := Aside0.mk (Kd.R_lower (Kd.R_new' (Kd.R_new' ho0 (Kd.R_lt (by (with_reducible repeat (first | apply Kd.R_alloc | apply Kd.R_drewN | apply Kd.R_drew)); exact HO341.out))) (Kd.R_lt (by (with_reducible repeat (first | apply Kd.R_alloc | apply Kd.R_drewN | apply Kd.R_drew)); exact HO345.out))) (below_size (by repeat (first | (with_reducible first | exact HB.out | apply below_alloc | apply pw_below_drewN | apply below_drew1 | refine below_set ?_ GE336.out) | exact HB.out)))); have n3_ := Aside0.mk (blk_below (g := gb336) (o := .cells #[.slice A0_0 l0_0.length c0_0, .int .i64 a0_1] 24 (0, 0)) (by (with_reducible repeat (first | refine blk_drewN ?_ _ | refine blk_drew ?_ | refine blk_alloc ?_ _)); exact BK336.out) hb); have n4_ := Aside0.mk (below_step (by repeat (first | (with_reducible first | exact HB.out | apply below_alloc | apply pw_below_drewN | apply below_drew1 | refine below_set ?_ GE336.out) | exact HB.out)) hb); clear HO341; clear HO345; clear BK336; clear HB; have HO341 := n0_; have HO345 := n1_; have HO349 := n2_; have BK336 := n3_; have HB := n4_; clear n0_ n1_ n2_ n3_ n4_; (try clear hb); (try clear hb2); (try clear hk); (try clear hi); (try clear ho0); obtain ⟨Ao25, co25, eo25⟩ := Kd.R_slice HO349.out; subst eo25) | ((with_reducible refine gate_callee (f := 21) rfl ?_); refine goesL_ (some 33) rfl rfl Tryd.func21 (by kernel_rfl) rfl #[.slice Ao25 t347.length co25] rfl (by (try simp only [List.map_toArray, List.map_cons, List.map_nil]); first | done | rfl | (simp only [List.length_drop, List.length_take]; rfl)) ?_; (with_reducible refine (rod_Check.calls k _ _ t347 t350 _ ?side1 ?side2 A20.out).mono ?_); (case side1 => repeat (first | exact (Kd.R_reads' HO349.out).2.2 | (with_reducible refine Kd.C_alloc ?_ _) | (with_reducible refine Kd.C_drewN ?_ _) | (with_reducible refine Kd.C_drew ?_))); (case side2 => exact (Kd.R_reads' HO349.out).2.1); rintro e w26 ⟨rfl, hb⟩; refine ⟨_, rfl, ?_⟩; have n0_ := Aside0.mk (Kd.R_below (by (with_reducible repeat (first | apply Kd.R_alloc | apply Kd.R_drewN | apply Kd.R_drew)); exact HO341.out) hb); have n1_ := Aside0.mk (Kd.R_below (by (with_reducible repeat (first | apply Kd.R_alloc | apply Kd.R_drewN | apply Kd.R_drew)); exact HO345.out) hb); have n2_ := Aside0.mk (Kd.R_below (by (with_reducible repeat (first | apply Kd.R_alloc | apply Kd.R_drewN | apply Kd.R_drew)); exact HO349.out) hb); have n3_ := Aside0.mk (blk_below (g := gb336) (o := .cells #[.slice A0_0 l0_0.length c0_0, .int .i64 a0_1] 24 (0, 0)) (by (with_reducible repeat (first | refine blk_drewN ?_ _ | refine blk_drew ?_ | refine blk_alloc ?_ _)); exact BK336.out) hb); have n4_ := Aside0.mk (below_step (by repeat (first | (with_reducible first | exact HB.out | apply below_alloc | apply pw_below_drewN | apply below_drew1 | refine below_set ?_ GE336.out) | exact HB.out)) hb); clear HO341; clear HO345; clear HO349; clear BK336; clear HB; have HO341 := n0_; have HO345 := n1_; have HO349 := n2_; have BK336 := n3_; have HB := n4_; clear n0_ n1_ n2_ n3_ n4_; (try clear hb); (try clear hb2); (try clear hk); (try clear hi); have hcz27_0 : w26.cell? ⟨gb336, 0, none⟩ = some (.slice A0_0 l0_0.length c0_0) := (blk_cell BK336.out 0).trans rfl; have hcz27_1 : w26.cell? ⟨gb336, 1, none⟩ = some (.int .i64 a0_1) := (blk_cell BK336.out 1).trans rfl; have hfz27_0 := blk_frozen BK336.out 0; have hfz27_1 := blk_frozen BK336.out 1))
       go_meet
       case rel => exact ⟨_, (true), (by first | rfl | (simp; done) | (simp [*]; done)), H', ⟨by first | omega | exact Nat.le_refl _⟩, ⟨by (with_reducible repeat (first | apply Kd.R_alloc | apply Kd.R_drewN | apply Kd.R_drew)); exact Kd.R_mono HO345.out (fun _ hk => trivial)⟩, ⟨by (with_reducible repeat (first | refine blk_drewN ?_ _ | refine blk_drew ?_ | refine blk_alloc ?_ _)); exact BK336.out⟩, ⟨by repeat (first | (with_reducible first | exact HB.out | apply below_alloc | apply pw_below_drewN | apply below_drew1 | refine below_set ?_ GE336.out) | exact HB.out)⟩⟩
      ·
       rw [if_neg c22] at H
       have c22b0 : decide ((l0_0.length : Int) < 2) = false := decide_eq_false c22
       have c22b1 : decide (l0_0.length < 2) = false := decide_eq_false (by omega)
       clear c22
       by_cases c28 : (t343.length : Int) = 0
       ·
        rw [if_pos c28] at H
        have c28b0 : ((t343.length : Int) == 0) = true := beq_iff_eq.mpr c28
        have c28b1 : ((t343.length : Int) != 0) = false := bne_eq_false_iff_eq.mpr c28
        clear c28
        have H' := Aside0.mk H
        clear H
        obtain ⟨Ao29, co29, eo29⟩ := Kd.R_slice HO345.out
        subst eo29
        go_wp2_with (first | ((with_reducible refine gate_callee (f := 17) rfl ?_); refine goesL_ (some 32) rfl rfl Tryd.func17 (by kernel_rfl) rfl #[.slice Ao29 t343.length co29] rfl (by (try simp only [List.map_toArray, List.map_cons, List.map_nil]); first | done | rfl | (simp only [List.length_drop, List.length_take]; rfl)) ?_; (with_reducible refine (slices_Clone39.calls _ _ t343 t347 _ ?side1 ?side2 A19.out).mono ?_); (case side1 => repeat (first | exact (Kd.R_reads' HO345.out).2.2 | (with_reducible refine Kd.C_alloc ?_ _) | (with_reducible refine Kd.C_drewN ?_ _) | (with_reducible refine Kd.C_drew ?_))); (case side2 => exact (Kd.R_reads' HO345.out).2.1); rintro e w30 ⟨v348, rfl, ho0, hb⟩; refine ⟨_, rfl, ?_⟩; have n0_ := Aside0.mk (Kd.R_elder' (by (with_reducible repeat (first | apply Kd.R_alloc | apply Kd.R_drewN | apply Kd.R_drew)); exact HO341.out) (Kd.R_base ho0) hb); have n1_ := Aside0.mk (Kd.R_elder' (by (with_reducible repeat (first | apply Kd.R_alloc | apply Kd.R_drewN | apply Kd.R_drew)); exact HO345.out) (Kd.R_base ho0) hb); have n2_ := Aside0.mk (Kd.R_lower (Kd.R_new' (Kd.R_new' ho0 (Kd.R_lt (by (with_reducible repeat (first | apply Kd.R_alloc | apply Kd.R_drewN | apply Kd.R_drew)); exact HO341.out))) (Kd.R_lt (by (with_reducible repeat (first | apply Kd.R_alloc | apply Kd.R_drewN | apply Kd.R_drew)); exact HO345.out))) (below_size (by repeat (first | (with_reducible first | exact HB.out | apply below_alloc | apply pw_below_drewN | apply below_drew1 | refine below_set ?_ GE336.out) | exact HB.out)))); have n3_ := Aside0.mk (blk_below (g := gb336) (o := .cells #[.slice A0_0 l0_0.length c0_0, .int .i64 a0_1] 24 (0, 0)) (by (with_reducible repeat (first | refine blk_drewN ?_ _ | refine blk_drew ?_ | refine blk_alloc ?_ _)); exact BK336.out) hb); have n4_ := Aside0.mk (below_step (by repeat (first | (with_reducible first | exact HB.out | apply below_alloc | apply pw_below_drewN | apply below_drew1 | refine below_set ?_ GE336.out) | exact HB.out)) hb); clear HO341; clear HO345; clear BK336; clear HB; have HO341 := n0_; have HO345 := n1_; have HO349 := n2_; have BK336 := n3_; have HB := n4_; clear n0_ n1_ n2_ n3_ n4_; (try clear hb); (try clear hb2); (try clear hk); (try clear hi); (try clear ho0); obtain ⟨Ao31, co31, eo31⟩ := Kd.R_slice HO349.out; subst eo31) | ((with_reducible refine gate_callee (f := 21) rfl ?_); refine goesL_ (some 33) rfl rfl Tryd.func21 (by kernel_rfl) rfl #[.slice Ao31 t347.length co31] rfl (by (try simp only [List.map_toArray, List.map_cons, List.map_nil]); first | done | rfl | (simp only [List.length_drop, List.length_take]; rfl)) ?_; (with_reducible refine (rod_Check.calls k _ _ t347 t350 _ ?side1 ?side2 A20.out).mono ?_); (case side1 => repeat (first | exact (Kd.R_reads' HO349.out).2.2 | (with_reducible refine Kd.C_alloc ?_ _) | (with_reducible refine Kd.C_drewN ?_ _) | (with_reducible refine Kd.C_drew ?_))); (case side2 => exact (Kd.R_reads' HO349.out).2.1); rintro e w32 ⟨rfl, hb⟩; refine ⟨_, rfl, ?_⟩; have n0_ := Aside0.mk (Kd.R_below (by (with_reducible repeat (first | apply Kd.R_alloc | apply Kd.R_drewN | apply Kd.R_drew)); exact HO341.out) hb); have n1_ := Aside0.mk (Kd.R_below (by (with_reducible repeat (first | apply Kd.R_alloc | apply Kd.R_drewN | apply Kd.R_drew)); exact HO345.out) hb); have n2_ := Aside0.mk (Kd.R_below (by (with_reducible repeat (first | apply Kd.R_alloc | apply Kd.R_drewN | apply Kd.R_drew)); exact HO349.out) hb); have n3_ := Aside0.mk (blk_below (g := gb336) (o := .cells #[.slice A0_0 l0_0.length c0_0, .int .i64 a0_1] 24 (0, 0)) (by (with_reducible repeat (first | refine blk_drewN ?_ _ | refine blk_drew ?_ | refine blk_alloc ?_ _)); exact BK336.out) hb); have n4_ := Aside0.mk (below_step (by repeat (first | (with_reducible first | exact HB.out | apply below_alloc | apply pw_below_drewN | apply below_drew1 | refine below_set ?_ GE336.out) | exact HB.out)) hb); clear HO341; clear HO345; clear HO349; clear BK336; clear HB; have HO341 := n0_; have HO345 := n1_; have HO349 := n2_; have BK336 := n3_; have HB := n4_; clear n0_ n1_ n2_ n3_ n4_; (try clear hb); (try clear hb2); (try clear hk); (try clear hi); have hcz33_0 : w32.cell? ⟨gb336, 0, none⟩ = some (.slice A0_0 l0_0.length c0_0) := (blk_cell BK336.out 0).trans rfl; have hcz33_1 : w32.cell? ⟨gb336, 1, none⟩ = some (.int .i64 a0_1) := (blk_cell BK336.out 1).trans rfl; have hfz33_0 := blk_frozen BK336.out 0; have hfz33_1 := blk_frozen BK336.out 1))
        go_meet
        case rel => exact ⟨_, (true), (by first | rfl | (simp; done) | (simp [*]; done)), H', ⟨by first | omega | exact Nat.le_refl _⟩, ⟨by (with_reducible repeat (first | apply Kd.R_alloc | apply Kd.R_drewN | apply Kd.R_drew)); exact Kd.R_mono HO345.out (fun _ hk => trivial)⟩, ⟨by (with_reducible repeat (first | refine blk_drewN ?_ _ | refine blk_drew ?_ | refine blk_alloc ?_ _)); exact BK336.out⟩, ⟨by repeat (first | (with_reducible first | exact HB.out | apply below_alloc | apply pw_below_drewN | apply below_drew1 | refine below_set ?_ GE336.out) | exact HB.out)⟩⟩
       ·
        rw [if_neg c28] at H
        have c28b0 : ((t343.length : Int) == 0) = false := beq_eq_false_iff_ne.mpr c28
        have c28b1 : ((t343.length : Int) != 0) = true := bne_iff_ne.mpr c28
        have c28b2 : ¬ (t343 = []) := fun h_ => c28 (by rw [h_]; rfl)
        have H' := Aside0.mk H
        clear H
        obtain ⟨Ao34, co34, eo34⟩ := Kd.R_slice HO345.out
        subst eo34
        go_wp2_with (first | ((with_reducible refine gate_callee (f := 17) rfl ?_); refine goesL_ (some 32) rfl rfl Tryd.func17 (by kernel_rfl) rfl #[.slice Ao34 t343.length co34] rfl (by (try simp only [List.map_toArray, List.map_cons, List.map_nil]); first | done | rfl | (simp only [List.length_drop, List.length_take]; rfl)) ?_; (with_reducible refine (slices_Clone39.calls _ _ t343 t347 _ ?side1 ?side2 A19.out).mono ?_); (case side1 => repeat (first | exact (Kd.R_reads' HO345.out).2.2 | (with_reducible refine Kd.C_alloc ?_ _) | (with_reducible refine Kd.C_drewN ?_ _) | (with_reducible refine Kd.C_drew ?_))); (case side2 => exact (Kd.R_reads' HO345.out).2.1); rintro e w35 ⟨v348, rfl, ho0, hb⟩; refine ⟨_, rfl, ?_⟩; have n0_ := Aside0.mk (Kd.R_elder' (by (with_reducible repeat (first | apply Kd.R_alloc | apply Kd.R_drewN | apply Kd.R_drew)); exact HO341.out) (Kd.R_base ho0) hb); have n1_ := Aside0.mk (Kd.R_elder' (by (with_reducible repeat (first | apply Kd.R_alloc | apply Kd.R_drewN | apply Kd.R_drew)); exact HO345.out) (Kd.R_base ho0) hb); have n2_ := Aside0.mk (Kd.R_lower (Kd.R_new' (Kd.R_new' ho0 (Kd.R_lt (by (with_reducible repeat (first | apply Kd.R_alloc | apply Kd.R_drewN | apply Kd.R_drew)); exact HO341.out))) (Kd.R_lt (by (with_reducible repeat (first | apply Kd.R_alloc | apply Kd.R_drewN | apply Kd.R_drew)); exact HO345.out))) (below_size (by repeat (first | (with_reducible first | exact HB.out | apply below_alloc | apply pw_below_drewN | apply below_drew1 | refine below_set ?_ GE336.out) | exact HB.out)))); have n3_ := Aside0.mk (blk_below (g := gb336) (o := .cells #[.slice A0_0 l0_0.length c0_0, .int .i64 a0_1] 24 (0, 0)) (by (with_reducible repeat (first | refine blk_drewN ?_ _ | refine blk_drew ?_ | refine blk_alloc ?_ _)); exact BK336.out) hb); have n4_ := Aside0.mk (below_step (by repeat (first | (with_reducible first | exact HB.out | apply below_alloc | apply pw_below_drewN | apply below_drew1 | refine below_set ?_ GE336.out) | exact HB.out)) hb); clear HO341; clear HO345; clear BK336; clear HB; have HO341 := n0_; have HO345 := n1_; have HO349 := n2_; have BK336 := n3_; have HB := n4_; clear n0_ n1_ n2_ n3_ n4_; (try clear hb); (try clear hb2); (try clear hk); (try clear hi); (try clear ho0); obtain ⟨Ao36, co36, eo36⟩ := Kd.R_slice HO349.out; subst eo36) | ((with_reducible refine gate_callee (f := 21) rfl ?_); refine goesL_ (some 33) rfl rfl Tryd.func21 (by kernel_rfl) rfl #[.slice Ao36 t347.length co36] rfl (by (try simp only [List.map_toArray, List.map_cons, List.map_nil]); first | done | rfl | (simp only [List.length_drop, List.length_take]; rfl)) ?_; (with_reducible refine (rod_Check.calls k _ _ t347 t350 _ ?side1 ?side2 A20.out).mono ?_); (case side1 => repeat (first | exact (Kd.R_reads' HO349.out).2.2 | (with_reducible refine Kd.C_alloc ?_ _) | (with_reducible refine Kd.C_drewN ?_ _) | (with_reducible refine Kd.C_drew ?_))); (case side2 => exact (Kd.R_reads' HO349.out).2.1); rintro e w37 ⟨rfl, hb⟩; refine ⟨_, rfl, ?_⟩; have n0_ := Aside0.mk (Kd.R_below (by (with_reducible repeat (first | apply Kd.R_alloc | apply Kd.R_drewN | apply Kd.R_drew)); exact HO341.out) hb); have n1_ := Aside0.mk (Kd.R_below (by (with_reducible repeat (first | apply Kd.R_alloc | apply Kd.R_drewN | apply Kd.R_drew)); exact HO345.out) hb); have n2_ := Aside0.mk (Kd.R_below (by (with_reducible repeat (first | apply Kd.R_alloc | apply Kd.R_drewN | apply Kd.R_drew)); exact HO349.out) hb); have n3_ := Aside0.mk (blk_below (g := gb336) (o := .cells #[.slice A0_0 l0_0.length c0_0, .int .i64 a0_1] 24 (0, 0)) (by (with_reducible repeat (first | refine blk_drewN ?_ _ | refine blk_drew ?_ | refine blk_alloc ?_ _)); exact BK336.out) hb); have n4_ := Aside0.mk (below_step (by repeat (first | (with_reducible first | exact HB.out | apply below_alloc | apply pw_below_drewN | apply below_drew1 | refine below_set ?_ GE336.out) | exact HB.out)) hb); clear HO341; clear HO345; clear HO349; clear BK336; clear HB; have HO341 := n0_; have HO345 := n1_; have HO349 := n2_; have BK336 := n3_; have HB := n4_; clear n0_ n1_ n2_ n3_ n4_; (try clear hb); (try clear hb2); (try clear hk); (try clear hi); have hcz38_0 : w37.cell? ⟨gb336, 0, none⟩ = some (.slice A0_0 l0_0.length c0_0) := (blk_cell BK336.out 0).trans rfl; have hcz38_1 : w37.cell? ⟨gb336, 1, none⟩ = some (.int .i64 a0_1) := (blk_cell BK336.out 1).trans rfl; have hfz38_0 := blk_frozen BK336.out 0; have hfz38_1 := blk_frozen BK336.out 1))
        go_meet
        case rel => exact ⟨_, (decide (a1 < 1)), (by first | rfl | (simp; done) | (simp [*]; done)), H', ⟨by first | omega | exact Nat.le_refl _⟩, ⟨by (with_reducible repeat (first | apply Kd.R_alloc | apply Kd.R_drewN | apply Kd.R_drew)); exact Kd.R_mono HO345.out (fun _ hk => trivial)⟩, ⟨by (with_reducible repeat (first | refine blk_drewN ?_ _ | refine blk_drew ?_ | refine blk_alloc ?_ _)); exact BK336.out⟩, ⟨by repeat (first | (with_reducible first | exact HB.out | apply below_alloc | apply pw_below_drewN | apply below_drew1 | refine below_set ?_ GE336.out) | exact HB.out)⟩⟩
     ·
      rw [if_neg c21] at H
      have c21b0 : (t350 == 0) = false := beq_eq_false_iff_ne.mpr c21
      have c21b1 : (t350 != 0) = true := bne_iff_ne.mpr c21
      (first | rw [c21b0] | (simp only [i64_w, i32_w]; rw [c21b0]) | skip)
      have H' := Aside0.mk H
      clear H
      obtain ⟨Ao39, co39, eo39⟩ := Kd.R_slice HO345.out
      subst eo39
      go_wp2_with (first | ((with_reducible refine gate_callee (f := 17) rfl ?_); refine goesL_ (some 32) rfl rfl Tryd.func17 (by kernel_rfl) rfl #[.slice Ao39 t343.length co39] rfl (by (try simp only [List.map_toArray, List.map_cons, List.map_nil]); first | done | rfl | (simp only [List.length_drop, List.length_take]; rfl)) ?_; (with_reducible refine (slices_Clone39.calls _ _ t343 t347 _ ?side1 ?side2 A19.out).mono ?_); (case side1 => repeat (first | exact (Kd.R_reads' HO345.out).2.2 | (with_reducible refine Kd.C_alloc ?_ _) | (with_reducible refine Kd.C_drewN ?_ _) | (with_reducible refine Kd.C_drew ?_))); (case side2 => exact (Kd.R_reads' HO345.out).2.1); rintro e w40 ⟨v348, rfl, ho0, hb⟩; refine ⟨_, rfl, ?_⟩; have n0_ := Aside0.mk (Kd.R_elder' (by (with_reducible repeat (first | apply Kd.R_alloc | apply Kd.R_drewN | apply Kd.R_drew)); exact HO341.out) (Kd.R_base ho0) hb); have n1_ := Aside0.mk (Kd.R_elder' (by (with_reducible repeat (first | apply Kd.R_alloc | apply Kd.R_drewN | apply Kd.R_drew)); exact HO345.out) (Kd.R_base ho0) hb); have n2_ := Aside0.mk (Kd.R_lower (Kd.R_new' (Kd.R_new' ho0 (Kd.R_lt (by (with_reducible repeat (first | apply Kd.R_alloc | apply Kd.R_drewN | apply Kd.R_drew)); exact HO341.out))) (Kd.R_lt (by (with_reducible repeat (first | apply Kd.R_alloc | apply Kd.R_drewN | apply Kd.R_drew)); exact HO345.out))) (below_size (by repeat (first | (with_reducible first | exact HB.out | apply below_alloc | apply pw_below_drewN | apply below_drew1 | refine below_set ?_ GE336.out) | exact HB.out)))); have n3_ := Aside0.mk (blk_below (g := gb336) (o := .cells #[.slice A0_0 l0_0.length c0_0, .int .i64 a0_1] 24 (0, 0)) (by (with_reducible repeat (first | refine blk_drewN ?_ _ | refine blk_drew ?_ | refine blk_alloc ?_ _)); exact BK336.out) hb); have n4_ := Aside0.mk (below_step (by repeat (first | (with_reducible first | exact HB.out | apply below_alloc | apply pw_below_drewN | apply below_drew1 | refine below_set ?_ GE336.out) | exact HB.out)) hb); clear HO341; clear HO345; clear BK336; clear HB; have HO341 := n0_; have HO345 := n1_; have HO349 := n2_; have BK336 := n3_; have HB := n4_; clear n0_ n1_ n2_ n3_ n4_; (try clear hb); (try clear hb2); (try clear hk); (try clear hi); (try clear ho0); obtain ⟨Ao41, co41, eo41⟩ := Kd.R_slice HO349.out; subst eo41) | ((with_reducible refine gate_callee (f := 21) rfl ?_); refine goesL_ (some 33) rfl rfl Tryd.func21 (by kernel_rfl) rfl #[.slice Ao41 t347.length co41] rfl (by (try simp only [List.map_toArray, List.map_cons, List.map_nil]); first | done | rfl | (simp only [List.length_drop, List.length_take]; rfl)) ?_; (with_reducible refine (rod_Check.calls k _ _ t347 t350 _ ?side1 ?side2 A20.out).mono ?_); (case side1 => repeat (first | exact (Kd.R_reads' HO349.out).2.2 | (with_reducible refine Kd.C_alloc ?_ _) | (with_reducible refine Kd.C_drewN ?_ _) | (with_reducible refine Kd.C_drew ?_))); (case side2 => exact (Kd.R_reads' HO349.out).2.1); rintro e w42 ⟨rfl, hb⟩; refine ⟨_, rfl, ?_⟩; have n0_ := Aside0.mk (Kd.R_below (by (with_reducible repeat (first | apply Kd.R_alloc | apply Kd.R_drewN | apply Kd.R_drew)); exact HO341.out) hb); have n1_ := Aside0.mk (Kd.R_below (by (with_reducible repeat (first | apply Kd.R_alloc | apply Kd.R_drewN | apply Kd.R_drew)); exact HO345.out) hb); have n2_ := Aside0.mk (Kd.R_below (by (with_reducible repeat (first | apply Kd.R_alloc | apply Kd.R_drewN | apply Kd.R_drew)); exact HO349.out) hb); have n3_ := Aside0.mk (blk_below (g := gb336) (o := .cells #[.slice A0_0 l0_0.length c0_0, .int .i64 a0_1] 24 (0, 0)) (by (with_reducible repeat (first | refine blk_drewN ?_ _ | refine blk_drew ?_ | refine blk_alloc ?_ _)); exact BK336.out) hb); have n4_ := Aside0.mk (below_step (by repeat (first | (with_reducible first | exact HB.out | apply below_alloc | apply pw_below_drewN | apply below_drew1 | refine below_set ?_ GE336.out) | exact HB.out)) hb); clear HO341; clear HO345; clear HO349; clear BK336; clear HB; have HO341 := n0_; have HO345 := n1_; have HO349 := n2_; have BK336 := n3_; have HB := n4_; clear n0_ n1_ n2_ n3_ n4_; (try clear hb); (try clear hb2); (try clear hk); (try clear hi)))
      go_meet
      case rel => exact ⟨_, (true), (by first | rfl | (simp; done) | (simp [*]; done)), H', ⟨by first | omega | exact Nat.le_refl _⟩, ⟨by (with_reducible repeat (first | apply Kd.R_alloc | apply Kd.R_drewN | apply Kd.R_drew)); exact Kd.R_mono HO345.out (fun _ hk => trivial)⟩, ⟨by (with_reducible repeat (first | refine blk_drewN ?_ _ | refine blk_drew ?_ | refine blk_alloc ?_ _)); exact BK336.out⟩, ⟨by repeat (first | (with_reducible first | exact HB.out | apply below_alloc | apply pw_below_drewN | apply below_drew1 | refine below_set ?_ GE336.out) | exact HB.out)⟩⟩
    case rest =>
     clear HC10
     try clear c1
     try clear c2
     try clear p2
     try clear c4
     try clear c6
     try clear c9
     try clear c9b0
     try clear c9b1
     try clear c10
     try clear c11
     try clear c12
     try clear c13
     try clear c17
     try clear c21
     try clear c21b0
     try clear c21b1
     try clear c22
     try clear c22b0
     try clear c22b1
     try clear c28
     try clear c28b0
     try clear c28b1
     try clear c28b2
     try clear hcz13_0
     try clear hcz13_1
     try clear hcz15_0
     try clear hcz15_1
     try clear hcz27_0
     try clear hcz27_1
     try clear hcz33_0
     try clear hcz33_1
     try clear hcz38_0
     try clear hcz38_1
     try clear hfz13_0
     try clear hfz13_1
     try clear hfz15_0
     try clear hfz15_1
     try clear hfz27_0
     try clear hfz27_1
     try clear hfz33_0
     try clear hfz33_1
     try clear hfz38_0
     try clear hfz38_1
     obtain ⟨kq, x49_9, rfl, HA, HJ9, HO_5, BK336, HB⟩ := hcut
     cases kq with
     | zero => exact absurd HA.out (by simp [spilelaw14_RodExact.j0])
     | succ kj9 =>
      have H := HA.out
      clear HA
      simp only [spilelaw14_RodExact.j0] at H
      by_cases c43 : x49_9 = true
      ·
       subst c43
       have H1 : (some false) = some r := by rw [if_pos rfl] at H; exact H
       clear H
       have H := H1
       clear H1
       subst hr_
       exact absurd H (by simp)
      ·
       replace c43 := Bool.eq_false_iff.mpr c43
       subst c43
       have H1 : (spilelaw14_RodExact.l0 kj9 a1 t343 t343 (t343.length : Int) 0 l0_0 a0_1) = some r := by rw [if_neg (show ¬ (false = true) by decide)] at H; exact H
       clear H
       have H := H1
       clear H1
       have H' := Aside0.mk H
       clear H
       obtain ⟨Ao44, co44, eo44⟩ := Kd.R_slice HO_5.out
       subst eo44
       go_wp2
       go_loopg [52] kj9 (fun kq v52 w' => ∃ (x52_2 : Int), v52 = .int .i64 x52_2 ∧ Aside0 (spilelaw14_RodExact.l0 kq a1 t343 t343 (t343.length : Int) x52_2 l0_0 a0_1 = some r) ∧ Aside0 (kq ≤ kj9) ∧ Aside0 (Kd.R k39 39 w' w.heap.size (fun _ => True) (.slice Ao44 t343.length co44) t343) ∧ Aside0 (Kd.R k39 39 w' w.heap.size (fun _ => True) (.slice Ao44 t343.length co44) t343) ∧ Aside0 (w'.heap[gb336]? = some (.cells #[(.slice A0_0 l0_0.length c0_0), .int .i64 a0_1] 24 (0, 0))) ∧ Aside0 (Below w.heap.size w w'))
       case atStart => exact ⟨(0), (by first | rfl | (simp; done) | (simp [*]; done)), H', ⟨Nat.le_refl _⟩, ⟨by (with_reducible repeat (first | apply Kd.R_alloc | apply Kd.R_drewN | apply Kd.R_drew)); exact HO_5.out⟩, ⟨by (with_reducible repeat (first | apply Kd.R_alloc | apply Kd.R_drewN | apply Kd.R_drew)); exact HO_5.out⟩, ⟨by (with_reducible repeat (first | refine blk_drewN ?_ _ | refine blk_drew ?_ | refine blk_alloc ?_ _)); exact BK336.out⟩, ⟨by repeat (first | (with_reducible first | exact HB.out | apply below_alloc | apply pw_below_drewN | apply below_drew1 | refine below_set ?_ GE336.out) | exact HB.out)⟩⟩
       case round =>
        clear H'
        try clear c1
        try clear c2
        try clear p2
        try clear c4
        try clear c6
        try clear c9
        try clear c9b0
        try clear c9b1
        try clear c10
        try clear c11
        try clear c12
        try clear c13
        try clear c17
        try clear c21
        try clear c21b0
        try clear c21b1
        try clear c22
        try clear c22b0
        try clear c22b1
        try clear c28
        try clear c28b0
        try clear c28b1
        try clear c28b2
        try clear c43
        try clear hcz13_0
        try clear hcz13_1
        try clear hcz15_0
        try clear hcz15_1
        try clear hcz27_0
        try clear hcz27_1
        try clear hcz33_0
        try clear hcz33_1
        try clear hcz38_0
        try clear hcz38_1
        try clear hfz13_0
        try clear hfz13_1
        try clear hfz15_0
        try clear hfz15_1
        try clear hfz27_0
        try clear hfz27_1
        try clear hfz33_0
        try clear hfz33_1
        try clear hfz38_0
        try clear hfz38_1
        try clear p2
        obtain ⟨x52_2, rfl, HA, HK2, HO_5, HO_50, BK336, HB⟩ := hrel
        cases gk with
        | zero => exact absurd HA.out (by simp [spilelaw14_RodExact.l0])
        | succ k2 =>
         have H := HA.out
         clear HA
         simp only [spilelaw14_RodExact.l0] at H
         by_cases c45 : x52_2 < (t343.length : Int)
         ·
          rw [if_pos c45] at H
          have c45b0 : decide (x52_2 < (t343.length : Int)) = true := decide_eq_true c45
          clear c45
          by_cases c46 : 0 ≤ x52_2
          ·
           rw [if_pos c46] at H
           have c46b0 : decide (0 ≤ x52_2) = true := decide_eq_true c46
           clear c46
           by_cases c47 : x52_2 < (t343.length : Int)
           ·
            rw [if_pos c47] at H
            have c47b0 : decide (x52_2 < (t343.length : Int)) = true := decide_eq_true c47
            clear c47
            replace H := Option.bind_eq_some_iff.mp H
            obtain ⟨⟨t355, t358⟩, A480, H⟩ := H
            replace H : ((dip_Read.f k2 t355 t358 ((rd_T39 t343 x52_2).f0)).bind fun bt359 => (if bt359.2 = 0 then (if a1 = 0 then (none) else (if (Int.tmod ((rd_T39 t343 x52_2).f1) a1) = 0 then (if bt359.1 < ((rd_T39 t343 x52_2).f1) then (spilelaw14_RodExact.j2 k2 a1 t343 t343 (t343.length : Int) x52_2 true l0_0 a0_1 ((rd_T39 t343 x52_2).f0) ((rd_T39 t343 x52_2).f1)) else (spilelaw14_RodExact.j2 k2 a1 t343 t343 (t343.length : Int) x52_2 (decide (bt359.1 ≥ (wrap64 (((rd_T39 t343 x52_2).f1) + a1)))) l0_0 a0_1 ((rd_T39 t343 x52_2).f0) ((rd_T39 t343 x52_2).f1))) else (spilelaw14_RodExact.j2 k2 a1 t343 t343 (t343.length : Int) x52_2 true l0_0 a0_1 ((rd_T39 t343 x52_2).f0) ((rd_T39 t343 x52_2).f1)))) else (spilelaw14_RodExact.j2 k2 a1 t343 t343 (t343.length : Int) x52_2 true l0_0 a0_1 ((rd_T39 t343 x52_2).f0) ((rd_T39 t343 x52_2).f1)))) = some r := H
            have A48 := Aside0.mk A480
            clear A480
            replace H := Option.bind_eq_some_iff.mp H
            obtain ⟨⟨t359, t360⟩, A490, H⟩ := H
            replace H : (if t360 = 0 then (if a1 = 0 then (none) else (if (Int.tmod ((rd_T39 t343 x52_2).f1) a1) = 0 then (if t359 < ((rd_T39 t343 x52_2).f1) then (spilelaw14_RodExact.j2 k2 a1 t343 t343 (t343.length : Int) x52_2 true l0_0 a0_1 ((rd_T39 t343 x52_2).f0) ((rd_T39 t343 x52_2).f1)) else (spilelaw14_RodExact.j2 k2 a1 t343 t343 (t343.length : Int) x52_2 (decide (t359 ≥ (wrap64 (((rd_T39 t343 x52_2).f1) + a1)))) l0_0 a0_1 ((rd_T39 t343 x52_2).f0) ((rd_T39 t343 x52_2).f1))) else (spilelaw14_RodExact.j2 k2 a1 t343 t343 (t343.length : Int) x52_2 true l0_0 a0_1 ((rd_T39 t343 x52_2).f0) ((rd_T39 t343 x52_2).f1)))) else (spilelaw14_RodExact.j2 k2 a1 t343 t343 (t343.length : Int) x52_2 true l0_0 a0_1 ((rd_T39 t343 x52_2).f0) ((rd_T39 t343 x52_2).f1))) = some r := H
            have A49 := Aside0.mk A490
            clear A490
            have HC50 := Aside0.mk H
            clear H
            have p353 : 0 ≤ (x52_2 : Int) := of_decide_eq_true (by first | (with_reducible assumption) | assumption)
            have q353 : x52_2 < (t343.length : Int) := of_decide_eq_true (by first | (with_reducible assumption) | assumption)
            obtain ⟨ad353, e353, hx353_0, hx353_1⟩ := at_T39 (Kd.R_reads' HO_50.out).2.2 x52_2 p353 q353
            cases e353
            replace p353 := eq_true p353
            replace q353 := eq_true q353
            try go_wp2_with (first | ((with_reducible refine gate_dst (N := 8) rfl ?_); (try (refine gate_guard (by rfl) ?_; dsimp only)); refine box_event ?hg (N := 8) ?hd (cs := #[.int .i64 0, .int .i64 0]) (t := 39) ?hr ?_; (case hd => rfl); (case hg => rfl); (case hr => first | (go_simp; done) | (go_simp; rfl)); intro gb354 hg w51 hbox hb; have n0_ := Aside0.mk (Kd.R_below (Kd.R_elderB (by (with_reducible repeat (first | apply Kd.R_alloc | apply Kd.R_drewN | apply Kd.R_drew)); exact HO_5.out) gb354 (Nat.le_of_eq hg.symm)) hb); have n1_ := Aside0.mk (Kd.R_below (Kd.R_elderB (by (with_reducible repeat (first | apply Kd.R_alloc | apply Kd.R_drewN | apply Kd.R_drew)); exact HO_50.out) gb354 (Nat.le_of_eq hg.symm)) hb); have n2_ := Aside0.mk (blk_below (g := gb336) (o := .cells #[.slice A0_0 l0_0.length c0_0, .int .i64 a0_1] 24 (0, 0)) (by (with_reducible repeat (first | refine blk_drewN ?_ _ | refine blk_drew ?_ | refine blk_alloc ?_ _)); exact BK336.out) hb); have n3_ := Aside0.mk (below_step (by repeat (first | (with_reducible first | exact HB.out | apply below_alloc | apply pw_below_drewN | apply below_drew1 | refine below_set ?_ GE336.out) | exact HB.out)) hb); have n4_ := Aside0.mk (hbox); have n5_ := Aside0.mk ((by rw [hg]; exact (below_size (by repeat (first | (with_reducible first | exact HB.out | apply below_alloc | apply pw_below_drewN | apply below_drew1 | refine below_set ?_ GE336.out) | exact HB.out))) : w.heap.size ≤ gb354)); have n6_ := Aside0.mk ((by rw [hg]; exact (below_size (by repeat (first | (with_reducible first | exact HB.out | apply below_alloc | apply pw_below_drewN | apply below_drew1 | refine below_set ?_ GE336.out) | exact HB.out))) : w.heap.size ≤ gb354)); have n7_ := Aside0.mk ((by rw [hg]; exact Nat.ne_of_lt (blk_lt (g := gb336) (o := .cells #[.slice A0_0 l0_0.length c0_0, .int .i64 a0_1] 24 (0, 0)) (by (with_reducible repeat (first | refine blk_drewN ?_ _ | refine blk_drew ?_ | refine blk_alloc ?_ _)); exact BK336.out)) : gb336 ≠ gb354)); have n8_ := Aside0.mk ((by rw [hg]; exact Nat.ne_of_gt (blk_lt (g := gb336) (o := .cells #[.slice A0_0 l0_0.length c0_0, .int .i64 a0_1] 24 (0, 0)) (by (with_reducible repeat (first | refine blk_drewN ?_ _ | refine blk_drew ?_ | refine blk_alloc ?_ _)); exact BK336.out)) : gb354 ≠ gb336)); clear HO_5; clear HO_50; clear BK336; clear HB; have HO_5 := n0_; have HO_50 := n1_; have BK336 := n2_; have HB := n3_; have BK354 := n4_; have GW354 := n5_; have GE354 := n6_; have NB336_354 := n7_; have NB354_336 := n8_; clear n0_ n1_ n2_ n3_ n4_ n5_ n6_ n7_ n8_; clear hb hbox hg; have hnb52 := NB354_336.out; have hnc52 := NB336_354.out; have hcz53_0 : w51.cell? ⟨gb354, 0, none⟩ = some (.int .i64 0) := (blk_cell BK354.out 0).trans rfl; have hcz53_1 : w51.cell? ⟨gb354, 1, none⟩ = some (.int .i64 0) := (blk_cell BK354.out 1).trans rfl; have hfz53_0 := blk_frozen BK354.out 0; have hfz53_1 := blk_frozen BK354.out 1))
            have n0_ : Aside0 (Kd.R k39 39 ((w51.setCell ⟨gb354, 0, none⟩ (.int .i64 ((rd_T39 t343 x52_2).f0))).setCell ⟨gb354, 1, none⟩ (.int .i64 ((rd_T39 t343 x52_2).f1))) w.heap.size (fun k_ => k_ ≠ gb354) (.slice (some ad353) t343.length co44) t343) := ⟨by (with_reducible repeat (first | apply Kd.R_alloc | apply Kd.R_drewN | apply Kd.R_drew)); exact Kd.R_mono (Kd.R_far (p := ⟨gb354, 1, none⟩) (Kd.R_far (p := ⟨gb354, 0, none⟩) (Kd.R_mono HO_5.out (fun k_ hk => (⟨hk, hk.2⟩ : _ ∧ k_ ≠ gb354))) (fun _ hk => hk.2) (.int .i64 ((rd_T39 t343 x52_2).f0))) (fun _ hk => hk.2) (.int .i64 ((rd_T39 t343 x52_2).f1))) (fun _ hk => hk.1.2)⟩
            have n1_ : Aside0 (Kd.R k39 39 ((w51.setCell ⟨gb354, 0, none⟩ (.int .i64 ((rd_T39 t343 x52_2).f0))).setCell ⟨gb354, 1, none⟩ (.int .i64 ((rd_T39 t343 x52_2).f1))) w.heap.size (fun k_ => k_ ≠ gb354) (.slice (some ad353) t343.length co44) t343) := ⟨by (with_reducible repeat (first | apply Kd.R_alloc | apply Kd.R_drewN | apply Kd.R_drew)); exact Kd.R_mono (Kd.R_far (p := ⟨gb354, 1, none⟩) (Kd.R_far (p := ⟨gb354, 0, none⟩) (Kd.R_mono HO_50.out (fun k_ hk => (⟨hk, hk.2⟩ : _ ∧ k_ ≠ gb354))) (fun _ hk => hk.2) (.int .i64 ((rd_T39 t343 x52_2).f0))) (fun _ hk => hk.2) (.int .i64 ((rd_T39 t343 x52_2).f1))) (fun _ hk => hk.1.2)⟩
            have n2_ : Aside0 (((w51.setCell ⟨gb354, 0, none⟩ (.int .i64 ((rd_T39 t343 x52_2).f0))).setCell ⟨gb354, 1, none⟩ (.int .i64 ((rd_T39 t343 x52_2).f1))).heap[gb336]? = some (.cells #[.slice A0_0 l0_0.length c0_0, .int .i64 a0_1] 24 (0, 0))) := ⟨by (with_reducible repeat (first | refine blk_drewN ?_ _ | refine blk_drew ?_ | refine blk_alloc ?_ _)); refine blk_far ?_ NB336_354.out _; (with_reducible repeat (first | refine blk_drewN ?_ _ | refine blk_drew ?_ | refine blk_alloc ?_ _)); refine blk_far ?_ NB336_354.out _; (with_reducible repeat (first | refine blk_drewN ?_ _ | refine blk_drew ?_ | refine blk_alloc ?_ _)); exact BK336.out⟩
            have n3_ : Aside0 (((w51.setCell ⟨gb354, 0, none⟩ (.int .i64 ((rd_T39 t343 x52_2).f0))).setCell ⟨gb354, 1, none⟩ (.int .i64 ((rd_T39 t343 x52_2).f1))).heap[gb354]? = some (.cells #[.int .i64 ((rd_T39 t343 x52_2).f0), .int .i64 ((rd_T39 t343 x52_2).f1)] 39 (0, 0))) := ⟨by (with_reducible repeat (first | refine blk_drewN ?_ _ | refine blk_drew ?_ | refine blk_alloc ?_ _)); refine blk_put (cs := #[.int .i64 ((rd_T39 t343 x52_2).f0), .int .i64 0]) ?_ 1 _ rfl; (with_reducible repeat (first | refine blk_drewN ?_ _ | refine blk_drew ?_ | refine blk_alloc ?_ _)); refine blk_put (cs := #[.int .i64 0, .int .i64 0]) ?_ 0 _ rfl; (with_reducible repeat (first | refine blk_drewN ?_ _ | refine blk_drew ?_ | refine blk_alloc ?_ _)); exact BK354.out⟩
            have n4_ : Aside0 (Below w.heap.size w ((w51.setCell ⟨gb354, 0, none⟩ (.int .i64 ((rd_T39 t343 x52_2).f0))).setCell ⟨gb354, 1, none⟩ (.int .i64 ((rd_T39 t343 x52_2).f1)))) := ⟨by repeat (first | (with_reducible first | exact HB.out | apply below_alloc | apply pw_below_drewN | apply below_drew1 | refine below_set ?_ GE336.out | refine below_set ?_ GE354.out) | exact HB.out)⟩
            (try clear HO_5)
            (try clear HO_50)
            (try clear BK336)
            (try clear BK354)
            (try clear HB)
            generalize ((w51.setCell ⟨gb354, 0, none⟩ (.int .i64 ((rd_T39 t343 x52_2).f0))).setCell ⟨gb354, 1, none⟩ (.int .i64 ((rd_T39 t343 x52_2).f1))) = w54 at n0_ n1_ n2_ n3_ n4_ ⊢
            have HO_5 := n0_
            have HO_50 := n1_
            have BK336 := n2_
            have BK354 := n3_
            have HB := n4_
            clear n0_ n1_ n2_ n3_ n4_
            have n0_ := Aside0.mk (Kd.R_drew HO_5.out)
            have n1_ := Aside0.mk (Kd.R_drew HO_50.out)
            have n2_ := Aside0.mk (blk_drew BK336.out)
            have n3_ := Aside0.mk (blk_drew BK354.out)
            have n4_ := Aside0.mk (below_drew1 HB.out)
            clear HO_5
            clear HO_50
            clear BK336
            clear BK354
            clear HB
            have HO_5 := n0_
            have HO_50 := n1_
            have BK336 := n2_
            have BK354 := n3_
            have HB := n4_
            clear n0_ n1_ n2_ n3_ n4_
            refine start_ (n := 10) (S := fun w' => w'.cell? ⟨gb336, 0, none⟩ = some (.slice A0_0 l0_0.length c0_0) ∧ w'.cell? ⟨gb336, 1, none⟩ = some (.int .i64 a0_1) ∧ w'.cell? ⟨gb354, 0, none⟩ = some (.int .i64 ((rd_T39 t343 x52_2).f0)) ∧ w'.cell? ⟨gb354, 1, none⟩ = some (.int .i64 ((rd_T39 t343 x52_2).f1))) (ds := []) #[false, false, false, false, false, false, false, false, false, false] (by kernel_rfl) rfl rfl ⟨(blk_cell BK336.out 0).trans rfl, (blk_cell BK336.out 1).trans rfl, (blk_cell BK354.out 0).trans rfl, (blk_cell BK354.out 1).trans rfl⟩ (fun hHeld => ?_); refine with_tabW spilelaw14_RodExact.tab13 spilelaw14_RodExact.bits13 (fun HT_ HW_ => ?_)
            generalize w54.drew = w55 at HO_5 HO_50 BK336 BK354 HB hHeld ⊢
            refine pure_ (i := 2) (N := some 59) (v := ?_) (a' := ?_) #[false, false, true, false, false, false, false, false, false, false] rfl rfl (any_of HT_.out (by kernel_rfl)) (fun _ _ _ h => h) (Or.inl ⟨by rfl, ?_⟩) ?_ ?_
            rotate_left
            ·
             intro w'
             go_simp
             with_reducible rfl
            rotate_left
            ·
             simp only [Act.put, List.setIfInBounds_toArray, List.set_cons_zero, List.set_cons_succ, i64_w, i32_w]
             rfl
            refine take_ (i := 0) (N := some 57) (v := ?_) (a' := ?_) #[true, false, true, false, false, false, false, false, false, false] rfl rfl (take_ofW HT_.out HW_.out (by kernel_rfl)) (fun _ _ _ h => h) (Or.inl ⟨by rfl, ?_⟩) hHeld ?_ ?_
            rotate_left
            ·
             rintro w' ⟨s0, s1, s2, s3⟩
             go_simp
             with_reducible rfl
            rotate_left
            ·
             simp only [Act.put, List.setIfInBounds_toArray, List.set_cons_zero, List.set_cons_succ, i64_w, i32_w]
             rfl
            refine take_ (i := 3) (N := some 60) (v := ?_) (a' := ?_) #[true, false, true, true, false, false, false, false, false, false] rfl rfl (take_ofW HT_.out HW_.out (by kernel_rfl)) (fun _ _ _ h => h) (Or.inl ⟨by rfl, ?_⟩) hHeld ?_ ?_
            rotate_left
            ·
             rintro w' ⟨s0, s1, s2, s3⟩
             go_simp
             with_reducible rfl
            rotate_left
            ·
             simp only [Act.put, List.setIfInBounds_toArray, List.set_cons_zero, List.set_cons_succ, i64_w, i32_w]
             rfl
            refine one_ (i := 1) (N := some 58) #[true, true, true, true, false, false, false, false, false, false] rfl rfl (one_of HT_.out (by kernel_rfl)) (by decide) (fun K hK => ?_)
            refine goes_ Tryd.func13 (by kernel_rfl) rfl #[.agg #[.slice A0_0 l0_0.length c0_0, .int .i64 a0_1]] (by rfl) rfl rfl (by (try simp only [List.map_toArray, List.map_cons, List.map_nil]); first | done | rfl | (simp only [List.length_drop, List.length_take]; rfl)) ?_
            with_reducible refine (spileref13_Copy.calls _ _ l0_0 a0_1 t355 t358 _ ?side1 ?side2 A48.out).mono ?_
            (case side1 => repeat (first | exact (Kd.C_below HR0_0.out HB.out) | (with_reducible refine Kd.C_alloc ?_ _) | (with_reducible refine Kd.C_drewN ?_ _) | (with_reducible refine Kd.C_drew ?_)))
            (case side2 => exact HC0_0.out)
            rintro e w56 ⟨v356, rfl, ho0, hb⟩
            refine ⟨_, rfl, ?_⟩
            have n0_ := Aside0.mk (Kd.R_elder' (by (with_reducible repeat (first | apply Kd.R_alloc | apply Kd.R_drewN | apply Kd.R_drew)); exact HO_5.out) (Kd.R_base ho0) hb)
            have n1_ := Aside0.mk (Kd.R_elder' (by (with_reducible repeat (first | apply Kd.R_alloc | apply Kd.R_drewN | apply Kd.R_drew)); exact HO_50.out) (Kd.R_base ho0) hb)
            have n2_ := Aside0.mk (Kd.R_lower (Kd.R_newB (Kd.R_new' (Kd.R_new' ho0 (Kd.R_lt (by (with_reducible repeat (first | apply Kd.R_alloc | apply Kd.R_drewN | apply Kd.R_drew)); exact HO_5.out))) (Kd.R_lt (by (with_reducible repeat (first | apply Kd.R_alloc | apply Kd.R_drewN | apply Kd.R_drew)); exact HO_50.out))) (g := gb354) (o := .cells #[.int .i64 ((rd_T39 t343 x52_2).f0), .int .i64 ((rd_T39 t343 x52_2).f1)] 39 (0, 0)) (by (with_reducible repeat (first | refine blk_drewN ?_ _ | refine blk_drew ?_ | refine blk_alloc ?_ _)); exact BK354.out)) (below_size (by repeat (first | (with_reducible first | exact HB.out | apply below_alloc | apply pw_below_drewN | apply below_drew1 | refine below_set ?_ GE336.out | refine below_set ?_ GE354.out) | exact HB.out))))
            have n3_ := Aside0.mk (blk_below (g := gb336) (o := .cells #[.slice A0_0 l0_0.length c0_0, .int .i64 a0_1] 24 (0, 0)) (by (with_reducible repeat (first | refine blk_drewN ?_ _ | refine blk_drew ?_ | refine blk_alloc ?_ _)); exact BK336.out) hb)
            have n4_ := Aside0.mk (blk_below (g := gb354) (o := .cells #[.int .i64 ((rd_T39 t343 x52_2).f0), .int .i64 ((rd_T39 t343 x52_2).f1)] 39 (0, 0)) (by (with_reducible repeat (first | refine blk_drewN ?_ _ | refine blk_drew ?_ | refine blk_alloc ?_ _)); exact BK354.out) hb)
            have n5_ := Aside0.mk (below_step (by repeat (first | (with_reducible first | exact HB.out | apply below_alloc | apply pw_below_drewN | apply below_drew1 | refine below_set ?_ GE336.out | refine below_set ?_ GE354.out) | exact HB.out)) hb)
            clear HO_5
            clear HO_50
            clear BK336
            clear BK354
            clear HB
            have HO_5 := n0_
            have HO_50 := n1_
            have HO357 := n2_
            have BK336 := n3_
            have BK354 := n4_
            have HB := n5_
            clear n0_ n1_ n2_ n3_ n4_ n5_
            (try clear hb)
            (try clear hb2)
            (try clear hk)
            (try clear hi)
            (try clear ho0)
            obtain ⟨Ao57, co57, eo57⟩ := Kd.R_slice HO357.out
            (first | subst eo57 | (injection eo57 with f1_ f2_ f3_; have f4_ := f1_.symm; have f5_ := f3_.symm; clear f1_ f2_ f3_; subst f4_; subst f5_))
            refine hK.out _ _ ⟨(blk_cell BK336.out 0).trans rfl, (blk_cell BK336.out 1).trans rfl, (blk_cell BK354.out 0).trans rfl, (blk_cell BK354.out 1).trans rfl⟩ (fun hHeld => ?_)
            clear hK K
            refine norm_ (a' := ?_) ?_ ?_
            rotate_left
            ·
             show Act.put _ (some 58) _ = _
             simp only [Act.put, List.setIfInBounds_toArray, List.set_cons_zero, List.set_cons_succ, i64_w, i32_w]
             rfl
            refine one_ (i := 4) (N := some 61) #[true, true, true, true, true, false, false, false, false, false] rfl rfl (one_of HT_.out (by kernel_rfl)) (by decide) (fun K hK => ?_)
            refine goes_ Tryd.func27 (by kernel_rfl) rfl #[.agg #[.slice Ao57 t355.length co57, .int .i64 t358], .int .i64 ((rd_T39 t343 x52_2).f0)] (by rfl) rfl rfl (by (try simp only [List.map_toArray, List.map_cons, List.map_nil]); first | done | rfl | (simp only [List.length_drop, List.length_take]; rfl)) ?_
            with_reducible refine (dip_Read.calls k2 _ _ t355 t358 ((rd_T39 t343 x52_2).f0) t359 t360 _ ?side1 ?side2 A49.out).mono ?_
            (case side1 => repeat (first | exact (Kd.R_reads' HO357.out).2.2 | (with_reducible refine Kd.C_alloc ?_ _) | (with_reducible refine Kd.C_drewN ?_ _) | (with_reducible refine Kd.C_drew ?_)))
            (case side2 => exact (Kd.R_reads' HO357.out).2.1)
            rintro e w58 ⟨rfl, hb⟩
            refine ⟨_, rfl, ?_⟩
            have n0_ := Aside0.mk (Kd.R_below (by (with_reducible repeat (first | apply Kd.R_alloc | apply Kd.R_drewN | apply Kd.R_drew)); exact HO_5.out) hb)
            have n1_ := Aside0.mk (Kd.R_below (by (with_reducible repeat (first | apply Kd.R_alloc | apply Kd.R_drewN | apply Kd.R_drew)); exact HO_50.out) hb)
            have n2_ := Aside0.mk (Kd.R_below (by (with_reducible repeat (first | apply Kd.R_alloc | apply Kd.R_drewN | apply Kd.R_drew)); exact HO357.out) hb)
            have n3_ := Aside0.mk (blk_below (g := gb336) (o := .cells #[.slice A0_0 l0_0.length c0_0, .int .i64 a0_1] 24 (0, 0)) (by (with_reducible repeat (first | refine blk_drewN ?_ _ | refine blk_drew ?_ | refine blk_alloc ?_ _)); exact BK336.out) hb)
            have n4_ := Aside0.mk (blk_below (g := gb354) (o := .cells #[.int .i64 ((rd_T39 t343 x52_2).f0), .int .i64 ((rd_T39 t343 x52_2).f1)] 39 (0, 0)) (by (with_reducible repeat (first | refine blk_drewN ?_ _ | refine blk_drew ?_ | refine blk_alloc ?_ _)); exact BK354.out) hb)
            have n5_ := Aside0.mk (below_step (by repeat (first | (with_reducible first | exact HB.out | apply below_alloc | apply pw_below_drewN | apply below_drew1 | refine below_set ?_ GE336.out | refine below_set ?_ GE354.out) | exact HB.out)) hb)
            clear HO_5
            clear HO_50
            clear HO357
            clear BK336
            clear BK354
            clear HB
            have HO_5 := n0_
            have HO_50 := n1_
            have HO357 := n2_
            have BK336 := n3_
            have BK354 := n4_
            have HB := n5_
            clear n0_ n1_ n2_ n3_ n4_ n5_
            (try clear hb)
            (try clear hb2)
            (try clear hk)
            (try clear hi)
            refine hK.out _ _ ⟨(blk_cell BK336.out 0).trans rfl, (blk_cell BK336.out 1).trans rfl, (blk_cell BK354.out 0).trans rfl, (blk_cell BK354.out 1).trans rfl⟩ (fun hHeld => ?_)
            clear hK K
            refine norm_ (a' := ?_) ?_ ?_
            rotate_left
            ·
             show Act.put _ (some 61) _ = _
             simp only [Act.put, List.setIfInBounds_toArray, List.set_cons_zero, List.set_cons_succ, i64_w, i32_w]
             rfl
            refine pure_ (i := 5) (N := some 56) (v := ?_) (a' := ?_) #[true, true, true, true, true, true, false, false, false, false] rfl rfl (any_of HT_.out (by kernel_rfl)) (fun _ _ _ h => h) (Or.inl ⟨by rfl, ?_⟩) ?_ ?_
            rotate_left
            ·
             intro w'
             go_simp
             with_reducible rfl
            rotate_left
            ·
             simp only [Act.put, List.setIfInBounds_toArray, List.set_cons_zero, List.set_cons_succ, i64_w, i32_w]
             rfl
            refine pure_ (i := 6) (N := some 62) (v := ?_) (a' := ?_) #[true, true, true, true, true, true, true, false, false, false] rfl rfl (any_of HT_.out (by kernel_rfl)) (fun _ _ _ h => h) (Or.inl ⟨by rfl, ?_⟩) ?_ ?_
            rotate_left
            ·
             intro w'
             go_simp
             with_reducible rfl
            rotate_left
            ·
             simp only [Act.put, List.setIfInBounds_toArray, List.set_cons_zero, List.set_cons_succ, i64_w, i32_w]
             rfl
            refine pure_ (i := 7) (N := some 63) (v := ?_) (a' := ?_) #[true, true, true, true, true, true, true, true, false, false] rfl rfl (any_of HT_.out (by kernel_rfl)) (fun _ _ _ h => h) (Or.inl ⟨by rfl, ?_⟩) ?_ ?_
            rotate_left
            ·
             intro w'
             go_simp
             with_reducible rfl
            rotate_left
            ·
             simp only [Act.put, List.setIfInBounds_toArray, List.set_cons_zero, List.set_cons_succ, i64_w, i32_w]
             rfl
            refine pure_ (i := 8) (N := some 9) (v := ?_) (a' := ?_) #[true, true, true, true, true, true, true, true, true, false] rfl rfl (any_of HT_.out (by kernel_rfl)) (fun _ _ _ h => h) (Or.inl ⟨by rfl, ?_⟩) ?_ ?_
            rotate_left
            ·
             intro w'
             go_simp
             with_reducible rfl
            rotate_left
            ·
             simp only [Act.put, List.setIfInBounds_toArray, List.set_cons_zero, List.set_cons_succ, i64_w, i32_w]
             rfl
            refine pure_ (i := 9) (N := some 10) (v := ?_) (a' := ?_) #[true, true, true, true, true, true, true, true, true, true] rfl rfl (any_of HT_.out (by kernel_rfl)) (fun _ _ _ h => h) (Or.inl ⟨by rfl, ?_⟩) ?_ ?_
            rotate_left
            ·
             intro w'
             go_simp
             with_reducible rfl
            rotate_left
            ·
             simp only [Act.put, List.setIfInBounds_toArray, List.set_cons_zero, List.set_cons_succ, i64_w, i32_w]
             rfl
            refine done_ (done_of HT_.out (by kernel_rfl)) ?_
            go_upto_region 14 with (fail)
            go_cut [86] (fun v86 wc => ∃ (kq : Nat) (x86_49 : Bool), v86 = .bool x86_49 ∧ Aside0 (spilelaw14_RodExact.j2 kq a1 t343 t343 (t343.length : Int) x52_2 x86_49 l0_0 a0_1 ((rd_T39 t343 x52_2).f0) ((rd_T39 t343 x52_2).f1) = some r) ∧ Aside0 (kq ≤ k2) ∧ Aside0 (Kd.R k39 39 wc w.heap.size (fun k_ => k_ ≠ gb354) (.slice (some ad353) t343.length co44) t343) ∧ Aside0 (Kd.R k39 39 wc w.heap.size (fun k_ => k_ ≠ gb354) (.slice (some ad353) t343.length co44) t343) ∧ Aside0 (wc.heap[gb336]? = some (.cells #[(.slice A0_0 l0_0.length c0_0), .int .i64 a0_1] 24 (0, 0))) ∧ Aside0 (wc.heap[gb354]? = some (.cells #[.int .i64 ((rd_T39 t343 x52_2).f0), .int .i64 ((rd_T39 t343 x52_2).f1)] 39 (0, 0))) ∧ Aside0 (Below w.heap.size w wc))
            case first =>
             have H := HC50.out
             clear HC50
             by_cases c59 : t360 = 0
             ·
              rw [if_pos c59] at H
              have c59b0 : (t360 == 0) = true := beq_iff_eq.mpr c59
              have c59b1 : (t360 != 0) = false := bne_eq_false_iff_eq.mpr c59
              clear c59
              (first | rw [c59b0] | (simp only [i64_w, i32_w]; rw [c59b0]) | skip)
              by_cases c60 : a1 = 0
              ·
               rw [if_pos c60] at H
               exact absurd H (by simp)
              ·
               rw [if_neg c60] at H
               have c60b0 : (a1 == 0) = false := beq_eq_false_iff_ne.mpr c60
               have c60b1 : (a1 != 0) = true := bne_iff_ne.mpr c60
               by_cases c61 : (Int.tmod ((rd_T39 t343 x52_2).f1) a1) = 0
               ·
                rw [if_pos c61] at H
                have c61b0 : ((Int.tmod ((rd_T39 t343 x52_2).f1) a1) == 0) = true := beq_iff_eq.mpr c61
                have c61b1 : ((Int.tmod ((rd_T39 t343 x52_2).f1) a1) != 0) = false := bne_eq_false_iff_eq.mpr c61
                clear c61
                by_cases c62 : t359 < ((rd_T39 t343 x52_2).f1)
                ·
                 rw [if_pos c62] at H
                 have c62b0 : decide (t359 < ((rd_T39 t343 x52_2).f1)) = true := decide_eq_true c62
                 clear c62
                 have H' := Aside0.mk H
                 clear H
                 have hnb63 := NB354_336.out
                 have hnc63 := NB336_354.out
                 have hcz64_0 : w58.cell? ⟨gb354, 0, none⟩ = some (.int .i64 ((rd_T39 t343 x52_2).f0)) := (blk_cell BK354.out 0).trans rfl
                 have hcz64_1 : w58.cell? ⟨gb354, 1, none⟩ = some (.int .i64 ((rd_T39 t343 x52_2).f1)) := (blk_cell BK354.out 1).trans rfl
                 have hfz64_0 := blk_frozen BK354.out 0
                 have hfz64_1 := blk_frozen BK354.out 1
                 go_wp2
                 go_meet
                 case rel => exact ⟨_, (true), (by first | rfl | (simp; done) | (simp [*]; done)), H', ⟨by have := HJ9.out; have := HK2.out; first | omega | exact Nat.le_refl _⟩, ⟨by (with_reducible repeat (first | apply Kd.R_alloc | apply Kd.R_drewN | apply Kd.R_drew)); exact Kd.R_mono HO_5.out (fun _ hk => hk.1)⟩, ⟨by (with_reducible repeat (first | apply Kd.R_alloc | apply Kd.R_drewN | apply Kd.R_drew)); exact Kd.R_mono HO_50.out (fun _ hk => hk.1)⟩, ⟨by (with_reducible repeat (first | refine blk_drewN ?_ _ | refine blk_drew ?_ | refine blk_alloc ?_ _)); exact BK336.out⟩, ⟨by (with_reducible repeat (first | refine blk_drewN ?_ _ | refine blk_drew ?_ | refine blk_alloc ?_ _)); exact BK354.out⟩, ⟨by repeat (first | (with_reducible first | exact HB.out | apply below_alloc | apply pw_below_drewN | apply below_drew1 | refine below_set ?_ GE336.out | refine below_set ?_ GE354.out) | exact HB.out)⟩⟩
                ·
                 rw [if_neg c62] at H
                 have c62b0 : decide (t359 < ((rd_T39 t343 x52_2).f1)) = false := decide_eq_false c62
                 clear c62
                 have H' := Aside0.mk H
                 clear H
                 have hnb65 := NB354_336.out
                 have hnc65 := NB336_354.out
                 have hcz66_0 : w58.cell? ⟨gb354, 0, none⟩ = some (.int .i64 ((rd_T39 t343 x52_2).f0)) := (blk_cell BK354.out 0).trans rfl
                 have hcz66_1 : w58.cell? ⟨gb354, 1, none⟩ = some (.int .i64 ((rd_T39 t343 x52_2).f1)) := (blk_cell BK354.out 1).trans rfl
                 have hfz66_0 := blk_frozen BK354.out 0
                 have hfz66_1 := blk_frozen BK354.out 1
                 go_wp2
                 go_meet
                 case rel => exact ⟨_, (decide (t359 ≥ (wrap64 (((rd_T39 t343 x52_2).f1) + a1)))), (by first | rfl | (simp; done) | (simp [*]; done)), H', ⟨by have := HJ9.out; have := HK2.out; first | omega | exact Nat.le_refl _⟩, ⟨by (with_reducible repeat (first | apply Kd.R_alloc | apply Kd.R_drewN | apply Kd.R_drew)); exact Kd.R_mono HO_5.out (fun _ hk => hk.1)⟩, ⟨by (with_reducible repeat (first | apply Kd.R_alloc | apply Kd.R_drewN | apply Kd.R_drew)); exact Kd.R_mono HO_50.out (fun _ hk => hk.1)⟩, ⟨by (with_reducible repeat (first | refine blk_drewN ?_ _ | refine blk_drew ?_ | refine blk_alloc ?_ _)); exact BK336.out⟩, ⟨by (with_reducible repeat (first | refine blk_drewN ?_ _ | refine blk_drew ?_ | refine blk_alloc ?_ _)); exact BK354.out⟩, ⟨by repeat (first | (with_reducible first | exact HB.out | apply below_alloc | apply pw_below_drewN | apply below_drew1 | refine below_set ?_ GE336.out | refine below_set ?_ GE354.out) | exact HB.out)⟩⟩
               ·
                rw [if_neg c61] at H
                have c61b0 : ((Int.tmod ((rd_T39 t343 x52_2).f1) a1) == 0) = false := beq_eq_false_iff_ne.mpr c61
                have c61b1 : ((Int.tmod ((rd_T39 t343 x52_2).f1) a1) != 0) = true := bne_iff_ne.mpr c61
                have H' := Aside0.mk H
                clear H
                have hnb67 := NB354_336.out
                have hnc67 := NB336_354.out
                have hcz68_0 : w58.cell? ⟨gb354, 0, none⟩ = some (.int .i64 ((rd_T39 t343 x52_2).f0)) := (blk_cell BK354.out 0).trans rfl
                have hcz68_1 : w58.cell? ⟨gb354, 1, none⟩ = some (.int .i64 ((rd_T39 t343 x52_2).f1)) := (blk_cell BK354.out 1).trans rfl
                have hfz68_0 := blk_frozen BK354.out 0
                have hfz68_1 := blk_frozen BK354.out 1
                go_wp2
                go_meet
                case rel => exact ⟨_, (true), (by first | rfl | (simp; done) | (simp [*]; done)), H', ⟨by have := HJ9.out; have := HK2.out; first | omega | exact Nat.le_refl _⟩, ⟨by (with_reducible repeat (first | apply Kd.R_alloc | apply Kd.R_drewN | apply Kd.R_drew)); exact Kd.R_mono HO_5.out (fun _ hk => hk.1)⟩, ⟨by (with_reducible repeat (first | apply Kd.R_alloc | apply Kd.R_drewN | apply Kd.R_drew)); exact Kd.R_mono HO_50.out (fun _ hk => hk.1)⟩, ⟨by (with_reducible repeat (first | refine blk_drewN ?_ _ | refine blk_drew ?_ | refine blk_alloc ?_ _)); exact BK336.out⟩, ⟨by (with_reducible repeat (first | refine blk_drewN ?_ _ | refine blk_drew ?_ | refine blk_alloc ?_ _)); exact BK354.out⟩, ⟨by repeat (first | (with_reducible first | exact HB.out | apply below_alloc | apply pw_below_drewN | apply below_drew1 | refine below_set ?_ GE336.out | refine below_set ?_ GE354.out) | exact HB.out)⟩⟩
             ·
              rw [if_neg c59] at H
              have c59b0 : (t360 == 0) = false := beq_eq_false_iff_ne.mpr c59
              have c59b1 : (t360 != 0) = true := bne_iff_ne.mpr c59
              (first | rw [c59b0] | (simp only [i64_w, i32_w]; rw [c59b0]) | skip)
              have H' := Aside0.mk H
              clear H
              go_wp2
              go_meet
              case rel => exact ⟨_, (true), (by first | rfl | (simp; done) | (simp [*]; done)), H', ⟨by have := HJ9.out; have := HK2.out; first | omega | exact Nat.le_refl _⟩, ⟨by (with_reducible repeat (first | apply Kd.R_alloc | apply Kd.R_drewN | apply Kd.R_drew)); exact Kd.R_mono HO_5.out (fun _ hk => hk.1)⟩, ⟨by (with_reducible repeat (first | apply Kd.R_alloc | apply Kd.R_drewN | apply Kd.R_drew)); exact Kd.R_mono HO_50.out (fun _ hk => hk.1)⟩, ⟨by (with_reducible repeat (first | refine blk_drewN ?_ _ | refine blk_drew ?_ | refine blk_alloc ?_ _)); exact BK336.out⟩, ⟨by (with_reducible repeat (first | refine blk_drewN ?_ _ | refine blk_drew ?_ | refine blk_alloc ?_ _)); exact BK354.out⟩, ⟨by repeat (first | (with_reducible first | exact HB.out | apply below_alloc | apply pw_below_drewN | apply below_drew1 | refine below_set ?_ GE336.out | refine below_set ?_ GE354.out) | exact HB.out)⟩⟩
            case rest =>
             clear HC50
             try clear c1
             try clear c2
             try clear p2
             try clear p3
             try clear q3
             try clear hx3
             try clear c4
             try clear c5
             try clear c6
             try clear p6
             try clear c9
             try clear c9b0
             try clear c9b1
             try clear c10
             try clear c11
             try clear c12
             try clear c13
             try clear c17
             try clear c21
             try clear c21b0
             try clear c21b1
             try clear c22
             try clear c22b0
             try clear c22b1
             try clear c27
             try clear c28
             try clear c28b0
             try clear c28b1
             try clear c28b2
             try clear p35
             try clear q35
             try clear hx35
             try clear c43
             try clear c45
             try clear c45b0
             try clear c46
             try clear c46b0
             try clear c47
             try clear c47b0
             try clear c52
             try clear c59
             try clear c59b0
             try clear c59b1
             try clear c60
             try clear c60b0
             try clear c60b1
             try clear c61
             try clear c61b0
             try clear c61b1
             try clear c62
             try clear c62b0
             try clear c63
             try clear p64
             try clear c65
             try clear c67
             try clear hcz13_0
             try clear hcz13_1
             try clear hcz15_0
             try clear hcz15_1
             try clear hcz27_0
             try clear hcz27_1
             try clear hcz33_0
             try clear hcz33_1
             try clear hcz38_0
             try clear hcz38_1
             try clear hcz53_0
             try clear hcz53_1
             try clear hcz64_0
             try clear hcz64_1
             try clear hcz66_0
             try clear hcz66_1
             try clear hcz68_0
             try clear hcz68_1
             try clear hfz13_0
             try clear hfz13_1
             try clear hfz15_0
             try clear hfz15_1
             try clear hfz27_0
             try clear hfz27_1
             try clear hfz33_0
             try clear hfz33_1
             try clear hfz38_0
             try clear hfz38_1
             try clear hfz53_0
             try clear hfz53_1
             try clear hfz64_0
             try clear hfz64_1
             try clear hfz66_0
             try clear hfz66_1
             try clear hfz68_0
             try clear hfz68_1
             try clear hx353_0
             try clear hx353_1
             try clear p2
             try clear p353
             try clear q353
             obtain ⟨kq, x86_49, rfl, HA, HJ49, HO_5, HO_50, BK336, BK354, HB⟩ := hcut
             cases kq with
             | zero => exact absurd HA.out (by simp [spilelaw14_RodExact.j2])
             | succ kj49 =>
              have H := HA.out
              clear HA
              simp only [spilelaw14_RodExact.j2] at H
              by_cases c69 : x86_49 = true
              ·
               subst c69
               have H1 : (some false) = some r := by rw [if_pos rfl] at H; exact H
               clear H
               have H := H1
               clear H1
               subst hr_
               exact absurd H (by simp)
              ·
               replace c69 := Bool.eq_false_iff.mpr c69
               subst c69
               have H1 : ((spileref13_Copy.f l0_0 a0_1).bind fun bt361 => ((dip_Read.f kj49 bt361.1 bt361.2 (wrap64 (((rd_T39 t343 x52_2).f0) - 1))).bind fun bt365 => (if bt365.2 = 0 then (if bt365.1 ≥ ((rd_T39 t343 x52_2).f1) then (some false) else (spilelaw14_RodExact.l0 kj49 a1 t343 t343 (t343.length : Int) (wrap64 (x52_2 + 1)) l0_0 a0_1)) else (spilelaw14_RodExact.l0 kj49 a1 t343 t343 (t343.length : Int) (wrap64 (x52_2 + 1)) l0_0 a0_1)))) = some r := by rw [if_neg (show ¬ (false = true) by decide)] at H; exact H
               clear H
               have H := H1
               clear H1
               replace H := Option.bind_eq_some_iff.mp H
               obtain ⟨⟨t361, t364⟩, A700, H⟩ := H
               replace H : ((dip_Read.f kj49 t361 t364 (wrap64 (((rd_T39 t343 x52_2).f0) - 1))).bind fun bt365 => (if bt365.2 = 0 then (if bt365.1 ≥ ((rd_T39 t343 x52_2).f1) then (some false) else (spilelaw14_RodExact.l0 kj49 a1 t343 t343 (t343.length : Int) (wrap64 (x52_2 + 1)) l0_0 a0_1)) else (spilelaw14_RodExact.l0 kj49 a1 t343 t343 (t343.length : Int) (wrap64 (x52_2 + 1)) l0_0 a0_1))) = some r := H
               have A70 := Aside0.mk A700
               clear A700
               replace H := Option.bind_eq_some_iff.mp H
               obtain ⟨⟨t365, t366⟩, A710, H⟩ := H
               replace H : (if t366 = 0 then (if t365 ≥ ((rd_T39 t343 x52_2).f1) then (some false) else (spilelaw14_RodExact.l0 kj49 a1 t343 t343 (t343.length : Int) (wrap64 (x52_2 + 1)) l0_0 a0_1)) else (spilelaw14_RodExact.l0 kj49 a1 t343 t343 (t343.length : Int) (wrap64 (x52_2 + 1)) l0_0 a0_1)) = some r := H
               have A71 := Aside0.mk A710
               clear A710
               by_cases c72 : t366 = 0
               ·
                rw [if_pos c72] at H
                have c72b0 : (t366 == 0) = true := beq_iff_eq.mpr c72
                have c72b1 : (t366 != 0) = false := bne_eq_false_iff_eq.mpr c72
                clear c72
                by_cases c73 : t365 ≥ ((rd_T39 t343 x52_2).f1)
                ·
                 rw [if_pos c73] at H
                 have c73b0 : decide (((rd_T39 t343 x52_2).f1) ≤ t365) = true := decide_eq_true c73
                 clear c73
                 subst hr_
                 exact absurd H (by simp)
                ·
                 rw [if_neg c73] at H
                 have c73b0 : decide (((rd_T39 t343 x52_2).f1) ≤ t365) = false := decide_eq_false c73
                 clear c73
                 have H' := Aside0.mk H
                 clear H
                 try go_wp2
                 have n0_ := Aside0.mk (Kd.R_drew HO_5.out)
                 have n1_ := Aside0.mk (Kd.R_drew HO_50.out)
                 have n2_ := Aside0.mk (blk_drew BK336.out)
                 have n3_ := Aside0.mk (blk_drew BK354.out)
                 have n4_ := Aside0.mk (below_drew1 HB.out)
                 clear HO_5
                 clear HO_50
                 clear BK336
                 clear BK354
                 clear HB
                 have HO_5 := n0_
                 have HO_50 := n1_
                 have BK336 := n2_
                 have BK354 := n3_
                 have HB := n4_
                 clear n0_ n1_ n2_ n3_ n4_
                 refine start_ (n := 11) (S := fun w' => w'.cell? ⟨gb336, 0, none⟩ = some (.slice A0_0 l0_0.length c0_0) ∧ w'.cell? ⟨gb336, 1, none⟩ = some (.int .i64 a0_1) ∧ w'.cell? ⟨gb354, 0, none⟩ = some (.int .i64 ((rd_T39 t343 x52_2).f0)) ∧ w'.cell? ⟨gb354, 1, none⟩ = some (.int .i64 ((rd_T39 t343 x52_2).f1))) (ds := []) #[false, false, false, false, false, false, false, false, false, false, false] (by kernel_rfl) rfl rfl ⟨(blk_cell BK336.out 0).trans rfl, (blk_cell BK336.out 1).trans rfl, (blk_cell BK354.out 0).trans rfl, (blk_cell BK354.out 1).trans rfl⟩ (fun hHeld => ?_); refine with_tabW spilelaw14_RodExact.tab16 spilelaw14_RodExact.bits16 (fun HT_ HW_ => ?_)
                 generalize wc.drew = w74 at HO_5 HO_50 BK336 BK354 HB hHeld ⊢
                 refine pure_ (i := 2) (N := some 90) (v := ?_) (a' := ?_) #[false, false, true, false, false, false, false, false, false, false, false] rfl rfl (any_of HT_.out (by kernel_rfl)) (fun _ _ _ h => h) (Or.inl ⟨by rfl, ?_⟩) ?_ ?_
                 rotate_left
                 ·
                  intro w'
                  go_simp
                  with_reducible rfl
                 rotate_left
                 ·
                  simp only [Act.put, List.setIfInBounds_toArray, List.set_cons_zero, List.set_cons_succ, i64_w, i32_w]
                  rfl
                 refine take_ (i := 0) (N := some 88) (v := ?_) (a' := ?_) #[true, false, true, false, false, false, false, false, false, false, false] rfl rfl (take_ofW HT_.out HW_.out (by kernel_rfl)) (fun _ _ _ h => h) (Or.inl ⟨by rfl, ?_⟩) hHeld ?_ ?_
                 rotate_left
                 ·
                  rintro w' ⟨s0, s1, s2, s3⟩
                  go_simp
                  with_reducible rfl
                 rotate_left
                 ·
                  simp only [Act.put, List.setIfInBounds_toArray, List.set_cons_zero, List.set_cons_succ, i64_w, i32_w]
                  rfl
                 refine take_ (i := 3) (N := some 91) (v := ?_) (a' := ?_) #[true, false, true, true, false, false, false, false, false, false, false] rfl rfl (take_ofW HT_.out HW_.out (by kernel_rfl)) (fun _ _ _ h => h) (Or.inl ⟨by rfl, ?_⟩) hHeld ?_ ?_
                 rotate_left
                 ·
                  rintro w' ⟨s0, s1, s2, s3⟩
                  go_simp
                  with_reducible rfl
                 rotate_left
                 ·
                  simp only [Act.put, List.setIfInBounds_toArray, List.set_cons_zero, List.set_cons_succ, i64_w, i32_w]
                  rfl
                 refine pure_ (i := 4) (N := some 92) (v := ?_) (a' := ?_) #[true, false, true, true, true, false, false, false, false, false, false] rfl rfl (any_of HT_.out (by kernel_rfl)) (fun _ _ _ h => h) (Or.inl ⟨by rfl, ?_⟩) ?_ ?_
                 rotate_left
                 ·
                  intro w'
                  go_simp
                  with_reducible rfl
                 rotate_left
                 ·
                  simp only [Act.put, List.setIfInBounds_toArray, List.set_cons_zero, List.set_cons_succ, i64_w, i32_w]
                  rfl
                 refine one_ (i := 1) (N := some 89) #[true, true, true, true, true, false, false, false, false, false, false] rfl rfl (one_of HT_.out (by kernel_rfl)) (by decide) (fun K hK => ?_)
                 refine goes_ Tryd.func13 (by kernel_rfl) rfl #[.agg #[.slice A0_0 l0_0.length c0_0, .int .i64 a0_1]] (by rfl) rfl rfl (by (try simp only [List.map_toArray, List.map_cons, List.map_nil]); first | done | rfl | (simp only [List.length_drop, List.length_take]; rfl)) ?_
                 with_reducible refine (spileref13_Copy.calls _ _ l0_0 a0_1 t361 t364 _ ?side1 ?side2 A70.out).mono ?_
                 (case side1 => repeat (first | exact (Kd.C_below HR0_0.out HB.out) | (with_reducible refine Kd.C_alloc ?_ _) | (with_reducible refine Kd.C_drewN ?_ _) | (with_reducible refine Kd.C_drew ?_)))
                 (case side2 => exact HC0_0.out)
                 rintro e w75 ⟨v362, rfl, ho0, hb⟩
                 refine ⟨_, rfl, ?_⟩
                 have n0_ := Aside0.mk (Kd.R_elder' (by (with_reducible repeat (first | apply Kd.R_alloc | apply Kd.R_drewN | apply Kd.R_drew)); exact HO_5.out) (Kd.R_base ho0) hb)
                 have n1_ := Aside0.mk (Kd.R_elder' (by (with_reducible repeat (first | apply Kd.R_alloc | apply Kd.R_drewN | apply Kd.R_drew)); exact HO_50.out) (Kd.R_base ho0) hb)
                 have n2_ := Aside0.mk (Kd.R_lower (Kd.R_newB (Kd.R_new' (Kd.R_new' ho0 (Kd.R_lt (by (with_reducible repeat (first | apply Kd.R_alloc | apply Kd.R_drewN | apply Kd.R_drew)); exact HO_5.out))) (Kd.R_lt (by (with_reducible repeat (first | apply Kd.R_alloc | apply Kd.R_drewN | apply Kd.R_drew)); exact HO_50.out))) (g := gb354) (o := .cells #[.int .i64 ((rd_T39 t343 x52_2).f0), .int .i64 ((rd_T39 t343 x52_2).f1)] 39 (0, 0)) (by (with_reducible repeat (first | refine blk_drewN ?_ _ | refine blk_drew ?_ | refine blk_alloc ?_ _)); exact BK354.out)) (below_size (by repeat (first | (with_reducible first | exact HB.out | apply below_alloc | apply pw_below_drewN | apply below_drew1 | refine below_set ?_ GE336.out | refine below_set ?_ GE354.out) | exact HB.out))))
                 have n3_ := Aside0.mk (blk_below (g := gb336) (o := .cells #[.slice A0_0 l0_0.length c0_0, .int .i64 a0_1] 24 (0, 0)) (by (with_reducible repeat (first | refine blk_drewN ?_ _ | refine blk_drew ?_ | refine blk_alloc ?_ _)); exact BK336.out) hb)
                 have n4_ := Aside0.mk (blk_below (g := gb354) (o := .cells #[.int .i64 ((rd_T39 t343 x52_2).f0), .int .i64 ((rd_T39 t343 x52_2).f1)] 39 (0, 0)) (by (with_reducible repeat (first | refine blk_drewN ?_ _ | refine blk_drew ?_ | refine blk_alloc ?_ _)); exact BK354.out) hb)
                 have n5_ := Aside0.mk (below_step (by repeat (first | (with_reducible first | exact HB.out | apply below_alloc | apply pw_below_drewN | apply below_drew1 | refine below_set ?_ GE336.out | refine below_set ?_ GE354.out) | exact HB.out)) hb)
                 clear HO_5
                 clear HO_50
                 clear BK336
                 clear BK354
                 clear HB
                 have HO_5 := n0_
                 have HO_50 := n1_
                 have HO363 := n2_
                 have BK336 := n3_
                 have BK354 := n4_
                 have HB := n5_
                 clear n0_ n1_ n2_ n3_ n4_ n5_
                 (try clear hb)
                 (try clear hb2)
                 (try clear hk)
                 (try clear hi)
                 (try clear ho0)
                 obtain ⟨Ao76, co76, eo76⟩ := Kd.R_slice HO363.out
                 (first | subst eo76 | (injection eo76 with f1_ f2_ f3_; have f4_ := f1_.symm; have f5_ := f3_.symm; clear f1_ f2_ f3_; subst f4_; subst f5_))
                 refine hK.out _ _ ⟨(blk_cell BK336.out 0).trans rfl, (blk_cell BK336.out 1).trans rfl, (blk_cell BK354.out 0).trans rfl, (blk_cell BK354.out 1).trans rfl⟩ (fun hHeld => ?_)
                 clear hK K
                 refine norm_ (a' := ?_) ?_ ?_
                 rotate_left
                 ·
                  show Act.put _ (some 89) _ = _
                  simp only [Act.put, List.setIfInBounds_toArray, List.set_cons_zero, List.set_cons_succ, i64_w, i32_w]
                  rfl
                 refine one_ (i := 5) (N := some 93) #[true, true, true, true, true, true, false, false, false, false, false] rfl rfl (one_of HT_.out (by kernel_rfl)) (by decide) (fun K hK => ?_)
                 refine goes_ Tryd.func27 (by kernel_rfl) rfl #[.agg #[.slice Ao76 t361.length co76, .int .i64 t364], .int .i64 (wrap64 (((rd_T39 t343 x52_2).f0) - 1))] (by rfl) rfl rfl (by (try simp only [List.map_toArray, List.map_cons, List.map_nil]); first | done | rfl | (simp only [List.length_drop, List.length_take]; rfl)) ?_
                 with_reducible refine (dip_Read.calls kj49 _ _ t361 t364 (wrap64 (((rd_T39 t343 x52_2).f0) - 1)) t365 t366 _ ?side1 ?side2 A71.out).mono ?_
                 (case side1 => repeat (first | exact (Kd.R_reads' HO363.out).2.2 | (with_reducible refine Kd.C_alloc ?_ _) | (with_reducible refine Kd.C_drewN ?_ _) | (with_reducible refine Kd.C_drew ?_)))
                 (case side2 => exact (Kd.R_reads' HO363.out).2.1)
                 rintro e w77 ⟨rfl, hb⟩
                 refine ⟨_, rfl, ?_⟩
                 have n0_ := Aside0.mk (Kd.R_below (by (with_reducible repeat (first | apply Kd.R_alloc | apply Kd.R_drewN | apply Kd.R_drew)); exact HO_5.out) hb)
                 have n1_ := Aside0.mk (Kd.R_below (by (with_reducible repeat (first | apply Kd.R_alloc | apply Kd.R_drewN | apply Kd.R_drew)); exact HO_50.out) hb)
                 have n2_ := Aside0.mk (Kd.R_below (by (with_reducible repeat (first | apply Kd.R_alloc | apply Kd.R_drewN | apply Kd.R_drew)); exact HO363.out) hb)
                 have n3_ := Aside0.mk (blk_below (g := gb336) (o := .cells #[.slice A0_0 l0_0.length c0_0, .int .i64 a0_1] 24 (0, 0)) (by (with_reducible repeat (first | refine blk_drewN ?_ _ | refine blk_drew ?_ | refine blk_alloc ?_ _)); exact BK336.out) hb)
                 have n4_ := Aside0.mk (blk_below (g := gb354) (o := .cells #[.int .i64 ((rd_T39 t343 x52_2).f0), .int .i64 ((rd_T39 t343 x52_2).f1)] 39 (0, 0)) (by (with_reducible repeat (first | refine blk_drewN ?_ _ | refine blk_drew ?_ | refine blk_alloc ?_ _)); exact BK354.out) hb)
                 have n5_ := Aside0.mk (below_step (by repeat (first | (with_reducible first | exact HB.out | apply below_alloc | apply pw_below_drewN | apply below_drew1 | refine below_set ?_ GE336.out | refine below_set ?_ GE354.out) | exact HB.out)) hb)
                 clear HO_5
                 clear HO_50
                 clear HO363
                 clear BK336
                 clear BK354
                 clear HB
                 have HO_5 := n0_
                 have HO_50 := n1_
                 have HO363 := n2_
                 have BK336 := n3_
                 have BK354 := n4_
                 have HB := n5_
                 clear n0_ n1_ n2_ n3_ n4_ n5_
                 (try clear hb)
                 (try clear hb2)
                 (try clear hk)
                 (try clear hi)
                 refine hK.out _ _ ⟨(blk_cell BK336.out 0).trans rfl, (blk_cell BK336.out 1).trans rfl, (blk_cell BK354.out 0).trans rfl, (blk_cell BK354.out 1).trans rfl⟩ (fun hHeld => ?_)
                 clear hK K
                 refine norm_ (a' := ?_) ?_ ?_
                 rotate_left
                 ·
                  show Act.put _ (some 93) _ = _
                  simp only [Act.put, List.setIfInBounds_toArray, List.set_cons_zero, List.set_cons_succ, i64_w, i32_w]
                  rfl
                 refine pure_ (i := 6) (N := some 87) (v := ?_) (a' := ?_) #[true, true, true, true, true, true, true, false, false, false, false] rfl rfl (any_of HT_.out (by kernel_rfl)) (fun _ _ _ h => h) (Or.inl ⟨by rfl, ?_⟩) ?_ ?_
                 rotate_left
                 ·
                  intro w'
                  go_simp
                  with_reducible rfl
                 rotate_left
                 ·
                  simp only [Act.put, List.setIfInBounds_toArray, List.set_cons_zero, List.set_cons_succ, i64_w, i32_w]
                  rfl
                 refine pure_ (i := 7) (N := some 94) (v := ?_) (a' := ?_) #[true, true, true, true, true, true, true, true, false, false, false] rfl rfl (any_of HT_.out (by kernel_rfl)) (fun _ _ _ h => h) (Or.inl ⟨by rfl, ?_⟩) ?_ ?_
                 rotate_left
                 ·
                  intro w'
                  go_simp
                  with_reducible rfl
                 rotate_left
                 ·
                  simp only [Act.put, List.setIfInBounds_toArray, List.set_cons_zero, List.set_cons_succ, i64_w, i32_w]
                  rfl
                 refine pure_ (i := 8) (N := some 95) (v := ?_) (a' := ?_) #[true, true, true, true, true, true, true, true, true, false, false] rfl rfl (any_of HT_.out (by kernel_rfl)) (fun _ _ _ h => h) (Or.inl ⟨by rfl, ?_⟩) ?_ ?_
                 rotate_left
                 ·
                  intro w'
                  go_simp
                  with_reducible rfl
                 rotate_left
                 ·
                  simp only [Act.put, List.setIfInBounds_toArray, List.set_cons_zero, List.set_cons_succ, i64_w, i32_w]
                  rfl
                 refine pure_ (i := 9) (N := some 11) (v := ?_) (a' := ?_) #[true, true, true, true, true, true, true, true, true, true, false] rfl rfl (any_of HT_.out (by kernel_rfl)) (fun _ _ _ h => h) (Or.inl ⟨by rfl, ?_⟩) ?_ ?_
                 rotate_left
                 ·
                  intro w'
                  go_simp
                  with_reducible rfl
                 rotate_left
                 ·
                  simp only [Act.put, List.setIfInBounds_toArray, List.set_cons_zero, List.set_cons_succ, i64_w, i32_w]
                  rfl
                 refine pure_ (i := 10) (N := some 12) (v := ?_) (a' := ?_) #[true, true, true, true, true, true, true, true, true, true, true] rfl rfl (any_of HT_.out (by kernel_rfl)) (fun _ _ _ h => h) (Or.inl ⟨by rfl, ?_⟩) ?_ ?_
                 rotate_left
                 ·
                  intro w'
                  go_simp
                  with_reducible rfl
                 rotate_left
                 ·
                  simp only [Act.put, List.setIfInBounds_toArray, List.set_cons_zero, List.set_cons_succ, i64_w, i32_w]
                  rfl
                 refine done_ (done_of HT_.out (by kernel_rfl)) ?_
                 have hnb78 := NB354_336.out
                 have hnc78 := NB336_354.out
                 have hcz79_0 : w77.cell? ⟨gb354, 0, none⟩ = some (.int .i64 ((rd_T39 t343 x52_2).f0)) := (blk_cell BK354.out 0).trans rfl
                 have hcz79_1 : w77.cell? ⟨gb354, 1, none⟩ = some (.int .i64 ((rd_T39 t343 x52_2).f1)) := (blk_cell BK354.out 1).trans rfl
                 have hfz79_0 := blk_frozen BK354.out 0
                 have hfz79_1 := blk_frozen BK354.out 1
                 try go_wp2
                 go_roundg kj49
                 case measure => have := HJ9.out; have := HK2.out; have := HJ49.out; omega
                 case rel => exact ⟨(wrap64 (x52_2 + 1)), (by first | rfl | (simp; done) | (simp [*]; done)), H', ⟨by have := HJ9.out; have := HK2.out; have := HJ49.out; omega⟩, ⟨by (with_reducible repeat (first | apply Kd.R_alloc | apply Kd.R_drewN | apply Kd.R_drew)); exact Kd.R_mono HO_5.out (fun _ hk => trivial)⟩, ⟨by (with_reducible repeat (first | apply Kd.R_alloc | apply Kd.R_drewN | apply Kd.R_drew)); exact Kd.R_mono HO_50.out (fun _ hk => trivial)⟩, ⟨by (with_reducible repeat (first | refine blk_drewN ?_ _ | refine blk_drew ?_ | refine blk_alloc ?_ _)); exact BK336.out⟩, ⟨by repeat (first | (with_reducible first | exact HB.out | apply below_alloc | apply pw_below_drewN | apply below_drew1 | refine below_set ?_ GE336.out | refine below_set ?_ GE354.out) | exact HB.out)⟩⟩
               ·
                rw [if_neg c72] at H
                have c72b0 : (t366 == 0) = false := beq_eq_false_iff_ne.mpr c72
                have c72b1 : (t366 != 0) = true := bne_iff_ne.mpr c72
                have H' := Aside0.mk H
                clear H
                try go_wp2
                have n0_ := Aside0.mk (Kd.R_drew HO_5.out)
                have n1_ := Aside0.mk (Kd.R_drew HO_50.out)
                have n2_ := Aside0.mk (blk_drew BK336.out)
                have n3_ := Aside0.mk (blk_drew BK354.out)
                have n4_ := Aside0.mk (below_drew1 HB.out)
                clear HO_5
                clear HO_50
                clear BK336
                clear BK354
                clear HB
                have HO_5 := n0_
                have HO_50 := n1_
                have BK336 := n2_
                have BK354 := n3_
                have HB := n4_
                clear n0_ n1_ n2_ n3_ n4_
                refine start_ (n := 11) (S := fun w' => w'.cell? ⟨gb336, 0, none⟩ = some (.slice A0_0 l0_0.length c0_0) ∧ w'.cell? ⟨gb336, 1, none⟩ = some (.int .i64 a0_1) ∧ w'.cell? ⟨gb354, 0, none⟩ = some (.int .i64 ((rd_T39 t343 x52_2).f0)) ∧ w'.cell? ⟨gb354, 1, none⟩ = some (.int .i64 ((rd_T39 t343 x52_2).f1))) (ds := []) #[false, false, false, false, false, false, false, false, false, false, false] (by kernel_rfl) rfl rfl ⟨(blk_cell BK336.out 0).trans rfl, (blk_cell BK336.out 1).trans rfl, (blk_cell BK354.out 0).trans rfl, (blk_cell BK354.out 1).trans rfl⟩ (fun hHeld => ?_); refine with_tabW spilelaw14_RodExact.tab16 spilelaw14_RodExact.bits16 (fun HT_ HW_ => ?_)
                generalize wc.drew = w80 at HO_5 HO_50 BK336 BK354 HB hHeld ⊢
                refine pure_ (i := 2) (N := some 90) (v := ?_) (a' := ?_) #[false, false, true, false, false, false, false, false, false, false, false] rfl rfl (any_of HT_.out (by kernel_rfl)) (fun _ _ _ h => h) (Or.inl ⟨by rfl, ?_⟩) ?_ ?_
                rotate_left
                ·
                 intro w'
                 go_simp
                 with_reducible rfl
                rotate_left
                ·
                 simp only [Act.put, List.setIfInBounds_toArray, List.set_cons_zero, List.set_cons_succ, i64_w, i32_w]
                 rfl
                refine take_ (i := 0) (N := some 88) (v := ?_) (a' := ?_) #[true, false, true, false, false, false, false, false, false, false, false] rfl rfl (take_ofW HT_.out HW_.out (by kernel_rfl)) (fun _ _ _ h => h) (Or.inl ⟨by rfl, ?_⟩) hHeld ?_ ?_
                rotate_left
                ·
                 rintro w' ⟨s0, s1, s2, s3⟩
                 go_simp
                 with_reducible rfl
                rotate_left
                ·
                 simp only [Act.put, List.setIfInBounds_toArray, List.set_cons_zero, List.set_cons_succ, i64_w, i32_w]
                 rfl
                refine take_ (i := 3) (N := some 91) (v := ?_) (a' := ?_) #[true, false, true, true, false, false, false, false, false, false, false] rfl rfl (take_ofW HT_.out HW_.out (by kernel_rfl)) (fun _ _ _ h => h) (Or.inl ⟨by rfl, ?_⟩) hHeld ?_ ?_
                rotate_left
                ·
                 rintro w' ⟨s0, s1, s2, s3⟩
                 go_simp
                 with_reducible rfl
                rotate_left
                ·
                 simp only [Act.put, List.setIfInBounds_toArray, List.set_cons_zero, List.set_cons_succ, i64_w, i32_w]
                 rfl
                refine pure_ (i := 4) (N := some 92) (v := ?_) (a' := ?_) #[true, false, true, true, true, false, false, false, false, false, false] rfl rfl (any_of HT_.out (by kernel_rfl)) (fun _ _ _ h => h) (Or.inl ⟨by rfl, ?_⟩) ?_ ?_
                rotate_left
                ·
                 intro w'
                 go_simp
                 with_reducible rfl
                rotate_left
                ·
                 simp only [Act.put, List.setIfInBounds_toArray, List.set_cons_zero, List.set_cons_succ, i64_w, i32_w]
                 rfl
                refine one_ (i := 1) (N := some 89) #[true, true, true, true, true, false, false, false, false, false, false] rfl rfl (one_of HT_.out (by kernel_rfl)) (by decide) (fun K hK => ?_)
                refine goes_ Tryd.func13 (by kernel_rfl) rfl #[.agg #[.slice A0_0 l0_0.length c0_0, .int .i64 a0_1]] (by rfl) rfl rfl (by (try simp only [List.map_toArray, List.map_cons, List.map_nil]); first | done | rfl | (simp only [List.length_drop, List.length_take]; rfl)) ?_
                with_reducible refine (spileref13_Copy.calls _ _ l0_0 a0_1 t361 t364 _ ?side1 ?side2 A70.out).mono ?_
                (case side1 => repeat (first | exact (Kd.C_below HR0_0.out HB.out) | (with_reducible refine Kd.C_alloc ?_ _) | (with_reducible refine Kd.C_drewN ?_ _) | (with_reducible refine Kd.C_drew ?_)))
                (case side2 => exact HC0_0.out)
                rintro e w81 ⟨v362, rfl, ho0, hb⟩
                refine ⟨_, rfl, ?_⟩
                have n0_ := Aside0.mk (Kd.R_elder' (by (with_reducible repeat (first | apply Kd.R_alloc | apply Kd.R_drewN | apply Kd.R_drew)); exact HO_5.out) (Kd.R_base ho0) hb)
                have n1_ := Aside0.mk (Kd.R_elder' (by (with_reducible repeat (first | apply Kd.R_alloc | apply Kd.R_drewN | apply Kd.R_drew)); exact HO_50.out) (Kd.R_base ho0) hb)
                have n2_ := Aside0.mk (Kd.R_lower (Kd.R_newB (Kd.R_new' (Kd.R_new' ho0 (Kd.R_lt (by (with_reducible repeat (first | apply Kd.R_alloc | apply Kd.R_drewN | apply Kd.R_drew)); exact HO_5.out))) (Kd.R_lt (by (with_reducible repeat (first | apply Kd.R_alloc | apply Kd.R_drewN | apply Kd.R_drew)); exact HO_50.out))) (g := gb354) (o := .cells #[.int .i64 ((rd_T39 t343 x52_2).f0), .int .i64 ((rd_T39 t343 x52_2).f1)] 39 (0, 0)) (by (with_reducible repeat (first | refine blk_drewN ?_ _ | refine blk_drew ?_ | refine blk_alloc ?_ _)); exact BK354.out)) (below_size (by repeat (first | (with_reducible first | exact HB.out | apply below_alloc | apply pw_below_drewN | apply below_drew1 | refine below_set ?_ GE336.out | refine below_set ?_ GE354.out) | exact HB.out))))
                have n3_ := Aside0.mk (blk_below (g := gb336) (o := .cells #[.slice A0_0 l0_0.length c0_0, .int .i64 a0_1] 24 (0, 0)) (by (with_reducible repeat (first | refine blk_drewN ?_ _ | refine blk_drew ?_ | refine blk_alloc ?_ _)); exact BK336.out) hb)
                have n4_ := Aside0.mk (blk_below (g := gb354) (o := .cells #[.int .i64 ((rd_T39 t343 x52_2).f0), .int .i64 ((rd_T39 t343 x52_2).f1)] 39 (0, 0)) (by (with_reducible repeat (first | refine blk_drewN ?_ _ | refine blk_drew ?_ | refine blk_alloc ?_ _)); exact BK354.out) hb)
                have n5_ := Aside0.mk (below_step (by repeat (first | (with_reducible first | exact HB.out | apply below_alloc | apply pw_below_drewN | apply below_drew1 | refine below_set ?_ GE336.out | refine below_set ?_ GE354.out) | exact HB.out)) hb)
                clear HO_5
                clear HO_50
                clear BK336
                clear BK354
                clear HB
                have HO_5 := n0_
                have HO_50 := n1_
                have HO363 := n2_
                have BK336 := n3_
                have BK354 := n4_
                have HB := n5_
                clear n0_ n1_ n2_ n3_ n4_ n5_
                (try clear hb)
                (try clear hb2)
                (try clear hk)
                (try clear hi)
                (try clear ho0)
                obtain ⟨Ao82, co82, eo82⟩ := Kd.R_slice HO363.out
                (first | subst eo82 | (injection eo82 with f1_ f2_ f3_; have f4_ := f1_.symm; have f5_ := f3_.symm; clear f1_ f2_ f3_; subst f4_; subst f5_))
                refine hK.out _ _ ⟨(blk_cell BK336.out 0).trans rfl, (blk_cell BK336.out 1).trans rfl, (blk_cell BK354.out 0).trans rfl, (blk_cell BK354.out 1).trans rfl⟩ (fun hHeld => ?_)
                clear hK K
                refine norm_ (a' := ?_) ?_ ?_
                rotate_left
                ·
                 show Act.put _ (some 89) _ = _
                 simp only [Act.put, List.setIfInBounds_toArray, List.set_cons_zero, List.set_cons_succ, i64_w, i32_w]
                 rfl
                refine one_ (i := 5) (N := some 93) #[true, true, true, true, true, true, false, false, false, false, false] rfl rfl (one_of HT_.out (by kernel_rfl)) (by decide) (fun K hK => ?_)
                refine goes_ Tryd.func27 (by kernel_rfl) rfl #[.agg #[.slice Ao82 t361.length co82, .int .i64 t364], .int .i64 (wrap64 (((rd_T39 t343 x52_2).f0) - 1))] (by rfl) rfl rfl (by (try simp only [List.map_toArray, List.map_cons, List.map_nil]); first | done | rfl | (simp only [List.length_drop, List.length_take]; rfl)) ?_
                with_reducible refine (dip_Read.calls kj49 _ _ t361 t364 (wrap64 (((rd_T39 t343 x52_2).f0) - 1)) t365 t366 _ ?side1 ?side2 A71.out).mono ?_
                (case side1 => repeat (first | exact (Kd.R_reads' HO363.out).2.2 | (with_reducible refine Kd.C_alloc ?_ _) | (with_reducible refine Kd.C_drewN ?_ _) | (with_reducible refine Kd.C_drew ?_)))
                (case side2 => exact (Kd.R_reads' HO363.out).2.1)
                rintro e w83 ⟨rfl, hb⟩
                refine ⟨_, rfl, ?_⟩
                have n0_ := Aside0.mk (Kd.R_below (by (with_reducible repeat (first | apply Kd.R_alloc | apply Kd.R_drewN | apply Kd.R_drew)); exact HO_5.out) hb)
                have n1_ := Aside0.mk (Kd.R_below (by (with_reducible repeat (first | apply Kd.R_alloc | apply Kd.R_drewN | apply Kd.R_drew)); exact HO_50.out) hb)
                have n2_ := Aside0.mk (Kd.R_below (by (with_reducible repeat (first | apply Kd.R_alloc | apply Kd.R_drewN | apply Kd.R_drew)); exact HO363.out) hb)
                have n3_ := Aside0.mk (blk_below (g := gb336) (o := .cells #[.slice A0_0 l0_0.length c0_0, .int .i64 a0_1] 24 (0, 0)) (by (with_reducible repeat (first | refine blk_drewN ?_ _ | refine blk_drew ?_ | refine blk_alloc ?_ _)); exact BK336.out) hb)
                have n4_ := Aside0.mk (blk_below (g := gb354) (o := .cells #[.int .i64 ((rd_T39 t343 x52_2).f0), .int .i64 ((rd_T39 t343 x52_2).f1)] 39 (0, 0)) (by (with_reducible repeat (first | refine blk_drewN ?_ _ | refine blk_drew ?_ | refine blk_alloc ?_ _)); exact BK354.out) hb)
                have n5_ := Aside0.mk (below_step (by repeat (first | (with_reducible first | exact HB.out | apply below_alloc | apply pw_below_drewN | apply below_drew1 | refine below_set ?_ GE336.out | refine below_set ?_ GE354.out) | exact HB.out)) hb)
                clear HO_5
                clear HO_50
                clear HO363
                clear BK336
                clear BK354
                clear HB
                have HO_5 := n0_
                have HO_50 := n1_
                have HO363 := n2_
                have BK336 := n3_
                have BK354 := n4_
                have HB := n5_
                clear n0_ n1_ n2_ n3_ n4_ n5_
                (try clear hb)
                (try clear hb2)
                (try clear hk)
                (try clear hi)
                refine hK.out _ _ ⟨(blk_cell BK336.out 0).trans rfl, (blk_cell BK336.out 1).trans rfl, (blk_cell BK354.out 0).trans rfl, (blk_cell BK354.out 1).trans rfl⟩ (fun hHeld => ?_)
                clear hK K
                refine norm_ (a' := ?_) ?_ ?_
                rotate_left
                ·
                 show Act.put _ (some 93) _ = _
                 simp only [Act.put, List.setIfInBounds_toArray, List.set_cons_zero, List.set_cons_succ, i64_w, i32_w]
                 rfl
                refine pure_ (i := 6) (N := some 87) (v := ?_) (a' := ?_) #[true, true, true, true, true, true, true, false, false, false, false] rfl rfl (any_of HT_.out (by kernel_rfl)) (fun _ _ _ h => h) (Or.inl ⟨by rfl, ?_⟩) ?_ ?_
                rotate_left
                ·
                 intro w'
                 go_simp
                 with_reducible rfl
                rotate_left
                ·
                 simp only [Act.put, List.setIfInBounds_toArray, List.set_cons_zero, List.set_cons_succ, i64_w, i32_w]
                 rfl
                refine pure_ (i := 7) (N := some 94) (v := ?_) (a' := ?_) #[true, true, true, true, true, true, true, true, false, false, false] rfl rfl (any_of HT_.out (by kernel_rfl)) (fun _ _ _ h => h) (Or.inl ⟨by rfl, ?_⟩) ?_ ?_
                rotate_left
                ·
                 intro w'
                 go_simp
                 with_reducible rfl
                rotate_left
                ·
                 simp only [Act.put, List.setIfInBounds_toArray, List.set_cons_zero, List.set_cons_succ, i64_w, i32_w]
                 rfl
                refine pure_ (i := 8) (N := some 95) (v := ?_) (a' := ?_) #[true, true, true, true, true, true, true, true, true, false, false] rfl rfl (any_of HT_.out (by kernel_rfl)) (fun _ _ _ h => h) (Or.inl ⟨by rfl, ?_⟩) ?_ ?_
                rotate_left
                ·
                 intro w'
                 go_simp
                 with_reducible rfl
                rotate_left
                ·
                 simp only [Act.put, List.setIfInBounds_toArray, List.set_cons_zero, List.set_cons_succ, i64_w, i32_w]
                 rfl
                refine pure_ (i := 9) (N := some 11) (v := ?_) (a' := ?_) #[true, true, true, true, true, true, true, true, true, true, false] rfl rfl (any_of HT_.out (by kernel_rfl)) (fun _ _ _ h => h) (Or.inl ⟨by rfl, ?_⟩) ?_ ?_
                rotate_left
                ·
                 intro w'
                 go_simp
                 with_reducible rfl
                rotate_left
                ·
                 simp only [Act.put, List.setIfInBounds_toArray, List.set_cons_zero, List.set_cons_succ, i64_w, i32_w]
                 rfl
                refine pure_ (i := 10) (N := some 12) (v := ?_) (a' := ?_) #[true, true, true, true, true, true, true, true, true, true, true] rfl rfl (any_of HT_.out (by kernel_rfl)) (fun _ _ _ h => h) (Or.inl ⟨by rfl, ?_⟩) ?_ ?_
                rotate_left
                ·
                 intro w'
                 go_simp
                 with_reducible rfl
                rotate_left
                ·
                 simp only [Act.put, List.setIfInBounds_toArray, List.set_cons_zero, List.set_cons_succ, i64_w, i32_w]
                 rfl
                refine done_ (done_of HT_.out (by kernel_rfl)) ?_
                try go_wp2
                go_roundg kj49
                case measure => have := HJ9.out; have := HK2.out; have := HJ49.out; omega
                case rel => exact ⟨(wrap64 (x52_2 + 1)), (by first | rfl | (simp; done) | (simp [*]; done)), H', ⟨by have := HJ9.out; have := HK2.out; have := HJ49.out; omega⟩, ⟨by (with_reducible repeat (first | apply Kd.R_alloc | apply Kd.R_drewN | apply Kd.R_drew)); exact Kd.R_mono HO_5.out (fun _ hk => trivial)⟩, ⟨by (with_reducible repeat (first | apply Kd.R_alloc | apply Kd.R_drewN | apply Kd.R_drew)); exact Kd.R_mono HO_50.out (fun _ hk => trivial)⟩, ⟨by (with_reducible repeat (first | refine blk_drewN ?_ _ | refine blk_drew ?_ | refine blk_alloc ?_ _)); exact BK336.out⟩, ⟨by repeat (first | (with_reducible first | exact HB.out | apply below_alloc | apply pw_below_drewN | apply below_drew1 | refine below_set ?_ GE336.out | refine below_set ?_ GE354.out) | exact HB.out)⟩⟩
           ·
            rw [if_neg c47] at H
            exact absurd H (by simp)
          ·
           rw [if_neg c46] at H
           exact absurd H (by simp)
         ·
          rw [if_neg c45] at H
          have c45b0 : decide (x52_2 < (t343.length : Int)) = false := decide_eq_false c45
          clear c45
          obtain ⟨ji84, hji84⟩ : ∃ j_ : Int, (wrap64 ((l0_0.length : Int) - 1)) = j_ := ⟨_, rfl⟩
          replace H : (if 0 ≤ (ji84) then (if (ji84) < (l0_0.length : Int) then (if 0 ≤ (wrap64 ((t343.length : Int) - 1)) then (if (wrap64 ((t343.length : Int) - 1)) < (t343.length : Int) then (if a1 = 0 then (none) else (some (((rd_T39 t343 (wrap64 ((t343.length : Int) - 1))).f1) == (wrap64 ((wrap64 (Int.tdiv ((rd_T39 l0_0 (ji84)).f1) a1)) * a1))))) else (none)) else (none)) else (none)) else (none)) = some r := by first | (rw [hji84] at H; exact H) | (simp only [hji84] at H ⊢; exact H)
          have hji84w : (IntKind.i64.wrap ((l0_0.length : Int) - 1)) = ji84 := (i64_w _).trans hji84
          by_cases c85 : 0 ≤ (ji84)
          ·
           rw [if_pos c85] at H
           have c85b0 : decide (0 ≤ (ji84)) = true := decide_eq_true c85
           clear c85
           by_cases c86 : (ji84) < (l0_0.length : Int)
           ·
            rw [if_pos c86] at H
            have c86b0 : decide ((ji84) < (l0_0.length : Int)) = true := decide_eq_true c86
            clear c86
            obtain ⟨ji87, hji87⟩ : ∃ j_ : Int, (wrap64 ((t343.length : Int) - 1)) = j_ := ⟨_, rfl⟩
            replace H : (if 0 ≤ (ji87) then (if (ji87) < (t343.length : Int) then (if a1 = 0 then (none) else (some (((rd_T39 t343 (ji87)).f1) == (wrap64 ((wrap64 (Int.tdiv ((rd_T39 l0_0 (ji84)).f1) a1)) * a1))))) else (none)) else (none)) = some r := by first | (rw [hji87] at H; exact H) | (simp only [hji87] at H ⊢; exact H)
            have hji87w : (IntKind.i64.wrap ((t343.length : Int) - 1)) = ji87 := (i64_w _).trans hji87
            by_cases c88 : 0 ≤ (ji87)
            ·
             rw [if_pos c88] at H
             have c88b0 : decide (0 ≤ (ji87)) = true := decide_eq_true c88
             clear c88
             by_cases c89 : (ji87) < (t343.length : Int)
             ·
              rw [if_pos c89] at H
              have c89b0 : decide ((ji87) < (t343.length : Int)) = true := decide_eq_true c89
              clear c89
              by_cases c90 : a1 = 0
              ·
               rw [if_pos c90] at H
               exact absurd H (by simp)
              ·
               rw [if_neg c90] at H
               have c90b0 : (a1 == 0) = false := beq_eq_false_iff_ne.mpr c90
               have c90b1 : (a1 != 0) = true := bne_iff_ne.mpr c90
               obtain rfl := Option.some.inj H
               have hcz91_0 : wr.cell? ⟨gb336, 0, none⟩ = some (.slice A0_0 l0_0.length c0_0) := (blk_cell BK336.out 0).trans rfl
               have hcz91_1 : wr.cell? ⟨gb336, 1, none⟩ = some (.int .i64 a0_1) := (blk_cell BK336.out 1).trans rfl
               have hfz91_0 := blk_frozen BK336.out 0
               have hfz91_1 := blk_frozen BK336.out 1
               have p351 : 0 ≤ ((ji84) : Int) := of_decide_eq_true (by first | (with_reducible assumption) | assumption)
               have q351 : (ji84) < (l0_0.length : Int) := of_decide_eq_true (by first | (with_reducible assumption) | assumption)
               obtain ⟨ad351, e351, hx351_0, hx351_1⟩ := at_T39 HR0_0.out (ji84) p351 q351
               cases e351
               replace hx351_0 := (HB.out.cell (World.block_lt_of_cell? w _ hx351_0)).trans hx351_0
               replace hx351_1 := (HB.out.cell (World.block_lt_of_cell? w _ hx351_1)).trans hx351_1
               replace p351 := eq_true p351
               replace q351 := eq_true q351
               try go_wp2
               have n0_ := Aside0.mk (Kd.R_drew HO_5.out)
               have n1_ := Aside0.mk (Kd.R_drew HO_50.out)
               have n2_ := Aside0.mk (blk_drew BK336.out)
               have n3_ := Aside0.mk (below_drew1 HB.out)
               clear HO_5
               clear HO_50
               clear BK336
               clear HB
               have HO_5 := n0_
               have HO_50 := n1_
               have BK336 := n2_
               have HB := n3_
               clear n0_ n1_ n2_ n3_
               have p352 : 0 ≤ ((ji87) : Int) := of_decide_eq_true (by first | (with_reducible assumption) | assumption)
               have q352 : (ji87) < (t343.length : Int) := of_decide_eq_true (by first | (with_reducible assumption) | assumption)
               obtain ⟨ad352, e352, hx352_0, hx352_1⟩ := at_T39 (Kd.R_reads' HO_5.out).2.2 (ji87) p352 q352
               cases e352
               replace p352 := eq_true p352
               replace q352 := eq_true q352
               refine start_ (n := 14) (S := fun w' => w'.cell? (ad352.add (((ji87)).toNat * 2)) = some (.int .i64 ((rd_T39 t343 (ji87)).f0)) ∧ w'.cell? ⟨(ad352.add (((ji87)).toNat * 2)).block, (ad352.add (((ji87)).toNat * 2)).off + 1, none⟩ = some (.int .i64 ((rd_T39 t343 (ji87)).f1))) (ds := []) #[false, false, false, false, false, false, false, false, false, false, false, false, false, false] (by kernel_rfl) rfl rfl ⟨hx352_0, hx352_1⟩ (fun hHeld => ?_); refine with_tabW spilelaw14_RodExact.tab21 spilelaw14_RodExact.bits21 (fun HT_ HW_ => ?_)
               generalize wr.drew = w92 at HO_5 HO_50 BK336 HB hx352_0 hx352_1 hHeld ⊢
               refine pure_ (i := 0) (N := some 114) (v := ?_) (a' := ?_) #[true, false, false, false, false, false, false, false, false, false, false, false, false, false] rfl rfl (any_of HT_.out (by kernel_rfl)) (fun _ _ _ h => h) (Or.inl ⟨by rfl, ?_⟩) ?_ ?_
               rotate_left
               ·
                intro w'
                go_simp
                with_reducible rfl
               rotate_left
               ·
                simp only [Act.put, List.setIfInBounds_toArray, List.set_cons_zero, List.set_cons_succ, i64_w, i32_w]
                rfl
               refine pure_ (i := 1) (N := some 115) (v := ?_) (a' := ?_) #[true, true, false, false, false, false, false, false, false, false, false, false, false, false] rfl rfl (any_of HT_.out (by kernel_rfl)) (fun _ _ _ h => h) (Or.inl ⟨by rfl, ?_⟩) ?_ ?_
               rotate_left
               ·
                intro w'
                go_simp
                with_reducible rfl
               rotate_left
               ·
                simp only [Act.put, List.setIfInBounds_toArray, List.set_cons_zero, List.set_cons_succ, i64_w, i32_w]
                rfl
               refine pure_ (i := 2) (N := some 116) (v := ?_) (a' := ?_) #[true, true, true, false, false, false, false, false, false, false, false, false, false, false] rfl rfl (any_of HT_.out (by kernel_rfl)) (fun _ _ _ h => h) (Or.inl ⟨by rfl, ?_⟩) ?_ ?_
               rotate_left
               ·
                intro w'
                go_simp
                with_reducible rfl
               rotate_left
               ·
                simp only [Act.put, List.setIfInBounds_toArray, List.set_cons_zero, List.set_cons_succ, i64_w, i32_w]
                rfl
               refine pure_ (i := 3) (N := some 117) (v := ?_) (a' := ?_) #[true, true, true, true, false, false, false, false, false, false, false, false, false, false] rfl rfl (any_of HT_.out (by kernel_rfl)) (fun _ _ _ h => h) (Or.inl ⟨by rfl, ?_⟩) ?_ ?_
               rotate_left
               ·
                intro w'
                go_simp
                with_reducible rfl
               rotate_left
               ·
                simp only [Act.put, List.setIfInBounds_toArray, List.set_cons_zero, List.set_cons_succ, i64_w, i32_w]
                rfl
               refine pure_ (i := 4) (N := some 118) (v := ?_) (a' := ?_) #[true, true, true, true, true, false, false, false, false, false, false, false, false, false] rfl rfl (any_of HT_.out (by kernel_rfl)) (fun _ _ _ h => h) (Or.inl ⟨by rfl, ?_⟩) ?_ ?_
               rotate_left
               ·
                intro w'
                go_simp
                with_reducible rfl
               rotate_left
               ·
                simp only [Act.put, List.setIfInBounds_toArray, List.set_cons_zero, List.set_cons_succ, i64_w, i32_w]
                rfl
               refine pure_ (i := 5) (N := some 119) (v := ?_) (a' := ?_) #[true, true, true, true, true, true, false, false, false, false, false, false, false, false] rfl rfl (any_of HT_.out (by kernel_rfl)) (fun _ _ _ h => h) (Or.inl ⟨by rfl, ?_⟩) ?_ ?_
               rotate_left
               ·
                intro w'
                go_simp
                with_reducible rfl
               rotate_left
               ·
                simp only [Act.put, List.setIfInBounds_toArray, List.set_cons_zero, List.set_cons_succ, i64_w, i32_w]
                rfl
               refine pure_ (i := 7) (N := some 121) (v := ?_) (a' := ?_) #[true, true, true, true, true, true, false, true, false, false, false, false, false, false] rfl rfl (any_of HT_.out (by kernel_rfl)) (fun _ _ _ h => h) (Or.inl ⟨by rfl, ?_⟩) ?_ ?_
               rotate_left
               ·
                intro w'
                go_simp
                with_reducible rfl
               rotate_left
               ·
                simp only [Act.put, List.setIfInBounds_toArray, List.set_cons_zero, List.set_cons_succ, i64_w, i32_w]
                rfl
               refine pure_ (i := 8) (N := some 122) (v := ?_) (a' := ?_) #[true, true, true, true, true, true, false, true, true, false, false, false, false, false] rfl rfl (any_of HT_.out (by kernel_rfl)) (fun _ _ _ h => h) (Or.inl ⟨by rfl, ?_⟩) ?_ ?_
               rotate_left
               ·
                intro w'
                go_simp
                with_reducible rfl
               rotate_left
               ·
                simp only [Act.put, List.setIfInBounds_toArray, List.set_cons_zero, List.set_cons_succ, i64_w, i32_w]
                rfl
               refine pure_ (i := 9) (N := some 123) (v := ?_) (a' := ?_) #[true, true, true, true, true, true, false, true, true, true, false, false, false, false] rfl rfl (any_of HT_.out (by kernel_rfl)) (fun _ _ _ h => h) (Or.inl ⟨by rfl, ?_⟩) ?_ ?_
               rotate_left
               ·
                intro w'
                go_simp
                with_reducible rfl
               rotate_left
               ·
                simp only [Act.put, List.setIfInBounds_toArray, List.set_cons_zero, List.set_cons_succ, i64_w, i32_w]
                rfl
               refine pure_ (i := 10) (N := some 124) (v := ?_) (a' := ?_) #[true, true, true, true, true, true, false, true, true, true, true, false, false, false] rfl rfl (any_of HT_.out (by kernel_rfl)) (fun _ _ _ h => h) (Or.inl ⟨by rfl, ?_⟩) ?_ ?_
               rotate_left
               ·
                intro w'
                go_simp
                with_reducible rfl
               rotate_left
               ·
                simp only [Act.put, List.setIfInBounds_toArray, List.set_cons_zero, List.set_cons_succ, i64_w, i32_w]
                rfl
               refine pure_ (i := 11) (N := some 125) (v := ?_) (a' := ?_) #[true, true, true, true, true, true, false, true, true, true, true, true, false, false] rfl rfl (any_of HT_.out (by kernel_rfl)) (fun _ _ _ h => h) (Or.inl ⟨by rfl, ?_⟩) ?_ ?_
               rotate_left
               ·
                intro w'
                go_simp
                with_reducible rfl
               rotate_left
               ·
                simp only [Act.put, List.setIfInBounds_toArray, List.set_cons_zero, List.set_cons_succ, i64_w, i32_w]
                rfl
               refine take_ (i := 6) (N := some 120) (v := ?_) (a' := ?_) #[true, true, true, true, true, true, true, true, true, true, true, true, false, false] rfl rfl (take_ofW HT_.out HW_.out (by kernel_rfl)) (fun _ _ _ h => h) (Or.inl ⟨by rfl, ?_⟩) hHeld ?_ ?_
               rotate_left
               ·
                rintro w' ⟨s0, s1⟩
                go_simp
                with_reducible rfl
               rotate_left
               ·
                simp only [Act.put, List.setIfInBounds_toArray, List.set_cons_zero, List.set_cons_succ, i64_w, i32_w]
                rfl
               refine pure_ (i := 12) (N := some 126) (v := ?_) (a' := ?_) #[true, true, true, true, true, true, true, true, true, true, true, true, true, false] rfl rfl (any_of HT_.out (by kernel_rfl)) (fun _ _ _ h => h) (Or.inl ⟨by rfl, ?_⟩) ?_ ?_
               rotate_left
               ·
                intro w'
                go_simp
                with_reducible rfl
               rotate_left
               ·
                simp only [Act.put, List.setIfInBounds_toArray, List.set_cons_zero, List.set_cons_succ, i64_w, i32_w]
                rfl
               refine pure_ (i := 13) (N := some 4) (v := ?_) (a' := ?_) #[true, true, true, true, true, true, true, true, true, true, true, true, true, true] rfl rfl (any_of HT_.out (by kernel_rfl)) (fun _ _ _ h => h) (Or.inl ⟨by rfl, ?_⟩) ?_ ?_
               rotate_left
               ·
                intro w'
                go_simp
                with_reducible rfl
               rotate_left
               ·
                simp only [Act.put, List.setIfInBounds_toArray, List.set_cons_zero, List.set_cons_succ, i64_w, i32_w]
                rfl
               refine done_ (done_of HT_.out (by kernel_rfl)) ?_
               try go_wp2
               go_ret
               exact ⟨by first | rfl | (simp [errW_none, errW_some] <;> rfl) | (simp only [← hji84, ← hji87]; first | rfl | (simp [errW_none, errW_some] <;> rfl)) | (simp [*, errW_none, errW_some] <;> rfl), by repeat (first | (with_reducible first | exact HB.out | apply below_alloc | apply pw_below_drewN | apply below_drew1 | refine below_set ?_ GE336.out) | exact HB.out)⟩
             ·
              rw [if_neg c89] at H
              exact absurd H (by simp)
            ·
             rw [if_neg c88] at H
             exact absurd H (by simp)
           ·
            rw [if_neg c86] at H
            exact absurd H (by simp)
          ·
           rw [if_neg c85] at H
           exact absurd H (by simp)
   ·
    rw [if_neg c9] at H
    have c9b0 : (t346 == 0) = false := beq_eq_false_iff_ne.mpr c9
    have c9b1 : (t346 != 0) = true := bne_iff_ne.mpr c9
    obtain rfl := Option.some.inj H
    go_enter Tryd.func6, Tryd.ntmps6
    go_wp2_with (first | ((with_reducible refine gate_dst (N := 2) rfl ?_); (try (refine gate_guard (by rfl) ?_; dsimp only)); refine box_event ?hg (N := 2) ?hd (cs := #[.slice A0_0 l0_0.length c0_0, .int .i64 a0_1]) (t := 24) ?hr ?_; (case hd => rfl); (case hg => rfl); (case hr => first | (go_simp; done) | (go_simp; rfl)); intro gb336 hg w93 hbox hb; have n0_ := Aside0.mk (below_step (by repeat (first | (with_reducible first | exact HB.out | apply below_alloc | apply pw_below_drewN | apply below_drew1) | exact HB.out)) hb); have n1_ := Aside0.mk (hbox); have n2_ := Aside0.mk ((by rw [hg]; exact (below_size (by repeat (first | (with_reducible first | exact HB.out | apply below_alloc | apply pw_below_drewN | apply below_drew1) | exact HB.out))) : w.heap.size ≤ gb336)); have n3_ := Aside0.mk ((by rw [hg]; exact (below_size (by repeat (first | (with_reducible first | exact HB.out | apply below_alloc | apply pw_below_drewN | apply below_drew1) | exact HB.out))) : w.heap.size ≤ gb336)); clear HB; have HB := n0_; have BK336 := n1_; have GW336 := n2_; have GE336 := n3_; clear n0_ n1_ n2_ n3_; clear hb hbox hg) | ((with_reducible refine gate_callee (f := 10) rfl ?_); refine goesL_ (some 14) rfl rfl Tryd.func10 (by kernel_rfl) rfl #[] rfl (by (try simp only [List.map_toArray, List.map_cons, List.map_nil]); first | done | rfl | (simp only [List.length_drop, List.length_take]; rfl)) ?_; (with_reducible refine (spilelaw14_awake.calls  true _ ?side1 A3.out).mono ?_); (case side1 => exact GI.below HG.out (by repeat (first | (with_reducible first | exact HB.out | apply below_alloc | apply pw_below_drewN | apply below_drew1 | refine below_set ?_ GE336.out) | exact HB.out))); rintro e w94 ⟨rfl, hb⟩; refine ⟨_, rfl, ?_⟩; have n0_ := Aside0.mk (blk_below (g := gb336) (o := .cells #[.slice A0_0 l0_0.length c0_0, .int .i64 a0_1] 24 (0, 0)) (by (with_reducible repeat (first | refine blk_drewN ?_ _ | refine blk_drew ?_ | refine blk_alloc ?_ _)); exact BK336.out) hb); have n1_ := Aside0.mk (below_step (by repeat (first | (with_reducible first | exact HB.out | apply below_alloc | apply pw_below_drewN | apply below_drew1 | refine below_set ?_ GE336.out) | exact HB.out)) hb); clear BK336; clear HB; have BK336 := n0_; have HB := n1_; clear n0_ n1_; (try clear hb); (try clear hb2); (try clear hk); (try clear hi); have hcz95_0 : w94.cell? ⟨gb336, 0, none⟩ = some (.slice A0_0 l0_0.length c0_0) := (blk_cell BK336.out 0).trans rfl; have hcz95_1 : w94.cell? ⟨gb336, 1, none⟩ = some (.int .i64 a0_1) := (blk_cell BK336.out 1).trans rfl; have hfz95_0 := blk_frozen BK336.out 0; have hfz95_1 := blk_frozen BK336.out 1) | ((with_reducible refine gate_callee (f := 11) rfl ?_); refine goesL_ (some 17) rfl rfl Tryd.func11 (by kernel_rfl) rfl #[.slice none 0 0, .agg #[.slice A0_0 l0_0.length c0_0, .int .i64 a0_1]] rfl (by (try simp only [List.map_toArray, List.map_cons, List.map_nil]); first | done | rfl | (simp only [List.length_drop, List.length_take]; rfl)) ?_; (refine (spilelaw14_few.calls _ _ ([] : List (S39)) _ _ l0_0 a0_1 true _ ?side1 ?side2 ?side3 ?side4 A5.out).mono ?_); (case side1 => exact Kd.C_nil _ _); (case side2 => exact Nat.le_refl _); (case side3 => repeat (first | exact (Kd.C_below HR0_0.out HB.out) | (with_reducible refine Kd.C_alloc ?_ _) | (with_reducible refine Kd.C_drewN ?_ _) | (with_reducible refine Kd.C_drew ?_))); (case side4 => exact HC0_0.out); rintro e w96 ⟨rfl, hb⟩; refine ⟨_, rfl, ?_⟩; have n0_ := Aside0.mk (blk_below (g := gb336) (o := .cells #[.slice A0_0 l0_0.length c0_0, .int .i64 a0_1] 24 (0, 0)) (by (with_reducible repeat (first | refine blk_drewN ?_ _ | refine blk_drew ?_ | refine blk_alloc ?_ _)); exact BK336.out) hb); have n1_ := Aside0.mk (below_step (by repeat (first | (with_reducible first | exact HB.out | apply below_alloc | apply pw_below_drewN | apply below_drew1 | refine below_set ?_ GE336.out) | exact HB.out)) hb); clear BK336; clear HB; have BK336 := n0_; have HB := n1_; clear n0_ n1_; (try clear hb); (try clear hb2); (try clear hk); (try clear hi); have hcz97_0 : w96.cell? ⟨gb336, 0, none⟩ = some (.slice A0_0 l0_0.length c0_0) := (blk_cell BK336.out 0).trans rfl; have hcz97_1 : w96.cell? ⟨gb336, 1, none⟩ = some (.int .i64 a0_1) := (blk_cell BK336.out 1).trans rfl; have hfz97_0 := blk_frozen BK336.out 0; have hfz97_1 := blk_frozen BK336.out 1) | ((with_reducible refine gate_callee (f := 13) rfl ?_); refine goesL_ (some 21) rfl rfl Tryd.func13 (by kernel_rfl) rfl #[.agg #[.slice A0_0 l0_0.length c0_0, .int .i64 a0_1]] rfl (by (try simp only [List.map_toArray, List.map_cons, List.map_nil]); first | done | rfl | (simp only [List.length_drop, List.length_take]; rfl)) ?_; (with_reducible refine (spileref13_Copy.calls _ _ l0_0 a0_1 t339 t342 _ ?side1 ?side2 A7.out).mono ?_); (case side1 => repeat (first | exact (Kd.C_below HR0_0.out HB.out) | (with_reducible refine Kd.C_alloc ?_ _) | (with_reducible refine Kd.C_drewN ?_ _) | (with_reducible refine Kd.C_drew ?_))); (case side2 => exact HC0_0.out); rintro e w98 ⟨v340, rfl, ho0, hb⟩; refine ⟨_, rfl, ?_⟩; have n0_ := Aside0.mk (Kd.R_lower ho0 (below_size (by repeat (first | (with_reducible first | exact HB.out | apply below_alloc | apply pw_below_drewN | apply below_drew1 | refine below_set ?_ GE336.out) | exact HB.out)))); have n1_ := Aside0.mk (blk_below (g := gb336) (o := .cells #[.slice A0_0 l0_0.length c0_0, .int .i64 a0_1] 24 (0, 0)) (by (with_reducible repeat (first | refine blk_drewN ?_ _ | refine blk_drew ?_ | refine blk_alloc ?_ _)); exact BK336.out) hb); have n2_ := Aside0.mk (below_step (by repeat (first | (with_reducible first | exact HB.out | apply below_alloc | apply pw_below_drewN | apply below_drew1 | refine below_set ?_ GE336.out) | exact HB.out)) hb); clear BK336; clear HB; have HO341 := n0_; have BK336 := n1_; have HB := n2_; clear n0_ n1_ n2_; (try clear hb); (try clear hb2); (try clear hk); (try clear hi); (try clear ho0); obtain ⟨Ao99, co99, eo99⟩ := Kd.R_slice HO341.out; subst eo99) | ((with_reducible refine gate_callee (f := 12) rfl ?_); refine goesL_ (some 23) rfl rfl Tryd.func12 (by kernel_rfl) rfl #[.agg #[.slice Ao99 t339.length co99, .int .i64 t342], .int .i64 a1] rfl (by (try simp only [List.map_toArray, List.map_cons, List.map_nil]); first | done | rfl | (simp only [List.length_drop, List.length_take]; rfl)) ?_; (with_reducible refine (rod_Make.calls k _ _ t339 t342 a1 t343 t346 _ ?side1 ?side2 A8.out).mono ?_); (case side1 => repeat (first | exact (Kd.R_reads' HO341.out).2.2 | (with_reducible refine Kd.C_alloc ?_ _) | (with_reducible refine Kd.C_drewN ?_ _) | (with_reducible refine Kd.C_drew ?_))); (case side2 => exact (Kd.R_reads' HO341.out).2.1); rintro e w100 ⟨v344, rfl, ho0, hb⟩; refine ⟨_, rfl, ?_⟩; have n0_ := Aside0.mk (Kd.R_elder' (by (with_reducible repeat (first | apply Kd.R_alloc | apply Kd.R_drewN | apply Kd.R_drew)); exact HO341.out) (Kd.R_base ho0) hb); have n1_ := Aside0.mk (Kd.R_lower (Kd.R_new' ho0 (Kd.R_lt (by (with_reducible repeat (first | apply Kd.R_alloc | apply Kd.R_drewN | apply Kd.R_drew)); exact HO341.out))) (below_size (by repeat (first | (with_reducible first | exact HB.out | apply below_alloc | apply pw_below_drewN | apply below_drew1 | refine below_set ?_ GE336.out) | exact HB.out)))); have n2_ := Aside0.mk (blk_below (g := gb336) (o := .cells #[.slice A0_0 l0_0.length c0_0, .int .i64 a0_1] 24 (0, 0)) (by (with_reducible repeat (first | refine blk_drewN ?_ _ | refine blk_drew ?_ | refine blk_alloc ?_ _)); exact BK336.out) hb); have n3_ := Aside0.mk (below_step (by repeat (first | (with_reducible first | exact HB.out | apply below_alloc | apply pw_below_drewN | apply below_drew1 | refine below_set ?_ GE336.out) | exact HB.out)) hb); clear HO341; clear BK336; clear HB; have HO341 := n0_; have HO345 := n1_; have BK336 := n2_; have HB := n3_; clear n0_ n1_ n2_ n3_; (try clear hb); (try clear hb2); (try clear hk); (try clear hi); (try clear ho0); obtain ⟨Ao101, co101, eo101⟩ := Kd.R_slice HO345.out; subst eo101))
    go_ret
    exact ⟨by first | rfl | (simp [errW_none, errW_some] <;> rfl) | (simp [*, errW_none, errW_some] <;> rfl), by repeat (first | (with_reducible first | exact HB.out | apply below_alloc | apply pw_below_drewN | apply below_drew1 | refine below_set ?_ GE336.out) | exact HB.out)⟩
  ·
   replace c6 := Bool.eq_false_iff.mpr c6
   subst c6
   have H1 : (some true) = some r := by rw [if_neg (show ¬ (false = true) by decide)] at H; exact H
   clear H
   have H := H1
   clear H1
   obtain rfl := Option.some.inj H
   go_enter Tryd.func6, Tryd.ntmps6
   go_wp2_with (first | ((with_reducible refine gate_dst (N := 2) rfl ?_); (try (refine gate_guard (by rfl) ?_; dsimp only)); refine box_event ?hg (N := 2) ?hd (cs := #[.slice A0_0 l0_0.length c0_0, .int .i64 a0_1]) (t := 24) ?hr ?_; (case hd => rfl); (case hg => rfl); (case hr => first | (go_simp; done) | (go_simp; rfl)); intro gb336 hg w102 hbox hb; have n0_ := Aside0.mk (below_step (by repeat (first | (with_reducible first | exact HB.out | apply below_alloc | apply pw_below_drewN | apply below_drew1) | exact HB.out)) hb); have n1_ := Aside0.mk (hbox); have n2_ := Aside0.mk ((by rw [hg]; exact (below_size (by repeat (first | (with_reducible first | exact HB.out | apply below_alloc | apply pw_below_drewN | apply below_drew1) | exact HB.out))) : w.heap.size ≤ gb336)); have n3_ := Aside0.mk ((by rw [hg]; exact (below_size (by repeat (first | (with_reducible first | exact HB.out | apply below_alloc | apply pw_below_drewN | apply below_drew1) | exact HB.out))) : w.heap.size ≤ gb336)); clear HB; have HB := n0_; have BK336 := n1_; have GW336 := n2_; have GE336 := n3_; clear n0_ n1_ n2_ n3_; clear hb hbox hg) | ((with_reducible refine gate_callee (f := 10) rfl ?_); refine goesL_ (some 14) rfl rfl Tryd.func10 (by kernel_rfl) rfl #[] rfl (by (try simp only [List.map_toArray, List.map_cons, List.map_nil]); first | done | rfl | (simp only [List.length_drop, List.length_take]; rfl)) ?_; (with_reducible refine (spilelaw14_awake.calls  true _ ?side1 A3.out).mono ?_); (case side1 => exact GI.below HG.out (by repeat (first | (with_reducible first | exact HB.out | apply below_alloc | apply pw_below_drewN | apply below_drew1 | refine below_set ?_ GE336.out) | exact HB.out))); rintro e w103 ⟨rfl, hb⟩; refine ⟨_, rfl, ?_⟩; have n0_ := Aside0.mk (blk_below (g := gb336) (o := .cells #[.slice A0_0 l0_0.length c0_0, .int .i64 a0_1] 24 (0, 0)) (by (with_reducible repeat (first | refine blk_drewN ?_ _ | refine blk_drew ?_ | refine blk_alloc ?_ _)); exact BK336.out) hb); have n1_ := Aside0.mk (below_step (by repeat (first | (with_reducible first | exact HB.out | apply below_alloc | apply pw_below_drewN | apply below_drew1 | refine below_set ?_ GE336.out) | exact HB.out)) hb); clear BK336; clear HB; have BK336 := n0_; have HB := n1_; clear n0_ n1_; (try clear hb); (try clear hb2); (try clear hk); (try clear hi); have hcz104_0 : w103.cell? ⟨gb336, 0, none⟩ = some (.slice A0_0 l0_0.length c0_0) := (blk_cell BK336.out 0).trans rfl; have hcz104_1 : w103.cell? ⟨gb336, 1, none⟩ = some (.int .i64 a0_1) := (blk_cell BK336.out 1).trans rfl; have hfz104_0 := blk_frozen BK336.out 0; have hfz104_1 := blk_frozen BK336.out 1) | ((with_reducible refine gate_callee (f := 11) rfl ?_); refine goesL_ (some 17) rfl rfl Tryd.func11 (by kernel_rfl) rfl #[.slice none 0 0, .agg #[.slice A0_0 l0_0.length c0_0, .int .i64 a0_1]] rfl (by (try simp only [List.map_toArray, List.map_cons, List.map_nil]); first | done | rfl | (simp only [List.length_drop, List.length_take]; rfl)) ?_; (refine (spilelaw14_few.calls _ _ ([] : List (S39)) _ _ l0_0 a0_1 false _ ?side1 ?side2 ?side3 ?side4 A5.out).mono ?_); (case side1 => exact Kd.C_nil _ _); (case side2 => exact Nat.le_refl _); (case side3 => repeat (first | exact (Kd.C_below HR0_0.out HB.out) | (with_reducible refine Kd.C_alloc ?_ _) | (with_reducible refine Kd.C_drewN ?_ _) | (with_reducible refine Kd.C_drew ?_))); (case side4 => exact HC0_0.out); rintro e w105 ⟨rfl, hb⟩; refine ⟨_, rfl, ?_⟩; have n0_ := Aside0.mk (blk_below (g := gb336) (o := .cells #[.slice A0_0 l0_0.length c0_0, .int .i64 a0_1] 24 (0, 0)) (by (with_reducible repeat (first | refine blk_drewN ?_ _ | refine blk_drew ?_ | refine blk_alloc ?_ _)); exact BK336.out) hb); have n1_ := Aside0.mk (below_step (by repeat (first | (with_reducible first | exact HB.out | apply below_alloc | apply pw_below_drewN | apply below_drew1 | refine below_set ?_ GE336.out) | exact HB.out)) hb); clear BK336; clear HB; have BK336 := n0_; have HB := n1_; clear n0_ n1_; (try clear hb); (try clear hb2); (try clear hk); (try clear hi)))
   go_ret
   exact ⟨by first | rfl | (simp [errW_none, errW_some] <;> rfl) | (simp [*, errW_none, errW_some] <;> rfl), by repeat (first | (with_reducible first | exact HB.out | apply below_alloc | apply pw_below_drewN | apply below_drew1 | refine below_set ?_ GE336.out) | exact HB.out)⟩
 ·
  replace c4 := Bool.eq_false_iff.mpr c4
  subst c4
  have H1 : (some false) = some r := by rw [if_neg (show ¬ (false = true) by decide)] at H; exact H
  clear H
  have H := H1
  clear H1
  subst hr_
  exact absurd H (by simp)
end Go.Proofs.YtkolhpacpbhceaaDoor.Pr
namespace Go.Proofs.YtkolhpacpbhceaaDoor.Pr
open Go.RowKit Go.Proofs.YtkolhpacpbhceaaDoorW.PrintWords Go.Proofs.YtkolhpacpbhceaaDoorW.PrintLast Go.Proofs.YtkolhpacpbhceaaDoorW.PrintMore Go.Proofs.YtkolhpacpbhceaaDoor.X
attribute [local go_sem] max2_int min2_int max_two min_two max_three min_three max_four min_four   -- for this text's walks alone
set_option linter.unusedVariables false
set_option linter.unusedSimpArgs false
theorem eqA34 (d : Nat) (w : World) (x0 y0 : Int) (x1 y1 : Int) :
  (Op.equalIn (d + 2) 34 (.agg #[.int .i64 x0, .int .i64 x1]) (.agg #[.int .i64 y0, .int .i64 y1])).run Tryd.prog w = .ok (x0 == y0 && (x1 == y1)) w := by
 refine eqA_of Tryd.underlying34 (by kernel_rfl) ?_
 refine eqf_cons (by rfl) (by go_simp; rfl) (by go_simp; rfl) (by go_simp) ?_
 exact eqf_last (by rfl) (by go_simp; rfl) (by go_simp; rfl) (by go_simp)
end Go.Proofs.YtkolhpacpbhceaaDoor.Pr
namespace Go.Proofs.YtkolhpacpbhceaaDoor.Pr
open Go.RowKit Go.Proofs.YtkolhpacpbhceaaDoorW.PrintWords Go.Proofs.YtkolhpacpbhceaaDoorW.PrintLast Go.Proofs.YtkolhpacpbhceaaDoorW.PrintMore Go.Proofs.YtkolhpacpbhceaaDoor.X
attribute [local go_sem] max2_int min2_int max_two min_two max_three min_three max_four min_four   -- for this text's walks alone
set_option linter.unusedVariables false
set_option linter.unusedSimpArgs false
mutual
def spileref14_Check.l0 : Nat → List (S39) → Int → Option (Int)
 | 0, _, _ => none
 | k + 1, x0, x3 => if x3 < (x0.length : Int) then (if 0 ≤ x3 then (if ((rd_T39 x0 x3).f0) < 0 then (some 2) else (if ((rd_T39 x0 x3).f0) > 200000 then (some 2) else (if ((rd_T39 x0 x3).f1) < 1 then (some 2) else (if ((rd_T39 x0 x3).f1) > 4294967296 then (some 2) else (spileref14_Check.l0 k x0 (wrap64 (x3 + 1))))))) else (none)) else (spileref14_Check.l1 k x0 1)
def spileref14_Check.l1 : Nat → List (S39) → Int → Option (Int)
 | 0, _, _ => none
 | k + 1, x0, x4 => if x4 < (x0.length : Int) then (if 0 ≤ (wrap64 (x4 - 1)) then (if (wrap64 (x4 - 1)) < (x0.length : Int) then (if 0 ≤ x4 then (if ((rd_T39 x0 (wrap64 (x4 - 1))).f0) ≥ ((rd_T39 x0 x4).f0) then (some 5) else (if ((rd_T39 x0 (wrap64 (x4 - 1))).f1) ≥ ((rd_T39 x0 x4).f1) then (some 5) else (spileref14_Check.l1 k x0 (wrap64 (x4 + 1))))) else (none)) else (none)) else (none)) else (some 0)
end
def spileref14_Check.f (k : Nat) (l0 : List (S39)) : Option (Int) := if (l0.length : Int) = 0 then (some 9) else (if (l0.length : Int) > 128 then (some 8) else (spileref14_Check.l0 k l0 0))
end Go.Proofs.YtkolhpacpbhceaaDoor.Pr
namespace Go.Proofs.YtkolhpacpbhceaaDoor.Pr
open Go.RowKit Go.Proofs.YtkolhpacpbhceaaDoorW.PrintWords Go.Proofs.YtkolhpacpbhceaaDoorW.PrintLast Go.Proofs.YtkolhpacpbhceaaDoorW.PrintMore Go.Proofs.YtkolhpacpbhceaaDoor.X
attribute [local go_sem] max2_int min2_int max_two min_two max_three min_three max_four min_four   -- for this text's walks alone
set_option linter.unusedVariables false
set_option linter.unusedSimpArgs false
def spileref13_Read.f (k : Nat) (l0_0 : List (S39)) (a0_1 : Int) (a1 : Int) : Option (Int × Int) := (spileref13_Check.f k l0_0 a0_1).bind fun t256 => (if t256 = 0 then (if 0 < (l0_0.length : Int) then (if a1 < ((rd_T39 l0_0 0).f0) then (some (0, 2)) else (if 0 ≤ (wrap64 ((l0_0.length : Int) - 1)) then (if (wrap64 ((l0_0.length : Int) - 1)) < (l0_0.length : Int) then (if a1 > ((rd_T39 l0_0 (wrap64 ((l0_0.length : Int) - 1))).f0) then (some (0, 2)) else ((spileref13_At.f k l0_0 a0_1 a1).bind fun t259 => (some (t259, 0)))) else (none)) else (none))) else (none)) else (some (0, 1)))
end Go.Proofs.YtkolhpacpbhceaaDoor.Pr
namespace Go.Proofs.YtkolhpacpbhceaaDoor.Opn
open Go Go.RowKit Go.Proofs.YtkolhpacpbhceaaDoorW.PrintWords Go.Proofs.YtkolhpacpbhceaaDoor.O Go.Proofs.YtkolhpacpbhceaaDoor.Pr
theorem opens3 : Opens Tryd.prog 3 (Kd.int .i64) (fun x => (Lit.int .i64 x).wf = true) := opens_int Tryd.underlying3 (by kernel_rfl)
def ok39 (x : S39) : Prop := (Lit.int .i64 x.f0).wf = true ∧ (Lit.int .i64 x.f1).wf = true
theorem opens39 : Opens Tryd.prog 39 k39 ok39 :=
  ⟨by kernel_rfl, fun H enc w base sp held fuel cs x h => by
    obtain ⟨xs, n, _, _, hl, hx, hf⟩ := DataW.trod_struct Tryd.underlying39 h
    have hc_ : Tryd.prog.cellsOf 39 = 2 := by kernel_rfl
    rw [hc_] at hl
    obtain ⟨c0, c1, rfl⟩ : ∃ c0 c1, cs = [c0, c1] := by
      clear h hf hx
      rcases cs with _ | ⟨c0, _ | ⟨c1, _ | ⟨_, _⟩⟩⟩
      all_goals first | exact ⟨_, _, rfl⟩ | (simp at hl)
    obtain ⟨y0, hy0⟩ : ∃ y, xs[0]? = some y := ⟨xs[0]'(by rw [hx]; decide), List.getElem?_eq_getElem _⟩
    have e0 : DataW.trod enc Tryd.prog w base sp held n 3 ((List.drop 0 [c0, c1]).take (Tryd.prog.cellsOf 3)) = xs[0]? := hf 0 _ rfl
    rw [hy0, show Tryd.prog.cellsOf 3 = 1 from by kernel_rfl] at e0
    obtain ⟨v0, K0, o0⟩ := opens3.2 H enc w base sp held n _ _ e0
    replace K0 : (Kd.int .i64).K w v0 [c0] := K0
    obtain ⟨y1, hy1⟩ : ∃ y, xs[1]? = some y := ⟨xs[1]'(by rw [hx]; decide), List.getElem?_eq_getElem _⟩
    have e1 : DataW.trod enc Tryd.prog w base sp held n 3 ((List.drop 1 [c0, c1]).take (Tryd.prog.cellsOf 3)) = xs[1]? := hf 1 _ rfl
    rw [hy1, show Tryd.prog.cellsOf 3 = 1 from by kernel_rfl] at e1
    obtain ⟨v1, K1, o1⟩ := opens3.2 H enc w base sp held n _ _ e1
    replace K1 : (Kd.int .i64).K w v1 [c1] := K1
    obtain rfl : c0 = _ := List.singleton_inj.1 K0
    obtain rfl : c1 = _ := List.singleton_inj.1 K1
    refine ⟨⟨v0, v1⟩, ?_, o0, o1⟩
    exact k39_mk w ⟨v0, v1⟩ ⟩
theorem opens22 : Opens Tryd.prog 22 (Kd.slice 39 k39) (fun x => (x.length ≤ maxLen ∧ ∀ x0_, x0_ ∈ x → ok39 x0_)) := opens_slice (P := Tryd.prog) (t := 22) (e := 39) Tryd.underlying22 (by kernel_rfl) opens39
def ok24 (x : S24) : Prop := (x.f0.length ≤ maxLen ∧ ∀ x0_, x0_ ∈ x.f0 → ok39 x0_) ∧ (Lit.int .i64 x.f1).wf = true
theorem opens24 : Opens Tryd.prog 24 k24 ok24 :=
  ⟨by kernel_rfl, fun H enc w base sp held fuel cs x h => by
    obtain ⟨xs, n, _, _, hl, hx, hf⟩ := DataW.trod_struct Tryd.underlying24 h
    have hc_ : Tryd.prog.cellsOf 24 = 2 := by kernel_rfl
    rw [hc_] at hl
    obtain ⟨c0, c1, rfl⟩ : ∃ c0 c1, cs = [c0, c1] := by
      clear h hf hx
      rcases cs with _ | ⟨c0, _ | ⟨c1, _ | ⟨_, _⟩⟩⟩
      all_goals first | exact ⟨_, _, rfl⟩ | (simp at hl)
    obtain ⟨y0, hy0⟩ : ∃ y, xs[0]? = some y := ⟨xs[0]'(by rw [hx]; decide), List.getElem?_eq_getElem _⟩
    have e0 : DataW.trod enc Tryd.prog w base sp held n 22 ((List.drop 0 [c0, c1]).take (Tryd.prog.cellsOf 22)) = xs[0]? := hf 0 _ rfl
    rw [hy0, show Tryd.prog.cellsOf 22 = 1 from by kernel_rfl] at e0
    obtain ⟨v0, K0, o0⟩ := opens22.2 H enc w base sp held n _ _ e0
    replace K0 : (Kd.slice 39 k39).K w v0 [c0] := K0
    obtain ⟨y1, hy1⟩ : ∃ y, xs[1]? = some y := ⟨xs[1]'(by rw [hx]; decide), List.getElem?_eq_getElem _⟩
    have e1 : DataW.trod enc Tryd.prog w base sp held n 3 ((List.drop 1 [c0, c1]).take (Tryd.prog.cellsOf 3)) = xs[1]? := hf 1 _ rfl
    rw [hy1, show Tryd.prog.cellsOf 3 = 1 from by kernel_rfl] at e1
    obtain ⟨v1, K1, o1⟩ := opens3.2 H enc w base sp held n _ _ e1
    replace K1 : (Kd.int .i64).K w v1 [c1] := K1
    obtain ⟨A0, q0, w0, m0, g0⟩ := K0
    obtain rfl : c0 = _ := List.singleton_inj.1 w0
    obtain rfl : c1 = _ := List.singleton_inj.1 K1
    refine ⟨⟨v0, v1⟩, ?_, o0, o1⟩
    exact k24_mk w ⟨v0, v1⟩ m0 g0⟩
end Go.Proofs.YtkolhpacpbhceaaDoor.Opn
namespace Go.Proofs.YtkolhpacpbhceaaDoor.Pure
open Go Go.RowKit Go.Proofs.YtkolhpacpbhceaaDoor.Pr Go.Proofs.YtkolhpacpbhceaaDoor.Opn
def rodExactPure : Prop := ∀ (l0_0 : (List S39)) (a0_1 : Int) (a1 : Int), (l0_0.length ≤ maxLen ∧ ∀ x0_, x0_ ∈ l0_0 → ok39 x0_) → (Lit.int .i64 a0_1).wf = true → (Lit.int .i64 a1).wf = true → ∃ k, spilelaw14_RodExact.f k l0_0 a0_1 a1 = some true
end Go.Proofs.YtkolhpacpbhceaaDoor.Pure
namespace Go.Proofs.YtkolhpacpbhceaaDoor.PL
open Go Go.RowKit Go.Proofs.YtkolhpacpbhceaaDoorW.PrintWords Go.Proofs.YtkolhpacpbhceaaDoorW.PrintLast Go.Proofs.YtkolhpacpbhceaaDoorW.PrintMore
theorem evp {α : Type} {c : Prop} [Decidable c] {g h : Nat → Option α} {r : α} (hc : c) (k : Ev g r) : Ev (fun n => if c then g n else h n) r :=
  Ev.congr (fun n => if_pos hc) k
theorem evn {α : Type} {c : Prop} [Decidable c] {g h : Nat → Option α} {r : α} (hc : ¬ c) (k : Ev h r) : Ev (fun n => if c then g n else h n) r :=
  Ev.congr (fun n => if_neg hc) k
theorem evb {α β : Type} {g : Nat → Option α} {f : Nat → α → Option β} {a : α} {r : β} (h : Ev g a) (k : Ev (fun n => f n a) r) : Ev (fun n => (g n).bind (f n)) r := Ev.bind h k
theorem evr {α : Type} {a r : α} (h : a = r) : Ev (fun _ => some a) r := by subst h; exact Ev.now _
theorem evc {α : Type} {g : Nat → Option α} {r : α} {o : Option α} (hg : ∀ n, g n = o) (h : o = some r) : Ev g r := by
  subst h
  exact Ev.congr hg (Ev.now _)
/-- A loop that counts upwards to n. -/
theorem count_up (a n : Int) (P : Int → Prop) (hend : P n) (hround : ∀ i, a ≤ i → i < n → P (i + 1) → P i) : ∀ i, a ≤ i → i ≤ n → P i := by
  intro i h0 h1
  obtain ⟨d, hd⟩ : ∃ d : Nat, n - i = d := ⟨(n - i).toNat, by omega⟩
  induction d generalizing i with
  | zero =>
    obtain rfl : i = n := by omega
    exact hend
  | succ d ih => exact hround i h0 (by omega) (ih (i + 1) (by omega) (by omega) (by omega))
theorem w64 {x : Int} (h0 : -9223372036854775808 ≤ x) (h1 : x ≤ 9223372036854775807) : wrap64 x = x := by
  unfold wrap64
  omega
theorem w64_succ {i n : Int} (h0 : 0 ≤ i) (h : i < n) (hn : n ≤ 9223372036854775807) : wrap64 (i + 1) = i + 1 := w64 (by omega) (by omega)
theorem w64_pred {i n : Int} (h0 : 0 ≤ i) (h : i ≤ n) (hn : n ≤ 9223372036854775807) : wrap64 (i - 1) = i - 1 := w64 (by omega) (by omega)
/-- A test that comes to true where P holds, and else to false. -/
def EvB (g : Nat → Option Bool) (P : Prop) : Prop := (P → Ev g true) ∧ (¬ P → Ev g false)
theorem EvB.map {g : Nat → Option Bool} {f : Nat → Bool → Option Bool} {P Q : Prop} (h : EvB g P) (ht : P → EvB (fun n => f n true) Q) (hf : ¬ P → EvB (fun n => f n false) Q) : EvB (fun n => (g n).bind (f n)) Q := by
  by_cases hp : P
  · exact ⟨fun q => Ev.bind (h.1 hp) ((ht hp).1 q), fun q => Ev.bind (h.1 hp) ((ht hp).2 q)⟩
  · exact ⟨fun q => Ev.bind (h.2 hp) ((hf hp).1 q), fun q => Ev.bind (h.2 hp) ((hf hp).2 q)⟩
theorem u64w {x : Int} (h0 : 0 ≤ x) (h1 : x ≤ 9223372036854775807) : IntKind.u64.wrap x = x := by
  unfold IntKind.wrap
  simp [IntKind.signed, IntKind.bits]
  omega
theorem half {i j : Int} (h0 : 0 ≤ i) (h1 : i < j) (h2 : j ≤ 4611686018427387904) : wrap64 ((IntKind.u64.wrap (wrap64 (i + j))) / 2) = (i + j) / 2 := by
  rw [w64 (x := i + j) (by omega) (by omega), u64w (by omega) (by omega), w64 (by omega) (by omega)]
theorem mulb {x y X Y : Int} (h0 : 0 ≤ x) (h1 : x ≤ X) (k0 : 0 ≤ y) (k1 : y ≤ Y) : 0 ≤ x * y ∧ x * y ≤ X * Y :=
  ⟨Int.mul_nonneg h0 k0, Int.mul_le_mul h1 k1 k0 (Int.le_trans h0 h1)⟩
end Go.Proofs.YtkolhpacpbhceaaDoor.PL
namespace Go.Proofs.YtkolhpacpbhceaaDoor.PL
open Go Go.RowKit Go.Proofs.YtkolhpacpbhceaaDoorW.PrintWords Go.Proofs.YtkolhpacpbhceaaDoorW.PrintLast Go.Proofs.YtkolhpacpbhceaaDoorW.PrintMore Go.Proofs.YtkolhpacpbhceaaDoor.Pr Go.Proofs.YtkolhpacpbhceaaDoor.Opn Go.Proofs.YtkolhpacpbhceaaDoor.X
theorem rd39_get {l : List S39} {i : Int} (h0 : 0 ≤ i) (h : i < (l.length : Int)) : l[i.toNat]? = some (rd_T39 l i) := by
  have hl : i.toNat < l.length := by omega
  unfold rd_T39
  rw [List.getD_eq_getElem?_getD, List.getElem?_eq_getElem hl]
  rfl
theorem rd39_mem {l : List S39} {i : Int} (h0 : 0 ≤ i) (h : i < (l.length : Int)) : rd_T39 l i ∈ l := List.mem_of_getElem? (rd39_get h0 h)
theorem drop39 {l : List S39} {i : Int} (h0 : 0 ≤ i) (h1 : i < (l.length : Int)) : l.drop i.toNat = rd_T39 l i :: l.drop (i + 1).toNat := by
  have hl : i.toNat < l.length := by omega
  have g := rd39_get h0 h1
  rw [List.getElem?_eq_getElem hl] at g
  rw [← Option.some.inj g, show (i + 1).toNat = i.toNat + 1 from by omega, ← List.drop_eq_getElem_cons hl]
def Rng (x : S39) : Prop := 0 ≤ x.f0 ∧ x.f0 ≤ 200000 ∧ 0 ≤ x.f1 ∧ x.f1 ≤ 4294967296
def Stp (x y : S39) : Prop := x.f0 < y.f0 ∧ x.f1 ≤ y.f1
def OKT (l : List S39) (t : Int) : Prop := 2 ≤ (l.length : Int) ∧ (l.length : Int) ≤ 128 ∧ (0 ≤ t ∧ t ≤ 4294967296) ∧ (∀ j, 0 ≤ j → j < (l.length : Int) → Rng (rd_T39 l j)) ∧ (∀ j, 1 ≤ j → j < (l.length : Int) → Stp (rd_T39 l (j - 1)) (rd_T39 l j))
theorem volume_eq (b : Int) : dip_volume.f b = some (decide (0 ≤ b ∧ b ≤ 4294967296)) := by
  unfold dip_volume.f
  by_cases h : b ≥ 0
  · rw [if_pos h]
    exact congrArg some (decide_eq_decide.2 ⟨fun q => ⟨h, q⟩, fun q => q.2⟩)
  · rw [if_neg h, decide_eq_false (by omega)]
theorem bad_eq (x : S39) : ∃ b, dip_Check_1.f x.f0 x.f1 = some b ∧ (b = true ↔ ¬ Rng x) := by
  unfold dip_Check_1.f Rng
  rw [volume_eq]
  by_cases h1 : x.f0 < 0
  · exact ⟨true, by rw [if_pos h1], by simp; omega⟩
  by_cases h2 : x.f0 > 200000
  · exact ⟨true, by rw [if_neg h1, if_pos h2], by simp; omega⟩
  refine ⟨!decide (0 ≤ x.f1 ∧ x.f1 ≤ 4294967296), by rw [if_neg h1, if_neg h2]; rfl, ?_⟩
  by_cases h3 : 0 ≤ x.f1 ∧ x.f1 ≤ 4294967296
  · rw [decide_eq_true h3]; simp; omega
  · rw [decide_eq_false h3]; simp; omega
theorem range_dip (l : List S39) (hl : (l.length : Int) ≤ 9223372036854775807) : ∀ i, 0 ≤ i → i ≤ (l.length : Int) →
    ∃ r, Ev (fun k => api_Mark_38_at_51.l0 k l (l.length : Int) i) r ∧ (r ≥ 0 ↔ ¬ ∀ j, i ≤ j → j < (l.length : Int) → Rng (rd_T39 l j)) := by
  refine count_up 0 (l.length : Int) _ ?_ ?_
  · exact ⟨-1, Ev.step (fun k => api_Mark_38_at_51.l0.eq_2 ..) (evn (by omega) (Ev.now _)), by constructor; omega; exact fun h => absurd (fun j h1 h2 => by omega) h⟩
  · intro i h0 h1 ih
    obtain ⟨b, hb, hb2⟩ := bad_eq (rd_T39 l i)
    have hs := w64_succ h0 h1 hl
    by_cases c : Rng (rd_T39 l i)
    · obtain ⟨r, r1, r2⟩ := ih
      have hbf : ¬ b = true := fun h => hb2.1 h c
      refine ⟨r, Ev.step (fun k => api_Mark_38_at_51.l0.eq_2 ..) (evp h1 (evp h0 (evp h1 (evb (evc (fun _ => rfl) hb) (evn hbf (by rw [hs]; exact r1)))))), r2.trans (not_congr ⟨fun h j a q => ?_, fun h j a q => h j (by omega) q⟩)⟩
      by_cases e : j = i
      · rw [e]; exact c
      · exact h j (by omega) q
    · exact ⟨i, Ev.step (fun k => api_Mark_38_at_51.l0.eq_2 ..) (evp h1 (evp h0 (evp h1 (evb (evc (fun _ => rfl) hb) (evp (hb2.2 c) (Ev.now _)))))), ⟨fun _ h => c (h i (Int.le_refl _) h1), fun _ => h0⟩⟩
theorem order_both (l : List S39) (t : Int) (hn : (l.length : Int) ≤ 128) : ∀ i, 1 ≤ i → i ≤ (l.length : Int) →
    ∃ e, Ev (fun k => dip_Check.l0 k i l t) e ∧ Ev (fun k => spileref13_Check.l1 k i l t) e ∧ (e = 0 ↔ ∀ j, i ≤ j → j < (l.length : Int) → Stp (rd_T39 l (j - 1)) (rd_T39 l j)) := by
  refine count_up 1 (l.length : Int) _ ?_ ?_
  · exact ⟨0, Ev.step (fun k => dip_Check.l0.eq_2 ..) (evn (by omega) (Ev.now _)), Ev.step (fun k => spileref13_Check.l1.eq_2 ..) (evn (by omega) (Ev.now _)), ⟨fun _ j a b => by omega, fun _ => rfl⟩⟩
  · intro i h0 h1 ih
    have hs := w64_succ (i := i) (by omega) h1 (by omega)
    have hp := w64_pred (i := i) (by omega) (Int.le_of_lt h1) (by omega)
    have q0 : 0 ≤ wrap64 (i - 1) := by rw [hp]; omega
    have q1 : wrap64 (i - 1) < (l.length : Int) := by rw [hp]; omega
    by_cases c1 : (rd_T39 l (wrap64 (i - 1))).f0 ≥ (rd_T39 l i).f0
    · refine ⟨5, Ev.step (fun k => dip_Check.l0.eq_2 ..) (evp h1 (evp q0 (evp q1 (evp (by omega) (evp c1 (Ev.now _)))))), Ev.step (fun k => spileref13_Check.l1.eq_2 ..) (evp h1 (evp q0 (evp q1 (evp (by omega) (evp c1 (Ev.now _)))))), ⟨fun h => by omega, fun h => ?_⟩⟩
      rw [hp] at c1
      have := (h i (by omega) h1).1
      omega
    by_cases c2 : (rd_T39 l (wrap64 (i - 1))).f1 > (rd_T39 l i).f1
    · refine ⟨5, Ev.step (fun k => dip_Check.l0.eq_2 ..) (evp h1 (evp q0 (evp q1 (evp (by omega) (evn c1 (evp c2 (Ev.now _))))))), Ev.step (fun k => spileref13_Check.l1.eq_2 ..) (evp h1 (evp q0 (evp q1 (evp (by omega) (evn c1 (evp c2 (Ev.now _))))))), ⟨fun h => by omega, fun h => ?_⟩⟩
      rw [hp] at c2
      have := (h i (by omega) h1).2
      omega
    · obtain ⟨e, e1, e2, e3⟩ := ih
      refine ⟨e, Ev.step (fun k => dip_Check.l0.eq_2 ..) (evp h1 (evp q0 (evp q1 (evp (by omega) (evn c1 (evn c2 (by rw [hs]; exact e1))))))), Ev.step (fun k => spileref13_Check.l1.eq_2 ..) (evp h1 (evp q0 (evp q1 (evp (by omega) (evn c1 (evn c2 (by rw [hs]; exact e2))))))), e3.trans ⟨fun h j a b => ?_, fun h j a b => h j (by omega) b⟩⟩
      by_cases z : j = i
      · rw [hp] at c1 c2; rw [z]; exact ⟨by omega, by omega⟩
      · exact h j (by omega) b
theorem range_ref (l : List S39) (t e : Int) (hl : (l.length : Int) ≤ 9223372036854775807) (ht : 0 ≤ t ∧ t ≤ 4294967296 → Ev (fun k => spileref13_Check.l1 k 1 l t) e) (ht2 : ¬ (0 ≤ t ∧ t ≤ 4294967296) → e = 2) : ∀ i, 0 ≤ i → i ≤ (l.length : Int) →
    ((∀ j, i ≤ j → j < (l.length : Int) → Rng (rd_T39 l j)) → Ev (fun k => spileref13_Check.l0 k i l t) e) ∧ ((¬ ∀ j, i ≤ j → j < (l.length : Int) → Rng (rd_T39 l j)) → Ev (fun k => spileref13_Check.l0 k i l t) 2) := by
  refine count_up 0 (l.length : Int) _ ?_ ?_
  · refine ⟨fun _ => ?_, fun h => absurd (fun j a b => by omega) h⟩
    refine Ev.step (fun k => spileref13_Check.l0.eq_2 ..) (evn (by omega) ?_)
    by_cases c1 : t < 0
    · rw [ht2 (by omega)]
      exact evp c1 (Ev.step (fun k => spileref13_Check.j1.eq_2 ..) (evp rfl (Ev.now _)))
    · refine evn c1 ?_
      by_cases c2 : t > 4294967296
      · rw [ht2 (by omega), decide_eq_true c2]
        exact Ev.step (fun k => spileref13_Check.j1.eq_2 ..) (evp rfl (Ev.now _))
      · rw [decide_eq_false c2]
        exact Ev.step (fun k => spileref13_Check.j1.eq_2 ..) (evn (by simp) (ht (by omega)))
  · intro i h0 h1 ih
    have hs := w64_succ h0 h1 hl
    by_cases c : Rng (rd_T39 l i)
    · have up : ∀ r, Ev (fun k => spileref13_Check.l0 k (i + 1) l t) r → Ev (fun k => spileref13_Check.l0 k i l t) r := fun r h => by
        have c' := c
        unfold Rng at c'
        exact Ev.step (fun k => spileref13_Check.l0.eq_2 ..) (evp h1 (evp h0 (evn (by omega) (evn (by omega) (evn (by omega) (evn (by omega) (by rw [hs]; exact h)))))))
      refine ⟨fun h => up _ (ih.1 fun j a b => h j (by omega) b), fun h => up _ (ih.2 fun h2 => h fun j a b => ?_)⟩
      by_cases z : j = i
      · rw [z]; exact c
      · exact h2 j (by omega) b
    · refine ⟨fun h => absurd (h i (Int.le_refl _) h1) c, fun _ => ?_⟩
      unfold Rng at c
      by_cases d1 : (rd_T39 l i).f0 < 0
      · exact Ev.step (fun k => spileref13_Check.l0.eq_2 ..) (evp h1 (evp h0 (evp d1 (Ev.now _))))
      by_cases d2 : (rd_T39 l i).f0 > 200000
      · exact Ev.step (fun k => spileref13_Check.l0.eq_2 ..) (evp h1 (evp h0 (evn d1 (evp d2 (Ev.now _)))))
      by_cases d3 : (rd_T39 l i).f1 < 0
      · exact Ev.step (fun k => spileref13_Check.l0.eq_2 ..) (evp h1 (evp h0 (evn d1 (evn d2 (evp d3 (Ev.now _))))))
      · exact Ev.step (fun k => spileref13_Check.l0.eq_2 ..) (evp h1 (evp h0 (evn d1 (evn d2 (evn d3 (evp (by omega) (Ev.now _)))))))
theorem tab_both (l : List S39) (t : Int) (hl : (l.length : Int) ≤ 9223372036854775807) : ∃ e, Ev (fun k => dip_Check.f k l t) e ∧ Ev (fun k => spileref13_Check.f k l t) e ∧ (e = 0 ↔ OKT l t) := by
  by_cases a1 : (l.length : Int) < 2
  · exact ⟨9, evp a1 (Ev.now _), evp a1 (Ev.now _), ⟨fun h => by omega, fun h => by have := h.1; omega⟩⟩
  by_cases a2 : (l.length : Int) > 128
  · exact ⟨8, evn a1 (evp a2 (Ev.now _)), evn a1 (evp a2 (Ev.now _)), ⟨fun h => by omega, fun h => by have := h.2.1; omega⟩⟩
  obtain ⟨e, e1, e2, e3⟩ := order_both l t (by omega) 1 (Int.le_refl _) (by omega)
  obtain ⟨r, r1, r2⟩ := range_dip l hl 0 (Int.le_refl _) (by omega)
  have two : Ev (fun k => dip_Check.j0 k true l t) 2 := Ev.step (fun k => dip_Check.j0.eq_2 ..) (evp rfl (Ev.now _))
  by_cases ht : 0 ≤ t ∧ t ≤ 4294967296
  · have ref := range_ref l t e hl (fun _ => e2) (fun h => absurd ht h) 0 (Int.le_refl _) (by omega)
    have pre : ∀ z, Ev (fun k => dip_Check.j0 k (decide (r ≥ 0)) l t) z → Ev (fun k => dip_Check.f k l t) z := fun z h =>
      evn a1 (evn a2 (evb (evc (fun _ => rfl) (volume_eq t)) (evp (decide_eq_true ht) (evb (evb r1 (Ev.now _)) h))))
    by_cases hr : ∀ j, 0 ≤ j → j < (l.length : Int) → Rng (rd_T39 l j)
    · refine ⟨e, pre _ ?_, evn a1 (evn a2 (ref.1 hr)), e3.trans ⟨fun h => ⟨by omega, by omega, ht, hr, h⟩, fun h => h.2.2.2.2⟩⟩
      rw [decide_eq_false (fun h => r2.1 h hr)]
      exact Ev.step (fun k => dip_Check.j0.eq_2 ..) (evn (by simp) e1)
    · refine ⟨2, pre _ ?_, evn a1 (evn a2 (ref.2 hr)), ⟨fun h => by omega, fun h => absurd h.2.2.2.1 hr⟩⟩
      rw [decide_eq_true (r2.2 hr)]
      exact two
  · have ref := range_ref l t 2 hl (fun h => absurd h ht) (fun _ => rfl) 0 (Int.le_refl _) (by omega)
    refine ⟨2, evn a1 (evn a2 (evb (evc (fun _ => rfl) (volume_eq t)) (evn (by simpa using ht) two))), evn a1 (evn a2 ?_), ⟨fun h => by omega, fun h => absurd h.2.2.1 ht⟩⟩
    by_cases hr : ∀ j, 0 ≤ j → j < (l.length : Int) → Rng (rd_T39 l j)
    · exact ref.1 hr
    · exact ref.2 hr
def atL : List S39 → Int → Int
  | a :: b :: r, x => if x ≤ b.f0 then a.f1 + (b.f1 - a.f1) * (x - a.f0) / (b.f0 - a.f0) else atL (b :: r) x
  | _, _ => 0
theorem atL_cons (a b : S39) (r : List S39) (x : Int) : atL (a :: b :: r) x = if x ≤ b.f0 then a.f1 + (b.f1 - a.f1) * (x - a.f0) / (b.f0 - a.f0) else atL (b :: r) x := rfl
/-- What a table is, told along the list. -/
def Up : List S39 → Prop
  | a :: b :: r => Stp a b ∧ Rng a ∧ Rng b ∧ Up (b :: r)
  | _ => True
def lastM (d : S39) : List S39 → S39
  | [] => d
  | x :: r => lastM x r
theorem up_of (l : List S39) (hr : ∀ j, 0 ≤ j → j < (l.length : Int) → Rng (rd_T39 l j)) (hs : ∀ j, 1 ≤ j → j < (l.length : Int) → Stp (rd_T39 l (j - 1)) (rd_T39 l j)) : Up l := by
  have key : ∀ i, 0 ≤ i → i ≤ (l.length : Int) → Up (l.drop i.toNat) := by
    refine count_up 0 (l.length : Int) _ ?_ ?_
    · rw [List.drop_eq_nil_of_le (by omega)]; trivial
    · intro i h0 h1 ih
      rw [drop39 h0 h1]
      by_cases c : i + 1 < (l.length : Int)
      · rw [drop39 (i := i + 1) (by omega) c] at ih ⊢
        have := hs (i + 1) (by omega) c
        rw [show i + 1 - 1 = i from by omega] at this
        exact ⟨this, hr i h0 h1, hr (i + 1) (by omega) c, ih⟩
      · rw [List.drop_eq_nil_of_le (by omega)]; trivial
  have := key 0 (Int.le_refl _) (by omega)
  rwa [show (0 : Int).toNat = 0 from rfl, List.drop_zero] at this
theorem frac {p q n d : Int} (hp : 0 ≤ p) (hn : 0 ≤ n) (hnd : n ≤ d) (hd : 0 < d) : 0 ≤ p * n / d ∧ p * n / d ≤ p := by
  refine ⟨Int.ediv_nonneg (Int.mul_nonneg hp hn) (by omega), ?_⟩
  have h1 : p * n ≤ p * d := Int.mul_le_mul_of_nonneg_left hnd hp
  have h2 := Int.ediv_le_ediv hd h1
  rwa [Int.mul_ediv_cancel _ (by omega)] at h2
theorem up_last : ∀ (l : List S39) (a : S39), Up (a :: l) → a.f0 ≤ (lastM a l).f0 ∧ a.f1 ≤ (lastM a l).f1
  | [], a, _ => ⟨Int.le_refl _, Int.le_refl _⟩
  | b :: r, a, h => by
    have ih := up_last r b h.2.2.2
    have hs := h.1
    unfold Stp at hs
    show a.f0 ≤ (lastM b r).f0 ∧ a.f1 ≤ (lastM b r).f1
    omega
theorem at_bounds : ∀ (r : List S39) (a b : S39) (x : Int), Up (a :: b :: r) → a.f0 ≤ x → x ≤ (lastM b r).f0 → a.f1 ≤ atL (a :: b :: r) x ∧ atL (a :: b :: r) x ≤ (lastM b r).f1
  | r, a, b, x, h, h0, h1 => by
    have hs := h.1
    unfold Stp at hs
    have hl := up_last r b h.2.2.2
    rw [atL_cons]
    by_cases c : x ≤ b.f0
    · rw [if_pos c]
      have := frac (p := b.f1 - a.f1) (q := 0) (n := x - a.f0) (d := b.f0 - a.f0) (by omega) (by omega) (by omega) (by omega)
      omega
    · rw [if_neg c]
      match r, h, h1 with
      | [], _, h1 => simp only [lastM] at h1; omega
      | d :: r, h, h1 =>
        have ih := at_bounds r b d x h.2.2.2 (by omega) h1
        show a.f1 ≤ _ ∧ _ ≤ (lastM d r).f1
        omega
theorem at_mono : ∀ (r : List S39) (a b : S39) (x y : Int), Up (a :: b :: r) → a.f0 ≤ x → x ≤ y → y ≤ (lastM b r).f0 → atL (a :: b :: r) x ≤ atL (a :: b :: r) y
  | r, a, b, x, y, h, h0, h1, h2 => by
    have hs := h.1
    unfold Stp at hs
    rw [atL_cons, atL_cons]
    by_cases c : y ≤ b.f0
    · rw [if_pos (by omega), if_pos c]
      have hm : (b.f1 - a.f1) * (x - a.f0) ≤ (b.f1 - a.f1) * (y - a.f0) := Int.mul_le_mul_of_nonneg_left (by omega) (by omega)
      have := Int.ediv_le_ediv (c := b.f0 - a.f0) (by omega) hm
      omega
    · rw [if_neg c]
      match r, h, h2 with
      | [], _, h2 => simp only [lastM] at h2; omega
      | d :: r, h, h2 =>
        by_cases c2 : x ≤ b.f0
        · rw [if_pos c2]
          have f := frac (p := b.f1 - a.f1) (q := 0) (n := x - a.f0) (d := b.f0 - a.f0) (by omega) (by omega) (by omega) (by omega)
          have := (at_bounds r b d y h.2.2.2 (by omega) h2).1
          omega
        · rw [if_neg c2]
          exact at_mono r b d x y h.2.2.2 (by omega) h1 h2
theorem at_last : ∀ (r : List S39) (a b : S39), Up (a :: b :: r) → atL (a :: b :: r) (lastM b r).f0 = (lastM b r).f1
  | [], a, b, h => by
    have hs := h.1
    unfold Stp at hs
    show (if b.f0 ≤ b.f0 then a.f1 + (b.f1 - a.f1) * (b.f0 - a.f0) / (b.f0 - a.f0) else atL [b] b.f0) = b.f1
    rw [if_pos (Int.le_refl _), Int.mul_ediv_cancel _ (by omega)]
    omega
  | d :: r, a, b, h => by
    have hs := h.2.2.2.1
    unfold Stp at hs
    have hl := up_last r d h.2.2.2.2.2.2
    show atL (a :: b :: d :: r) (lastM d r).f0 = (lastM d r).f1
    rw [atL_cons, if_neg (by omega)]
    exact at_last r b d h.2.2.2
theorem lastM_rd : ∀ (l : List S39) (a : S39), lastM a l = rd_T39 (a :: l) (((a :: l).length : Int) - 1)
  | [], a => rfl
  | b :: r, a => by
    have e := lastM_rd r b
    show lastM b r = _
    rw [e]
    unfold rd_T39
    rw [show (((a :: b :: r).length : Int) - 1).toNat = (((b :: r).length : Int) - 1).toNat + 1 from by simp]
    rfl
/-- The first and the last height, the last volume. -/
def h0 (l : List S39) : Int := (rd_T39 l 0).f0
def hN (l : List S39) : Int := (rd_T39 l ((l.length : Int) - 1)).f0
def vN (l : List S39) : Int := (rd_T39 l ((l.length : Int) - 1)).f1
structure Facts (l : List S39) : Prop where
  h0le : 0 ≤ h0 l
  hNle : hN l ≤ 200000
  h01 : h0 l ≤ hN l
  vNle : vN l ≤ 4294967296
  bounds : ∀ x, h0 l ≤ x → x ≤ hN l → 0 ≤ atL l x ∧ atL l x ≤ vN l
  mono : ∀ x y, h0 l ≤ x → x ≤ y → y ≤ hN l → atL l x ≤ atL l y
  last : atL l (hN l) = vN l
theorem two_of {l : List S39} (h : 2 ≤ (l.length : Int)) : ∃ a b r, l = a :: b :: r := by
  cases l with
  | nil => exact absurd h (by simp)
  | cons a l =>
    cases l with
    | nil => exact absurd h (by simp)
    | cons b r => exact ⟨a, b, r, rfl⟩
theorem facts {l : List S39} {t : Int} (h : OKT l t) : Facts l := by
  obtain ⟨h2, h3, h4, h5, h6⟩ := h
  have hu := up_of l h5 h6
  obtain ⟨a, b, r, rfl⟩ := two_of h2
  have e : lastM b r = rd_T39 (a :: b :: r) (((a :: b :: r).length : Int) - 1) := lastM_rd (b :: r) a
  have q0 := h5 0 (Int.le_refl _) (by omega)
  have q1 := h5 (((a :: b :: r).length : Int) - 1) (by omega) (by omega)
  unfold Rng at q0 q1
  have f0 : (rd_T39 (a :: b :: r) 0) = a := rfl
  have hl := up_last (b :: r) a hu
  have hl2 : lastM a (b :: r) = lastM b r := rfl
  rw [hl2, e] at hl
  rw [f0] at q0
  refine ⟨q0.1, q1.2.1, hl.1, q1.2.2.2, fun x g0 g1 => ?_, fun x y g0 g1 g2 => ?_, ?_⟩
  · have := at_bounds r a b x hu g0 (by rw [e]; exact g1)
    rw [e] at this
    exact ⟨by omega, this.2⟩
  · exact at_mono r a b x y hu g0 g1 (by rw [e]; exact g2)
  · have := at_last r a b hu
    rw [e] at this
    exact this
theorem step_eq {l : List S39} {i : Int} (x : Int) (h1 : 1 ≤ i) (h2 : i < (l.length : Int)) : atL (l.drop (i - 1).toNat) x = if x ≤ (rd_T39 l i).f0 then (rd_T39 l (i - 1)).f1 + ((rd_T39 l i).f1 - (rd_T39 l (i - 1)).f1) * (x - (rd_T39 l (i - 1)).f0) / ((rd_T39 l i).f0 - (rd_T39 l (i - 1)).f0) else atL (l.drop i.toNat) x := by
  rw [drop39 (i := i - 1) (by omega) (by omega), show i - 1 + 1 = i from by omega, drop39 (i := i) (by omega) h2, atL_cons, ← drop39 (i := i) (by omega) h2]
theorem read_loop {l : List S39} {t : Int} (h : OKT l t) (x : Int) (hx : x ≤ hN l) : ∀ i, 1 ≤ i → i ≤ (l.length : Int) → i < (l.length : Int) → (rd_T39 l (i - 1)).f0 ≤ x →
    Ev (fun k => dip_read.l0 k x i l t) (atL (l.drop (i - 1).toNat) x) ∧ Ev (fun k => spileref13_At.l0 k x i l t) (atL (l.drop (i - 1).toNat) x) := by
  obtain ⟨h2, h3, h4, h5, h6⟩ := h
  refine count_up 1 (l.length : Int) (fun i => i < (l.length : Int) → (rd_T39 l (i - 1)).f0 ≤ x → Ev (fun k => dip_read.l0 k x i l t) (atL (l.drop (i - 1).toNat) x) ∧ Ev (fun k => spileref13_At.l0 k x i l t) (atL (l.drop (i - 1).toNat) x)) (fun g => absurd g (by omega)) ?_
  intro i g0 g1 ih _ gx
  have hp := w64_pred (i := i) (by omega) (Int.le_of_lt g1) (by omega)
  have hs := w64_succ (i := i) (by omega) g1 (by omega)
  have q0 : 0 ≤ wrap64 (i - 1) := by rw [hp]; omega
  have q1 : wrap64 (i - 1) < (l.length : Int) := by rw [hp]; omega
  have ra := h5 (i - 1) (by omega) (by omega)
  have rb := h5 i (by omega) g1
  have rs := h6 i g0 g1
  unfold Rng at ra rb
  unfold Stp at rs
  rw [step_eq x g0 g1]
  by_cases c : (rd_T39 l i).f0 < x
  · rw [if_neg (by omega)]
    have c2 : i + 1 < (l.length : Int) := by
      rcases Int.lt_or_le (i + 1) (l.length : Int) with h | h
      · exact h
      · have e : i = (l.length : Int) - 1 := by omega
        unfold hN at hx
        rw [← e] at hx
        omega
    have q := ih c2 (by rw [show i + 1 - 1 = i from by omega]; omega)
    rw [show i + 1 - 1 = i from by omega] at q
    exact ⟨Ev.step (fun k => dip_read.l0.eq_2 ..) (evp (by omega) (evp g1 (evp c (by rw [hs]; exact q.1)))), Ev.step (fun k => spileref13_At.l0.eq_2 ..) (evp (by omega) (evp g1 (evp c (by rw [hs]; exact q.2))))⟩
  · rw [if_pos (by omega)]
    have w1 : wrap64 ((rd_T39 l i).f0 - (rd_T39 l (i - 1)).f0) = (rd_T39 l i).f0 - (rd_T39 l (i - 1)).f0 := w64 (by omega) (by omega)
    have w2 : wrap64 ((rd_T39 l i).f1 - (rd_T39 l (i - 1)).f1) = (rd_T39 l i).f1 - (rd_T39 l (i - 1)).f1 := w64 (by omega) (by omega)
    have w3 : wrap64 (x - (rd_T39 l (i - 1)).f0) = x - (rd_T39 l (i - 1)).f0 := w64 (by omega) (by omega)
    have mb := mulb (x := (rd_T39 l i).f1 - (rd_T39 l (i - 1)).f1) (y := x - (rd_T39 l (i - 1)).f0) (X := 4294967296) (Y := 200000) (by omega) (by omega) (by omega) (by omega)
    have w4 : wrap64 (((rd_T39 l i).f1 - (rd_T39 l (i - 1)).f1) * (x - (rd_T39 l (i - 1)).f0)) = ((rd_T39 l i).f1 - (rd_T39 l (i - 1)).f1) * (x - (rd_T39 l (i - 1)).f0) := w64 (by omega) (by omega)
    have fr := frac (p := (rd_T39 l i).f1 - (rd_T39 l (i - 1)).f1) (q := 0) (n := x - (rd_T39 l (i - 1)).f0) (d := (rd_T39 l i).f0 - (rd_T39 l (i - 1)).f0) (by omega) (by omega) (by omega) (by omega)
    have w5 : Int.tdiv (((rd_T39 l i).f1 - (rd_T39 l (i - 1)).f1) * (x - (rd_T39 l (i - 1)).f0)) ((rd_T39 l i).f0 - (rd_T39 l (i - 1)).f0) = ((rd_T39 l i).f1 - (rd_T39 l (i - 1)).f1) * (x - (rd_T39 l (i - 1)).f0) / ((rd_T39 l i).f0 - (rd_T39 l (i - 1)).f0) := Int.tdiv_eq_ediv_of_nonneg mb.1
    have w6 : wrap64 (((rd_T39 l i).f1 - (rd_T39 l (i - 1)).f1) * (x - (rd_T39 l (i - 1)).f0) / ((rd_T39 l i).f0 - (rd_T39 l (i - 1)).f0)) = ((rd_T39 l i).f1 - (rd_T39 l (i - 1)).f1) * (x - (rd_T39 l (i - 1)).f0) / ((rd_T39 l i).f0 - (rd_T39 l (i - 1)).f0) := w64 (by omega) (by omega)
    constructor
    · refine Ev.step (fun k => dip_read.l0.eq_2 ..) (evp (by omega) (evp g1 (evn c (evp q0 (evp q1 ?_)))))
      rw [hp, w1, w2, w3, w4, w5, w6]
      exact evn (by omega) (evr (w64 (by omega) (by omega)))
    · refine Ev.step (fun k => spileref13_At.l0.eq_2 ..) (evp (by omega) (evp g1 (evn c (evp q0 (evp q1 ?_)))))
      rw [hp, w1, w2, w3, w4, w5, w6]
      exact evn (by omega) (evr (w64 (by omega) (by omega)))
theorem read_both {l : List S39} {t : Int} (h : OKT l t) (x : Int) (hx0 : h0 l ≤ x) (hx : x ≤ hN l) : Ev (fun k => dip_read.f k l t x) (atL l x) ∧ Ev (fun k => spileref13_At.f k l t x) (atL l x) := by
  have := read_loop h x hx 1 (Int.le_refl _) (by have := h.1; omega) (by have := h.1; omega) hx0
  rwa [show (1 - 1 : Int).toNat = 0 from rfl, List.drop_zero] at this
/-- What Read answers. -/
def rdR (l : List S39) (x : Int) : Int × Int := if x < h0 l then (0, 2) else if x > hN l then (0, 2) else (atL l x, 0)
theorem Read_both {l : List S39} {t : Int} (h : OKT l t) (x : Int) : Ev (fun k => dip_Read.f k l t x) (rdR l x) ∧ Ev (fun k => spileref13_Read.f k l t x) (rdR l x) := by
  have h2 := h.1
  have h3 := h.2.1
  obtain ⟨e, e1, e2, e3⟩ := tab_both l t (by omega)
  obtain rfl := e3.2 h
  have hp := w64_pred (i := (l.length : Int)) (by omega) (Int.le_refl _) (by omega)
  have q0 : 0 ≤ wrap64 ((l.length : Int) - 1) := by rw [hp]; omega
  have q1 : wrap64 ((l.length : Int) - 1) < (l.length : Int) := by rw [hp]; omega
  unfold rdR
  by_cases c1 : x < h0 l
  · rw [if_pos c1]
    exact ⟨evb e1 (evp rfl (evp (by omega) (evp c1 (Ev.now _)))), evb e2 (evp rfl (evp (by omega) (evp c1 (Ev.now _))))⟩
  by_cases c2 : x > hN l
  · rw [if_neg c1, if_pos c2]
    have c2' : x > (rd_T39 l (wrap64 ((l.length : Int) - 1))).f0 := by rw [hp]; exact c2
    exact ⟨evb e1 (evp rfl (evp (by omega) (evn c1 (evp q0 (evp q1 (evp c2' (Ev.now _))))))), evb e2 (evp rfl (evp (by omega) (evn c1 (evp q0 (evp q1 (evp c2' (Ev.now _)))))))⟩
  · rw [if_neg c1, if_neg c2]
    have c2' : ¬ x > (rd_T39 l (wrap64 ((l.length : Int) - 1))).f0 := by rw [hp]; exact c2
    obtain ⟨r1, r2⟩ := read_both h x (by omega) (by omega)
    exact ⟨evb e1 (evp rfl (evp (by omega) (evn c1 (evp q0 (evp q1 (evn c2' (evb r1 (Ev.now _)))))))), evb e2 (evp rfl (evp (by omega) (evn c1 (evp q0 (evp q1 (evn c2' (evb r2 (Ev.now _))))))))⟩
end Go.Proofs.YtkolhpacpbhceaaDoor.PL
namespace Go.Proofs.YtkolhpacpbhceaaDoor.PL
open Go Go.RowKit Go.Proofs.YtkolhpacpbhceaaDoorW.PrintWords Go.Proofs.YtkolhpacpbhceaaDoorW.PrintLast Go.Proofs.YtkolhpacpbhceaaDoorW.PrintMore Go.Proofs.YtkolhpacpbhceaaDoor.Pr Go.Proofs.YtkolhpacpbhceaaDoor.Opn Go.Proofs.YtkolhpacpbhceaaDoor.X
theorem halves (lo n : Int) (Q : Int → Prop) (L : Int → Int → Nat → Option Int)
    (hend : ∀ i, lo ≤ i → i ≤ n → Ev (L i i) i) (hyes : ∀ i j, lo ≤ i → i < j → j ≤ n → Q ((i + j) / 2) → ∀ r, Ev (L i ((i + j) / 2)) r → Ev (L i j) r)
    (hno : ∀ i j, lo ≤ i → i < j → j ≤ n → ¬ Q ((i + j) / 2) → ∀ r, Ev (L ((i + j) / 2 + 1) j) r → Ev (L i j) r)
    (mono : ∀ a b, lo ≤ a → a ≤ b → b < n → Q a → Q b) (hn : lo ≤ n) :
    ∃ r, Ev (L lo n) r ∧ lo ≤ r ∧ r ≤ n ∧ (∀ a, lo ≤ a → a < r → ¬ Q a) ∧ (∀ a, r ≤ a → a < n → Q a) := by
  have go : ∀ (d : Nat) (i j : Int), lo ≤ i → i ≤ j → j ≤ n → j - i ≤ d → (∀ a, lo ≤ a → a < i → ¬ Q a) → (∀ a, j ≤ a → a < n → Q a) →
      ∃ r, Ev (L i j) r ∧ lo ≤ r ∧ r ≤ n ∧ (∀ a, lo ≤ a → a < r → ¬ Q a) ∧ (∀ a, r ≤ a → a < n → Q a) := by
    intro d
    induction d with
    | zero =>
      intro i j h0 h1 h2 h3 hl hr
      obtain rfl : i = j := by omega
      exact ⟨i, hend i h0 h2, h0, h2, hl, hr⟩
    | succ d ih =>
      intro i j h0 h1 h2 h3 hl hr
      by_cases e : i = j
      · subst e
        exact ⟨i, hend i h0 h2, h0, h2, hl, hr⟩
      · by_cases q : Q ((i + j) / 2)
        · obtain ⟨r, hr2, h⟩ := ih i ((i + j) / 2) h0 (by omega) (by omega) (by omega) hl (fun a ha hb => mono ((i + j) / 2) a (by omega) ha hb q)
          exact ⟨r, hyes i j h0 (by omega) h2 q r hr2, h⟩
        · obtain ⟨r, hr2, h⟩ := ih ((i + j) / 2 + 1) j (by omega) (by omega) h2 (by omega) (fun a ha hb qa => q (mono a ((i + j) / 2) ha (by omega) (by omega) qa)) hr
          exact ⟨r, hno i j h0 (by omega) h2 q r hr2, h⟩
  exact go (n - lo).toNat lo n (Int.le_refl _) hn (Int.le_refl _) (by omega) (fun a h0 h1 => by omega) (fun a h0 h1 => by omega)
def Least (l : List S39) (v x : Int) : Prop := h0 l ≤ x ∧ x ≤ hN l ∧ v ≤ atL l x ∧ ∀ y, h0 l ≤ y → y < x → atL l y < v
theorem least_unique {l : List S39} {v x y : Int} (a : Least l v x) (b : Least l v y) : x = y := by
  rcases Int.lt_trichotomy x y with h | h | h
  · have := b.2.2.2 x a.1 h; have := a.2.2.1; omega
  · exact h
  · have := a.2.2.2 y b.1 h; have := b.2.2.1; omega
theorem least_both {l : List S39} {t : Int} (h : OKT l t) (v : Int) (hv : v ≤ vN l) : ∃ x, Ev (fun k => rod_least.f k l t v) x ∧ Ev (fun k => spileref14_least.f k l t v) x ∧ Least l v x := by
  have f := facts h
  have n2 := h.1
  have n3 := h.2.1
  have hp := w64_pred (i := (l.length : Int)) (by omega) (Int.le_refl _) (by omega)
  have q0 : 0 ≤ wrap64 ((l.length : Int) - 1) := by rw [hp]; omega
  have q1 : wrap64 ((l.length : Int) - 1) < (l.length : Int) := by rw [hp]; omega
  have b0 := f.h0le
  have bN := f.hNle
  have b1 := f.h01
  have eN : (rd_T39 l (wrap64 ((l.length : Int) - 1))).f0 = hN l := by rw [hp]; rfl
  have e0 : (rd_T39 l 0).f0 = h0 l := rfl
  have one : ∀ a, 0 ≤ a → a < hN l - h0 l → Ev (fun k => rod_least_1.f k a l t (h0 l) v) (decide (atL l (h0 l + a) ≥ v)) := fun a g0 g1 => by
    have q := (Read_both h (wrap64 (h0 l + a))).1
    rw [w64 (by omega) (by omega)] at q
    unfold rdR at q
    rw [if_neg (by omega), if_neg (by omega)] at q
    unfold rod_least_1.f
    rw [w64 (x := h0 l + a) (by omega) (by omega)]
    exact evb q (Ev.now _)
  obtain ⟨r, r1, r2, r3, r4, r5⟩ := halves 0 (hN l - h0 l) (fun a => v ≤ atL l (h0 l + a)) (fun i j k => sort_Search_52_at_53.l0 k i j l t (h0 l) v)
    (fun i g0 g1 => Ev.step (fun k => sort_Search_52_at_53.l0.eq_2 ..) (evn (by omega) (Ev.now _)))
    (fun i j g0 g1 g2 q r hr => by
      have hh := half g0 g1 (by omega)
      refine Ev.step (fun k => sort_Search_52_at_53.l0.eq_2 ..) (evp g1 ?_)
      rw [hh]
      exact evb (one _ (by omega) (by omega)) (evp (decide_eq_true q) hr))
    (fun i j g0 g1 g2 q r hr => by
      have hh := half g0 g1 (by omega)
      refine Ev.step (fun k => sort_Search_52_at_53.l0.eq_2 ..) (evp g1 ?_)
      rw [hh]
      refine evb (one _ (by omega) (by omega)) (evn (by simpa using q) ?_)
      rw [w64 (by omega) (by omega)]
      exact hr)
    (fun a b g0 g1 g2 q => Int.le_trans q (f.mono _ _ (by omega) (by omega) (by omega))) (by omega)
  have L1 : Least l v (h0 l + r) := by
    refine ⟨by omega, by omega, ?_, fun y y0 y1 => ?_⟩
    · rcases Int.lt_or_le r (hN l - h0 l) with c | c
      · exact r5 r (Int.le_refl _) c
      · rw [show h0 l + r = hN l from by omega, f.last]; exact hv
    · have := r4 (y - h0 l) (by omega) (by omega)
      rw [show h0 l + (y - h0 l) = y from by omega] at this
      omega
  have R1 : Ev (fun k => rod_least.f k l t v) (h0 l + r) := by
    refine evp (by omega) (evp q0 (evp q1 ?_))
    rw [eN, e0, w64 (x := hN l - h0 l) (by omega) (by omega)]
    exact evb r1 (evr (w64 (by omega) (by omega)))
  obtain ⟨z, z1, z2, z3, z4, z5⟩ := halves (h0 l) (hN l) (fun a => v ≤ atL l a) (fun i j k => spileref14_least.l0 k v i j l t)
    (fun i g0 g1 => Ev.step (fun k => spileref14_least.l0.eq_2 ..) (evn (by omega) (Ev.now _)))
    (fun i j g0 g1 g2 q r hr => by
      have hh : wrap64 (Int.tdiv (wrap64 (i + j)) 2) = (i + j) / 2 := by
        rw [w64 (x := i + j) (by omega) (by omega), Int.tdiv_eq_ediv_of_nonneg (by omega), w64 (by omega) (by omega)]
      refine Ev.step (fun k => spileref14_least.l0.eq_2 ..) (evp g1 ?_)
      rw [hh]
      exact evb (read_both h _ (by omega) (by omega)).2 (evp q hr))
    (fun i j g0 g1 g2 q r hr => by
      have hh : wrap64 (Int.tdiv (wrap64 (i + j)) 2) = (i + j) / 2 := by
        rw [w64 (x := i + j) (by omega) (by omega), Int.tdiv_eq_ediv_of_nonneg (by omega), w64 (by omega) (by omega)]
      refine Ev.step (fun k => spileref14_least.l0.eq_2 ..) (evp g1 ?_)
      rw [hh]
      refine evb (read_both h _ (by omega) (by omega)).2 (evn q ?_)
      rw [w64 (by omega) (by omega)]
      exact hr)
    (fun a b g0 g1 g2 q => Int.le_trans q (f.mono _ _ g0 g1 (by omega))) b1
  have L2 : Least l v z := by
    refine ⟨z2, z3, ?_, fun y y0 y1 => ?_⟩
    · rcases Int.lt_or_le z (hN l) with c | c
      · exact z5 z (Int.le_refl _) c
      · rw [show z = hN l from by omega, f.last]; exact hv
    · have := z4 y y0 y1; omega
  have R2 : Ev (fun k => spileref14_least.f k l t v) z := by
    refine evp (by omega) (evp q0 (evp q1 ?_))
    rw [eN, e0]
    exact z1
  rw [least_unique L2 L1] at R2
  exact ⟨_, R1, R2, L1⟩
def Chain (l : List S39) (s : Int) : Int → List S39 → Prop
  | _, [] => True
  | p, m :: r => (Least l (p + s) m.f0 ∧ m.f1 = atL l m.f0 / s * s ∧ p + s ≤ vN l) ∧ Chain l s m.f1 r
def endV : Int → List S39 → Int
  | p, [] => p
  | _, m :: r => endV m.f1 r
theorem endV_snoc : ∀ (out : List S39) (p : Int) (m : S39), endV p (out ++ [m]) = m.f1
  | [], _, _ => rfl
  | x :: r, _, m => endV_snoc r x.f1 m
theorem chain_snoc {l : List S39} {s : Int} : ∀ (out : List S39) (p : Int) (m : S39), Chain l s p out → Least l (endV p out + s) m.f0 → m.f1 = atL l m.f0 / s * s → endV p out + s ≤ vN l → Chain l s p (out ++ [m])
  | [], p, m, _, a, b, c => ⟨⟨a, b, c⟩, trivial⟩
  | x :: r, p, m, h, a, b, c => ⟨h.1, chain_snoc r x.f1 m h.2 a b c⟩
theorem floor_le {a s : Int} (hs : 0 < s) : a / s * s ≤ a ∧ a < a / s * s + s := by
  have h1 := Int.emod_nonneg a (b := s) (by omega)
  have h2 := Int.emod_lt_of_pos a hs
  have h3 := Int.emod_def a s
  rw [Int.mul_comm] at h3
  omega
theorem floor_ge {a s q : Int} (hs : 0 < s) (h : q * s ≤ a) : q * s ≤ a / s * s :=
  Int.mul_le_mul_of_nonneg_right ((Int.le_ediv_iff_mul_le hs).2 h) (by omega)
/-- What Make comes to. -/
def Made (l : List S39) (s : Int) (r : List S39 × Int) : Prop := r = ([], 8) ∨ (r.2 = 0 ∧ r.1 ≠ [] ∧ (r.1.length : Int) ≤ 128 ∧ Chain l s 0 r.1 ∧ endV 0 r.1 + s > vN l)
theorem make_loop {l : List S39} {t : Int} (h : OKT l t) {s : Int} (s1 : 1 ≤ s) (s2 : s ≤ 1073741824) : ∀ (d : Nat) (out : List S39) (p : Int), out.length + d = 128 → endV 0 out = p → Chain l s 0 out → 0 ≤ p → p ≤ vN l → (out ≠ [] ∨ p + s ≤ vN l) →
    ∃ r, Ev (fun k => rod_Make.l0 k s out (vN l) (p + s) l t) r ∧ Ev (fun k => spileref14_Make.l0 k s out (p + s) l t (hN l) (vN l)) r ∧ Made l s r := by
  have f := facts h
  have bV := f.vNle
  intro d
  induction d with
  | zero =>
    intro out p hd hp hc p0 p1 hne
    by_cases c : p + s ≤ vN l
    · obtain ⟨x, x1, x2, x3⟩ := least_both h (p + s) c
      have rd := (Read_both h x).1
      unfold rdR at rd
      rw [if_neg (by have := x3.1; omega), if_neg (by have := x3.2.1; omega)] at rd
      have rd2 := (read_both h x x3.1 x3.2.1).2
      have l129 : ∀ m : S39, ((out ++ [m]).length : Int) > 128 := fun m => by rw [List.length_append]; simp; omega
      exact ⟨([], 8), Ev.step (fun k => rod_Make.l0.eq_2 ..) (evp c (evb x1 (evb rd (evn (by omega) (evp (by omega) (evb (Ev.now _) (evp (l129 _) (Ev.now _)))))))),
        Ev.step (fun k => spileref14_Make.l0.eq_2 ..) (evp c (evb x2 (evb rd2 (evn (by omega) (evp (by omega) (evb (Ev.now _) (evp (l129 _) (Ev.now _)))))))), .inl rfl⟩
    · have hn : out ≠ [] := by rcases hne with q | q; exact q; exact absurd q c
      have hl : ¬ (out.length : Int) = 0 := fun q => hn (List.eq_nil_of_length_eq_zero (by omega))
      exact ⟨(out, 0), Ev.step (fun k => rod_Make.l0.eq_2 ..) (evn c (evn hl (Ev.now _))), Ev.step (fun k => spileref14_Make.l0.eq_2 ..) (evn c (Ev.now _)), .inr ⟨rfl, hn, by show (out.length : Int) ≤ 128; omega, hc, by show endV 0 out + s > vN l; omega⟩⟩
  | succ d ih =>
    intro out p hd hp hc p0 p1 hne
    by_cases c : p + s ≤ vN l
    · obtain ⟨x, x1, x2, x3⟩ := least_both h (p + s) c
      have rd := (Read_both h x).1
      unfold rdR at rd
      rw [if_neg (by have := x3.1; omega), if_neg (by have := x3.2.1; omega)] at rd
      have rd2 := (read_both h x x3.1 x3.2.1).2
      have bd := f.bounds x x3.1 x3.2.1
      have fl := floor_le (a := atL l x) (s := s) (by omega)
      have fg : 0 ≤ atL l x / s * s := Int.mul_nonneg (Int.ediv_nonneg bd.1 (by omega)) (by omega)
      have dv := Int.ediv_le_self s bd.1
      have dv0 := Int.ediv_nonneg bd.1 (b := s) (by omega)
      have w1 : wrap64 (Int.tdiv (atL l x) s) = atL l x / s := by rw [Int.tdiv_eq_ediv_of_nonneg bd.1, w64 (by omega) (by omega)]
      have w2 : wrap64 (atL l x / s * s) = atL l x / s * s := w64 (by omega) (by omega)
      have w3 : wrap64 (atL l x / s * s + s) = atL l x / s * s + s := w64 (by omega) (by omega)
      have lm : ¬ ((out ++ [(⟨x, atL l x / s * s⟩ : S39)]).length : Int) > 128 := by rw [List.length_append]; simp; omega
      obtain ⟨r, r1, r2, r3⟩ := ih (out ++ [(⟨x, atL l x / s * s⟩ : S39)]) (atL l x / s * s) (by rw [List.length_append]; simp; omega) (endV_snoc _ _ _) (chain_snoc out 0 _ hc (by rw [hp]; exact x3) rfl (by rw [hp]; exact c)) fg (by omega) (.inl (by simp))
      refine ⟨r, Ev.step (fun k => rod_Make.l0.eq_2 ..) (evp c (evb x1 (evb rd (evn (by omega) (evp (by omega) ?_))))), Ev.step (fun k => spileref14_Make.l0.eq_2 ..) (evp c (evb x2 (evb rd2 (evn (by omega) (evp (by omega) ?_))))), r3⟩
      · simp only []
        rw [w1, w2, w3]
        exact evb (Ev.now _) (evn lm r1)
      · rw [w1, w2, w3]
        exact evb (Ev.now _) (evn lm r2)
    · have hn : out ≠ [] := by rcases hne with q | q; exact q; exact absurd q c
      have hl : ¬ (out.length : Int) = 0 := fun q => hn (List.eq_nil_of_length_eq_zero (by omega))
      exact ⟨(out, 0), Ev.step (fun k => rod_Make.l0.eq_2 ..) (evn c (evn hl (Ev.now _))), Ev.step (fun k => spileref14_Make.l0.eq_2 ..) (evn c (Ev.now _)), .inr ⟨rfl, hn, by show (out.length : Int) ≤ 128; omega, hc, by show endV 0 out + s > vN l; omega⟩⟩
theorem make_both (l : List S39) (t s : Int) (hl : (l.length : Int) ≤ 9223372036854775807) : ∃ r, Ev (fun k => rod_Make.f k l t s) r ∧ Ev (fun k => spileref14_Make.f k l t s) r ∧ (r.2 = 0 → OKT l t ∧ 1 ≤ s ∧ s ≤ 1073741824 ∧ r.1 ≠ [] ∧ (r.1.length : Int) ≤ 128 ∧ Chain l s 0 r.1 ∧ endV 0 r.1 + s > vN l) ∧ (r.2 ≠ 0 → r.1 = []) := by
  obtain ⟨e, e1, e2, e3⟩ := tab_both l t hl
  by_cases ok : OKT l t
  case neg =>
    have he : ¬ e = 0 := fun q => ok (e3.1 q)
    exact ⟨([], 1), evb e1 (evn he (Ev.now _)), evb e2 (evn he (Ev.now _)), (fun q => by cases q), (fun _ => rfl)⟩
  obtain rfl := e3.2 ok
  have n2 := ok.1
  have n3 := ok.2.1
  have hp := w64_pred (i := (l.length : Int)) (by omega) (Int.le_refl _) (by omega)
  have q0 : 0 ≤ wrap64 ((l.length : Int) - 1) := by rw [hp]; omega
  have q1 : wrap64 ((l.length : Int) - 1) < (l.length : Int) := by rw [hp]; omega
  have eN : (rd_T39 l (wrap64 ((l.length : Int) - 1))).f0 = hN l := by rw [hp]; rfl
  have eV : (rd_T39 l (wrap64 ((l.length : Int) - 1))).f1 = vN l := by rw [hp]; rfl
  by_cases c1 : s < 1
  · exact ⟨([], 2), evb e1 (evp rfl (evp c1 (Ev.step (fun k => rod_Make.j0.eq_2 ..) (evp rfl (Ev.now _))))), evb e2 (evp rfl (evp c1 (Ev.step (fun k => spileref14_Make.j0.eq_2 ..) (evp rfl (Ev.now _))))), (fun q => by cases q), (fun _ => rfl)⟩
  by_cases c2 : s > 1073741824
  · have cd := decide_eq_true c2
    exact ⟨([], 2), evb e1 (evp rfl (evn c1 (by rw [cd]; exact Ev.step (fun k => rod_Make.j0.eq_2 ..) (evp rfl (Ev.now _))))), evb e2 (evp rfl (evn c1 (by rw [cd]; exact Ev.step (fun k => spileref14_Make.j0.eq_2 ..) (evp rfl (Ev.now _))))), (fun q => by cases q), (fun _ => rfl)⟩
  have cd := decide_eq_false c2
  have pre1 : ∀ r, Ev (fun k => rod_Make.l0 k s ([] : List S39) (vN l) s l t) r → Ev (fun k => rod_Make.f k l t s) r := fun r hr => by
    refine evb e1 (evp rfl (evn c1 ?_))
    rw [cd]
    refine Ev.step (fun k => rod_Make.j0.eq_2 ..) (evn (by simp) (evp q0 (evp q1 ?_)))
    rw [eV]
    exact hr
  have v0 := (facts ok).bounds (hN l) (facts ok).h01 (Int.le_refl _)
  rw [(facts ok).last] at v0
  by_cases c3 : vN l < s
  · refine ⟨([], 9), pre1 _ (Ev.step (fun k => rod_Make.l0.eq_2 ..) (evn (by omega) (evp (by simp) (Ev.now _)))), evb e2 (evp rfl (evn c1 ?_)), (fun q => by cases q), (fun _ => rfl)⟩
    rw [cd]
    refine Ev.step (fun k => spileref14_Make.j0.eq_2 ..) (evn (by simp) (evp q0 (evp q1 ?_)))
    rw [eV]
    exact evp c3 (Ev.now _)
  · obtain ⟨r, r1, r2, r3⟩ := make_loop ok (s := s) (by omega) (by omega) 128 [] 0 rfl rfl trivial (Int.le_refl _) v0.1 (.inr (by omega))
    rw [Int.zero_add] at r1 r2
    refine ⟨r, pre1 _ r1, evb e2 (evp rfl (evn c1 ?_)), fun q => ?_, fun q => ?_⟩
    · rw [cd]
      refine Ev.step (fun k => spileref14_Make.j0.eq_2 ..) (evn (by simp) (evp q0 (evp q1 ?_)))
      rw [eV, eN]
      exact evn c3 r2
    · rcases r3 with e | ⟨_, a, b, c, d⟩
      · rw [e] at q; cases q
      · exact ⟨ok, by omega, by omega, a, b, c, d⟩
    · rcases r3 with e | ⟨a, _⟩
      · rw [e]
      · exact absurd a q
theorem chain_marks {l : List S39} {t : Int} (h : OKT l t) {s : Int} (s1 : 1 ≤ s) : ∀ (out : List S39) (q : Int), 0 ≤ q → Chain l s (q * s) out → ∀ m, m ∈ out →
    h0 l ≤ m.f0 ∧ m.f0 ≤ hN l ∧ (∃ u, m.f1 = u * s) ∧ q * s + s ≤ m.f1 ∧ m.f1 ≤ atL l m.f0 ∧ atL l m.f0 < m.f1 + s ∧ ∀ y, h0 l ≤ y → y < m.f0 → atL l y < m.f1
  | [], q, q0, hc, m, hm => by simp at hm
  | x :: r, q, q0, hc, m, hm => by
    obtain ⟨⟨L, e, c⟩, hr⟩ := hc
    have bd := (facts h).bounds x.f0 L.1 L.2.1
    have fl := floor_le (a := atL l x.f0) (s := s) (by omega)
    have fg := floor_ge (a := atL l x.f0) (s := s) (q := q + 1) (by omega) (by rw [Int.add_mul, Int.one_mul]; exact L.2.2.1)
    rw [Int.add_mul, Int.one_mul, ← e] at fg
    rw [← e] at fl
    rcases List.mem_cons.1 hm with rfl | hm
    · exact ⟨L.1, L.2.1, ⟨_, e⟩, fg, fl.1, fl.2, fun y y0 y1 => Int.lt_of_lt_of_le (L.2.2.2 y y0 y1) fg⟩
    · rw [e] at hr
      have := chain_marks h s1 r (atL l x.f0 / s) (Int.ediv_nonneg bd.1 (by omega)) hr m hm
      rw [← e] at this
      obtain ⟨a1, a2, a3, a4, a5⟩ := this
      exact ⟨a1, a2, a3, by omega, a5⟩
theorem chain_drop {l : List S39} {s : Int} : ∀ (n : Nat) (out : List S39) (p : Int), Chain l s p out → Chain l s (endV p (out.take n)) (out.drop n)
  | 0, out, p, h => by rw [List.take_zero, List.drop_zero]; exact h
  | n + 1, [], p, h => trivial
  | n + 1, x :: r, p, h => chain_drop n r x.f1 h.2
theorem endV_rd : ∀ (out : List S39) (p : Int), out ≠ [] → endV p out = (rd_T39 out ((out.length : Int) - 1)).f1
  | [], _, h => absurd rfl h
  | [a], _, _ => rfl
  | a :: b :: r, p, _ => by
    have e := endV_rd (b :: r) a.f1 (by simp)
    show endV a.f1 (b :: r) = _
    rw [e]
    unfold rd_T39
    rw [show (((a :: b :: r).length : Int) - 1).toNat = (((b :: r).length : Int) - 1).toNat + 1 from by simp]
    rfl
theorem chain_pair {l : List S39} {s : Int} {out : List S39} {p : Int} (h : Chain l s p out) {j : Int} (j1 : 1 ≤ j) (j2 : j < (out.length : Int)) : Least l ((rd_T39 out (j - 1)).f1 + s) (rd_T39 out j).f0 := by
  have := chain_drop (j - 1).toNat out p h
  rw [drop39 (i := j - 1) (by omega) (by omega), show j - 1 + 1 = j from by omega, drop39 (i := j) (by omega) j2] at this
  exact this.2.1.1
def RngR (x : S39) : Prop := 0 ≤ x.f0 ∧ x.f0 ≤ 200000 ∧ 1 ≤ x.f1 ∧ x.f1 ≤ 4294967296
def StpR (x y : S39) : Prop := x.f0 < y.f0 ∧ x.f1 < y.f1
def OKR (l : List S39) : Prop := 1 ≤ (l.length : Int) ∧ (l.length : Int) ≤ 128 ∧ (∀ j, 0 ≤ j → j < (l.length : Int) → RngR (rd_T39 l j)) ∧ (∀ j, 1 ≤ j → j < (l.length : Int) → StpR (rd_T39 l (j - 1)) (rd_T39 l j))
theorem badR_eq (x : S39) : ∃ b, rod_Check_1.f x.f0 x.f1 = some b ∧ (b = true ↔ ¬ RngR x) := by
  unfold rod_Check_1.f RngR
  by_cases h1 : x.f0 < 0
  · exact ⟨true, by rw [if_pos h1], by simp; omega⟩
  by_cases h2 : x.f0 > 200000
  · exact ⟨true, by rw [if_neg h1, if_pos h2], by simp; omega⟩
  by_cases h3 : x.f1 < 1
  · exact ⟨true, by rw [if_neg h1, if_neg h2, if_pos h3], by simp; omega⟩
  refine ⟨decide (x.f1 > 4294967296), by rw [if_neg h1, if_neg h2, if_neg h3], ?_⟩
  rw [decide_eq_true_iff]
  omega
theorem range_rod (l : List S39) (hl : (l.length : Int) ≤ 9223372036854775807) : ∀ i, 0 ≤ i → i ≤ (l.length : Int) →
    ∃ r, Ev (fun k => api_Mark_38_at_41.l0 k l (l.length : Int) i) r ∧ (r ≥ 0 ↔ ¬ ∀ j, i ≤ j → j < (l.length : Int) → RngR (rd_T39 l j)) := by
  refine count_up 0 (l.length : Int) _ ?_ ?_
  · exact ⟨-1, Ev.step (fun k => api_Mark_38_at_41.l0.eq_2 ..) (evn (by omega) (Ev.now _)), by constructor; omega; exact fun h => absurd (fun j h1 h2 => by omega) h⟩
  · intro i h0 h1 ih
    obtain ⟨b, hb, hb2⟩ := badR_eq (rd_T39 l i)
    have hs := w64_succ h0 h1 hl
    by_cases c : RngR (rd_T39 l i)
    · obtain ⟨r, r1, r2⟩ := ih
      have hbf : ¬ b = true := fun h => hb2.1 h c
      refine ⟨r, Ev.step (fun k => api_Mark_38_at_41.l0.eq_2 ..) (evp h1 (evp h0 (evp h1 (evb (evc (fun _ => rfl) hb) (evn hbf (by rw [hs]; exact r1)))))), r2.trans (not_congr ⟨fun h j a q => ?_, fun h j a q => h j (by omega) q⟩)⟩
      by_cases e : j = i
      · rw [e]; exact c
      · exact h j (by omega) q
    · exact ⟨i, Ev.step (fun k => api_Mark_38_at_41.l0.eq_2 ..) (evp h1 (evp h0 (evp h1 (evb (evc (fun _ => rfl) hb) (evp (hb2.2 c) (Ev.now _)))))), ⟨fun _ h => c (h i (Int.le_refl _) h1), fun _ => h0⟩⟩
theorem orderR_both (l : List S39) (hn : (l.length : Int) ≤ 128) : ∀ i, 1 ≤ i → i ≤ (l.length : Int) →
    ∃ e, Ev (fun k => rod_Check.l0 k l i) e ∧ Ev (fun k => spileref14_Check.l1 k l i) e ∧ (e = 0 ↔ ∀ j, i ≤ j → j < (l.length : Int) → StpR (rd_T39 l (j - 1)) (rd_T39 l j)) := by
  refine count_up 1 (l.length : Int) _ ?_ ?_
  · exact ⟨0, Ev.step (fun k => rod_Check.l0.eq_2 ..) (evn (by omega) (Ev.now _)), Ev.step (fun k => spileref14_Check.l1.eq_2 ..) (evn (by omega) (Ev.now _)), ⟨fun _ j a b => by omega, fun _ => rfl⟩⟩
  · intro i h0 h1 ih
    have hs := w64_succ (i := i) (by omega) h1 (by omega)
    have hp := w64_pred (i := i) (by omega) (Int.le_of_lt h1) (by omega)
    have q0 : 0 ≤ wrap64 (i - 1) := by rw [hp]; omega
    have q1 : wrap64 (i - 1) < (l.length : Int) := by rw [hp]; omega
    by_cases c1 : (rd_T39 l (wrap64 (i - 1))).f0 ≥ (rd_T39 l i).f0
    · refine ⟨5, Ev.step (fun k => rod_Check.l0.eq_2 ..) (evp h1 (evp q0 (evp q1 (evp (by omega) (evp c1 (Ev.now _)))))), Ev.step (fun k => spileref14_Check.l1.eq_2 ..) (evp h1 (evp q0 (evp q1 (evp (by omega) (evp c1 (Ev.now _)))))), ⟨fun h => by omega, fun h => ?_⟩⟩
      rw [hp] at c1
      have := (h i (by omega) h1).1
      omega
    by_cases c2 : (rd_T39 l (wrap64 (i - 1))).f1 ≥ (rd_T39 l i).f1
    · refine ⟨5, Ev.step (fun k => rod_Check.l0.eq_2 ..) (evp h1 (evp q0 (evp q1 (evp (by omega) (evn c1 (evp c2 (Ev.now _))))))), Ev.step (fun k => spileref14_Check.l1.eq_2 ..) (evp h1 (evp q0 (evp q1 (evp (by omega) (evn c1 (evp c2 (Ev.now _))))))), ⟨fun h => by omega, fun h => ?_⟩⟩
      rw [hp] at c2
      have := (h i (by omega) h1).2
      omega
    · obtain ⟨e, e1, e2, e3⟩ := ih
      refine ⟨e, Ev.step (fun k => rod_Check.l0.eq_2 ..) (evp h1 (evp q0 (evp q1 (evp (by omega) (evn c1 (evn c2 (by rw [hs]; exact e1))))))), Ev.step (fun k => spileref14_Check.l1.eq_2 ..) (evp h1 (evp q0 (evp q1 (evp (by omega) (evn c1 (evn c2 (by rw [hs]; exact e2))))))), e3.trans ⟨fun h j a b => ?_, fun h j a b => h j (by omega) b⟩⟩
      by_cases z : j = i
      · rw [hp] at c1 c2; rw [z]; exact ⟨by omega, by omega⟩
      · exact h j (by omega) b
theorem rangeR_ref (l : List S39) (e : Int) (hl : (l.length : Int) ≤ 9223372036854775807) (he : Ev (fun k => spileref14_Check.l1 k l 1) e) : ∀ i, 0 ≤ i → i ≤ (l.length : Int) →
    ((∀ j, i ≤ j → j < (l.length : Int) → RngR (rd_T39 l j)) → Ev (fun k => spileref14_Check.l0 k l i) e) ∧ ((¬ ∀ j, i ≤ j → j < (l.length : Int) → RngR (rd_T39 l j)) → Ev (fun k => spileref14_Check.l0 k l i) 2) := by
  refine count_up 0 (l.length : Int) _ ?_ ?_
  · exact ⟨fun _ => Ev.step (fun k => spileref14_Check.l0.eq_2 ..) (evn (by omega) he), fun h => absurd (fun j a b => by omega) h⟩
  · intro i h0 h1 ih
    have hs := w64_succ h0 h1 hl
    by_cases c : RngR (rd_T39 l i)
    · have up : ∀ r, Ev (fun k => spileref14_Check.l0 k l (i + 1)) r → Ev (fun k => spileref14_Check.l0 k l i) r := fun r h => by
        have c' := c
        unfold RngR at c'
        exact Ev.step (fun k => spileref14_Check.l0.eq_2 ..) (evp h1 (evp h0 (evn (by omega) (evn (by omega) (evn (by omega) (evn (by omega) (by rw [hs]; exact h)))))))
      refine ⟨fun h => up _ (ih.1 fun j a b => h j (by omega) b), fun h => up _ (ih.2 fun h2 => h fun j a b => ?_)⟩
      by_cases z : j = i
      · rw [z]; exact c
      · exact h2 j (by omega) b
    · refine ⟨fun h => absurd (h i (Int.le_refl _) h1) c, fun _ => ?_⟩
      unfold RngR at c
      by_cases d1 : (rd_T39 l i).f0 < 0
      · exact Ev.step (fun k => spileref14_Check.l0.eq_2 ..) (evp h1 (evp h0 (evp d1 (Ev.now _))))
      by_cases d2 : (rd_T39 l i).f0 > 200000
      · exact Ev.step (fun k => spileref14_Check.l0.eq_2 ..) (evp h1 (evp h0 (evn d1 (evp d2 (Ev.now _)))))
      by_cases d3 : (rd_T39 l i).f1 < 1
      · exact Ev.step (fun k => spileref14_Check.l0.eq_2 ..) (evp h1 (evp h0 (evn d1 (evn d2 (evp d3 (Ev.now _))))))
      · exact Ev.step (fun k => spileref14_Check.l0.eq_2 ..) (evp h1 (evp h0 (evn d1 (evn d2 (evn d3 (evp (by omega) (Ev.now _)))))))
theorem rod_both (l : List S39) (hl : (l.length : Int) ≤ 9223372036854775807) : ∃ e, Ev (fun k => rod_Check.f k l) e ∧ Ev (fun k => spileref14_Check.f k l) e ∧ (e = 0 ↔ OKR l) := by
  by_cases a1 : (l.length : Int) = 0
  · exact ⟨9, evp a1 (Ev.now _), evp a1 (Ev.now _), ⟨fun h => by omega, fun h => by have := h.1; omega⟩⟩
  by_cases a2 : (l.length : Int) > 128
  · exact ⟨8, evn a1 (evp a2 (Ev.now _)), evn a1 (evp a2 (Ev.now _)), ⟨fun h => by omega, fun h => by have := h.2.1; omega⟩⟩
  obtain ⟨e, e1, e2, e3⟩ := orderR_both l (by omega) 1 (Int.le_refl _) (by omega)
  obtain ⟨r, r1, r2⟩ := range_rod l hl 0 (Int.le_refl _) (by omega)
  have ref := rangeR_ref l e hl e2 0 (Int.le_refl _) (by omega)
  by_cases hr : ∀ j, 0 ≤ j → j < (l.length : Int) → RngR (rd_T39 l j)
  · refine ⟨e, evn a1 (evn a2 (evb (evb r1 (Ev.now _)) (evn ?_ e1))), evn a1 (evn a2 (ref.1 hr)), e3.trans ⟨fun h => ⟨by omega, by omega, hr, h⟩, fun h => h.2.2.2⟩⟩
    rw [decide_eq_false (fun h => r2.1 h hr)]; simp
  · exact ⟨2, evn a1 (evn a2 (evb (evb r1 (Ev.now _)) (evp (decide_eq_true (r2.2 hr)) (Ev.now _)))), evn a1 (evn a2 (ref.2 hr)), ⟨fun h => by omega, fun h => absurd h.2.2.1 hr⟩⟩
theorem made_rod {l : List S39} {t : Int} (h : OKT l t) {s : Int} (s1 : 1 ≤ s) {out : List S39} (hn : out ≠ []) (hl : (out.length : Int) ≤ 128) (hc : Chain l s 0 out) : OKR out := by
  have f := facts h
  have b0 := f.h0le
  have bN := f.hNle
  have bV := f.vNle
  have hlen : 1 ≤ (out.length : Int) := by
    rcases Nat.eq_zero_or_pos out.length with z | z
    · exact absurd (List.eq_nil_of_length_eq_zero z) hn
    · omega
  have marks := chain_marks h s1 out 0 (Int.le_refl _) (by rw [Int.zero_mul]; exact hc)
  refine ⟨hlen, hl, fun j j0 j1 => ?_, fun j j0 j1 => ?_⟩
  · have m := marks _ (rd39_mem j0 j1)
    have bd := f.bounds _ m.1 m.2.1
    rw [Int.zero_mul] at m
    exact ⟨by omega, by omega, by omega, by omega⟩
  · have m := marks _ (rd39_mem (l := out) (i := j - 1) (by omega) (by omega))
    have m2 := marks _ (rd39_mem (l := out) (i := j) (by omega) j1)
    have L := chain_pair hc j0 j1
    have lt : (rd_T39 out (j - 1)).f0 < (rd_T39 out j).f0 := by
      rcases Int.lt_or_le (rd_T39 out (j - 1)).f0 (rd_T39 out j).f0 with q | q
      · exact q
      · have := f.mono _ _ L.1 q m.2.1
        have := L.2.2.1
        omega
    refine ⟨lt, ?_⟩
    have := m2.2.2.2.2.2.2 _ m.1 lt
    omega
end Go.Proofs.YtkolhpacpbhceaaDoor.PL
namespace Go.Proofs.YtkolhpacpbhceaaDoor.PL
open Go Go.RowKit Go.Proofs.YtkolhpacpbhceaaDoorW.PrintWords Go.Proofs.YtkolhpacpbhceaaDoorW.PrintLast Go.Proofs.YtkolhpacpbhceaaDoorW.PrintMore Go.Proofs.YtkolhpacpbhceaaDoor.Pr Go.Proofs.YtkolhpacpbhceaaDoor.Opn Go.Proofs.YtkolhpacpbhceaaDoor.X
theorem copy_eq {l : List S39} (t : Int) (h : (l.length : Int) ≤ 129) : spileref13_Copy.f l t = some (l, t) := by
  show (if ([] : List S39).length + l.length < 8796093022208 then some (([] : List S39) ++ l, t) else none) = _
  rw [if_pos (by simp; omega)]
  rfl
theorem clone_eq {l : List S39} (h : (l.length : Int) ≤ 129) : slices_Clone39.f l = some l := by
  unfold slices_Clone39.f
  rw [if_pos (by omega)]
theorem few_cases (r l : List S39) (t : Int) : ∃ b, spilelaw14_few.f r l t = some b ∧ (b = true → (r.length : Int) ≤ 129 ∧ (l.length : Int) ≤ 129) := by
  unfold spilelaw14_few.f spileref13_Few.f
  by_cases c : (r.length : Int) ≤ 129
  · exact ⟨decide ((l.length : Int) ≤ 129), by rw [if_pos c]; rfl, fun q => ⟨c, of_decide_eq_true q⟩⟩
  · exact ⟨false, by rw [if_neg c], fun q => by cases q⟩
theorem made_both {l : List S39} {t s : Int} (hl : (l.length : Int) ≤ 129) : ∃ r, Ev (fun k => rod_Make.f k l t s) r ∧ Ev (fun k => spileref14_Make.f k l t s) r ∧ (r.1.length : Int) ≤ 128 ∧
    (r.2 = 0 → OKT l t ∧ 1 ≤ s ∧ s ≤ 1073741824 ∧ OKR r.1 ∧ Chain l s 0 r.1 ∧ endV 0 r.1 + s > vN l) ∧ (r.2 ≠ 0 → r.1 = []) := by
  obtain ⟨r, r1, r2, r3, r4⟩ := make_both l t s (by omega)
  refine ⟨r, r1, r2, ?_, fun q => ?_, r4⟩
  · by_cases q : r.2 = 0
    · exact (r3 q).2.2.2.2.1
    · rw [r4 q]; simp
  · obtain ⟨a, b, c, d, e, f, g⟩ := r3 q
    exact ⟨a, b, c, made_rod a b d e f, f, g⟩
end Go.Proofs.YtkolhpacpbhceaaDoor.PL
namespace Go.Proofs.YtkolhpacpbhceaaDoor.Pure
open Go Go.RowKit Go.Proofs.YtkolhpacpbhceaaDoorW.PrintWords Go.Proofs.YtkolhpacpbhceaaDoorW.PrintLast Go.Proofs.YtkolhpacpbhceaaDoorW.PrintMore Go.Proofs.YtkolhpacpbhceaaDoor.Pr Go.Proofs.YtkolhpacpbhceaaDoor.Opn Go.Proofs.YtkolhpacpbhceaaDoor.X Go.Proofs.YtkolhpacpbhceaaDoor.PL
theorem exact_loop {l : List S39} {t s : Int} (h : OKT l t) (s1 : 1 ≤ s) (s2 : s ≤ 1073741824) {out : List S39} (ok : OKR out) (hc : Chain l s 0 out) (he : endV 0 out + s > vN l) : ∀ i, 0 ≤ i → i ≤ (out.length : Int) →
    Ev (fun k => spilelaw14_RodExact.l0 k s out out (out.length : Int) i l t) true := by
  have f := facts h
  have b0 := f.h0le
  have bN := f.hNle
  have bV := f.vNle
  have n2 := h.1
  have n3 := h.2.1
  have o1 := ok.1
  have o2 := ok.2.1
  have marks := chain_marks h s1 out 0 (Int.le_refl _) (by rw [Int.zero_mul]; exact hc)
  have copy : Ev (fun _ : Nat => spileref13_Copy.f l t) (l, t) := evc (fun _ => rfl) (copy_eq t (by omega))
  refine count_up 0 (out.length : Int) _ ?_ ?_
  · have hp := w64_pred (i := (l.length : Int)) (by omega) (Int.le_refl _) (by omega)
    have hq := w64_pred (i := (out.length : Int)) (by omega) (Int.le_refl _) (by omega)
    have v0 := f.bounds (hN l) f.h01 (Int.le_refl _)
    rw [f.last] at v0
    have hne : out ≠ [] := fun e => by rw [e] at o1; simp at o1
    have ev := endV_rd out 0 hne
    have m := marks _ (rd39_mem (l := out) (i := (out.length : Int) - 1) (by omega) (by omega))
    obtain ⟨m1, m2, ⟨u, m3⟩, m4, m5, m6, m7⟩ := m
    have bm := f.bounds _ m1 m2
    have fl := floor_le (a := vN l) (s := s) (by omega)
    have fg := floor_ge (a := vN l) (s := s) (q := u) (by omega) (by omega)
    have last : (rd_T39 out ((out.length : Int) - 1)).f1 = vN l / s * s := by
      rw [ev] at he
      rw [m3] at he ⊢
      rcases Int.lt_or_le u (vN l / s) with c | c
      · have := Int.mul_le_mul_of_nonneg_right (show u + 1 ≤ vN l / s by omega) (show 0 ≤ s by omega)
        rw [Int.add_mul, Int.one_mul] at this
        omega
      · have := Int.mul_le_mul_of_nonneg_right c (show 0 ≤ s by omega)
        omega
    have dv := Int.ediv_le_self s v0.1
    have dv0 := Int.ediv_nonneg v0.1 (b := s) (by omega)
    have fg0 : 0 ≤ vN l / s * s := Int.mul_nonneg dv0 (by omega)
    have w1 : wrap64 (Int.tdiv (vN l) s) = vN l / s := by rw [Int.tdiv_eq_ediv_of_nonneg v0.1, w64 (by omega) (by omega)]
    have w2 : wrap64 (vN l / s * s) = vN l / s * s := w64 (by omega) (by omega)
    refine Ev.step (fun k => spilelaw14_RodExact.l0.eq_2 ..) (evn (by omega) (evp (by rw [hp]; omega) (evp (by rw [hp]; omega) (evp (by rw [hq]; omega) (evp (by rw [hq]; omega) (evn (by omega) ?_))))))
    rw [hp, hq]
    refine evr ?_
    show ((rd_T39 out ((out.length : Int) - 1)).f1 == wrap64 (wrap64 (Int.tdiv (vN l) s) * s)) = true
    rw [w1, w2, last, beq_self_eq_true]
  · intro i i0 i1 ih
    have hs := w64_succ i0 i1 (by omega)
    obtain ⟨m1, m2, ⟨u, m3⟩, m4, m5, m6, m7⟩ := marks _ (rd39_mem (l := out) i0 i1)
    have bm := f.bounds _ m1 m2
    have rd := (Read_both h (rd_T39 out i).f0).1
    have e1 : rdR l (rd_T39 out i).f0 = (atL l (rd_T39 out i).f0, 0) := by unfold rdR; rw [if_neg (by omega), if_neg (by omega)]
    rw [e1] at rd
    have w1 : wrap64 ((rd_T39 out i).f1 + s) = (rd_T39 out i).f1 + s := w64 (by omega) (by omega)
    have w2 : wrap64 ((rd_T39 out i).f0 - 1) = (rd_T39 out i).f0 - 1 := w64 (by omega) (by omega)
    have md : Int.tmod (rd_T39 out i).f1 s = 0 := by
      rw [Int.tmod_eq_emod_of_nonneg (by omega), m3, Int.mul_emod_left]
    refine Ev.step (fun k => spilelaw14_RodExact.l0.eq_2 ..) (evp i1 (evp i0 (evp i1 (evb copy (evb rd (evp rfl (evn (by omega) (evp md (evn (by show ¬ atL l _ < _; omega) ?_)))))))))
    rw [w1]
    rw [decide_eq_false (show ¬ atL l (rd_T39 out i).f0 ≥ (rd_T39 out i).f1 + s by omega)]
    refine Ev.step (fun k => spilelaw14_RodExact.j2.eq_2 ..) (evn (by simp) (evb copy ?_))
    rw [w2, hs]
    refine evb (Read_both h ((rd_T39 out i).f0 - 1)).1 ?_
    unfold rdR
    by_cases c : (rd_T39 out i).f0 - 1 < h0 l
    · rw [if_pos c]; exact evn (by simp) ih
    · rw [if_neg c, if_neg (by omega)]
      have := m7 ((rd_T39 out i).f0 - 1) (by omega) (by omega)
      exact evp rfl (evn (by show ¬ atL l _ ≥ _; omega) ih)
theorem RodExact : rodExactPure := by
  intro l t s hl ht hs
  refine Ev.rounds ?_
  obtain ⟨b, hb, hb2⟩ := few_cases [] l t
  have haw : Ev (fun _ : Nat => spilelaw14_awake.f) true := Ev.now _
  refine evb haw (evp rfl (evb (evc (fun _ => rfl) hb) ?_))
  cases b with
  | false => exact evn (by simp) (Ev.now _)
  | true =>
    have hn := (hb2 rfl).2
    obtain ⟨r, r1, _, r3, r4, r5⟩ := made_both (l := l) (t := t) (s := s) hn
    refine evp rfl (evb (evc (fun _ => rfl) (copy_eq t hn)) (evb r1 ?_))
    by_cases c : r.2 = 0
    · obtain ⟨okt, s1, s2, okr, hc, he⟩ := r4 c
      obtain ⟨z, z1, _, z3⟩ := rod_both r.1 (by omega)
      obtain rfl := z3.2 okr
      have o1 := okr.1
      have n2 := okt.1
      refine evp c (evb (evc (fun _ => rfl) (clone_eq (by omega))) (evb z1 (evp rfl (evn (by omega) (evn (by omega) ?_)))))
      rw [decide_eq_false (by omega)]
      exact Ev.step (fun k => spilelaw14_RodExact.j0.eq_2 ..) (evn (by simp) (exact_loop okt s1 s2 okr hc he 0 (Int.le_refl _) (by omega)))
    · refine evn c (evr ?_)
      rw [r5 c]; rfl
end Go.Proofs.YtkolhpacpbhceaaDoor.Pure
namespace Go.Proofs.YtkolhpacpbhceaaDoor.X
open Go
variable {H : Type} {enc : TypeId × Value → H}
theorem wrap_shaped {a : Assume} {C : Checked} {os : Os} {f : FuncId} {fn : Func} {s : ChangeSpec} {conds : List PathCond} {apart fresh handsOn again : Bool} {X : World → Array Value → Prop}
    (hX : ∀ (w w' : World) (args : Array Value), w.heap = w'.heap → X w args → X w' args)
    (own : ownKnob C.prog.godebug = none) (started : os.Started) (noInit : C.prog.inits.idxOf? f = none) (hfn : C.prog.funcs[f]? = some fn)
    (witness : ∃ (w : World) (tape : Tape) (i : Input), w.os = os ∧ (w.forCall tape i).Shaped C.prog ∧ i.vars = [] ∧ Input.okWide C.prog (w.forCall tape i) .any w.heap.size f i ∧
      ((s.pre enc C.prog fn conds apart (w.forCall tape i).memory i.args ∧ X (w.forCall tape i).memory i.args) ∧ sizedMet enc C.prog fn (OpenSpec.ofChange s) apart (w.forCall tape i).memory i.args) ∧ a.holds C.prog (lone (Frame.enter C.prog f i.args .normal) [] (w.forCall tape i)))
    (walk : ∀ (W : World) (base : Nat) (args : Array Value) (ds gs : List (DataW H)) (before : List MemPlace),
      (∀ (j : Nat) t v, fn.params[j]? = some t → args[j]? = some v → Value.okWide C.prog W .any base t v) →
      DataW.Whole enc C.prog fn.params.toList s.vars apart W args.toList ds gs before → X W args → W.ShapedOpen C.prog →
      Calls C.prog f args W fun e W' => ∃ v, e = .returned v ∧ s.post enc C.prog fn apart fresh handsOn again W args v W') :
    ReturnsInHanded a C os f .any (fun w args => (s.pre enc C.prog fn conds apart w args ∧ X w args) ∧ sizedMet enc C.prog fn (OpenSpec.ofChange s) apart w args) (s.post enc C.prog fn apart fresh handsOn again) := by
  refine returnsInHanded_of_calls own started noInit witness ?_
  intro w tape i _ hsh _ hok hpre _
  obtain ⟨_, _, _, fn', hfn', _, _, _, _, hval⟩ := hok
  obtain rfl : fn' = fn := Option.some.inj (hfn'.symm.trans hfn)
  obtain ⟨⟨⟨ds, gs, before, hw, _⟩, hx⟩, _⟩ := hpre
  refine (walk (w.forCall tape i) w.heap.size i.args ds gs before hval (DataW.Whole.of_heap (w' := w.forCall tape i) (by rfl) hw) (hX _ _ _ (by rfl) hx) hsh).mono fun e W' ⟨v, he, hp⟩ => ?_
  subst he
  exact ChangeSpec.post_blind hp
end Go.Proofs.YtkolhpacpbhceaaDoor.X
namespace Go.Proofs.YtkolhpacpbhceaaDoor.rodExact
open Go Go.ChangeShapes Go.WideShapes Go.ChangeAt Go.RowKit
open Go.ChangeMaps (open_string shut_string)
open Go.Proofs.YtkolhpacpbhceaaDoorW.PrintWords Go.Proofs.YtkolhpacpbhceaaDoor.O Go.Proofs.YtkolhpacpbhceaaDoor.Opn Go.Proofs.YtkolhpacpbhceaaDoor.Pr Go.Proofs.YtkolhpacpbhceaaDoor.X
theorem own : ownKnob Tryd.prog.godebug = none := by kernel_rfl
theorem laidOut : laidOutB Tryd.prog = true := by kernel_rfl
abbrev laidL : List (String × DataW Unit) := [("math/bits.deBruijn32tab", Rows.laid_math_bits_deBruijn32tab), ("math/bits.deBruijn64tab", Rows.laid_math_bits_deBruijn64tab), ("internal/strconv.uint64pow10", Rows.laid_internal_strconv_uint64pow10)]
set_option maxRecDepth 100000 in
theorem lifted (os : Os) (started : os.Started) (H : Type) (enc : TypeId × Value → H) :
    ReturnsInHanded {} Tryd.checked os 6 .any (fun w args => (Rows.rodExactSpec.pre enc Tryd.prog Tryd.f6 [] false w args ∧ laidMetH Tryd.prog laidL w) ∧ sizedMet enc Tryd.prog Tryd.f6 (OpenSpec.ofChange Rows.rodExactSpec) false w args)
      (Rows.rodExactSpec.post enc Tryd.prog Tryd.f6 false true false false) := by
  refine wrap_shaped (C := Tryd.checked) (X := (fun w _ => laidMetH Tryd.prog laidL w)) (fun _ _ _ hh h => h.of_heap hh) own started (by kernel_rfl) Tryd.func6
    (ChangeSpec.witness_shaped (enc := enc) (C := Tryd.checked) (os := os) (X := (fun w _ => laidMetH Tryd.prog laidL w)) false (World.laidAll Tryd.prog os laidL) #[.agg #[.slice none 0 0, .int .i64 0], .int .i64 0] 8 (World.laidAll_os _ _ _) (World.shaped_of_ZipB (by kernel_rfl) (by kernel_rfl)) (by kernel_rfl) (by kernel_rfl) (by kernel_rfl) (by rw [MakeChecks.laidMetH_plain _ _ _ (by kernel_rfl)]; exact laidMet_laidAll _ (by kernel_rfl) (by kernel_rfl))) ?_
  intro W base args ds gs before hval0 hW hL hsh
  have hval : ∀ (j : Nat) t v, Tryd.f6.params[j]? = some t → args[j]? = some v → Value.okWide Tryd.prog W .any base t v := hval0
  have hW' := hW
  obtain ⟨p, q, hA0, hV, rfl, hfz, hnd⟩ := hW
  have hA : DataW.TrodAll enc Tryd.prog W 0 (fun _ => true) true Tryd.f6.params.toList args.toList ds p := hA0
  rw [Tryd.params6] at hA hval
  obtain ⟨v0, vs0, d0, ds0, p0, q0, hargs, rfl, rfl, h0, r0⟩ := trodAll_cons hA
  obtain ⟨v1, vs1, d1, ds1, p1, q1, rfl, rfl, rfl, h1, r1⟩ := trodAll_cons r0
  obtain ⟨rfl, rfl, rfl⟩ := trodAll_nil r1
  obtain rfl : args = #[v0, v1] := by cases args; simp_all
  obtain ⟨rfl, rfl⟩ := trodVars_none hV
  obtain ⟨cs0, rfl, _⟩ := okWide_struct Tryd.underlying24 (hval 0 24 v0 rfl rfl)
  have k0 := h0
  have lt0 : ∀ x ∈ p0, x.block < W.heap.size := by obtain ⟨m, hm⟩ := k0; exact DataW.trod_lt m _ _ _ hm
  obtain ⟨x0, K0, ok0⟩ : ∃ x, k24.K W x cs0.toList ∧ ok24 x := by
    obtain ⟨fuel, hf⟩ := h0
    exact opens24.2 _ _ _ _ _ _ _ _ _ hf
  obtain ⟨A0_0, c0_0, e0, g0_0, hr0_0⟩ := k24_open K0
  obtain rfl : cs0 = #[.slice A0_0 (x0.f0).length c0_0, .int .i64 (x0.f1)] := by cases cs0; simpa using e0
  obtain ⟨a1, rfl, rfl, rfl, w1⟩ := open_int Tryd.underlying3 (hval 1 3 v1 rfl rfl) h1
  clear hA0 hval0
  obtain ⟨k, hp⟩ := Pure.RodExact (x0.f0) (x0.f1) a1 ok0.1 ok0.2 w1
  have hG : GI W := GI.of_laid laidL (by simp [laidL]) hL hsh
  refine (spilelaw14_RodExact.calls k _ _ (x0.f0) (x0.f1) a1 true W hr0_0 g0_0 hG rfl hp).mono fun e W' ⟨he, bel⟩ => ?_
  subst he
  exact ⟨_, rfl, _, _, _, [], _, [], hW', trodAll_mk1 (shut_bool Tryd.underlying4 _), (trodAll_cons_mk (Below.trod laidOut (by kernel_rfl) (of_decide_eq_true (by kernel_rfl)) k0 bel lt0) (trodAll_cons_mk (shut_int Tryd.underlying3 w1) trodAll_mk0)), rfl, bel.frame _, fun h => by cases h⟩
theorem holds : Rows.RodExactSaid :=
  OpenClaim.holds_of_wide 6 Tryd.f6 rfl rfl rfl rfl rfl rfl rfl ⟨rfl, rfl, rfl, rfl, rfl⟩ rfl rfl rfl rfl rfl (by kernel_rfl) Tryd.func6 (by kernel_rfl)
    (of_decide_eq_true (by kernel_rfl)) (by unfold Func.isWrapper; first | (rw [if_pos (by decide +kernel)]; kernel_rfl) | (rw [if_neg (by decide +kernel)]; exact ⟨rfl, rfl⟩))
    (fun os started H enc _ => lifted os started H enc)
theorem card : Rows.RodExactCardSaid :=
  Claim7.holds_tied_plain_at .later [] [.data, .data, .data] true (true, "ffac5e0cc8868b2e00f9950da871680f8663d7526cb1afae6a9e6c162e8ee000") false
    holds (fun _ h => by cases h) (by kernel_rfl) (fun _ h => by cases h) rodExact_row_tie rfl ⟨rfl, rfl⟩ (by kernel_rfl) rfl
    (fun f fn hf hfn => by
      obtain rfl : f = 6 := Option.some.inj ((show Tryd.prog.funcNamed "spile/spilelaw14.RodExact" = some 6 by kernel_rfl).symm.trans hf) |>.symm
      obtain rfl : fn = Tryd.f6 := (Option.some.inj (Tryd.func6.symm.trans hfn)).symm
      exact ⟨by kernel_rfl, fun j t ht => by
        rw [Tryd.params6] at ht
        have hm : t ∈ [24, 3] := by simpa using Array.mem_of_getElem? ht
        have hall : ([24, 3].all fun u => !Tryd.prog.wantsStandIn u) = true := by kernel_rfl
        exact (show Tryd.prog.wantsStandIn t = false by simpa using List.all_eq_true.1 hall t hm)⟩)
    (by kernel_rfl)
end Go.Proofs.YtkolhpacpbhceaaDoor.rodExact
namespace Go.Proofs.YtkolhpacpbhceaaDoor
/-- The card, under a short name, for the claim. -/
theorem rodExact_holds : Rows.RodExactCardSaid := rodExact.card
#print axioms rodExact_holds
end Go.Proofs.YtkolhpacpbhceaaDoor
