/-
What several laws of this seat rest on: contracts of the functions that they reach, and plain lemmas.
-/
import Derived.Test.YtmdfnambaedllaaDoorGridBaseE
set_option linter.unusedVariables false
set_option linter.unusedSimpArgs false
namespace Go.Proofs.YtmdfnambaedllaaDoor.Pr
open Go.RowKit Go.Proofs.YtmdfnambaedllaaDoorW.PrintWords Go.Proofs.YtmdfnambaedllaaDoorW.PrintLast Go.Proofs.YtmdfnambaedllaaDoorW.PrintMore Go.Proofs.YtmdfnambaedllaaDoor.X
attribute [local go_sem] max2_int min2_int max_two min_two max_three min_three max_four min_four   -- for this text's walks alone
set_option linter.unusedVariables false
set_option linter.unusedSimpArgs false
def correct_Apparent.j0 : Nat → Bool → List Int → List Int → List (List Int) → Int → Int → Option (Int × Int)
 | 0, _, _, _, _, _, _ => none
 | k + 1, x28, x318000, x318001, x318002, x319000, x320000 => if x28 = true then (some (0, 2)) else (if 0 < (x318001.length : Int) then (if 0 ≤ (wrap64 ((x318001.length : Int) - 1)) then (if (wrap64 ((x318001.length : Int) - 1)) < (x318001.length : Int) then ((sort_Search_32_at_33.f k (wrap64 ((wrap64 ((rd x318001 (wrap64 ((x318001.length : Int) - 1))) - (rd x318001 0))) + 1)) x318000 x318001 x318002 x319000 (rd x318001 0) x320000).bind fun t327 => (if t327 = 0 then (some (0, 7)) else (some (wrap64 ((wrap64 ((rd x318001 0) + t327)) - 1), 0)))) else (none)) else (none)) else (none))
def correct_Apparent.f (k : Nat) (l0_0 : List Int) (l0_1 : List Int) (l0_2 : List (List Int)) (a1 : Int) (a2 : Int) : Option (Int × Int) := (correct_Check.f k l0_0 l0_1 l0_2).bind fun t320 => (if t320 = 0 then ((correct_place_int.f k l0_0 a1).bind fun bt321 => (if bt321.2 = true then ((correct_strange.f a2).bind fun t323 => (correct_Apparent.j0 k t323 l0_0 l0_1 l0_2 a1 a2)) else (correct_Apparent.j0 k true l0_0 l0_1 l0_2 a1 a2))) else (some (0, 1)))
theorem correct_Apparent.mono_l : ∀ k, (∀ y0 y1 y2 y3 y4 y5, LeO (correct_Apparent.j0 k y0 y1 y2 y3 y4 y5) (correct_Apparent.j0 (k + 1) y0 y1 y2 y3 y4 y5))
 | 0 => fun _ _ _ _ _ _ r h => by simp [correct_Apparent.j0] at h
 | k + 1 => by
  have ih0 := correct_Apparent.mono_l k
  ·
   intro y0 y1 y2 y3 y4 y5
   unfold correct_Apparent.j0
   repeat' first
   | (with_reducible exact ih0 _ _ _ _ _ _)
   | (with_reducible exact correct_Check.mono _ _ _ _)
   | (with_reducible exact correct_place_int.mono _ _ _)
   | (with_reducible exact sort_Search_32_at_33.mono _ _ _ _ _ _ _ _)
   | (with_reducible exact LeO.refl _)
   | (with_reducible exact LeO.none _)
   | (with_reducible refine LeO.ite ?_ ?_)
   | (with_reducible refine LeO.bind ?_ (fun _ => ?_))
   | exact ih0 _ _ _ _ _ _
   | exact correct_Check.mono _ _ _ _
   | exact correct_place_int.mono _ _ _
   | exact sort_Search_32_at_33.mono _ _ _ _ _ _ _ _
   | exact LeO.none _
   | refine LeO.ite ?_ ?_
   | refine LeO.bind ?_ (fun _ => ?_)
theorem correct_Apparent.mono : ∀ a0 a1 a2 a3 a4 k, LeO (correct_Apparent.f k a0 a1 a2 a3 a4) (correct_Apparent.f (k + 1) a0 a1 a2 a3 a4) := by
 intro a0 a1 a2 a3 a4 k
 have ih0 := correct_Apparent.mono_l k
 unfold correct_Apparent.f
 repeat' first
   | (with_reducible exact ih0 _ _ _ _ _ _)
   | (with_reducible exact correct_Check.mono _ _ _ _)
   | (with_reducible exact correct_place_int.mono _ _ _)
   | (with_reducible exact sort_Search_32_at_33.mono _ _ _ _ _ _ _ _)
   | (with_reducible exact LeO.refl _)
   | (with_reducible exact LeO.none _)
   | (with_reducible refine LeO.ite ?_ ?_)
   | (with_reducible refine LeO.bind ?_ (fun _ => ?_))
   | exact ih0 _ _ _ _ _ _
   | exact correct_Check.mono _ _ _ _
   | exact correct_place_int.mono _ _ _
   | exact sort_Search_32_at_33.mono _ _ _ _ _ _ _ _
   | exact LeO.none _
   | refine LeO.ite ?_ ?_
   | refine LeO.bind ?_ (fun _ => ?_)
def correct_Apparent.T6 : Bool × List (List Nat × List Nat) := (true, [([], []), ([0], [0]), ([1], [1]), ([2], [2]), ([], []), ([4], [4]), ([], []), ([6], [6]), ([7], [7]), ([8], [8]), ([5, 9], [5, 9]), ([10], [10]), ([], []), ([12, 3, 0, 1, 2, 3, 12], [3, 12]), ([11, 13, 0, 1, 2, 3, 4, 5, 6, 7, 8, 9, 10, 11, 12, 13], [11])])
def correct_Apparent.B6 : List Nat := [0, 1, 3, 7, 0, 16, 0, 64, 192, 448, 1008, 2032, 0, 4111, 16383]
theorem correct_Apparent.tab6 : rtab .any (opsOf Tryd.f16 6) = correct_Apparent.T6 := by kernel_rfl
theorem correct_Apparent.bits6 : waitsOk correct_Apparent.T6.2 correct_Apparent.B6 = true := by kernel_rfl
set_option maxHeartbeats 8000000 in
set_option maxRecDepth 100000 in
theorem correct_Apparent.calls (k : Nat) (A0_0 : Option Addr) (c0_0 : Nat) (l0_0 : List Int) (A0_1 : Option Addr) (c0_1 : Nat) (l0_1 : List Int) (A0_2 : Option Addr) (c0_2 : Nat) (l0_2 : List (List Int)) (a1 : Int) (a2 : Int) (r1 : Int) (r2 : Int) (w : World) (hr0_0 : Kd.C (Kd.int .i64) w A0_0 l0_0.length l0_0) (hc0_0 : l0_0.length ≤ c0_0) (hr0_1 : Kd.C (Kd.int .i64) w A0_1 l0_1.length l0_1) (hc0_1 : l0_1.length ≤ c0_1) (hr0_2 : Kd.C (Kd.slice 3 (Kd.int .i64)) w A0_2 l0_2.length l0_2) (hc0_2 : l0_2.length ≤ c0_2) (h : correct_Apparent.f k l0_0 l0_1 l0_2 a1 a2 = some (r1, r2)) :
  Calls Tryd.prog 16 #[.agg #[.slice A0_0 l0_0.length c0_0, .slice A0_1 l0_1.length c0_1, .slice A0_2 l0_2.length c0_2], .int .i64 a1, .int .i64 a2] w fun e w' => e = .returned (.tuple #[.int .i64 r1, .int .i64 r2]) ∧ Below w.heap.size w w' := by
 have hu25 := Tryd.underlying25
 have hu3 := Tryd.underlying3
 have HR0_0 := Aside0.mk hr0_0
 have HC0_0 := Aside0.mk hc0_0
 clear hr0_0 hc0_0
 have HR0_1 := Aside0.mk hr0_1
 have HC0_1 := Aside0.mk hc0_1
 clear hr0_1 hc0_1
 have HR0_2 := Aside0.mk hr0_2
 have HC0_2 := Aside0.mk hc0_2
 clear hr0_2 hc0_2
 have HB := Aside0.mk (Below.refl w.heap.size w)
 have H : ((correct_Check.f k l0_0 l0_1 l0_2).bind fun t320 => (if t320 = 0 then ((correct_place_int.f k l0_0 a1).bind fun bt321 => (if bt321.2 = true then ((correct_strange.f a2).bind fun t323 => (correct_Apparent.j0 k t323 l0_0 l0_1 l0_2 a1 a2)) else (correct_Apparent.j0 k true l0_0 l0_1 l0_2 a1 a2))) else (some (0, 1)))) = some (r1, r2) := h
 clear h
 replace H := Option.bind_eq_some_iff.mp H
 obtain ⟨t320, A40, H⟩ := H
 replace H : (if t320 = 0 then ((correct_place_int.f k l0_0 a1).bind fun bt321 => (if bt321.2 = true then ((correct_strange.f a2).bind fun t323 => (correct_Apparent.j0 k t323 l0_0 l0_1 l0_2 a1 a2)) else (correct_Apparent.j0 k true l0_0 l0_1 l0_2 a1 a2))) else (some (0, 1))) = some (r1, r2) := H
 have A4 := Aside0.mk A40
 clear A40
 by_cases c5 : t320 = 0
 ·
  rw [if_pos c5] at H
  have c5b0 : (t320 == 0) = true := beq_iff_eq.mpr c5
  have c5b1 : (t320 != 0) = false := bne_eq_false_iff_eq.mpr c5
  clear c5
  replace H := Option.bind_eq_some_iff.mp H
  obtain ⟨⟨t321, t322⟩, A60, H⟩ := H
  replace H : (if t322 = true then ((correct_strange.f a2).bind fun t323 => (correct_Apparent.j0 k t323 l0_0 l0_1 l0_2 a1 a2)) else (correct_Apparent.j0 k true l0_0 l0_1 l0_2 a1 a2)) = some (r1, r2) := H
  have A6 := Aside0.mk A60
  clear A60
  have HC7 := Aside0.mk H
  clear H
  go_enter Tryd.func16, Tryd.ntmps16
  go_upto_region 4 with (first | ((with_reducible refine gate_dst (N := 3) rfl ?_); refine box_event ?hg (N := 3) ?hd (cs := #[.slice A0_0 l0_0.length c0_0, .slice A0_1 l0_1.length c0_1, .slice A0_2 l0_2.length c0_2]) (t := 25) ?hr ?_; (case hd => rfl); (case hg => rfl); (case hr => first | (go_simp; done) | (go_simp; rfl)); intro gb317 hg w8 hbox hb; have n0_ := Aside0.mk (below_step (by repeat (first | (with_reducible first | exact HB.out | apply below_alloc | apply pw_below_drewN | apply below_drew1) | exact HB.out)) hb); have n1_ := Aside0.mk (hbox); have n2_ := Aside0.mk ((by rw [hg]; exact (below_size (by repeat (first | (with_reducible first | exact HB.out | apply below_alloc | apply pw_below_drewN | apply below_drew1) | exact HB.out))) : w.heap.size ≤ gb317)); have n3_ := Aside0.mk ((by rw [hg]; exact (below_size (by repeat (first | (with_reducible first | exact HB.out | apply below_alloc | apply pw_below_drewN | apply below_drew1) | exact HB.out))) : w.heap.size ≤ gb317)); clear HB; have HB := n0_; have BK317 := n1_; have GW317 := n2_; have GE317 := n3_; clear n0_ n1_ n2_ n3_; clear hb hbox hg) | ((with_reducible refine gate_dst (N := 4) rfl ?_); refine box_event ?hg (N := 4) ?hd (cs := #[.int .i64 a1]) (t := 3) ?hr ?_; (case hd => rfl); (case hg => rfl); (case hr => first | (go_simp; done) | (go_simp; rfl)); intro gb318 hg w9 hbox hb; have n0_ := Aside0.mk (blk_below (g := gb317) (o := .cells #[.slice A0_0 l0_0.length c0_0, .slice A0_1 l0_1.length c0_1, .slice A0_2 l0_2.length c0_2] 25 (0, 0)) (by (with_reducible repeat (first | refine blk_drewN ?_ _ | refine blk_drew ?_ | refine blk_alloc ?_ _)); exact BK317.out) hb); have n1_ := Aside0.mk (below_step (by repeat (first | (with_reducible first | exact HB.out | apply below_alloc | apply pw_below_drewN | apply below_drew1 | refine below_set ?_ GE317.out) | exact HB.out)) hb); have n2_ := Aside0.mk (hbox); have n3_ := Aside0.mk ((by rw [hg]; exact (below_size (by repeat (first | (with_reducible first | exact HB.out | apply below_alloc | apply pw_below_drewN | apply below_drew1 | refine below_set ?_ GE317.out) | exact HB.out))) : w.heap.size ≤ gb318)); have n4_ := Aside0.mk ((by rw [hg]; exact (below_size (by repeat (first | (with_reducible first | exact HB.out | apply below_alloc | apply pw_below_drewN | apply below_drew1 | refine below_set ?_ GE317.out) | exact HB.out))) : w.heap.size ≤ gb318)); have n5_ := Aside0.mk ((by rw [hg]; exact Nat.ne_of_lt (blk_lt (g := gb317) (o := .cells #[.slice A0_0 l0_0.length c0_0, .slice A0_1 l0_1.length c0_1, .slice A0_2 l0_2.length c0_2] 25 (0, 0)) (by (with_reducible repeat (first | refine blk_drewN ?_ _ | refine blk_drew ?_ | refine blk_alloc ?_ _)); exact BK317.out)) : gb317 ≠ gb318)); have n6_ := Aside0.mk ((by rw [hg]; exact Nat.ne_of_gt (blk_lt (g := gb317) (o := .cells #[.slice A0_0 l0_0.length c0_0, .slice A0_1 l0_1.length c0_1, .slice A0_2 l0_2.length c0_2] 25 (0, 0)) (by (with_reducible repeat (first | refine blk_drewN ?_ _ | refine blk_drew ?_ | refine blk_alloc ?_ _)); exact BK317.out)) : gb318 ≠ gb317)); clear BK317; clear HB; have BK317 := n0_; have HB := n1_; have BK318 := n2_; have GW318 := n3_; have GE318 := n4_; have NB317_318 := n5_; have NB318_317 := n6_; clear n0_ n1_ n2_ n3_ n4_ n5_ n6_; clear hb hbox hg) | ((with_reducible refine gate_dst (N := 5) rfl ?_); refine box_event ?hg (N := 5) ?hd (cs := #[.int .i64 a2]) (t := 3) ?hr ?_; (case hd => rfl); (case hg => rfl); (case hr => first | (go_simp; done) | (go_simp; rfl)); intro gb319 hg w10 hbox hb; have n0_ := Aside0.mk (blk_below (g := gb317) (o := .cells #[.slice A0_0 l0_0.length c0_0, .slice A0_1 l0_1.length c0_1, .slice A0_2 l0_2.length c0_2] 25 (0, 0)) (by (with_reducible repeat (first | refine blk_drewN ?_ _ | refine blk_drew ?_ | refine blk_alloc ?_ _)); exact BK317.out) hb); have n1_ := Aside0.mk (blk_below (g := gb318) (o := .cells #[.int .i64 a1] 3 (0, 0)) (by (with_reducible repeat (first | refine blk_drewN ?_ _ | refine blk_drew ?_ | refine blk_alloc ?_ _)); exact BK318.out) hb); have n2_ := Aside0.mk (below_step (by repeat (first | (with_reducible first | exact HB.out | apply below_alloc | apply pw_below_drewN | apply below_drew1 | refine below_set ?_ GE317.out | refine below_set ?_ GE318.out) | exact HB.out)) hb); have n3_ := Aside0.mk (hbox); have n4_ := Aside0.mk ((by rw [hg]; exact (below_size (by repeat (first | (with_reducible first | exact HB.out | apply below_alloc | apply pw_below_drewN | apply below_drew1 | refine below_set ?_ GE317.out | refine below_set ?_ GE318.out) | exact HB.out))) : w.heap.size ≤ gb319)); have n5_ := Aside0.mk ((by rw [hg]; exact (below_size (by repeat (first | (with_reducible first | exact HB.out | apply below_alloc | apply pw_below_drewN | apply below_drew1 | refine below_set ?_ GE317.out | refine below_set ?_ GE318.out) | exact HB.out))) : w.heap.size ≤ gb319)); have n6_ := Aside0.mk ((by rw [hg]; exact Nat.ne_of_lt (blk_lt (g := gb317) (o := .cells #[.slice A0_0 l0_0.length c0_0, .slice A0_1 l0_1.length c0_1, .slice A0_2 l0_2.length c0_2] 25 (0, 0)) (by (with_reducible repeat (first | refine blk_drewN ?_ _ | refine blk_drew ?_ | refine blk_alloc ?_ _)); exact BK317.out)) : gb317 ≠ gb319)); have n7_ := Aside0.mk ((by rw [hg]; exact Nat.ne_of_gt (blk_lt (g := gb317) (o := .cells #[.slice A0_0 l0_0.length c0_0, .slice A0_1 l0_1.length c0_1, .slice A0_2 l0_2.length c0_2] 25 (0, 0)) (by (with_reducible repeat (first | refine blk_drewN ?_ _ | refine blk_drew ?_ | refine blk_alloc ?_ _)); exact BK317.out)) : gb319 ≠ gb317)); have n8_ := Aside0.mk ((by rw [hg]; exact Nat.ne_of_lt (blk_lt (g := gb318) (o := .cells #[.int .i64 a1] 3 (0, 0)) (by (with_reducible repeat (first | refine blk_drewN ?_ _ | refine blk_drew ?_ | refine blk_alloc ?_ _)); exact BK318.out)) : gb318 ≠ gb319)); have n9_ := Aside0.mk ((by rw [hg]; exact Nat.ne_of_gt (blk_lt (g := gb318) (o := .cells #[.int .i64 a1] 3 (0, 0)) (by (with_reducible repeat (first | refine blk_drewN ?_ _ | refine blk_drew ?_ | refine blk_alloc ?_ _)); exact BK318.out)) : gb319 ≠ gb318)); clear BK317; clear BK318; clear HB; have BK317 := n0_; have BK318 := n1_; have HB := n2_; have BK319 := n3_; have GW319 := n4_; have GE319 := n5_; have NB317_319 := n6_; have NB319_317 := n7_; have NB318_319 := n8_; have NB319_318 := n9_; clear n0_ n1_ n2_ n3_ n4_ n5_ n6_ n7_ n8_ n9_; clear hb hbox hg; have hnb11 := NB317_318.out; have hnc11 := NB318_317.out; have hnb12 := NB317_319.out; have hnc12 := NB319_317.out; have hcz13_0 : w10.cell? ⟨gb317, 0, none⟩ = some (.slice A0_0 l0_0.length c0_0) := (blk_cell BK317.out 0).trans rfl; have hcz13_1 : w10.cell? ⟨gb317, 1, none⟩ = some (.slice A0_1 l0_1.length c0_1) := (blk_cell BK317.out 1).trans rfl; have hcz13_2 : w10.cell? ⟨gb317, 2, none⟩ = some (.slice A0_2 l0_2.length c0_2) := (blk_cell BK317.out 2).trans rfl; have hfz13_0 := blk_frozen BK317.out 0; have hfz13_1 := blk_frozen BK317.out 1; have hfz13_2 := blk_frozen BK317.out 2) | ((with_reducible refine gate_callee (f := 18) rfl ?_); refine goesL_ (some 14) rfl rfl Tryd.func18 (by kernel_rfl) rfl #[.agg #[.slice A0_0 l0_0.length c0_0, .slice A0_1 l0_1.length c0_1, .slice A0_2 l0_2.length c0_2]] rfl (by (try simp only [List.map_toArray, List.map_cons, List.map_nil]); first | done | rfl | (simp only [List.length_drop, List.length_take]; rfl)) ?_; (with_reducible refine (correct_Check.calls k _ _ l0_0 _ _ l0_1 _ _ l0_2 t320 _ ?side1 ?side2 ?side3 ?side4 ?side5 ?side6 A4.out).mono ?_); (case side1 => repeat (first | exact (Kd.C_below HR0_0.out HB.out) | (with_reducible refine Kd.C_alloc ?_ _) | (with_reducible refine Kd.C_drewN ?_ _) | (with_reducible refine Kd.C_drew ?_))); (case side2 => exact HC0_0.out); (case side3 => repeat (first | exact (Kd.C_below HR0_1.out HB.out) | (with_reducible refine Kd.C_alloc ?_ _) | (with_reducible refine Kd.C_drewN ?_ _) | (with_reducible refine Kd.C_drew ?_))); (case side4 => exact HC0_1.out); (case side5 => repeat (first | exact (Kd.C_below HR0_2.out HB.out) | (with_reducible refine Kd.C_alloc ?_ _) | (with_reducible refine Kd.C_drewN ?_ _) | (with_reducible refine Kd.C_drew ?_))); (case side6 => exact HC0_2.out); rintro e w14 ⟨rfl, hb⟩; refine ⟨_, rfl, ?_⟩; have n0_ := Aside0.mk (blk_below (g := gb317) (o := .cells #[.slice A0_0 l0_0.length c0_0, .slice A0_1 l0_1.length c0_1, .slice A0_2 l0_2.length c0_2] 25 (0, 0)) (by (with_reducible repeat (first | refine blk_drewN ?_ _ | refine blk_drew ?_ | refine blk_alloc ?_ _)); exact BK317.out) hb); have n1_ := Aside0.mk (blk_below (g := gb318) (o := .cells #[.int .i64 a1] 3 (0, 0)) (by (with_reducible repeat (first | refine blk_drewN ?_ _ | refine blk_drew ?_ | refine blk_alloc ?_ _)); exact BK318.out) hb); have n2_ := Aside0.mk (blk_below (g := gb319) (o := .cells #[.int .i64 a2] 3 (0, 0)) (by (with_reducible repeat (first | refine blk_drewN ?_ _ | refine blk_drew ?_ | refine blk_alloc ?_ _)); exact BK319.out) hb); have n3_ := Aside0.mk (below_step (by repeat (first | (with_reducible first | exact HB.out | apply below_alloc | apply pw_below_drewN | apply below_drew1 | refine below_set ?_ GE317.out | refine below_set ?_ GE318.out | refine below_set ?_ GE319.out) | exact HB.out)) hb); clear BK317; clear BK318; clear BK319; clear HB; have BK317 := n0_; have BK318 := n1_; have BK319 := n2_; have HB := n3_; clear n0_ n1_ n2_ n3_; (try clear hb); (try clear hb2); (try clear hk); (try clear hi); have hcz15_0 : w14.cell? ⟨gb317, 0, none⟩ = some (.slice A0_0 l0_0.length c0_0) := (blk_cell BK317.out 0).trans rfl; have hcz15_1 : w14.cell? ⟨gb317, 1, none⟩ = some (.slice A0_1 l0_1.length c0_1) := (blk_cell BK317.out 1).trans rfl; have hcz15_2 : w14.cell? ⟨gb317, 2, none⟩ = some (.slice A0_2 l0_2.length c0_2) := (blk_cell BK317.out 2).trans rfl; have hfz15_0 := blk_frozen BK317.out 0; have hfz15_1 := blk_frozen BK317.out 1; have hfz15_2 := blk_frozen BK317.out 2; have hnb16 := NB318_319.out; have hnc16 := NB319_318.out; have hcz17_0 : w14.cell? ⟨gb318, 0, none⟩ = some (.int .i64 a1) := (blk_cell BK318.out 0).trans rfl; have hfz17_0 := blk_frozen BK318.out 0) | ((with_reducible refine gate_callee (f := 31) rfl ?_); refine goesL_ (some 20) rfl rfl Tryd.func31 (by kernel_rfl) rfl #[.slice A0_0 l0_0.length c0_0, .int .i64 a1] rfl (by (try simp only [List.map_toArray, List.map_cons, List.map_nil]); first | done | rfl | (simp only [List.length_drop, List.length_take]; rfl)) ?_; (with_reducible refine (correct_place_int.calls k _ _ l0_0 a1 t321 t322 _ ?side1 ?side2 A6.out).mono ?_); (case side1 => repeat (first | exact (Kd.C_below HR0_0.out HB.out) | (with_reducible refine Kd.C_alloc ?_ _) | (with_reducible refine Kd.C_drewN ?_ _) | (with_reducible refine Kd.C_drew ?_))); (case side2 => exact HC0_0.out); rintro e w18 ⟨rfl, hb⟩; refine ⟨_, rfl, ?_⟩; have n0_ := Aside0.mk (blk_below (g := gb317) (o := .cells #[.slice A0_0 l0_0.length c0_0, .slice A0_1 l0_1.length c0_1, .slice A0_2 l0_2.length c0_2] 25 (0, 0)) (by (with_reducible repeat (first | refine blk_drewN ?_ _ | refine blk_drew ?_ | refine blk_alloc ?_ _)); exact BK317.out) hb); have n1_ := Aside0.mk (blk_below (g := gb318) (o := .cells #[.int .i64 a1] 3 (0, 0)) (by (with_reducible repeat (first | refine blk_drewN ?_ _ | refine blk_drew ?_ | refine blk_alloc ?_ _)); exact BK318.out) hb); have n2_ := Aside0.mk (blk_below (g := gb319) (o := .cells #[.int .i64 a2] 3 (0, 0)) (by (with_reducible repeat (first | refine blk_drewN ?_ _ | refine blk_drew ?_ | refine blk_alloc ?_ _)); exact BK319.out) hb); have n3_ := Aside0.mk (below_step (by repeat (first | (with_reducible first | exact HB.out | apply below_alloc | apply pw_below_drewN | apply below_drew1 | refine below_set ?_ GE317.out | refine below_set ?_ GE318.out | refine below_set ?_ GE319.out) | exact HB.out)) hb); clear BK317; clear BK318; clear BK319; clear HB; have BK317 := n0_; have BK318 := n1_; have BK319 := n2_; have HB := n3_; clear n0_ n1_ n2_ n3_; (try clear hb); (try clear hb2); (try clear hk); (try clear hi)))
  (try simp only [Act.put, List.setIfInBounds_toArray, List.set_cons_zero, List.set_cons_succ])
  go_cut [28] (fun v28 wc => ∃ (kq : Nat) (x28_6 : Bool), v28 = .bool x28_6 ∧ Aside0 (correct_Apparent.j0 kq x28_6 l0_0 l0_1 l0_2 a1 a2 = some (r1, r2)) ∧ Aside0 (kq ≤ k) ∧ Aside0 (wc.heap[gb317]? = some (.cells #[(.slice A0_0 l0_0.length c0_0), (.slice A0_1 l0_1.length c0_1), (.slice A0_2 l0_2.length c0_2)] 25 (0, 0))) ∧ Aside0 (wc.heap[gb318]? = some (.cells #[.int .i64 a1] 3 (0, 0))) ∧ Aside0 (wc.heap[gb319]? = some (.cells #[.int .i64 a2] 3 (0, 0))) ∧ Aside0 (Below w.heap.size w wc))
  case first =>
   have H := HC7.out
   clear HC7
   by_cases c19 : t322 = true
   ·
    subst c19
    have H1 : ((correct_strange.f a2).bind fun t323 => (correct_Apparent.j0 k t323 l0_0 l0_1 l0_2 a1 a2)) = some (r1, r2) := by rw [if_pos rfl] at H; exact H
    clear H
    have H := H1
    clear H1
    replace H := Option.bind_eq_some_iff.mp H
    obtain ⟨t323, A200, H⟩ := H
    replace H : (correct_Apparent.j0 k t323 l0_0 l0_1 l0_2 a1 a2) = some (r1, r2) := H
    have A20 := Aside0.mk A200
    clear A200
    have H' := Aside0.mk H
    clear H
    have hnb21 := NB319_317.out
    have hnc21 := NB317_319.out
    have hnb22 := NB319_318.out
    have hnc22 := NB318_319.out
    have hcz23_0 : w18.cell? ⟨gb319, 0, none⟩ = some (.int .i64 a2) := (blk_cell BK319.out 0).trans rfl
    have hfz23_0 := blk_frozen BK319.out 0
    go_wp2_with (first | (go_at_call 27; (with_reducible refine (correct_strange.calls a2 t323 _ A20.out).mono ?_); rintro e w' ⟨rfl, ⟨nd, rfl⟩⟩))
    go_meet
    case rel => exact ⟨_, (t323), (by first | rfl | (simp; done) | (simp [*]; done)), H', ⟨by first | omega | exact Nat.le_refl _⟩, ⟨by (with_reducible repeat (first | refine blk_drewN ?_ _ | refine blk_drew ?_ | refine blk_alloc ?_ _)); exact BK317.out⟩, ⟨by (with_reducible repeat (first | refine blk_drewN ?_ _ | refine blk_drew ?_ | refine blk_alloc ?_ _)); exact BK318.out⟩, ⟨by (with_reducible repeat (first | refine blk_drewN ?_ _ | refine blk_drew ?_ | refine blk_alloc ?_ _)); exact BK319.out⟩, ⟨by repeat (first | (with_reducible first | exact HB.out | apply below_alloc | apply pw_below_drewN | apply below_drew1 | refine below_set ?_ GE317.out | refine below_set ?_ GE318.out | refine below_set ?_ GE319.out) | exact HB.out)⟩⟩
   ·
    replace c19 := Bool.eq_false_iff.mpr c19
    subst c19
    have H1 : (correct_Apparent.j0 k true l0_0 l0_1 l0_2 a1 a2) = some (r1, r2) := by rw [if_neg (show ¬ (false = true) by decide)] at H; exact H
    clear H
    have H := H1
    clear H1
    have H' := Aside0.mk H
    clear H
    go_wp2
    go_meet
    case rel => exact ⟨_, (true), (by first | rfl | (simp; done) | (simp [*]; done)), H', ⟨by first | omega | exact Nat.le_refl _⟩, ⟨by (with_reducible repeat (first | refine blk_drewN ?_ _ | refine blk_drew ?_ | refine blk_alloc ?_ _)); exact BK317.out⟩, ⟨by (with_reducible repeat (first | refine blk_drewN ?_ _ | refine blk_drew ?_ | refine blk_alloc ?_ _)); exact BK318.out⟩, ⟨by (with_reducible repeat (first | refine blk_drewN ?_ _ | refine blk_drew ?_ | refine blk_alloc ?_ _)); exact BK319.out⟩, ⟨by repeat (first | (with_reducible first | exact HB.out | apply below_alloc | apply pw_below_drewN | apply below_drew1 | refine below_set ?_ GE317.out | refine below_set ?_ GE318.out | refine below_set ?_ GE319.out) | exact HB.out)⟩⟩
  case rest =>
   clear HC7
   try clear c1
   try clear c2
   try clear p2
   try clear c3
   try clear c5
   try clear c5b0
   try clear c5b1
   try clear c11
   try clear c12
   try clear c16
   try clear c18
   try clear c19
   try clear c21
   try clear c22
   try clear hcz13_0
   try clear hcz13_1
   try clear hcz13_2
   try clear hcz15_0
   try clear hcz15_1
   try clear hcz15_2
   try clear hcz17_0
   try clear hcz23_0
   try clear hfz13_0
   try clear hfz13_1
   try clear hfz13_2
   try clear hfz15_0
   try clear hfz15_1
   try clear hfz15_2
   try clear hfz17_0
   try clear hfz23_0
   obtain ⟨kq, x28_6, rfl, HA, HJ6, BK317, BK318, BK319, HB⟩ := hcut
   cases kq with
   | zero => exact absurd HA.out (by simp [correct_Apparent.j0])
   | succ kj6 =>
    have H := HA.out
    clear HA
    simp only [correct_Apparent.j0] at H
    by_cases c24 : x28_6 = true
    ·
     subst c24
     have H1 : (some (0, 2)) = some (r1, r2) := by rw [if_pos rfl] at H; exact H
     clear H
     have H := H1
     clear H1
     simp only [Option.some.injEq, Prod.mk.injEq] at H
     obtain ⟨rfl, rfl⟩ := H
     go_wp2
     go_ret2
     exact ⟨by first | rfl | (simp [errW_none, errW_some] <;> rfl) | (simp [*, errW_none, errW_some] <;> rfl), by repeat (first | (with_reducible first | exact HB.out | apply below_alloc | apply pw_below_drewN | apply below_drew1 | refine below_set ?_ GE317.out | refine below_set ?_ GE318.out | refine below_set ?_ GE319.out) | exact HB.out)⟩
    ·
     replace c24 := Bool.eq_false_iff.mpr c24
     subst c24
     have H1 : (if 0 < (l0_1.length : Int) then (if 0 ≤ (wrap64 ((l0_1.length : Int) - 1)) then (if (wrap64 ((l0_1.length : Int) - 1)) < (l0_1.length : Int) then ((sort_Search_32_at_33.f kj6 (wrap64 ((wrap64 ((rd l0_1 (wrap64 ((l0_1.length : Int) - 1))) - (rd l0_1 0))) + 1)) l0_0 l0_1 l0_2 a1 (rd l0_1 0) a2).bind fun t327 => (if t327 = 0 then (some (0, 7)) else (some (wrap64 ((wrap64 ((rd l0_1 0) + t327)) - 1), 0)))) else (none)) else (none)) else (none)) = some (r1, r2) := by rw [if_neg (show ¬ (false = true) by decide)] at H; exact H
     clear H
     have H := H1
     clear H1
     by_cases c25 : 0 < (l0_1.length : Int)
     ·
      rw [if_pos c25] at H
      have c25b0 : decide (0 < (l0_1.length : Int)) = true := decide_eq_true c25
      have c25b1 : decide (0 < l0_1.length) = true := decide_eq_true (by omega)
      clear c25
      obtain ⟨ji26, hji26⟩ : ∃ j_ : Int, (wrap64 ((l0_1.length : Int) - 1)) = j_ := ⟨_, rfl⟩
      replace H : (if 0 ≤ (ji26) then (if (ji26) < (l0_1.length : Int) then ((sort_Search_32_at_33.f kj6 (wrap64 ((wrap64 ((rd l0_1 (ji26)) - (rd l0_1 0))) + 1)) l0_0 l0_1 l0_2 a1 (rd l0_1 0) a2).bind fun t327 => (if t327 = 0 then (some (0, 7)) else (some (wrap64 ((wrap64 ((rd l0_1 0) + t327)) - 1), 0)))) else (none)) else (none)) = some (r1, r2) := by first | (rw [hji26] at H; exact H) | (simp only [hji26] at H ⊢; exact H)
      have hji26w : (IntKind.i64.wrap ((l0_1.length : Int) - 1)) = ji26 := (i64_w _).trans hji26
      by_cases c27 : 0 ≤ (ji26)
      ·
       rw [if_pos c27] at H
       have c27b0 : decide (0 ≤ (ji26)) = true := decide_eq_true c27
       clear c27
       by_cases c28 : (ji26) < (l0_1.length : Int)
       ·
        rw [if_pos c28] at H
        have c28b0 : decide ((ji26) < (l0_1.length : Int)) = true := decide_eq_true c28
        clear c28
        replace H := Option.bind_eq_some_iff.mp H
        obtain ⟨t327, A290, H⟩ := H
        replace H : (if t327 = 0 then (some (0, 7)) else (some (wrap64 ((wrap64 ((rd l0_1 0) + t327)) - 1), 0))) = some (r1, r2) := H
        have A29 := Aside0.mk A290
        clear A290
        by_cases c30 : t327 = 0
        ·
         rw [if_pos c30] at H
         have c30b0 : (t327 == 0) = true := beq_iff_eq.mpr c30
         have c30b1 : (t327 != 0) = false := bne_eq_false_iff_eq.mpr c30
         clear c30
         simp only [Option.some.injEq, Prod.mk.injEq] at H
         obtain ⟨rfl, rfl⟩ := H
         try go_wp2
         have n0_ := Aside0.mk (blk_drew BK317.out)
         have n1_ := Aside0.mk (blk_drew BK318.out)
         have n2_ := Aside0.mk (blk_drew BK319.out)
         have n3_ := Aside0.mk (below_drew1 HB.out)
         clear BK317
         clear BK318
         clear BK319
         clear HB
         have BK317 := n0_
         have BK318 := n1_
         have BK319 := n2_
         have HB := n3_
         clear n0_ n1_ n2_ n3_
         have p324 : 0 ≤ (0 : Int) := (by omega)
         have q324 : 0 < (l0_1.length : Int) := of_decide_eq_true (by first | (with_reducible assumption) | assumption)
         obtain ⟨ad324, e324, hx324_0⟩ := Kd.at_int HR0_1.out 0 p324 q324
         have hw324_0 := hx324_0
         (try rw [show ((0 : Int)).toNat = 0 from rfl] at hw324_0)
         (try rw [show 0 * 1 = 0 from rfl] at hw324_0)
         (try rw [Addr.add_zero'] at hw324_0)
         cases e324
         have qi324 : (0 < l0_1.length) = True := eq_true (by omega)
         (try rw [show ((0 : Int)).toNat = 0 from rfl] at hx324_0)
         (try rw [Addr.add_zero'] at hx324_0)
         replace hx324_0 := (HB.out.cell (World.block_lt_of_cell? w _ hx324_0)).trans hx324_0
         replace p324 := eq_true p324
         replace q324 := eq_true q324
         have p325 : 0 ≤ ((ji26) : Int) := of_decide_eq_true (by first | (with_reducible assumption) | assumption)
         have q325 : (ji26) < (l0_1.length : Int) := of_decide_eq_true (by first | (with_reducible assumption) | assumption)
         obtain ⟨ad325, e325, hx325_0⟩ := Kd.at_int HR0_1.out (ji26) p325 q325
         have hw325_0 := hx325_0
         obtain rfl : ad324 = ad325 := (by injection e325)
         replace hx325_0 := (HB.out.cell (World.block_lt_of_cell? w _ hx325_0)).trans hx325_0
         replace p325 := eq_true p325
         replace q325 := eq_true q325
         refine start_ (n := 15) (S := fun w' => w'.cell? ⟨gb317, 0, none⟩ = some (.slice A0_0 l0_0.length c0_0) ∧ w'.cell? ⟨gb317, 1, none⟩ = some (.slice (some ad324) l0_1.length c0_1) ∧ w'.cell? ⟨gb317, 2, none⟩ = some (.slice A0_2 l0_2.length c0_2) ∧ w'.cell? ad324 = some (.int .i64 (rd l0_1 0)) ∧ w'.cell? (ad324.add ((ji26)).toNat) = some (.int .i64 (rd l0_1 (ji26)))) (ds := []) #[false, false, false, false, false, false, false, false, false, false, false, false, false, false, false] (by kernel_rfl) rfl rfl ⟨(blk_cell BK317.out 0).trans rfl, (blk_cell BK317.out 1).trans rfl, (blk_cell BK317.out 2).trans rfl, ((HB.out.cell (World.block_lt_of_cell? w _ hw324_0)).trans hw324_0), ((HB.out.cell (World.block_lt_of_cell? w _ hw325_0)).trans hw325_0)⟩ (fun hHeld => ?_); refine with_tabW correct_Apparent.tab6 correct_Apparent.bits6 (fun HT_ HW_ => ?_)
         generalize wc.drew = w31 at BK317 BK318 BK319 HB hx324_0 hx325_0 hHeld ⊢
         refine pure_ (i := 0) (N := some 29) (v := ?_) (a' := ?_) #[true, false, false, false, false, false, false, false, false, false, false, false, false, false, false] rfl rfl (any_of HT_.out (by kernel_rfl)) (fun _ _ _ h => h) (Or.inl ⟨by rfl, ?_⟩) ?_ ?_
         rotate_left
         ·
          intro w'
          go_simp
          with_reducible rfl
         rotate_left
         ·
          simp only [Act.put, List.setIfInBounds_toArray, List.set_cons_zero, List.set_cons_succ, i64_w, i32_w]
          rfl
         refine pure_ (i := 4) (N := some 33) (v := ?_) (a' := ?_) #[true, false, false, false, true, false, false, false, false, false, false, false, false, false, false] rfl rfl (any_of HT_.out (by kernel_rfl)) (fun _ _ _ h => h) (Or.inl ⟨by rfl, ?_⟩) ?_ ?_
         rotate_left
         ·
          intro w'
          go_simp
          with_reducible rfl
         rotate_left
         ·
          simp only [Act.put, List.setIfInBounds_toArray, List.set_cons_zero, List.set_cons_succ, i64_w, i32_w]
          rfl
         refine pure_ (i := 6) (N := some 35) (v := ?_) (a' := ?_) #[true, false, false, false, true, false, true, false, false, false, false, false, false, false, false] rfl rfl (any_of HT_.out (by kernel_rfl)) (fun _ _ _ h => h) (Or.inl ⟨by rfl, ?_⟩) ?_ ?_
         rotate_left
         ·
          intro w'
          go_simp
          with_reducible rfl
         rotate_left
         ·
          simp only [Act.put, List.setIfInBounds_toArray, List.set_cons_zero, List.set_cons_succ, i64_w, i32_w]
          rfl
         refine take_ (i := 1) (N := some 30) (v := ?_) (a' := ?_) #[true, true, false, false, true, false, true, false, false, false, false, false, false, false, false] rfl rfl (take_ofW HT_.out HW_.out (by kernel_rfl)) (fun _ _ _ h => h) (Or.inl ⟨by rfl, ?_⟩) hHeld ?_ ?_
         rotate_left
         ·
          rintro w' ⟨s0, s1, s2, s3, s4⟩
          go_simp
          with_reducible rfl
         rotate_left
         ·
          simp only [Act.put, List.setIfInBounds_toArray, List.set_cons_zero, List.set_cons_succ, i64_w, i32_w]
          rfl
         refine pure_ (i := 2) (N := some 31) (v := ?_) (a' := ?_) #[true, true, true, false, true, false, true, false, false, false, false, false, false, false, false] rfl rfl (any_of HT_.out (by kernel_rfl)) (fun _ _ _ h => h) (Or.inl ⟨by rfl, ?_⟩) ?_ ?_
         rotate_left
         ·
          intro w'
          go_simp
          with_reducible rfl
         rotate_left
         ·
          simp only [Act.put, List.setIfInBounds_toArray, List.set_cons_zero, List.set_cons_succ, i64_w, i32_w]
          rfl
         refine take_ (i := 3) (N := some 32) (v := ?_) (a' := ?_) #[true, true, true, true, true, false, true, false, false, false, false, false, false, false, false] rfl rfl (take_ofW HT_.out HW_.out (by kernel_rfl)) (fun _ _ _ h => h) (Or.inl ⟨by rfl, ?_⟩) hHeld ?_ ?_
         rotate_left
         ·
          rintro w' ⟨s0, s1, s2, s3, s4⟩
          go_simp
          with_reducible rfl
         rotate_left
         ·
          simp only [Act.put, List.setIfInBounds_toArray, List.set_cons_zero, List.set_cons_succ, i64_w, i32_w]
          rfl
         refine take_ (i := 5) (N := some 34) (v := ?_) (a' := ?_) #[true, true, true, true, true, true, true, false, false, false, false, false, false, false, false] rfl rfl (take_ofW HT_.out HW_.out (by kernel_rfl)) (fun _ _ _ h => h) (Or.inl ⟨by rfl, ?_⟩) hHeld ?_ ?_
         rotate_left
         ·
          rintro w' ⟨s0, s1, s2, s3, s4⟩
          go_simp
          with_reducible rfl
         rotate_left
         ·
          simp only [Act.put, List.setIfInBounds_toArray, List.set_cons_zero, List.set_cons_succ, i64_w, i32_w]
          rfl
         refine take_ (i := 7) (N := some 36) (v := ?_) (a' := ?_) #[true, true, true, true, true, true, true, true, false, false, false, false, false, false, false] rfl rfl (take_ofW HT_.out HW_.out (by kernel_rfl)) (fun _ _ _ h => h) (Or.inl ⟨by rfl, ?_⟩) hHeld ?_ ?_
         rotate_left
         ·
          rintro w' ⟨s0, s1, s2, s3, s4⟩
          go_simp
          with_reducible rfl
         rotate_left
         ·
          simp only [Act.put, List.setIfInBounds_toArray, List.set_cons_zero, List.set_cons_succ, i64_w, i32_w]
          rfl
         refine pure_ (i := 8) (N := some 37) (v := ?_) (a' := ?_) #[true, true, true, true, true, true, true, true, true, false, false, false, false, false, false] rfl rfl (any_of HT_.out (by kernel_rfl)) (fun _ _ _ h => h) (Or.inl ⟨by rfl, ?_⟩) ?_ ?_
         rotate_left
         ·
          intro w'
          go_simp
          with_reducible rfl
         rotate_left
         ·
          simp only [Act.put, List.setIfInBounds_toArray, List.set_cons_zero, List.set_cons_succ, i64_w, i32_w]
          rfl
         refine pure_ (i := 9) (N := some 38) (v := ?_) (a' := ?_) #[true, true, true, true, true, true, true, true, true, true, false, false, false, false, false] rfl rfl (any_of HT_.out (by kernel_rfl)) (fun _ _ _ h => h) (Or.inl ⟨by rfl, ?_⟩) ?_ ?_
         rotate_left
         ·
          intro w'
          go_simp
          with_reducible rfl
         rotate_left
         ·
          simp only [Act.put, List.setIfInBounds_toArray, List.set_cons_zero, List.set_cons_succ, i64_w, i32_w]
          rfl
         refine pure_ (i := 10) (N := some 39) (v := ?_) (a' := ?_) #[true, true, true, true, true, true, true, true, true, true, true, false, false, false, false] rfl rfl (any_of HT_.out (by kernel_rfl)) (fun _ _ _ h => h) (Or.inl ⟨by rfl, ?_⟩) ?_ ?_
         rotate_left
         ·
          intro w'
          go_simp
          with_reducible rfl
         rotate_left
         ·
          simp only [Act.put, List.setIfInBounds_toArray, List.set_cons_zero, List.set_cons_succ, i64_w, i32_w]
          rfl
         refine take_ (i := 11) (N := some 40) (v := ?_) (a' := ?_) #[true, true, true, true, true, true, true, true, true, true, true, true, false, false, false] rfl rfl (take_ofW HT_.out HW_.out (by kernel_rfl)) (fun _ _ _ h => h) (Or.inl ⟨by rfl, ?_⟩) hHeld ?_ ?_
         rotate_left
         ·
          rintro w' ⟨s0, s1, s2, s3, s4⟩
          go_simp
          with_reducible rfl
         rotate_left
         ·
          simp only [Act.put, List.setIfInBounds_toArray, List.set_cons_zero, List.set_cons_succ, i64_w, i32_w]
          rfl
         refine one_ (i := 12) (N := some 10) #[true, true, true, true, true, true, true, true, true, true, true, true, true, false, false] rfl rfl (one_of HT_.out (by kernel_rfl)) (by decide) (fun K hK => ?_)
         refine box_step ?hg (N := 10) ?hd (cs := #[.int .i64 0]) (t := 3) ?hr ?_; (case hd => rfl); (case hg => rfl); (case hr => first | (go_simp; done) | (go_simp; rfl))
         intro gb326 hg w32 hbox hb
         have n0_ := Aside0.mk (blk_below (g := gb317) (o := .cells #[.slice A0_0 l0_0.length c0_0, .slice (some ad324) l0_1.length c0_1, .slice A0_2 l0_2.length c0_2] 25 (0, 0)) (by (with_reducible repeat (first | refine blk_drewN ?_ _ | refine blk_drew ?_ | refine blk_alloc ?_ _)); exact BK317.out) hb)
         have n1_ := Aside0.mk (blk_below (g := gb318) (o := .cells #[.int .i64 a1] 3 (0, 0)) (by (with_reducible repeat (first | refine blk_drewN ?_ _ | refine blk_drew ?_ | refine blk_alloc ?_ _)); exact BK318.out) hb)
         have n2_ := Aside0.mk (blk_below (g := gb319) (o := .cells #[.int .i64 a2] 3 (0, 0)) (by (with_reducible repeat (first | refine blk_drewN ?_ _ | refine blk_drew ?_ | refine blk_alloc ?_ _)); exact BK319.out) hb)
         have n3_ := Aside0.mk (below_step (by repeat (first | (with_reducible first | exact HB.out | apply below_alloc | apply pw_below_drewN | apply below_drew1 | refine below_set ?_ GE317.out | refine below_set ?_ GE318.out | refine below_set ?_ GE319.out) | exact HB.out)) hb)
         have n4_ := Aside0.mk (hbox)
         have n5_ := Aside0.mk ((by rw [hg]; exact (below_size (by repeat (first | (with_reducible first | exact HB.out | apply below_alloc | apply pw_below_drewN | apply below_drew1 | refine below_set ?_ GE317.out | refine below_set ?_ GE318.out | refine below_set ?_ GE319.out) | exact HB.out))) : w.heap.size ≤ gb326))
         have n6_ := Aside0.mk ((by rw [hg]; exact (below_size (by repeat (first | (with_reducible first | exact HB.out | apply below_alloc | apply pw_below_drewN | apply below_drew1 | refine below_set ?_ GE317.out | refine below_set ?_ GE318.out | refine below_set ?_ GE319.out) | exact HB.out))) : w.heap.size ≤ gb326))
         have n7_ := Aside0.mk ((by rw [hg]; exact Nat.ne_of_lt (blk_lt (g := gb317) (o := .cells #[.slice A0_0 l0_0.length c0_0, .slice (some ad324) l0_1.length c0_1, .slice A0_2 l0_2.length c0_2] 25 (0, 0)) (by (with_reducible repeat (first | refine blk_drewN ?_ _ | refine blk_drew ?_ | refine blk_alloc ?_ _)); exact BK317.out)) : gb317 ≠ gb326))
         have n8_ := Aside0.mk ((by rw [hg]; exact Nat.ne_of_gt (blk_lt (g := gb317) (o := .cells #[.slice A0_0 l0_0.length c0_0, .slice (some ad324) l0_1.length c0_1, .slice A0_2 l0_2.length c0_2] 25 (0, 0)) (by (with_reducible repeat (first | refine blk_drewN ?_ _ | refine blk_drew ?_ | refine blk_alloc ?_ _)); exact BK317.out)) : gb326 ≠ gb317))
         have n9_ := Aside0.mk ((by rw [hg]; exact Nat.ne_of_lt (blk_lt (g := gb318) (o := .cells #[.int .i64 a1] 3 (0, 0)) (by (with_reducible repeat (first | refine blk_drewN ?_ _ | refine blk_drew ?_ | refine blk_alloc ?_ _)); exact BK318.out)) : gb318 ≠ gb326))
         have n10_ := Aside0.mk ((by rw [hg]; exact Nat.ne_of_gt (blk_lt (g := gb318) (o := .cells #[.int .i64 a1] 3 (0, 0)) (by (with_reducible repeat (first | refine blk_drewN ?_ _ | refine blk_drew ?_ | refine blk_alloc ?_ _)); exact BK318.out)) : gb326 ≠ gb318))
         have n11_ := Aside0.mk ((by rw [hg]; exact Nat.ne_of_lt (blk_lt (g := gb319) (o := .cells #[.int .i64 a2] 3 (0, 0)) (by (with_reducible repeat (first | refine blk_drewN ?_ _ | refine blk_drew ?_ | refine blk_alloc ?_ _)); exact BK319.out)) : gb319 ≠ gb326))
         have n12_ := Aside0.mk ((by rw [hg]; exact Nat.ne_of_gt (blk_lt (g := gb319) (o := .cells #[.int .i64 a2] 3 (0, 0)) (by (with_reducible repeat (first | refine blk_drewN ?_ _ | refine blk_drew ?_ | refine blk_alloc ?_ _)); exact BK319.out)) : gb326 ≠ gb319))
         clear BK317
         clear BK318
         clear BK319
         clear HB
         have BK317 := n0_
         have BK318 := n1_
         have BK319 := n2_
         have HB := n3_
         have BK326 := n4_
         have GW326 := n5_
         have GE326 := n6_
         have NB317_326 := n7_
         have NB326_317 := n8_
         have NB318_326 := n9_
         have NB326_318 := n10_
         have NB319_326 := n11_
         have NB326_319 := n12_
         clear n0_ n1_ n2_ n3_ n4_ n5_ n6_ n7_ n8_ n9_ n10_ n11_ n12_
         clear hb hbox hg
         refine hK.out _ _ ⟨(blk_cell BK317.out 0).trans rfl, (blk_cell BK317.out 1).trans rfl, (blk_cell BK317.out 2).trans rfl, ((HB.out.cell (World.block_lt_of_cell? w _ hw324_0)).trans hw324_0), ((HB.out.cell (World.block_lt_of_cell? w _ hw325_0)).trans hw325_0)⟩ (fun hHeld => ?_)
         clear hK K
         refine norm_ (a' := ?_) ?_ ?_
         rotate_left
         ·
          show Act.put _ (some 10) _ = _
          simp only [Act.put, List.setIfInBounds_toArray, List.set_cons_zero, List.set_cons_succ, i64_w, i32_w]
          rfl
         refine one_ (i := 13) (N := none) #[true, true, true, true, true, true, true, true, true, true, true, true, true, true, false] rfl rfl (one_of HT_.out (by kernel_rfl)) (by decide) (fun K hK => ?_)
         have hs33 : w32.cell? ⟨gb326, 0, none⟩ = some (.int .i64 0) := (blk_cell BK326.out 0).trans rfl
         have hfs33 := blk_frozen BK326.out 0
         have hns33_0 := NB317_326.out
         have hns33_1 := NB318_326.out
         have hns33_2 := NB319_326.out
         have hms33_0 := NB326_317.out
         have hms33_1 := NB326_318.out
         have hms33_2 := NB326_319.out
         refine skip_ (w1 := ?_) (by rfl) rfl ?_ ?_
         rotate_left
         ·
          go_simp
          rfl
         refine hK.out _ _ ⟨((cell_far (p := ⟨gb326, _, none⟩) NB317_326.out _).trans (hHeld.1)), ((cell_far (p := ⟨gb326, _, none⟩) NB317_326.out _).trans (hHeld.2.1)), ((cell_far (p := ⟨gb326, _, none⟩) NB317_326.out _).trans (hHeld.2.2.1)), ((cell_far (p := ⟨gb326, _, none⟩) (ne_far hw324_0 GW326.out) _).trans (hHeld.2.2.2.1)), ((cell_far (p := ⟨gb326, _, none⟩) (ne_far hw325_0 GW326.out) _).trans (hHeld.2.2.2.2))⟩ (fun hHeld => ?_)
         clear hK K
         refine pure_ (i := 14) (N := some 11) (v := ?_) (a' := ?_) #[true, true, true, true, true, true, true, true, true, true, true, true, true, true, true] rfl rfl (any_of HT_.out (by kernel_rfl)) (fun _ _ _ h => h) (Or.inl ⟨by rfl, ?_⟩) ?_ ?_
         rotate_left
         ·
          intro w'
          go_simp
          with_reducible rfl
         rotate_left
         ·
          simp only [Act.put, List.setIfInBounds_toArray, List.set_cons_zero, List.set_cons_succ, i64_w, i32_w]
          rfl
         refine done_ (done_of HT_.out (by kernel_rfl)) ?_
         have hnb34 := NB326_317.out
         have hnc34 := NB317_326.out
         have hnb35 := NB326_318.out
         have hnc35 := NB318_326.out
         have hnb36 := NB326_319.out
         have hnc36 := NB319_326.out
         have hcz37_0 : w32.cell? ⟨gb326, 0, none⟩ = some (.int .i64 0) := (blk_cell BK326.out 0).trans rfl
         have hfz37_0 := blk_frozen BK326.out 0
         try go_wp2_with (first | ((with_reducible refine gate_callee (f := 32) rfl ?_); refine goesL_ (some 46) rfl rfl Tryd.func32 (by kernel_rfl) rfl #[.int .i64 (wrap64 ((wrap64 ((rd l0_1 (ji26)) - (rd l0_1 0))) + 1)), .func (.func 33) #[] #[.pointer (some ⟨gb317, 0, none⟩), .pointer (some ⟨gb318, 0, none⟩), .pointer (some ⟨gb326, 0, none⟩), .pointer (some ⟨gb319, 0, none⟩)]] rfl (by (try simp only [List.map_toArray, List.map_cons, List.map_nil]); first | done | (simp only [hji26]; rfl) | rfl | (simp only [List.length_drop, List.length_take]; rfl)) ?_; (with_reducible refine (sort_Search_32_at_33.calls kj6 (wrap64 ((wrap64 ((rd l0_1 (ji26)) - (rd l0_1 0))) + 1))  gb317 A0_0 c0_0 l0_0 (some ad324) c0_1 l0_1 A0_2 c0_2 l0_2 gb318 a1 gb326 (rd l0_1 0) gb319 a2 t327 _ ?side1 ?side2 ?side3 ?side4 ?side5 ?side6 ?side7 ?side8 ?side9 ?side10 A29.out).mono ?_); (case side1 => exact Kd.C_below HR0_0.out (by repeat (first | (with_reducible first | exact HB.out | apply below_alloc | apply pw_below_drewN | apply below_drew1 | refine below_set ?_ GE317.out | refine below_set ?_ GE318.out | refine below_set ?_ GE319.out | refine below_set ?_ GE326.out) | exact HB.out))); (case side2 => exact HC0_0.out); (case side3 => exact Kd.C_below HR0_1.out (by repeat (first | (with_reducible first | exact HB.out | apply below_alloc | apply pw_below_drewN | apply below_drew1 | refine below_set ?_ GE317.out | refine below_set ?_ GE318.out | refine below_set ?_ GE319.out | refine below_set ?_ GE326.out) | exact HB.out))); (case side4 => exact HC0_1.out); (case side5 => exact Kd.C_below HR0_2.out (by repeat (first | (with_reducible first | exact HB.out | apply below_alloc | apply pw_below_drewN | apply below_drew1 | refine below_set ?_ GE317.out | refine below_set ?_ GE318.out | refine below_set ?_ GE319.out | refine below_set ?_ GE326.out) | exact HB.out))); (case side6 => exact HC0_2.out); (case side7 => (with_reducible repeat (first | refine blk_drewN ?_ _ | refine blk_drew ?_ | refine blk_alloc ?_ _)); refine blk_far ?_ NB317_326.out _; (with_reducible repeat (first | refine blk_drewN ?_ _ | refine blk_drew ?_ | refine blk_alloc ?_ _)); exact BK317.out); (case side8 => (with_reducible repeat (first | refine blk_drewN ?_ _ | refine blk_drew ?_ | refine blk_alloc ?_ _)); refine blk_far ?_ NB318_326.out _; (with_reducible repeat (first | refine blk_drewN ?_ _ | refine blk_drew ?_ | refine blk_alloc ?_ _)); exact BK318.out); (case side9 => (with_reducible repeat (first | refine blk_drewN ?_ _ | refine blk_drew ?_ | refine blk_alloc ?_ _)); refine blk_put (cs := #[.int .i64 0]) ?_ 0 _ rfl; (with_reducible repeat (first | refine blk_drewN ?_ _ | refine blk_drew ?_ | refine blk_alloc ?_ _)); exact BK326.out); (case side10 => (with_reducible repeat (first | refine blk_drewN ?_ _ | refine blk_drew ?_ | refine blk_alloc ?_ _)); refine blk_far ?_ NB319_326.out _; (with_reducible repeat (first | refine blk_drewN ?_ _ | refine blk_drew ?_ | refine blk_alloc ?_ _)); exact BK319.out); rintro e w38 ⟨rfl, hb⟩; refine ⟨_, rfl, ?_⟩; have n0_ := Aside0.mk (blk_below (g := gb317) (o := .cells #[.slice A0_0 l0_0.length c0_0, .slice (some ad324) l0_1.length c0_1, .slice A0_2 l0_2.length c0_2] 25 (0, 0)) (by (with_reducible repeat (first | refine blk_drewN ?_ _ | refine blk_drew ?_ | refine blk_alloc ?_ _)); refine blk_far ?_ NB317_326.out _; (with_reducible repeat (first | refine blk_drewN ?_ _ | refine blk_drew ?_ | refine blk_alloc ?_ _)); exact BK317.out) hb); have n1_ := Aside0.mk (blk_below (g := gb318) (o := .cells #[.int .i64 a1] 3 (0, 0)) (by (with_reducible repeat (first | refine blk_drewN ?_ _ | refine blk_drew ?_ | refine blk_alloc ?_ _)); refine blk_far ?_ NB318_326.out _; (with_reducible repeat (first | refine blk_drewN ?_ _ | refine blk_drew ?_ | refine blk_alloc ?_ _)); exact BK318.out) hb); have n2_ := Aside0.mk (blk_below (g := gb319) (o := .cells #[.int .i64 a2] 3 (0, 0)) (by (with_reducible repeat (first | refine blk_drewN ?_ _ | refine blk_drew ?_ | refine blk_alloc ?_ _)); refine blk_far ?_ NB319_326.out _; (with_reducible repeat (first | refine blk_drewN ?_ _ | refine blk_drew ?_ | refine blk_alloc ?_ _)); exact BK319.out) hb); have n3_ := Aside0.mk (blk_below (g := gb326) (o := .cells #[.int .i64 (rd l0_1 0)] 3 (0, 0)) (by (with_reducible repeat (first | refine blk_drewN ?_ _ | refine blk_drew ?_ | refine blk_alloc ?_ _)); refine blk_put (cs := #[.int .i64 0]) ?_ 0 _ rfl; (with_reducible repeat (first | refine blk_drewN ?_ _ | refine blk_drew ?_ | refine blk_alloc ?_ _)); exact BK326.out) hb); have n4_ := Aside0.mk (below_step (by repeat (first | (with_reducible first | exact HB.out | apply below_alloc | apply pw_below_drewN | apply below_drew1 | refine below_set ?_ GE317.out | refine below_set ?_ GE318.out | refine below_set ?_ GE319.out | refine below_set ?_ GE326.out) | exact HB.out)) hb); clear BK317; clear BK318; clear BK319; clear BK326; clear HB; have BK317 := n0_; have BK318 := n1_; have BK319 := n2_; have BK326 := n3_; have HB := n4_; clear n0_ n1_ n2_ n3_ n4_; (try clear hb); (try clear hb2); (try clear hk); (try clear hi)))
         go_ret2
         exact ⟨by first | rfl | (simp [errW_none, errW_some] <;> rfl) | (simp only [← hji26]; first | rfl | (simp [errW_none, errW_some] <;> rfl)) | (simp [*, errW_none, errW_some] <;> rfl), by repeat (first | (with_reducible first | exact HB.out | apply below_alloc | apply pw_below_drewN | apply below_drew1 | refine below_set ?_ GE317.out | refine below_set ?_ GE318.out | refine below_set ?_ GE319.out | refine below_set ?_ GE326.out) | exact HB.out)⟩
        ·
         rw [if_neg c30] at H
         have c30b0 : (t327 == 0) = false := beq_eq_false_iff_ne.mpr c30
         have c30b1 : (t327 != 0) = true := bne_iff_ne.mpr c30
         simp only [Option.some.injEq, Prod.mk.injEq] at H
         obtain ⟨rfl, rfl⟩ := H
         try go_wp2
         have n0_ := Aside0.mk (blk_drew BK317.out)
         have n1_ := Aside0.mk (blk_drew BK318.out)
         have n2_ := Aside0.mk (blk_drew BK319.out)
         have n3_ := Aside0.mk (below_drew1 HB.out)
         clear BK317
         clear BK318
         clear BK319
         clear HB
         have BK317 := n0_
         have BK318 := n1_
         have BK319 := n2_
         have HB := n3_
         clear n0_ n1_ n2_ n3_
         have p324 : 0 ≤ (0 : Int) := (by omega)
         have q324 : 0 < (l0_1.length : Int) := of_decide_eq_true (by first | (with_reducible assumption) | assumption)
         obtain ⟨ad324, e324, hx324_0⟩ := Kd.at_int HR0_1.out 0 p324 q324
         have hw324_0 := hx324_0
         (try rw [show ((0 : Int)).toNat = 0 from rfl] at hw324_0)
         (try rw [show 0 * 1 = 0 from rfl] at hw324_0)
         (try rw [Addr.add_zero'] at hw324_0)
         cases e324
         have qi324 : (0 < l0_1.length) = True := eq_true (by omega)
         (try rw [show ((0 : Int)).toNat = 0 from rfl] at hx324_0)
         (try rw [Addr.add_zero'] at hx324_0)
         replace hx324_0 := (HB.out.cell (World.block_lt_of_cell? w _ hx324_0)).trans hx324_0
         replace p324 := eq_true p324
         replace q324 := eq_true q324
         have p325 : 0 ≤ ((ji26) : Int) := of_decide_eq_true (by first | (with_reducible assumption) | assumption)
         have q325 : (ji26) < (l0_1.length : Int) := of_decide_eq_true (by first | (with_reducible assumption) | assumption)
         obtain ⟨ad325, e325, hx325_0⟩ := Kd.at_int HR0_1.out (ji26) p325 q325
         have hw325_0 := hx325_0
         obtain rfl : ad324 = ad325 := (by injection e325)
         replace hx325_0 := (HB.out.cell (World.block_lt_of_cell? w _ hx325_0)).trans hx325_0
         replace p325 := eq_true p325
         replace q325 := eq_true q325
         refine start_ (n := 15) (S := fun w' => w'.cell? ⟨gb317, 0, none⟩ = some (.slice A0_0 l0_0.length c0_0) ∧ w'.cell? ⟨gb317, 1, none⟩ = some (.slice (some ad324) l0_1.length c0_1) ∧ w'.cell? ⟨gb317, 2, none⟩ = some (.slice A0_2 l0_2.length c0_2) ∧ w'.cell? ad324 = some (.int .i64 (rd l0_1 0)) ∧ w'.cell? (ad324.add ((ji26)).toNat) = some (.int .i64 (rd l0_1 (ji26)))) (ds := []) #[false, false, false, false, false, false, false, false, false, false, false, false, false, false, false] (by kernel_rfl) rfl rfl ⟨(blk_cell BK317.out 0).trans rfl, (blk_cell BK317.out 1).trans rfl, (blk_cell BK317.out 2).trans rfl, ((HB.out.cell (World.block_lt_of_cell? w _ hw324_0)).trans hw324_0), ((HB.out.cell (World.block_lt_of_cell? w _ hw325_0)).trans hw325_0)⟩ (fun hHeld => ?_); refine with_tabW correct_Apparent.tab6 correct_Apparent.bits6 (fun HT_ HW_ => ?_)
         generalize wc.drew = w39 at BK317 BK318 BK319 HB hx324_0 hx325_0 hHeld ⊢
         refine pure_ (i := 0) (N := some 29) (v := ?_) (a' := ?_) #[true, false, false, false, false, false, false, false, false, false, false, false, false, false, false] rfl rfl (any_of HT_.out (by kernel_rfl)) (fun _ _ _ h => h) (Or.inl ⟨by rfl, ?_⟩) ?_ ?_
         rotate_left
         ·
          intro w'
          go_simp
          with_reducible rfl
         rotate_left
         ·
          simp only [Act.put, List.setIfInBounds_toArray, List.set_cons_zero, List.set_cons_succ, i64_w, i32_w]
          rfl
         refine pure_ (i := 4) (N := some 33) (v := ?_) (a' := ?_) #[true, false, false, false, true, false, false, false, false, false, false, false, false, false, false] rfl rfl (any_of HT_.out (by kernel_rfl)) (fun _ _ _ h => h) (Or.inl ⟨by rfl, ?_⟩) ?_ ?_
         rotate_left
         ·
          intro w'
          go_simp
          with_reducible rfl
         rotate_left
         ·
          simp only [Act.put, List.setIfInBounds_toArray, List.set_cons_zero, List.set_cons_succ, i64_w, i32_w]
          rfl
         refine pure_ (i := 6) (N := some 35) (v := ?_) (a' := ?_) #[true, false, false, false, true, false, true, false, false, false, false, false, false, false, false] rfl rfl (any_of HT_.out (by kernel_rfl)) (fun _ _ _ h => h) (Or.inl ⟨by rfl, ?_⟩) ?_ ?_
         rotate_left
         ·
          intro w'
          go_simp
          with_reducible rfl
         rotate_left
         ·
          simp only [Act.put, List.setIfInBounds_toArray, List.set_cons_zero, List.set_cons_succ, i64_w, i32_w]
          rfl
         refine take_ (i := 1) (N := some 30) (v := ?_) (a' := ?_) #[true, true, false, false, true, false, true, false, false, false, false, false, false, false, false] rfl rfl (take_ofW HT_.out HW_.out (by kernel_rfl)) (fun _ _ _ h => h) (Or.inl ⟨by rfl, ?_⟩) hHeld ?_ ?_
         rotate_left
         ·
          rintro w' ⟨s0, s1, s2, s3, s4⟩
          go_simp
          with_reducible rfl
         rotate_left
         ·
          simp only [Act.put, List.setIfInBounds_toArray, List.set_cons_zero, List.set_cons_succ, i64_w, i32_w]
          rfl
         refine pure_ (i := 2) (N := some 31) (v := ?_) (a' := ?_) #[true, true, true, false, true, false, true, false, false, false, false, false, false, false, false] rfl rfl (any_of HT_.out (by kernel_rfl)) (fun _ _ _ h => h) (Or.inl ⟨by rfl, ?_⟩) ?_ ?_
         rotate_left
         ·
          intro w'
          go_simp
          with_reducible rfl
         rotate_left
         ·
          simp only [Act.put, List.setIfInBounds_toArray, List.set_cons_zero, List.set_cons_succ, i64_w, i32_w]
          rfl
         refine take_ (i := 3) (N := some 32) (v := ?_) (a' := ?_) #[true, true, true, true, true, false, true, false, false, false, false, false, false, false, false] rfl rfl (take_ofW HT_.out HW_.out (by kernel_rfl)) (fun _ _ _ h => h) (Or.inl ⟨by rfl, ?_⟩) hHeld ?_ ?_
         rotate_left
         ·
          rintro w' ⟨s0, s1, s2, s3, s4⟩
          go_simp
          with_reducible rfl
         rotate_left
         ·
          simp only [Act.put, List.setIfInBounds_toArray, List.set_cons_zero, List.set_cons_succ, i64_w, i32_w]
          rfl
         refine take_ (i := 5) (N := some 34) (v := ?_) (a' := ?_) #[true, true, true, true, true, true, true, false, false, false, false, false, false, false, false] rfl rfl (take_ofW HT_.out HW_.out (by kernel_rfl)) (fun _ _ _ h => h) (Or.inl ⟨by rfl, ?_⟩) hHeld ?_ ?_
         rotate_left
         ·
          rintro w' ⟨s0, s1, s2, s3, s4⟩
          go_simp
          with_reducible rfl
         rotate_left
         ·
          simp only [Act.put, List.setIfInBounds_toArray, List.set_cons_zero, List.set_cons_succ, i64_w, i32_w]
          rfl
         refine take_ (i := 7) (N := some 36) (v := ?_) (a' := ?_) #[true, true, true, true, true, true, true, true, false, false, false, false, false, false, false] rfl rfl (take_ofW HT_.out HW_.out (by kernel_rfl)) (fun _ _ _ h => h) (Or.inl ⟨by rfl, ?_⟩) hHeld ?_ ?_
         rotate_left
         ·
          rintro w' ⟨s0, s1, s2, s3, s4⟩
          go_simp
          with_reducible rfl
         rotate_left
         ·
          simp only [Act.put, List.setIfInBounds_toArray, List.set_cons_zero, List.set_cons_succ, i64_w, i32_w]
          rfl
         refine pure_ (i := 8) (N := some 37) (v := ?_) (a' := ?_) #[true, true, true, true, true, true, true, true, true, false, false, false, false, false, false] rfl rfl (any_of HT_.out (by kernel_rfl)) (fun _ _ _ h => h) (Or.inl ⟨by rfl, ?_⟩) ?_ ?_
         rotate_left
         ·
          intro w'
          go_simp
          with_reducible rfl
         rotate_left
         ·
          simp only [Act.put, List.setIfInBounds_toArray, List.set_cons_zero, List.set_cons_succ, i64_w, i32_w]
          rfl
         refine pure_ (i := 9) (N := some 38) (v := ?_) (a' := ?_) #[true, true, true, true, true, true, true, true, true, true, false, false, false, false, false] rfl rfl (any_of HT_.out (by kernel_rfl)) (fun _ _ _ h => h) (Or.inl ⟨by rfl, ?_⟩) ?_ ?_
         rotate_left
         ·
          intro w'
          go_simp
          with_reducible rfl
         rotate_left
         ·
          simp only [Act.put, List.setIfInBounds_toArray, List.set_cons_zero, List.set_cons_succ, i64_w, i32_w]
          rfl
         refine pure_ (i := 10) (N := some 39) (v := ?_) (a' := ?_) #[true, true, true, true, true, true, true, true, true, true, true, false, false, false, false] rfl rfl (any_of HT_.out (by kernel_rfl)) (fun _ _ _ h => h) (Or.inl ⟨by rfl, ?_⟩) ?_ ?_
         rotate_left
         ·
          intro w'
          go_simp
          with_reducible rfl
         rotate_left
         ·
          simp only [Act.put, List.setIfInBounds_toArray, List.set_cons_zero, List.set_cons_succ, i64_w, i32_w]
          rfl
         refine take_ (i := 11) (N := some 40) (v := ?_) (a' := ?_) #[true, true, true, true, true, true, true, true, true, true, true, true, false, false, false] rfl rfl (take_ofW HT_.out HW_.out (by kernel_rfl)) (fun _ _ _ h => h) (Or.inl ⟨by rfl, ?_⟩) hHeld ?_ ?_
         rotate_left
         ·
          rintro w' ⟨s0, s1, s2, s3, s4⟩
          go_simp
          with_reducible rfl
         rotate_left
         ·
          simp only [Act.put, List.setIfInBounds_toArray, List.set_cons_zero, List.set_cons_succ, i64_w, i32_w]
          rfl
         refine one_ (i := 12) (N := some 10) #[true, true, true, true, true, true, true, true, true, true, true, true, true, false, false] rfl rfl (one_of HT_.out (by kernel_rfl)) (by decide) (fun K hK => ?_)
         refine box_step ?hg (N := 10) ?hd (cs := #[.int .i64 0]) (t := 3) ?hr ?_; (case hd => rfl); (case hg => rfl); (case hr => first | (go_simp; done) | (go_simp; rfl))
         intro gb326 hg w40 hbox hb
         have n0_ := Aside0.mk (blk_below (g := gb317) (o := .cells #[.slice A0_0 l0_0.length c0_0, .slice (some ad324) l0_1.length c0_1, .slice A0_2 l0_2.length c0_2] 25 (0, 0)) (by (with_reducible repeat (first | refine blk_drewN ?_ _ | refine blk_drew ?_ | refine blk_alloc ?_ _)); exact BK317.out) hb)
         have n1_ := Aside0.mk (blk_below (g := gb318) (o := .cells #[.int .i64 a1] 3 (0, 0)) (by (with_reducible repeat (first | refine blk_drewN ?_ _ | refine blk_drew ?_ | refine blk_alloc ?_ _)); exact BK318.out) hb)
         have n2_ := Aside0.mk (blk_below (g := gb319) (o := .cells #[.int .i64 a2] 3 (0, 0)) (by (with_reducible repeat (first | refine blk_drewN ?_ _ | refine blk_drew ?_ | refine blk_alloc ?_ _)); exact BK319.out) hb)
         have n3_ := Aside0.mk (below_step (by repeat (first | (with_reducible first | exact HB.out | apply below_alloc | apply pw_below_drewN | apply below_drew1 | refine below_set ?_ GE317.out | refine below_set ?_ GE318.out | refine below_set ?_ GE319.out) | exact HB.out)) hb)
         have n4_ := Aside0.mk (hbox)
         have n5_ := Aside0.mk ((by rw [hg]; exact (below_size (by repeat (first | (with_reducible first | exact HB.out | apply below_alloc | apply pw_below_drewN | apply below_drew1 | refine below_set ?_ GE317.out | refine below_set ?_ GE318.out | refine below_set ?_ GE319.out) | exact HB.out))) : w.heap.size ≤ gb326))
         have n6_ := Aside0.mk ((by rw [hg]; exact (below_size (by repeat (first | (with_reducible first | exact HB.out | apply below_alloc | apply pw_below_drewN | apply below_drew1 | refine below_set ?_ GE317.out | refine below_set ?_ GE318.out | refine below_set ?_ GE319.out) | exact HB.out))) : w.heap.size ≤ gb326))
         have n7_ := Aside0.mk ((by rw [hg]; exact Nat.ne_of_lt (blk_lt (g := gb317) (o := .cells #[.slice A0_0 l0_0.length c0_0, .slice (some ad324) l0_1.length c0_1, .slice A0_2 l0_2.length c0_2] 25 (0, 0)) (by (with_reducible repeat (first | refine blk_drewN ?_ _ | refine blk_drew ?_ | refine blk_alloc ?_ _)); exact BK317.out)) : gb317 ≠ gb326))
         have n8_ := Aside0.mk ((by rw [hg]; exact Nat.ne_of_gt (blk_lt (g := gb317) (o := .cells #[.slice A0_0 l0_0.length c0_0, .slice (some ad324) l0_1.length c0_1, .slice A0_2 l0_2.length c0_2] 25 (0, 0)) (by (with_reducible repeat (first | refine blk_drewN ?_ _ | refine blk_drew ?_ | refine blk_alloc ?_ _)); exact BK317.out)) : gb326 ≠ gb317))
         have n9_ := Aside0.mk ((by rw [hg]; exact Nat.ne_of_lt (blk_lt (g := gb318) (o := .cells #[.int .i64 a1] 3 (0, 0)) (by (with_reducible repeat (first | refine blk_drewN ?_ _ | refine blk_drew ?_ | refine blk_alloc ?_ _)); exact BK318.out)) : gb318 ≠ gb326))
         have n10_ := Aside0.mk ((by rw [hg]; exact Nat.ne_of_gt (blk_lt (g := gb318) (o := .cells #[.int .i64 a1] 3 (0, 0)) (by (with_reducible repeat (first | refine blk_drewN ?_ _ | refine blk_drew ?_ | refine blk_alloc ?_ _)); exact BK318.out)) : gb326 ≠ gb318))
         have n11_ := Aside0.mk ((by rw [hg]; exact Nat.ne_of_lt (blk_lt (g := gb319) (o := .cells #[.int .i64 a2] 3 (0, 0)) (by (with_reducible repeat (first | refine blk_drewN ?_ _ | refine blk_drew ?_ | refine blk_alloc ?_ _)); exact BK319.out)) : gb319 ≠ gb326))
         have n12_ := Aside0.mk ((by rw [hg]; exact Nat.ne_of_gt (blk_lt (g := gb319) (o := .cells #[.int .i64 a2] 3 (0, 0)) (by (with_reducible repeat (first | refine blk_drewN ?_ _ | refine blk_drew ?_ | refine blk_alloc ?_ _)); exact BK319.out)) : gb326 ≠ gb319))
         clear BK317
         clear BK318
         clear BK319
         clear HB
         have BK317 := n0_
         have BK318 := n1_
         have BK319 := n2_
         have HB := n3_
         have BK326 := n4_
         have GW326 := n5_
         have GE326 := n6_
         have NB317_326 := n7_
         have NB326_317 := n8_
         have NB318_326 := n9_
         have NB326_318 := n10_
         have NB319_326 := n11_
         have NB326_319 := n12_
         clear n0_ n1_ n2_ n3_ n4_ n5_ n6_ n7_ n8_ n9_ n10_ n11_ n12_
         clear hb hbox hg
         refine hK.out _ _ ⟨(blk_cell BK317.out 0).trans rfl, (blk_cell BK317.out 1).trans rfl, (blk_cell BK317.out 2).trans rfl, ((HB.out.cell (World.block_lt_of_cell? w _ hw324_0)).trans hw324_0), ((HB.out.cell (World.block_lt_of_cell? w _ hw325_0)).trans hw325_0)⟩ (fun hHeld => ?_)
         clear hK K
         refine norm_ (a' := ?_) ?_ ?_
         rotate_left
         ·
          show Act.put _ (some 10) _ = _
          simp only [Act.put, List.setIfInBounds_toArray, List.set_cons_zero, List.set_cons_succ, i64_w, i32_w]
          rfl
         refine one_ (i := 13) (N := none) #[true, true, true, true, true, true, true, true, true, true, true, true, true, true, false] rfl rfl (one_of HT_.out (by kernel_rfl)) (by decide) (fun K hK => ?_)
         have hs41 : w40.cell? ⟨gb326, 0, none⟩ = some (.int .i64 0) := (blk_cell BK326.out 0).trans rfl
         have hfs41 := blk_frozen BK326.out 0
         have hns41_0 := NB317_326.out
         have hns41_1 := NB318_326.out
         have hns41_2 := NB319_326.out
         have hms41_0 := NB326_317.out
         have hms41_1 := NB326_318.out
         have hms41_2 := NB326_319.out
         refine skip_ (w1 := ?_) (by rfl) rfl ?_ ?_
         rotate_left
         ·
          go_simp
          rfl
         refine hK.out _ _ ⟨((cell_far (p := ⟨gb326, _, none⟩) NB317_326.out _).trans (hHeld.1)), ((cell_far (p := ⟨gb326, _, none⟩) NB317_326.out _).trans (hHeld.2.1)), ((cell_far (p := ⟨gb326, _, none⟩) NB317_326.out _).trans (hHeld.2.2.1)), ((cell_far (p := ⟨gb326, _, none⟩) (ne_far hw324_0 GW326.out) _).trans (hHeld.2.2.2.1)), ((cell_far (p := ⟨gb326, _, none⟩) (ne_far hw325_0 GW326.out) _).trans (hHeld.2.2.2.2))⟩ (fun hHeld => ?_)
         clear hK K
         refine pure_ (i := 14) (N := some 11) (v := ?_) (a' := ?_) #[true, true, true, true, true, true, true, true, true, true, true, true, true, true, true] rfl rfl (any_of HT_.out (by kernel_rfl)) (fun _ _ _ h => h) (Or.inl ⟨by rfl, ?_⟩) ?_ ?_
         rotate_left
         ·
          intro w'
          go_simp
          with_reducible rfl
         rotate_left
         ·
          simp only [Act.put, List.setIfInBounds_toArray, List.set_cons_zero, List.set_cons_succ, i64_w, i32_w]
          rfl
         refine done_ (done_of HT_.out (by kernel_rfl)) ?_
         have hnb42 := NB326_317.out
         have hnc42 := NB317_326.out
         have hnb43 := NB326_318.out
         have hnc43 := NB318_326.out
         have hnb44 := NB326_319.out
         have hnc44 := NB319_326.out
         have hcz45_0 : w40.cell? ⟨gb326, 0, none⟩ = some (.int .i64 0) := (blk_cell BK326.out 0).trans rfl
         have hfz45_0 := blk_frozen BK326.out 0
         try go_wp2_with (first | ((with_reducible refine gate_callee (f := 32) rfl ?_); refine goesL_ (some 46) rfl rfl Tryd.func32 (by kernel_rfl) rfl #[.int .i64 (wrap64 ((wrap64 ((rd l0_1 (ji26)) - (rd l0_1 0))) + 1)), .func (.func 33) #[] #[.pointer (some ⟨gb317, 0, none⟩), .pointer (some ⟨gb318, 0, none⟩), .pointer (some ⟨gb326, 0, none⟩), .pointer (some ⟨gb319, 0, none⟩)]] rfl (by (try simp only [List.map_toArray, List.map_cons, List.map_nil]); first | done | (simp only [hji26]; rfl) | rfl | (simp only [List.length_drop, List.length_take]; rfl)) ?_; (with_reducible refine (sort_Search_32_at_33.calls kj6 (wrap64 ((wrap64 ((rd l0_1 (ji26)) - (rd l0_1 0))) + 1))  gb317 A0_0 c0_0 l0_0 (some ad324) c0_1 l0_1 A0_2 c0_2 l0_2 gb318 a1 gb326 (rd l0_1 0) gb319 a2 t327 _ ?side1 ?side2 ?side3 ?side4 ?side5 ?side6 ?side7 ?side8 ?side9 ?side10 A29.out).mono ?_); (case side1 => exact Kd.C_below HR0_0.out (by repeat (first | (with_reducible first | exact HB.out | apply below_alloc | apply pw_below_drewN | apply below_drew1 | refine below_set ?_ GE317.out | refine below_set ?_ GE318.out | refine below_set ?_ GE319.out | refine below_set ?_ GE326.out) | exact HB.out))); (case side2 => exact HC0_0.out); (case side3 => exact Kd.C_below HR0_1.out (by repeat (first | (with_reducible first | exact HB.out | apply below_alloc | apply pw_below_drewN | apply below_drew1 | refine below_set ?_ GE317.out | refine below_set ?_ GE318.out | refine below_set ?_ GE319.out | refine below_set ?_ GE326.out) | exact HB.out))); (case side4 => exact HC0_1.out); (case side5 => exact Kd.C_below HR0_2.out (by repeat (first | (with_reducible first | exact HB.out | apply below_alloc | apply pw_below_drewN | apply below_drew1 | refine below_set ?_ GE317.out | refine below_set ?_ GE318.out | refine below_set ?_ GE319.out | refine below_set ?_ GE326.out) | exact HB.out))); (case side6 => exact HC0_2.out); (case side7 => (with_reducible repeat (first | refine blk_drewN ?_ _ | refine blk_drew ?_ | refine blk_alloc ?_ _)); refine blk_far ?_ NB317_326.out _; (with_reducible repeat (first | refine blk_drewN ?_ _ | refine blk_drew ?_ | refine blk_alloc ?_ _)); exact BK317.out); (case side8 => (with_reducible repeat (first | refine blk_drewN ?_ _ | refine blk_drew ?_ | refine blk_alloc ?_ _)); refine blk_far ?_ NB318_326.out _; (with_reducible repeat (first | refine blk_drewN ?_ _ | refine blk_drew ?_ | refine blk_alloc ?_ _)); exact BK318.out); (case side9 => (with_reducible repeat (first | refine blk_drewN ?_ _ | refine blk_drew ?_ | refine blk_alloc ?_ _)); refine blk_put (cs := #[.int .i64 0]) ?_ 0 _ rfl; (with_reducible repeat (first | refine blk_drewN ?_ _ | refine blk_drew ?_ | refine blk_alloc ?_ _)); exact BK326.out); (case side10 => (with_reducible repeat (first | refine blk_drewN ?_ _ | refine blk_drew ?_ | refine blk_alloc ?_ _)); refine blk_far ?_ NB319_326.out _; (with_reducible repeat (first | refine blk_drewN ?_ _ | refine blk_drew ?_ | refine blk_alloc ?_ _)); exact BK319.out); rintro e w46 ⟨rfl, hb⟩; refine ⟨_, rfl, ?_⟩; have n0_ := Aside0.mk (blk_below (g := gb317) (o := .cells #[.slice A0_0 l0_0.length c0_0, .slice (some ad324) l0_1.length c0_1, .slice A0_2 l0_2.length c0_2] 25 (0, 0)) (by (with_reducible repeat (first | refine blk_drewN ?_ _ | refine blk_drew ?_ | refine blk_alloc ?_ _)); refine blk_far ?_ NB317_326.out _; (with_reducible repeat (first | refine blk_drewN ?_ _ | refine blk_drew ?_ | refine blk_alloc ?_ _)); exact BK317.out) hb); have n1_ := Aside0.mk (blk_below (g := gb318) (o := .cells #[.int .i64 a1] 3 (0, 0)) (by (with_reducible repeat (first | refine blk_drewN ?_ _ | refine blk_drew ?_ | refine blk_alloc ?_ _)); refine blk_far ?_ NB318_326.out _; (with_reducible repeat (first | refine blk_drewN ?_ _ | refine blk_drew ?_ | refine blk_alloc ?_ _)); exact BK318.out) hb); have n2_ := Aside0.mk (blk_below (g := gb319) (o := .cells #[.int .i64 a2] 3 (0, 0)) (by (with_reducible repeat (first | refine blk_drewN ?_ _ | refine blk_drew ?_ | refine blk_alloc ?_ _)); refine blk_far ?_ NB319_326.out _; (with_reducible repeat (first | refine blk_drewN ?_ _ | refine blk_drew ?_ | refine blk_alloc ?_ _)); exact BK319.out) hb); have n3_ := Aside0.mk (blk_below (g := gb326) (o := .cells #[.int .i64 (rd l0_1 0)] 3 (0, 0)) (by (with_reducible repeat (first | refine blk_drewN ?_ _ | refine blk_drew ?_ | refine blk_alloc ?_ _)); refine blk_put (cs := #[.int .i64 0]) ?_ 0 _ rfl; (with_reducible repeat (first | refine blk_drewN ?_ _ | refine blk_drew ?_ | refine blk_alloc ?_ _)); exact BK326.out) hb); have n4_ := Aside0.mk (below_step (by repeat (first | (with_reducible first | exact HB.out | apply below_alloc | apply pw_below_drewN | apply below_drew1 | refine below_set ?_ GE317.out | refine below_set ?_ GE318.out | refine below_set ?_ GE319.out | refine below_set ?_ GE326.out) | exact HB.out)) hb); clear BK317; clear BK318; clear BK319; clear BK326; clear HB; have BK317 := n0_; have BK318 := n1_; have BK319 := n2_; have BK326 := n3_; have HB := n4_; clear n0_ n1_ n2_ n3_ n4_; (try clear hb); (try clear hb2); (try clear hk); (try clear hi); have hcz47_0 : w46.cell? ⟨gb326, 0, none⟩ = some (.int .i64 (rd l0_1 0)) := (blk_cell BK326.out 0).trans rfl; have hfz47_0 := blk_frozen BK326.out 0))
         go_ret2
         exact ⟨by first | rfl | (simp [errW_none, errW_some] <;> rfl) | (simp only [← hji26]; first | rfl | (simp [errW_none, errW_some] <;> rfl)) | (simp [*, errW_none, errW_some] <;> rfl), by repeat (first | (with_reducible first | exact HB.out | apply below_alloc | apply pw_below_drewN | apply below_drew1 | refine below_set ?_ GE317.out | refine below_set ?_ GE318.out | refine below_set ?_ GE319.out | refine below_set ?_ GE326.out) | exact HB.out)⟩
       ·
        rw [if_neg c28] at H
        exact absurd H (by simp)
      ·
       rw [if_neg c27] at H
       exact absurd H (by simp)
     ·
      rw [if_neg c25] at H
      exact absurd H (by simp)
 ·
  rw [if_neg c5] at H
  have c5b0 : (t320 == 0) = false := beq_eq_false_iff_ne.mpr c5
  have c5b1 : (t320 != 0) = true := bne_iff_ne.mpr c5
  simp only [Option.some.injEq, Prod.mk.injEq] at H
  obtain ⟨rfl, rfl⟩ := H
  go_enter Tryd.func16, Tryd.ntmps16
  go_wp2_with (first | ((with_reducible refine gate_dst (N := 3) rfl ?_); refine box_event ?hg (N := 3) ?hd (cs := #[.slice A0_0 l0_0.length c0_0, .slice A0_1 l0_1.length c0_1, .slice A0_2 l0_2.length c0_2]) (t := 25) ?hr ?_; (case hd => rfl); (case hg => rfl); (case hr => first | (go_simp; done) | (go_simp; rfl)); intro gb317 hg w48 hbox hb; have n0_ := Aside0.mk (below_step (by repeat (first | (with_reducible first | exact HB.out | apply below_alloc | apply pw_below_drewN | apply below_drew1) | exact HB.out)) hb); have n1_ := Aside0.mk (hbox); have n2_ := Aside0.mk ((by rw [hg]; exact (below_size (by repeat (first | (with_reducible first | exact HB.out | apply below_alloc | apply pw_below_drewN | apply below_drew1) | exact HB.out))) : w.heap.size ≤ gb317)); have n3_ := Aside0.mk ((by rw [hg]; exact (below_size (by repeat (first | (with_reducible first | exact HB.out | apply below_alloc | apply pw_below_drewN | apply below_drew1) | exact HB.out))) : w.heap.size ≤ gb317)); clear HB; have HB := n0_; have BK317 := n1_; have GW317 := n2_; have GE317 := n3_; clear n0_ n1_ n2_ n3_; clear hb hbox hg) | ((with_reducible refine gate_dst (N := 4) rfl ?_); refine box_event ?hg (N := 4) ?hd (cs := #[.int .i64 a1]) (t := 3) ?hr ?_; (case hd => rfl); (case hg => rfl); (case hr => first | (go_simp; done) | (go_simp; rfl)); intro gb318 hg w49 hbox hb; have n0_ := Aside0.mk (blk_below (g := gb317) (o := .cells #[.slice A0_0 l0_0.length c0_0, .slice A0_1 l0_1.length c0_1, .slice A0_2 l0_2.length c0_2] 25 (0, 0)) (by (with_reducible repeat (first | refine blk_drewN ?_ _ | refine blk_drew ?_ | refine blk_alloc ?_ _)); exact BK317.out) hb); have n1_ := Aside0.mk (below_step (by repeat (first | (with_reducible first | exact HB.out | apply below_alloc | apply pw_below_drewN | apply below_drew1 | refine below_set ?_ GE317.out) | exact HB.out)) hb); have n2_ := Aside0.mk (hbox); have n3_ := Aside0.mk ((by rw [hg]; exact (below_size (by repeat (first | (with_reducible first | exact HB.out | apply below_alloc | apply pw_below_drewN | apply below_drew1 | refine below_set ?_ GE317.out) | exact HB.out))) : w.heap.size ≤ gb318)); have n4_ := Aside0.mk ((by rw [hg]; exact (below_size (by repeat (first | (with_reducible first | exact HB.out | apply below_alloc | apply pw_below_drewN | apply below_drew1 | refine below_set ?_ GE317.out) | exact HB.out))) : w.heap.size ≤ gb318)); have n5_ := Aside0.mk ((by rw [hg]; exact Nat.ne_of_lt (blk_lt (g := gb317) (o := .cells #[.slice A0_0 l0_0.length c0_0, .slice A0_1 l0_1.length c0_1, .slice A0_2 l0_2.length c0_2] 25 (0, 0)) (by (with_reducible repeat (first | refine blk_drewN ?_ _ | refine blk_drew ?_ | refine blk_alloc ?_ _)); exact BK317.out)) : gb317 ≠ gb318)); have n6_ := Aside0.mk ((by rw [hg]; exact Nat.ne_of_gt (blk_lt (g := gb317) (o := .cells #[.slice A0_0 l0_0.length c0_0, .slice A0_1 l0_1.length c0_1, .slice A0_2 l0_2.length c0_2] 25 (0, 0)) (by (with_reducible repeat (first | refine blk_drewN ?_ _ | refine blk_drew ?_ | refine blk_alloc ?_ _)); exact BK317.out)) : gb318 ≠ gb317)); clear BK317; clear HB; have BK317 := n0_; have HB := n1_; have BK318 := n2_; have GW318 := n3_; have GE318 := n4_; have NB317_318 := n5_; have NB318_317 := n6_; clear n0_ n1_ n2_ n3_ n4_ n5_ n6_; clear hb hbox hg) | ((with_reducible refine gate_dst (N := 5) rfl ?_); refine box_event ?hg (N := 5) ?hd (cs := #[.int .i64 a2]) (t := 3) ?hr ?_; (case hd => rfl); (case hg => rfl); (case hr => first | (go_simp; done) | (go_simp; rfl)); intro gb319 hg w50 hbox hb; have n0_ := Aside0.mk (blk_below (g := gb317) (o := .cells #[.slice A0_0 l0_0.length c0_0, .slice A0_1 l0_1.length c0_1, .slice A0_2 l0_2.length c0_2] 25 (0, 0)) (by (with_reducible repeat (first | refine blk_drewN ?_ _ | refine blk_drew ?_ | refine blk_alloc ?_ _)); exact BK317.out) hb); have n1_ := Aside0.mk (blk_below (g := gb318) (o := .cells #[.int .i64 a1] 3 (0, 0)) (by (with_reducible repeat (first | refine blk_drewN ?_ _ | refine blk_drew ?_ | refine blk_alloc ?_ _)); exact BK318.out) hb); have n2_ := Aside0.mk (below_step (by repeat (first | (with_reducible first | exact HB.out | apply below_alloc | apply pw_below_drewN | apply below_drew1 | refine below_set ?_ GE317.out | refine below_set ?_ GE318.out) | exact HB.out)) hb); have n3_ := Aside0.mk (hbox); have n4_ := Aside0.mk ((by rw [hg]; exact (below_size (by repeat (first | (with_reducible first | exact HB.out | apply below_alloc | apply pw_below_drewN | apply below_drew1 | refine below_set ?_ GE317.out | refine below_set ?_ GE318.out) | exact HB.out))) : w.heap.size ≤ gb319)); have n5_ := Aside0.mk ((by rw [hg]; exact (below_size (by repeat (first | (with_reducible first | exact HB.out | apply below_alloc | apply pw_below_drewN | apply below_drew1 | refine below_set ?_ GE317.out | refine below_set ?_ GE318.out) | exact HB.out))) : w.heap.size ≤ gb319)); have n6_ := Aside0.mk ((by rw [hg]; exact Nat.ne_of_lt (blk_lt (g := gb317) (o := .cells #[.slice A0_0 l0_0.length c0_0, .slice A0_1 l0_1.length c0_1, .slice A0_2 l0_2.length c0_2] 25 (0, 0)) (by (with_reducible repeat (first | refine blk_drewN ?_ _ | refine blk_drew ?_ | refine blk_alloc ?_ _)); exact BK317.out)) : gb317 ≠ gb319)); have n7_ := Aside0.mk ((by rw [hg]; exact Nat.ne_of_gt (blk_lt (g := gb317) (o := .cells #[.slice A0_0 l0_0.length c0_0, .slice A0_1 l0_1.length c0_1, .slice A0_2 l0_2.length c0_2] 25 (0, 0)) (by (with_reducible repeat (first | refine blk_drewN ?_ _ | refine blk_drew ?_ | refine blk_alloc ?_ _)); exact BK317.out)) : gb319 ≠ gb317)); have n8_ := Aside0.mk ((by rw [hg]; exact Nat.ne_of_lt (blk_lt (g := gb318) (o := .cells #[.int .i64 a1] 3 (0, 0)) (by (with_reducible repeat (first | refine blk_drewN ?_ _ | refine blk_drew ?_ | refine blk_alloc ?_ _)); exact BK318.out)) : gb318 ≠ gb319)); have n9_ := Aside0.mk ((by rw [hg]; exact Nat.ne_of_gt (blk_lt (g := gb318) (o := .cells #[.int .i64 a1] 3 (0, 0)) (by (with_reducible repeat (first | refine blk_drewN ?_ _ | refine blk_drew ?_ | refine blk_alloc ?_ _)); exact BK318.out)) : gb319 ≠ gb318)); clear BK317; clear BK318; clear HB; have BK317 := n0_; have BK318 := n1_; have HB := n2_; have BK319 := n3_; have GW319 := n4_; have GE319 := n5_; have NB317_319 := n6_; have NB319_317 := n7_; have NB318_319 := n8_; have NB319_318 := n9_; clear n0_ n1_ n2_ n3_ n4_ n5_ n6_ n7_ n8_ n9_; clear hb hbox hg; have hnb51 := NB317_318.out; have hnc51 := NB318_317.out; have hnb52 := NB317_319.out; have hnc52 := NB319_317.out; have hcz53_0 : w50.cell? ⟨gb317, 0, none⟩ = some (.slice A0_0 l0_0.length c0_0) := (blk_cell BK317.out 0).trans rfl; have hcz53_1 : w50.cell? ⟨gb317, 1, none⟩ = some (.slice A0_1 l0_1.length c0_1) := (blk_cell BK317.out 1).trans rfl; have hcz53_2 : w50.cell? ⟨gb317, 2, none⟩ = some (.slice A0_2 l0_2.length c0_2) := (blk_cell BK317.out 2).trans rfl; have hfz53_0 := blk_frozen BK317.out 0; have hfz53_1 := blk_frozen BK317.out 1; have hfz53_2 := blk_frozen BK317.out 2) | ((with_reducible refine gate_callee (f := 18) rfl ?_); refine goesL_ (some 14) rfl rfl Tryd.func18 (by kernel_rfl) rfl #[.agg #[.slice A0_0 l0_0.length c0_0, .slice A0_1 l0_1.length c0_1, .slice A0_2 l0_2.length c0_2]] rfl (by (try simp only [List.map_toArray, List.map_cons, List.map_nil]); first | done | rfl | (simp only [List.length_drop, List.length_take]; rfl)) ?_; (with_reducible refine (correct_Check.calls k _ _ l0_0 _ _ l0_1 _ _ l0_2 t320 _ ?side1 ?side2 ?side3 ?side4 ?side5 ?side6 A4.out).mono ?_); (case side1 => repeat (first | exact (Kd.C_below HR0_0.out HB.out) | (with_reducible refine Kd.C_alloc ?_ _) | (with_reducible refine Kd.C_drewN ?_ _) | (with_reducible refine Kd.C_drew ?_))); (case side2 => exact HC0_0.out); (case side3 => repeat (first | exact (Kd.C_below HR0_1.out HB.out) | (with_reducible refine Kd.C_alloc ?_ _) | (with_reducible refine Kd.C_drewN ?_ _) | (with_reducible refine Kd.C_drew ?_))); (case side4 => exact HC0_1.out); (case side5 => repeat (first | exact (Kd.C_below HR0_2.out HB.out) | (with_reducible refine Kd.C_alloc ?_ _) | (with_reducible refine Kd.C_drewN ?_ _) | (with_reducible refine Kd.C_drew ?_))); (case side6 => exact HC0_2.out); rintro e w54 ⟨rfl, hb⟩; refine ⟨_, rfl, ?_⟩; have n0_ := Aside0.mk (blk_below (g := gb317) (o := .cells #[.slice A0_0 l0_0.length c0_0, .slice A0_1 l0_1.length c0_1, .slice A0_2 l0_2.length c0_2] 25 (0, 0)) (by (with_reducible repeat (first | refine blk_drewN ?_ _ | refine blk_drew ?_ | refine blk_alloc ?_ _)); exact BK317.out) hb); have n1_ := Aside0.mk (blk_below (g := gb318) (o := .cells #[.int .i64 a1] 3 (0, 0)) (by (with_reducible repeat (first | refine blk_drewN ?_ _ | refine blk_drew ?_ | refine blk_alloc ?_ _)); exact BK318.out) hb); have n2_ := Aside0.mk (blk_below (g := gb319) (o := .cells #[.int .i64 a2] 3 (0, 0)) (by (with_reducible repeat (first | refine blk_drewN ?_ _ | refine blk_drew ?_ | refine blk_alloc ?_ _)); exact BK319.out) hb); have n3_ := Aside0.mk (below_step (by repeat (first | (with_reducible first | exact HB.out | apply below_alloc | apply pw_below_drewN | apply below_drew1 | refine below_set ?_ GE317.out | refine below_set ?_ GE318.out | refine below_set ?_ GE319.out) | exact HB.out)) hb); clear BK317; clear BK318; clear BK319; clear HB; have BK317 := n0_; have BK318 := n1_; have BK319 := n2_; have HB := n3_; clear n0_ n1_ n2_ n3_; (try clear hb); (try clear hb2); (try clear hk); (try clear hi)))
  go_ret2
  exact ⟨by first | rfl | (simp [errW_none, errW_some] <;> rfl) | (simp [*, errW_none, errW_some] <;> rfl), by repeat (first | (with_reducible first | exact HB.out | apply below_alloc | apply pw_below_drewN | apply below_drew1 | refine below_set ?_ GE317.out | refine below_set ?_ GE318.out | refine below_set ?_ GE319.out) | exact HB.out)⟩
end Go.Proofs.YtmdfnambaedllaaDoor.Pr
namespace Go.Proofs.YtmdfnambaedllaaDoor.Pr
open Go.RowKit Go.Proofs.YtmdfnambaedllaaDoorW.PrintWords Go.Proofs.YtmdfnambaedllaaDoorW.PrintLast Go.Proofs.YtmdfnambaedllaaDoorW.PrintMore Go.Proofs.YtmdfnambaedllaaDoor.X
attribute [local go_sem] max2_int min2_int max_two min_two max_three min_three max_four min_four   -- for this text's walks alone
set_option linter.unusedVariables false
set_option linter.unusedSimpArgs false
mutual
def spileref19_Apparent.j0 : Nat → Int → Int → Bool → List Int → List Int → List (List Int) → Option (Int × Int)
 | 0, _, _, _, _, _, _ => none
 | k + 1, x1, x2, x26, x329000, x329001, x329002 => if x26 = true then (some (0, 2)) else (if 0 < (x329001.length : Int) then (if 0 ≤ (wrap64 ((x329001.length : Int) - 1)) then (if (wrap64 ((x329001.length : Int) - 1)) < (x329001.length : Int) then ((spileref19_At.f k x329000 x329001 x329002 x1 (rd x329001 0)).bind fun t333 => (if t333 > x2 then (some (0, 7)) else (spileref19_Apparent.l0 k x1 x2 (rd x329001 0) (rd x329001 (wrap64 ((x329001.length : Int) - 1))) x329000 x329001 x329002))) else (none)) else (none)) else (none))
def spileref19_Apparent.l0 : Nat → Int → Int → Int → Int → List Int → List Int → List (List Int) → Option (Int × Int)
 | 0, _, _, _, _, _, _, _ => none
 | k + 1, x1, x2, x8, x9, x329000, x329001, x329002 => if x8 < x9 then ((spileref19_At.f k x329000 x329001 x329002 x1 (wrap64 (Int.tdiv (wrap64 ((wrap64 (x8 + x9)) + 1)) 2))).bind fun t334 => (if t334 ≤ x2 then (spileref19_Apparent.l0 k x1 x2 (wrap64 (Int.tdiv (wrap64 ((wrap64 (x8 + x9)) + 1)) 2)) x9 x329000 x329001 x329002) else (spileref19_Apparent.l0 k x1 x2 x8 (wrap64 ((wrap64 (Int.tdiv (wrap64 ((wrap64 (x8 + x9)) + 1)) 2)) - 1)) x329000 x329001 x329002))) else (some (x8, 0))
end
def spileref19_Apparent.f (k : Nat) (l0_0 : List Int) (l0_1 : List Int) (l0_2 : List (List Int)) (a1 : Int) (a2 : Int) : Option (Int × Int) := (spileref19_Check.f k l0_0 l0_1 l0_2).bind fun t329 => (if t329 = 0 then ((spileref19_inside.f l0_0 a1).bind fun t330 => (if t330 = true then (if a2 < 0 then (spileref19_Apparent.j0 k a1 a2 true l0_0 l0_1 l0_2) else (spileref19_Apparent.j0 k a1 a2 (decide (a2 > 10000)) l0_0 l0_1 l0_2)) else (spileref19_Apparent.j0 k a1 a2 true l0_0 l0_1 l0_2))) else (some (0, 1)))
theorem spileref19_Apparent.mono_l : ∀ k, (∀ y0 y1 y2 y3 y4 y5, LeO (spileref19_Apparent.j0 k y0 y1 y2 y3 y4 y5) (spileref19_Apparent.j0 (k + 1) y0 y1 y2 y3 y4 y5)) ∧ (∀ y0 y1 y2 y3 y4 y5 y6, LeO (spileref19_Apparent.l0 k y0 y1 y2 y3 y4 y5 y6) (spileref19_Apparent.l0 (k + 1) y0 y1 y2 y3 y4 y5 y6))
 | 0 => ⟨fun _ _ _ _ _ _ r h => by simp [spileref19_Apparent.j0] at h, fun _ _ _ _ _ _ _ r h => by simp [spileref19_Apparent.l0] at h⟩
 | k + 1 => by
  obtain ⟨ih0, ih1⟩ := spileref19_Apparent.mono_l k
  refine ⟨?_, ?_⟩
  ·
   intro y0 y1 y2 y3 y4 y5
   unfold spileref19_Apparent.j0
   repeat' first
   | (with_reducible exact ih0 _ _ _ _ _ _)
   | (with_reducible exact ih1 _ _ _ _ _ _ _)
   | (with_reducible exact spileref19_At.mono _ _ _ _ _ _)
   | (with_reducible exact spileref19_Check.mono _ _ _ _)
   | (with_reducible exact LeO.refl _)
   | (with_reducible exact LeO.none _)
   | (with_reducible refine LeO.ite ?_ ?_)
   | (with_reducible refine LeO.bind ?_ (fun _ => ?_))
   | exact ih0 _ _ _ _ _ _
   | exact ih1 _ _ _ _ _ _ _
   | exact spileref19_At.mono _ _ _ _ _ _
   | exact spileref19_Check.mono _ _ _ _
   | exact LeO.none _
   | refine LeO.ite ?_ ?_
   | refine LeO.bind ?_ (fun _ => ?_)
  ·
   intro y0 y1 y2 y3 y4 y5 y6
   unfold spileref19_Apparent.l0
   repeat' first
   | (with_reducible exact ih0 _ _ _ _ _ _)
   | (with_reducible exact ih1 _ _ _ _ _ _ _)
   | (with_reducible exact spileref19_At.mono _ _ _ _ _ _)
   | (with_reducible exact spileref19_Check.mono _ _ _ _)
   | (with_reducible exact LeO.refl _)
   | (with_reducible exact LeO.none _)
   | (with_reducible refine LeO.ite ?_ ?_)
   | (with_reducible refine LeO.bind ?_ (fun _ => ?_))
   | exact ih0 _ _ _ _ _ _
   | exact ih1 _ _ _ _ _ _ _
   | exact spileref19_At.mono _ _ _ _ _ _
   | exact spileref19_Check.mono _ _ _ _
   | exact LeO.none _
   | refine LeO.ite ?_ ?_
   | refine LeO.bind ?_ (fun _ => ?_)
theorem spileref19_Apparent.mono : ∀ a0 a1 a2 a3 a4 k, LeO (spileref19_Apparent.f k a0 a1 a2 a3 a4) (spileref19_Apparent.f (k + 1) a0 a1 a2 a3 a4) := by
 intro a0 a1 a2 a3 a4 k
 obtain ⟨ih0, ih1⟩ := spileref19_Apparent.mono_l k
 unfold spileref19_Apparent.f
 repeat' first
   | (with_reducible exact ih0 _ _ _ _ _ _)
   | (with_reducible exact ih1 _ _ _ _ _ _ _)
   | (with_reducible exact spileref19_At.mono _ _ _ _ _ _)
   | (with_reducible exact spileref19_Check.mono _ _ _ _)
   | (with_reducible exact LeO.refl _)
   | (with_reducible exact LeO.none _)
   | (with_reducible refine LeO.ite ?_ ?_)
   | (with_reducible refine LeO.bind ?_ (fun _ => ?_))
   | exact ih0 _ _ _ _ _ _
   | exact ih1 _ _ _ _ _ _ _
   | exact spileref19_At.mono _ _ _ _ _ _
   | exact spileref19_Check.mono _ _ _ _
   | exact LeO.none _
   | refine LeO.ite ?_ ?_
   | refine LeO.bind ?_ (fun _ => ?_)
end Go.Proofs.YtmdfnambaedllaaDoor.Pr
namespace Go.Proofs.YtmdfnambaedllaaDoor.Pr
open Go.RowKit Go.Proofs.YtmdfnambaedllaaDoorW.PrintWords Go.Proofs.YtmdfnambaedllaaDoorW.PrintLast Go.Proofs.YtmdfnambaedllaaDoorW.PrintMore Go.Proofs.YtmdfnambaedllaaDoor.X
attribute [local go_sem] max2_int min2_int max_two min_two max_three min_three max_four min_four   -- for this text's walks alone
set_option linter.unusedVariables false
set_option linter.unusedSimpArgs false
def spilelaw19_CorrectReads.f (k : Nat) (l0_0 : List Int) (l0_1 : List Int) (l0_2 : List (List Int)) (a1 : Int) (a2 : Int) : Option (Bool) := (spilelaw19_awake.f).bind fun t336 => (if t336 = true then ((spileref19_Few.f k l0_0 l0_1 l0_2).bind fun t337 => (if t337 = true then ((correct_True.f k l0_0 l0_1 l0_2 a1 a2).bind fun bt338 => ((spileref19_True.f k l0_0 l0_1 l0_2 a1 a2).bind fun bt340 => ((correct_Apparent.f k l0_0 l0_1 l0_2 a1 a2).bind fun bt342 => ((spileref19_Apparent.f k l0_0 l0_1 l0_2 a1 a2).bind fun bt344 => ((correct_Check.f k l0_0 l0_1 l0_2).bind fun t346 => ((spileref19_Check.f k l0_0 l0_1 l0_2).bind fun t347 => (if t346 = t347 then (if bt338.1 = bt340.1 then (if bt338.2 = bt340.2 then (if bt342.1 = bt344.1 then (some (bt342.2 == bt344.2)) else (some false)) else (some false)) else (some false)) else (some false)))))))) else (some true))) else (some false))
theorem spilelaw19_CorrectReads.mono : ∀ a0 a1 a2 a3 a4 k, LeO (spilelaw19_CorrectReads.f k a0 a1 a2 a3 a4) (spilelaw19_CorrectReads.f (k + 1) a0 a1 a2 a3 a4) := by
 intro a0 a1 a2 a3 a4 k
 unfold spilelaw19_CorrectReads.f
 repeat' first
   | (with_reducible exact correct_Apparent.mono _ _ _ _ _ _)
   | (with_reducible exact correct_Check.mono _ _ _ _)
   | (with_reducible exact correct_True.mono _ _ _ _ _ _)
   | (with_reducible exact spileref19_Apparent.mono _ _ _ _ _ _)
   | (with_reducible exact spileref19_Check.mono _ _ _ _)
   | (with_reducible exact spileref19_Few.mono _ _ _ _)
   | (with_reducible exact spileref19_True.mono _ _ _ _ _ _)
   | (with_reducible exact LeO.refl _)
   | (with_reducible exact LeO.none _)
   | (with_reducible refine LeO.ite ?_ ?_)
   | (with_reducible refine LeO.bind ?_ (fun _ => ?_))
   | exact correct_Apparent.mono _ _ _ _ _ _
   | exact correct_Check.mono _ _ _ _
   | exact correct_True.mono _ _ _ _ _ _
   | exact spileref19_Apparent.mono _ _ _ _ _ _
   | exact spileref19_Check.mono _ _ _ _
   | exact spileref19_Few.mono _ _ _ _
   | exact spileref19_True.mono _ _ _ _ _ _
   | exact LeO.none _
   | refine LeO.ite ?_ ?_
   | refine LeO.bind ?_ (fun _ => ?_)
end Go.Proofs.YtmdfnambaedllaaDoor.Pr
namespace Go.Proofs.YtmdfnambaedllaaDoor.Opn
open Go Go.RowKit Go.Proofs.YtmdfnambaedllaaDoorW.PrintWords Go.Proofs.YtmdfnambaedllaaDoor.O Go.Proofs.YtmdfnambaedllaaDoor.Pr
theorem opens3 : Opens Tryd.prog 3 (Kd.int .i64) (fun x => (Lit.int .i64 x).wf = true) := opens_int Tryd.underlying3 (by kernel_rfl)
theorem opens22 : Opens Tryd.prog 22 (Kd.slice 3 (Kd.int .i64)) (fun x => (x.length ≤ maxLen ∧ ∀ x0_, x0_ ∈ x → (Lit.int .i64 x0_).wf = true)) := opens_slice (P := Tryd.prog) (t := 22) (e := 3) Tryd.underlying22 (by kernel_rfl) opens3
theorem opens23 : Opens Tryd.prog 23 (Kd.slice 22 (Kd.slice 3 (Kd.int .i64))) (fun x => (x.length ≤ maxLen ∧ ∀ x0_, x0_ ∈ x → (x0_.length ≤ maxLen ∧ ∀ x1_, x1_ ∈ x0_ → (Lit.int .i64 x1_).wf = true))) := opens_slice (P := Tryd.prog) (t := 23) (e := 22) Tryd.underlying23 (by kernel_rfl) opens22
def ok25 (x : S25) : Prop := (x.f0.length ≤ maxLen ∧ ∀ x0_, x0_ ∈ x.f0 → (Lit.int .i64 x0_).wf = true) ∧ (x.f1.length ≤ maxLen ∧ ∀ x0_, x0_ ∈ x.f1 → (Lit.int .i64 x0_).wf = true) ∧ (x.f2.length ≤ maxLen ∧ ∀ x0_, x0_ ∈ x.f2 → (x0_.length ≤ maxLen ∧ ∀ x1_, x1_ ∈ x0_ → (Lit.int .i64 x1_).wf = true))
theorem opens25 : Opens Tryd.prog 25 k25 ok25 :=
  ⟨by kernel_rfl, fun H enc w base sp held fuel cs x h => by
    obtain ⟨xs, n, _, _, hl, hx, hf⟩ := DataW.trod_struct Tryd.underlying25 h
    have hc_ : Tryd.prog.cellsOf 25 = 3 := by kernel_rfl
    rw [hc_] at hl
    obtain ⟨c0, c1, c2, rfl⟩ : ∃ c0 c1 c2, cs = [c0, c1, c2] := by
      clear h hf hx
      rcases cs with _ | ⟨c0, _ | ⟨c1, _ | ⟨c2, _ | ⟨_, _⟩⟩⟩⟩
      all_goals first | exact ⟨_, _, _, rfl⟩ | (simp at hl)
    obtain ⟨y0, hy0⟩ : ∃ y, xs[0]? = some y := ⟨xs[0]'(by rw [hx]; decide), List.getElem?_eq_getElem _⟩
    have e0 : DataW.trod enc Tryd.prog w base sp held n 22 ((List.drop 0 [c0, c1, c2]).take (Tryd.prog.cellsOf 22)) = xs[0]? := hf 0 _ rfl
    rw [hy0, show Tryd.prog.cellsOf 22 = 1 from by kernel_rfl] at e0
    obtain ⟨v0, K0, o0⟩ := opens22.2 H enc w base sp held n _ _ e0
    replace K0 : (Kd.slice 3 (Kd.int .i64)).K w v0 [c0] := K0
    obtain ⟨y1, hy1⟩ : ∃ y, xs[1]? = some y := ⟨xs[1]'(by rw [hx]; decide), List.getElem?_eq_getElem _⟩
    have e1 : DataW.trod enc Tryd.prog w base sp held n 22 ((List.drop 1 [c0, c1, c2]).take (Tryd.prog.cellsOf 22)) = xs[1]? := hf 1 _ rfl
    rw [hy1, show Tryd.prog.cellsOf 22 = 1 from by kernel_rfl] at e1
    obtain ⟨v1, K1, o1⟩ := opens22.2 H enc w base sp held n _ _ e1
    replace K1 : (Kd.slice 3 (Kd.int .i64)).K w v1 [c1] := K1
    obtain ⟨y2, hy2⟩ : ∃ y, xs[2]? = some y := ⟨xs[2]'(by rw [hx]; decide), List.getElem?_eq_getElem _⟩
    have e2 : DataW.trod enc Tryd.prog w base sp held n 23 ((List.drop 2 [c0, c1, c2]).take (Tryd.prog.cellsOf 23)) = xs[2]? := hf 2 _ rfl
    rw [hy2, show Tryd.prog.cellsOf 23 = 1 from by kernel_rfl] at e2
    obtain ⟨v2, K2, o2⟩ := opens23.2 H enc w base sp held n _ _ e2
    replace K2 : (Kd.slice 22 (Kd.slice 3 (Kd.int .i64))).K w v2 [c2] := K2
    obtain ⟨A0, q0, w0, m0, g0⟩ := K0
    obtain rfl : c0 = _ := List.singleton_inj.1 w0
    obtain ⟨A1, q1, w1, m1, g1⟩ := K1
    obtain rfl : c1 = _ := List.singleton_inj.1 w1
    obtain ⟨A2, q2, w2, m2, g2⟩ := K2
    obtain rfl : c2 = _ := List.singleton_inj.1 w2
    refine ⟨⟨v0, v1, v2⟩, ?_, o0, o1, o2⟩
    exact k25_mk w ⟨v0, v1, v2⟩ m0 g0 m1 g1 m2 g2⟩
end Go.Proofs.YtmdfnambaedllaaDoor.Opn
namespace Go.Proofs.YtmdfnambaedllaaDoor.PL
open Go Go.RowKit Go.Proofs.YtmdfnambaedllaaDoorW.PrintWords Go.Proofs.YtmdfnambaedllaaDoorW.PrintLast Go.Proofs.YtmdfnambaedllaaDoorW.PrintMore
theorem evp {α : Type} {c : Prop} [Decidable c] {g h : Nat → Option α} {r : α} (hc : c) (k : Ev g r) : Ev (fun n => if c then g n else h n) r :=
  Ev.congr (fun n => if_pos hc) k
theorem evn {α : Type} {c : Prop} [Decidable c] {g h : Nat → Option α} {r : α} (hc : ¬ c) (k : Ev h r) : Ev (fun n => if c then g n else h n) r :=
  Ev.congr (fun n => if_neg hc) k
theorem evb {α β : Type} {g : Nat → Option α} {f : Nat → α → Option β} {a : α} {r : β} (h : Ev g a) (k : Ev (fun n => f n a) r) : Ev (fun n => (g n).bind (f n)) r := Ev.bind h k
theorem evr {α : Type} {a r : α} (h : a = r) : Ev (fun _ => some a) r := by subst h; exact Ev.now _
theorem evc {α : Type} {g : Nat → Option α} {r : α} {o : Option α} (hg : ∀ n, g n = o) (h : o = some r) : Ev g r := by
  subst h
  exact Ev.congr hg (Ev.now _)
/-- A loop that counts upwards to n. -/
theorem count_up (a n : Int) (P : Int → Prop) (hend : P n) (hround : ∀ i, a ≤ i → i < n → P (i + 1) → P i) : ∀ i, a ≤ i → i ≤ n → P i := by
  intro i h0 h1
  obtain ⟨d, hd⟩ : ∃ d : Nat, n - i = d := ⟨(n - i).toNat, by omega⟩
  induction d generalizing i with
  | zero =>
    obtain rfl : i = n := by omega
    exact hend
  | succ d ih => exact hround i h0 (by omega) (ih (i + 1) (by omega) (by omega) (by omega))
theorem w64 {x : Int} (h0 : -9223372036854775808 ≤ x) (h1 : x ≤ 9223372036854775807) : wrap64 x = x := by
  unfold wrap64
  omega
theorem w64_succ {i n : Int} (h0 : 0 ≤ i) (h : i < n) (hn : n ≤ 9223372036854775807) : wrap64 (i + 1) = i + 1 := w64 (by omega) (by omega)
theorem w64_pred {i n : Int} (h0 : 0 ≤ i) (h : i ≤ n) (hn : n ≤ 9223372036854775807) : wrap64 (i - 1) = i - 1 := w64 (by omega) (by omega)
theorem len_le {α : Type} {l : List α} (h : l.length ≤ maxLen) : (l.length : Int) ≤ 9223372036854775807 := by
  have : l.length ≤ 9223372036854775807 := by simpa [maxLen] using h
  omega
/-- A test that comes to true where P holds, and else to false. -/
def EvB (g : Nat → Option Bool) (P : Prop) : Prop := (P → Ev g true) ∧ (¬ P → Ev g false)
theorem EvB.iff {g : Nat → Option Bool} {P Q : Prop} (h : EvB g P) (e : P ↔ Q) : EvB g Q := ⟨fun q => h.1 (e.2 q), fun q => h.2 (fun p => q (e.1 p))⟩
theorem EvB.map {g : Nat → Option Bool} {f : Nat → Bool → Option Bool} {P Q : Prop} (h : EvB g P) (ht : P → EvB (fun n => f n true) Q) (hf : ¬ P → EvB (fun n => f n false) Q) : EvB (fun n => (g n).bind (f n)) Q := by
  by_cases hp : P
  · exact ⟨fun q => Ev.bind (h.1 hp) ((ht hp).1 q), fun q => Ev.bind (h.1 hp) ((ht hp).2 q)⟩
  · exact ⟨fun q => Ev.bind (h.2 hp) ((hf hp).1 q), fun q => Ev.bind (h.2 hp) ((hf hp).2 q)⟩
theorem evB_all (a n : Int) (Q : Int → Prop) (L : Int → Nat → Option Bool) (hend : Ev (L n) true) (hno : ∀ i, a ≤ i → i < n → ¬ Q i → Ev (L i) false)
    (hyes : ∀ i, a ≤ i → i < n → Q i → ∀ b, Ev (L (i + 1)) b → Ev (L i) b) : ∀ i, a ≤ i → i ≤ n → EvB (L i) (∀ j, i ≤ j → j < n → Q j) := by
  refine count_up a n _ ⟨fun _ => hend, fun h => absurd (fun j h1 h2 => absurd h2 (by omega)) h⟩ ?_
  intro i h0 h1 ih
  by_cases hq : Q i
  · refine ⟨fun h => hyes i h0 h1 hq _ (ih.1 fun j hj hn => h j (by omega) hn), fun h => hyes i h0 h1 hq _ (ih.2 fun h2 => h fun j hj hn => ?_)⟩
    by_cases e : j = i
    · subst e; exact hq
    · exact h2 j (by omega) hn
  · exact ⟨fun h => absurd (h i (by omega) h1) hq, fun _ => hno i h0 h1 hq⟩
theorem index_ev (n : Int) (Q : Int → Prop) (L : Int → Nat → Option Int) (hend : Ev (L n) (-1)) (hyes : ∀ i, 0 ≤ i → i < n → Q i → Ev (L i) i)
    (hno : ∀ i, 0 ≤ i → i < n → ¬ Q i → ∀ r, Ev (L (i + 1)) r → Ev (L i) r) : ∀ i, 0 ≤ i → i ≤ n →
    ∃ r, Ev (L i) r ∧ ((0 ≤ r ∧ i ≤ r ∧ r < n ∧ Q r ∧ ∀ j, i ≤ j → j < r → ¬ Q j) ∨ (r = -1 ∧ ∀ j, i ≤ j → j < n → ¬ Q j)) := by
  refine count_up 0 n _ ⟨-1, hend, .inr ⟨rfl, fun j h1 h2 => absurd h2 (by omega)⟩⟩ ?_
  intro i h0 h1 ih
  by_cases hq : Q i
  · exact ⟨i, hyes i h0 h1 hq, .inl ⟨h0, by omega, h1, hq, fun j h2 h3 => absurd h3 (by omega)⟩⟩
  · obtain ⟨r, hr, h⟩ := ih
    refine ⟨r, hno i h0 h1 hq _ hr, ?_⟩
    have ext : ∀ b, (∀ j, i + 1 ≤ j → j < b → ¬ Q j) → ∀ j, i ≤ j → j < b → ¬ Q j := fun b h2 j hj hb => by
      by_cases e : j = i
      · subst e; exact hq
      · exact h2 j (by omega) hb
    rcases h with ⟨a, b, c, d, e⟩ | ⟨a, b⟩
    · exact .inl ⟨a, by omega, c, d, ext r e⟩
    · exact .inr ⟨a, ext n b⟩
theorem u64w {x : Int} (h0 : 0 ≤ x) (h1 : x ≤ 9223372036854775807) : IntKind.u64.wrap x = x := by
  unfold IntKind.wrap
  simp [IntKind.signed, IntKind.bits]
  omega
theorem half {i j : Int} (h0 : 0 ≤ i) (h1 : i < j) (h2 : j ≤ 4611686018427387904) : wrap64 ((IntKind.u64.wrap (wrap64 (i + j))) / 2) = (i + j) / 2 := by
  rw [w64 (x := i + j) (by omega) (by omega), u64w (by omega) (by omega), w64 (by omega) (by omega)]
/-- A search by halves. -/
theorem search_ev (n : Int) (Q : Int → Prop) (L : Int → Int → Nat → Option Int)
    (hend : ∀ i, 0 ≤ i → i ≤ n → Ev (L i i) i) (hyes : ∀ i j, 0 ≤ i → i < j → j ≤ n → Q ((i + j) / 2) → ∀ r, Ev (L i ((i + j) / 2)) r → Ev (L i j) r)
    (hno : ∀ i j, 0 ≤ i → i < j → j ≤ n → ¬ Q ((i + j) / 2) → ∀ r, Ev (L ((i + j) / 2 + 1) j) r → Ev (L i j) r)
    (mono : ∀ a b, 0 ≤ a → a ≤ b → b < n → Q a → Q b) (hn : 0 ≤ n) :
    ∃ r, Ev (L 0 n) r ∧ 0 ≤ r ∧ r ≤ n ∧ (∀ a, 0 ≤ a → a < r → ¬ Q a) ∧ (∀ a, r ≤ a → a < n → Q a) := by
  have go : ∀ (d : Nat) (i j : Int), 0 ≤ i → i ≤ j → j ≤ n → j - i ≤ d → (∀ a, 0 ≤ a → a < i → ¬ Q a) → (∀ a, j ≤ a → a < n → Q a) →
      ∃ r, Ev (L i j) r ∧ 0 ≤ r ∧ r ≤ n ∧ (∀ a, 0 ≤ a → a < r → ¬ Q a) ∧ (∀ a, r ≤ a → a < n → Q a) := by
    intro d
    induction d with
    | zero =>
      intro i j h0 h1 h2 h3 hl hr
      obtain rfl : i = j := by omega
      exact ⟨i, hend i h0 h2, h0, h2, hl, hr⟩
    | succ d ih =>
      intro i j h0 h1 h2 h3 hl hr
      by_cases e : i = j
      · subst e
        exact ⟨i, hend i h0 h2, h0, h2, hl, hr⟩
      · by_cases q : Q ((i + j) / 2)
        · obtain ⟨r, hr2, h⟩ := ih i ((i + j) / 2) h0 (by omega) (by omega) (by omega) hl (fun a ha hb => mono ((i + j) / 2) a (by omega) ha hb q)
          exact ⟨r, hyes i j h0 (by omega) h2 q r hr2, h⟩
        · obtain ⟨r, hr2, h⟩ := ih ((i + j) / 2 + 1) j (by omega) (by omega) h2 (by omega) (fun a ha hb qa => q (mono a ((i + j) / 2) ha (by omega) (by omega) qa)) hr
          exact ⟨r, hno i j h0 (by omega) h2 q r hr2, h⟩
  exact go n.toNat 0 n (by omega) hn (by omega) (by omega) (fun a h0 h1 => absurd h1 (by omega)) (fun a h0 h1 => absurd h1 (by omega))
theorem mulb {x y X Y : Int} (h0 : 0 ≤ x) (h1 : x ≤ X) (k0 : 0 ≤ y) (k1 : y ≤ Y) : 0 ≤ x * y ∧ x * y ≤ X * Y :=
  ⟨Int.mul_nonneg h0 k0, Int.mul_le_mul h1 k1 k0 (Int.le_trans h0 h1)⟩
end Go.Proofs.YtmdfnambaedllaaDoor.PL
namespace Go.Proofs.YtmdfnambaedllaaDoor.Pure
open Go Go.RowKit Go.Proofs.YtmdfnambaedllaaDoorW.PrintWords Go.Proofs.YtmdfnambaedllaaDoorW.PrintLast Go.Proofs.YtmdfnambaedllaaDoorW.PrintMore Go.Proofs.YtmdfnambaedllaaDoor.Pr Go.Proofs.YtmdfnambaedllaaDoor.PL
theorem contains_of_index {g : Nat → Option Int} {n : Int} {Q : Int → Prop}
    (h : ∃ r, Ev g r ∧ ((0 ≤ r ∧ 0 ≤ r ∧ r < n ∧ Q r ∧ ∀ j, 0 ≤ j → j < r → ¬ Q j) ∨ (r = -1 ∧ ∀ j, 0 ≤ j → j < n → ¬ Q j))) :
    EvB (fun k => (g k).bind fun t => some (decide (t ≥ 0))) (∃ j, 0 ≤ j ∧ j < n ∧ Q j) := by
  obtain ⟨r, hr, ⟨a, _, b, c, _⟩ | ⟨rfl, a⟩⟩ := h
  · exact ⟨fun _ => Ev.bind hr (evr (by simp [a])), fun hn => absurd ⟨r, a, b, c⟩ hn⟩
  · exact ⟨fun ⟨j, h0, h1, h2⟩ => absurd h2 (a j h0 h1), fun _ => Ev.bind hr (evr (by simp))⟩
abbrev Out (lo hi x : Int) : Prop := x < lo ∨ hi < x
theorem strange_eq (x : Int) : correct_strange.f x = some (decide (Out 0 10000 x)) := by
  unfold correct_strange.f Out
  by_cases h : x < 0
  · rw [if_pos h]; simp [h]
  · rw [if_neg h]; simp [h]
theorem heat_eq (x : Int) : correct_Check_2.f x = some (decide (Out (-400) 600 x)) := by
  unfold correct_Check_2.f Out
  by_cases h : x < -400
  · rw [if_pos h]; simp [h]
  · rw [if_neg h]; simp [h]
theorem any27 (l : List Int) (hl : l.length ≤ maxLen) : EvB (fun k => slices_ContainsFunc_int_int_36_at_27.f k l) (∃ j, 0 ≤ j ∧ j < (l.length : Int) ∧ Out 0 10000 (rd l j)) := by
  have hm := len_le hl
  refine contains_of_index (g := fun k => slices_IndexFunc_int_int_57_at_27.l0 k l (l.length : Int) 0) (index_ev (l.length : Int) (fun j => Out 0 10000 (rd l j)) (fun i k => slices_IndexFunc_int_int_57_at_27.l0 k l (l.length : Int) i) ?_ ?_ ?_ 0 (by omega) (by omega))
  · exact Ev.step (fun k => slices_IndexFunc_int_int_57_at_27.l0.eq_2 ..) (evn (by omega) (Ev.now _))
  · intro i h0 h1 hq
    refine Ev.step (fun k => slices_IndexFunc_int_int_57_at_27.l0.eq_2 ..) (evp h1 (evp h0 (evp h1 (evb (evc (fun _ => rfl) (strange_eq _)) ?_))))
    rw [decide_eq_true hq]
    exact evp rfl (Ev.now _)
  · intro i h0 h1 hq r hr
    refine Ev.step (fun k => slices_IndexFunc_int_int_57_at_27.l0.eq_2 ..) (evp h1 (evp h0 (evp h1 (evb (evc (fun _ => rfl) (strange_eq _)) ?_))))
    rw [decide_eq_false hq, w64_succ h0 h1 hm]
    exact evn (by simp) hr
theorem any37 (l : List Int) (hl : l.length ≤ maxLen) : EvB (fun k => slices_ContainsFunc_int_int_36_at_37.f k l) (∃ j, 0 ≤ j ∧ j < (l.length : Int) ∧ Out (-400) 600 (rd l j)) := by
  have hm := len_le hl
  refine contains_of_index (g := fun k => slices_IndexFunc_int_int_57_at_37.l0 k l (l.length : Int) 0) (index_ev (l.length : Int) (fun j => Out (-400) 600 (rd l j)) (fun i k => slices_IndexFunc_int_int_57_at_37.l0 k l (l.length : Int) i) ?_ ?_ ?_ 0 (by omega) (by omega))
  · exact Ev.step (fun k => slices_IndexFunc_int_int_57_at_37.l0.eq_2 ..) (evn (by omega) (Ev.now _))
  · intro i h0 h1 hq
    refine Ev.step (fun k => slices_IndexFunc_int_int_57_at_37.l0.eq_2 ..) (evp h1 (evp h0 (evp h1 (evb (evc (fun _ => rfl) (heat_eq _)) ?_))))
    rw [decide_eq_true hq]
    exact evp rfl (Ev.now _)
  · intro i h0 h1 hq r hr
    refine Ev.step (fun k => slices_IndexFunc_int_int_57_at_37.l0.eq_2 ..) (evp h1 (evp h0 (evp h1 (evb (evc (fun _ => rfl) (heat_eq _)) ?_))))
    rw [decide_eq_false hq, w64_succ h0 h1 hm]
    exact evn (by simp) hr
theorem any35 (ts : List (List Int)) (m : Int) (hl : ts.length ≤ maxLen) : EvB (fun k => slices_ContainsFunc_int_int_34_at_35.f k ts m) (∃ j, 0 ≤ j ∧ j < (ts.length : Int) ∧ ¬ ((rd_L1 ts j).length : Int) = m) := by
  have hm := len_le hl
  refine contains_of_index (g := fun k => slices_IndexFunc_int_int_56_at_35.l0 k ts (ts.length : Int) 0 m) (index_ev (ts.length : Int) (fun j => ¬ ((rd_L1 ts j).length : Int) = m) (fun i k => slices_IndexFunc_int_int_56_at_35.l0 k ts (ts.length : Int) i m) ?_ ?_ ?_ 0 (by omega) (by omega))
  · exact Ev.step (fun k => slices_IndexFunc_int_int_56_at_35.l0.eq_2 ..) (evn (by omega) (Ev.now _))
  · intro i h0 h1 hq
    refine Ev.step (fun k => slices_IndexFunc_int_int_56_at_35.l0.eq_2 ..) (evp h1 (evp h0 (evp h1 (evb (a := true) (evc (fun _ => rfl) (by unfold correct_Check_1.f; simpa using hq)) ?_))))
    exact evp rfl (Ev.now _)
  · intro i h0 h1 hq r hr
    refine Ev.step (fun k => slices_IndexFunc_int_int_56_at_35.l0.eq_2 ..) (evp h1 (evp h0 (evp h1 (evb (a := false) (evc (fun _ => rfl) (by unfold correct_Check_1.f; simpa using hq)) ?_))))
    rw [w64_succ h0 h1 hm]
    exact evn (by simp) hr
def OutRow (l : List Int) : Prop := ∃ j, 0 ≤ j ∧ j < (l.length : Int) ∧ Out 0 10000 (rd l j)
theorem any38 (ts : List (List Int)) (hl : ts.length ≤ maxLen) (hr : ∀ i, 0 ≤ i → i < (ts.length : Int) → (rd_L1 ts i).length ≤ maxLen) :
    EvB (fun k => slices_ContainsFunc_int_int_34_at_38.f k ts) (∃ i, 0 ≤ i ∧ i < (ts.length : Int) ∧ OutRow (rd_L1 ts i)) := by
  have hm := len_le hl
  have row : ∀ i, 0 ≤ i → i < (ts.length : Int) → EvB (fun k => correct_Check_3.f k (rd_L1 ts i)) (OutRow (rd_L1 ts i)) := fun i h0 h1 => by
    have h := any27 (rd_L1 ts i) (hr i h0 h1)
    exact h.map (fun p => ⟨fun _ => Ev.now _, fun q => absurd p q⟩) (fun p => ⟨fun q => absurd q p, fun _ => Ev.now _⟩)
  refine contains_of_index (g := fun k => slices_IndexFunc_int_int_56_at_38.l0 k ts (ts.length : Int) 0) (index_ev (ts.length : Int) (fun j => OutRow (rd_L1 ts j)) (fun i k => slices_IndexFunc_int_int_56_at_38.l0 k ts (ts.length : Int) i) ?_ ?_ ?_ 0 (by omega) (by omega))
  · exact Ev.step (fun k => slices_IndexFunc_int_int_56_at_38.l0.eq_2 ..) (evn (by omega) (Ev.now _))
  · intro i h0 h1 hq
    exact Ev.step (fun k => slices_IndexFunc_int_int_56_at_38.l0.eq_2 ..) (evp h1 (evp h0 (evp h1 (evb ((row i h0 h1).1 hq) (evp rfl (Ev.now _))))))
  · intro i h0 h1 hq r hr
    refine Ev.step (fun k => slices_IndexFunc_int_int_56_at_38.l0.eq_2 ..) (evp h1 (evp h0 (evp h1 (evb ((row i h0 h1).2 hq) ?_))))
    rw [w64_succ h0 h1 hm]
    exact evn (by simp) hr
/-- The numbers rise. -/
def Ris (l : List Int) : Prop := ∀ j, 0 ≤ j → j < (l.length : Int) - 1 → rd l j < rd l (j + 1)
theorem rising_ev (l : List Int) (hl : l.length ≤ maxLen) (h2 : 2 ≤ l.length) : EvB (fun k => correct_rising.f k l) (Ris l) := by
  have hm := len_le hl
  have e : wrap64 ((l.length : Int) - 1) = (l.length : Int) - 1 := w64 (by omega) (by omega)
  have h := evB_all 0 ((l.length : Int) - 1) (fun j => rd l j < rd l (j + 1)) (fun i k => correct_rising.l0 k l ((l.length : Int) - 1) i) ?_ ?_ ?_ 0 (by omega) (by omega)
  · unfold correct_rising.f
    rw [e]
    exact h
  · exact Ev.step (fun k => correct_rising.l0.eq_2 ..) (evn (by omega) (Ev.now _))
  · intro i h0 h1 hq
    have e1 := w64_succ h0 h1 (by omega)
    refine Ev.step (fun k => correct_rising.l0.eq_2 ..) ?_
    rw [e1]
    exact evp h1 (evp h0 (evp (by omega) (evp (by omega) (evp (by omega) (evp (by omega) (Ev.now _))))))
  · intro i h0 h1 hq b hb
    have e1 := w64_succ h0 h1 (by omega)
    refine Ev.step (fun k => correct_rising.l0.eq_2 ..) ?_
    rw [e1]
    exact evp h1 (evp h0 (evp (by omega) (evp (by omega) (evp (by omega) (evn (by omega) hb)))))
theorem rises_ev (l : List Int) (hl : l.length ≤ maxLen) (h2 : 2 ≤ l.length) : EvB (fun k => spileref19_rises.f k l) (Ris l) := by
  have hm := len_le hl
  have h := evB_all 1 (l.length : Int) (fun j => rd l (j - 1) < rd l j) (fun i k => spileref19_rises.l0 k l i) ?_ ?_ ?_ 1 (by omega) (by omega)
  · refine EvB.iff (P := ∀ j, 1 ≤ j → j < (l.length : Int) → rd l (j - 1) < rd l j) h ⟨fun h j h0 h1 => ?_, fun h j h0 h1 => ?_⟩
    · have := h (j + 1) (by omega) (by omega)
      rwa [show j + 1 - 1 = j from by omega] at this
    · have := h (j - 1) (by omega) (by omega)
      rwa [show j - 1 + 1 = j from by omega] at this
  · exact Ev.step (fun k => spileref19_rises.l0.eq_2 ..) (evn (by omega) (Ev.now _))
  · intro i h0 h1 hq
    have e1 : wrap64 (i - 1) = i - 1 := w64_pred (by omega) (by omega) hm
    refine Ev.step (fun k => spileref19_rises.l0.eq_2 ..) ?_
    rw [e1]
    exact evp h1 (evp (by omega) (evp (by omega) (evp (by omega) (evp (by omega) (Ev.now _)))))
  · intro i h0 h1 hq b hb
    have e1 : wrap64 (i - 1) = i - 1 := w64_pred (by omega) (by omega) hm
    have e2 := w64_succ (show 0 ≤ i by omega) h1 hm
    refine Ev.step (fun k => spileref19_rises.l0.eq_2 ..) ?_
    rw [e1, e2]
    exact evp h1 (evp (by omega) (evp (by omega) (evp (by omega) (evn (by omega) hb))))
theorem within_ev (l : List Int) (lo hi : Int) (hl : l.length ≤ maxLen) : EvB (fun k => spileref19_within.f k l lo hi) (¬ ∃ j, 0 ≤ j ∧ j < (l.length : Int) ∧ Out lo hi (rd l j)) := by
  have hm := len_le hl
  have h := evB_all 0 (l.length : Int) (fun j => ¬ Out lo hi (rd l j)) (fun i k => spileref19_within.l0 k l lo hi i) ?_ ?_ ?_ 0 (by omega) (by omega)
  · exact EvB.iff (P := ∀ j, 0 ≤ j → j < (l.length : Int) → ¬ Out lo hi (rd l j)) h ⟨fun h ⟨j, h0, h1, h2⟩ => h j h0 h1 h2, fun h j h0 h1 h2 => h ⟨j, h0, h1, h2⟩⟩
  · exact Ev.step (fun k => spileref19_within.l0.eq_2 ..) (evn (by omega) (Ev.now _))
  · intro i h0 h1 hq
    refine Ev.step (fun k => spileref19_within.l0.eq_2 ..) (evp h1 (evp h0 ?_))
    by_cases h : rd l i < lo
    · exact evp h (Ev.now _)
    · exact evn h (evp (by simp only [Out] at hq; omega) (Ev.now _))
  · intro i h0 h1 hq b hb
    simp only [Out] at hq
    refine Ev.step (fun k => spileref19_within.l0.eq_2 ..) (evp h1 (evp h0 (evn (by omega) (evn (by omega) ?_))))
    rw [w64_succ h0 h1 hm]
    exact hb
/-- Two numbers of a table contradict each other at a place. -/
def Conf (ts : List (List Int)) (i j : Int) : Prop := (0 < j ∧ rd (rd_L1 ts i) j < rd (rd_L1 ts i) (j - 1)) ∨ (0 < i ∧ rd (rd_L1 ts (i - 1)) j < rd (rd_L1 ts i) j)
def Rect (ts : List (List Int)) (m : Int) : Prop := ∀ i, 0 ≤ i → i < (ts.length : Int) → ((rd_L1 ts i).length : Int) = m
/-- A conflict at a place or behind it. -/
def BadFrom (ts : List (List Int)) (m i j : Int) : Prop := ∃ i2 j2, ((i2 = i ∧ j ≤ j2) ∨ i < i2) ∧ 0 ≤ j2 ∧ j2 < m ∧ i2 < (ts.length : Int) ∧ Conf ts i2 j2
def Says (g : Nat → Option Int) (P : Prop) : Prop := (P → Ev g 18) ∧ (¬ P → Ev g 0)
theorem says_step {g h : Nat → Option Int} {P Q : Prop} (hs : Says h Q) (e : P ↔ Q) (hg : ∀ r, Ev h r → Ev g r) : Says g P := ⟨fun p => hg _ (hs.1 (e.1 p)), fun p => hg _ (hs.2 (fun q => p (e.2 q)))⟩
theorem bad_end {ts : List (List Int)} {m i : Int} : BadFrom ts m i m ↔ BadFrom ts m (i + 1) 0 := by
  constructor
  · rintro ⟨i2, j2, h | h, h0, h1, h2, hc⟩
    · omega
    · exact ⟨i2, j2, by omega, h0, h1, h2, hc⟩
  · rintro ⟨i2, j2, h, h0, h1, h2, hc⟩
    exact ⟨i2, j2, by omega, h0, h1, h2, hc⟩
theorem bad_next {ts : List (List Int)} {m i j : Int} (h : ¬ Conf ts i j) : BadFrom ts m i j ↔ BadFrom ts m i (j + 1) := by
  constructor
  · rintro ⟨i2, j2, h | h', h0, h1, h2, hc⟩
    · by_cases e : j2 = j
      · obtain ⟨rfl, _⟩ := h
        subst e
        exact absurd hc ‹_›
      · exact ⟨i2, j2, by omega, h0, h1, h2, hc⟩
    · exact ⟨i2, j2, by omega, h0, h1, h2, hc⟩
  · rintro ⟨i2, j2, h, h0, h1, h2, hc⟩
    exact ⟨i2, j2, by omega, h0, h1, h2, hc⟩
theorem bad_none {ts : List (List Int)} {m : Int} : ¬ BadFrom ts m (ts.length : Int) 0 := by
  rintro ⟨i2, j2, h, h0, h1, h2, hc⟩
  omega
theorem bad_here {ts : List (List Int)} {m i j : Int} (h0 : 0 ≤ j) (h1 : j < m) (h2 : i < (ts.length : Int)) (h : Conf ts i j) : BadFrom ts m i j := ⟨i, j, .inl ⟨rfl, Int.le_refl _⟩, h0, h1, h2, h⟩
theorem conf_prog (hs as_ : List Int) (ts : List (List Int)) (m : Int) (hr : Rect ts m) (hl : ts.length ≤ maxLen) (hm0 : 0 ≤ m) (hm1 : m ≤ 9223372036854775807) :
    ∀ i, 0 ≤ i → i ≤ (ts.length : Int) → Says (fun k => correct_Check.l0 k ts (ts.length : Int) i hs as_ ts) (BadFrom ts m i 0) := by
  have hm := len_le hl
  refine count_up 0 (ts.length : Int) _ ⟨fun h => absurd h bad_none, fun _ => Ev.step (fun k => correct_Check.l0.eq_2 ..) (evn (by omega) (Ev.now _))⟩ ?_
  intro i h0 h1 ih
  have hrow := hr i h0 h1
  have inner := count_up 0 m (fun j => Says (fun k => correct_Check.l1 k i (rd_L1 ts i) ts (ts.length : Int) i (rd_L1 ts i) ((rd_L1 ts i).length : Int) j hs as_ ts) (BadFrom ts m i j)) ?_ ?_ 0 (by omega) hm0
  · exact says_step inner Iff.rfl (fun r h => Ev.step (fun k => correct_Check.l0.eq_2 ..) (evp h1 (evp h0 (evp h1 h))))
  · refine says_step ih bad_end (fun r h => Ev.step (fun k => correct_Check.l1.eq_2 ..) (evn (by omega) ?_))
    rw [w64_succ h0 h1 hm]
    exact h
  · intro j j0 j1 jh
    have e1 : wrap64 (j - 1) = j - 1 := w64_pred (by omega) (by omega) hm1
    have e2 := w64_succ j0 j1 hm1
    have e3 : wrap64 (i - 1) = i - 1 := w64_pred (by omega) (by omega) hm
    by_cases c1 : 0 < j ∧ rd (rd_L1 ts i) j < rd (rd_L1 ts i) (j - 1)
    · refine ⟨fun _ => Ev.step (fun k => correct_Check.l1.eq_2 ..) ?_, fun h => absurd (bad_here j0 j1 h1 (.inl c1)) h⟩
      rw [e1, e2, e3]
      exact evp (by omega) (evp j0 (evp (by omega) (evp c1.1 (evp (by omega) (evp (by omega) (evp c1.2 (Ev.now _)))))))
    · by_cases c2 : 0 < i ∧ rd (rd_L1 ts (i - 1)) j < rd (rd_L1 ts i) j
      · refine ⟨fun _ => Ev.step (fun k => correct_Check.l1.eq_2 ..) ?_, fun h => absurd (bad_here j0 j1 h1 (.inr c2)) h⟩
        have hp := hr (i - 1) (by omega) (by omega)
        have fin : Ev (fun k => if i > 0 then (if 0 ≤ i - 1 then (if i - 1 < (ts.length : Int) then (if j < ((rd_L1 ts (i - 1)).length : Int) then (if rd (rd_L1 ts i) j > rd (rd_L1 ts (i - 1)) j then some 18 else correct_Check.l1 k i (rd_L1 ts i) ts (ts.length : Int) i (rd_L1 ts i) ((rd_L1 ts i).length : Int) (j + 1) hs as_ ts) else none) else none) else none) else correct_Check.l1 k i (rd_L1 ts i) ts (ts.length : Int) i (rd_L1 ts i) ((rd_L1 ts i).length : Int) (j + 1) hs as_ ts) (18 : Int) :=
          evp c2.1 (evp (by omega) (evp (by omega) (evp (by omega) (evp c2.2 (Ev.now _)))))
        rw [e1, e2, e3]
        refine evp (by omega) (evp j0 (evp (by omega) ?_))
        by_cases jp : j > 0
        · exact evp jp (evp (by omega) (evp (by omega) (evn (fun h => c1 ⟨jp, h⟩) fin)))
        · exact evn jp fin
      · refine says_step jh (bad_next (fun h => h.elim c1 c2)) (fun r h => Ev.step (fun k => correct_Check.l1.eq_2 ..) ?_)
        have fin : Ev (fun k => if i > 0 then (if 0 ≤ i - 1 then (if i - 1 < (ts.length : Int) then (if j < ((rd_L1 ts (i - 1)).length : Int) then (if rd (rd_L1 ts i) j > rd (rd_L1 ts (i - 1)) j then some 18 else correct_Check.l1 k i (rd_L1 ts i) ts (ts.length : Int) i (rd_L1 ts i) ((rd_L1 ts i).length : Int) (j + 1) hs as_ ts) else none) else none) else none) else correct_Check.l1 k i (rd_L1 ts i) ts (ts.length : Int) i (rd_L1 ts i) ((rd_L1 ts i).length : Int) (j + 1) hs as_ ts) r := by
          by_cases ip : i > 0
          · have hp := hr (i - 1) (by omega) (by omega)
            exact evp ip (evp (by omega) (evp (by omega) (evp (by omega) (evn (fun h => c2 ⟨ip, h⟩) h))))
          · exact evn ip h
        rw [e1, e2, e3]
        refine evp (by omega) (evp j0 (evp (by omega) ?_))
        by_cases jp : j > 0
        · exact evp jp (evp (by omega) (evp (by omega) (evn (fun h => c1 ⟨jp, h⟩) fin)))
        · exact evn jp fin
end Go.Proofs.YtmdfnambaedllaaDoor.Pure
namespace Go.Proofs.YtmdfnambaedllaaDoor.Pure
open Go Go.RowKit Go.Proofs.YtmdfnambaedllaaDoorW.PrintWords Go.Proofs.YtmdfnambaedllaaDoorW.PrintLast Go.Proofs.YtmdfnambaedllaaDoorW.PrintMore Go.Proofs.YtmdfnambaedllaaDoor.Pr Go.Proofs.YtmdfnambaedllaaDoor.PL
theorem conf_ref (hs as_ : List Int) (ts : List (List Int)) (hr : Rect ts (as_.length : Int)) (hl : ts.length ≤ maxLen) (hla : as_.length ≤ maxLen) :
    ∀ i, 0 ≤ i → i ≤ (ts.length : Int) → Says (fun k => spileref19_Check.l1 k i hs as_ ts) (BadFrom ts (as_.length : Int) i 0) := by
  have hm := len_le hl
  have hm1 := len_le hla
  refine count_up 0 (ts.length : Int) _ ⟨fun h => absurd h bad_none, fun _ => Ev.step (fun k => spileref19_Check.l1.eq_2 ..) (evn (by omega) (Ev.now _))⟩ ?_
  intro i h0 h1 ih
  have hrow := hr i h0 h1
  have inner := count_up 0 (as_.length : Int) (fun j => Says (fun k => spileref19_Check.l2 k i j hs as_ ts) (BadFrom ts (as_.length : Int) i j)) ?_ ?_ 0 (by omega) (by omega)
  · exact says_step inner Iff.rfl (fun r h => Ev.step (fun k => spileref19_Check.l1.eq_2 ..) (evp h1 h))
  · refine says_step ih bad_end (fun r h => Ev.step (fun k => spileref19_Check.l2.eq_2 ..) (evn (by omega) ?_))
    rw [w64_succ h0 h1 hm]
    exact h
  · intro j j0 j1 jh
    have e1 : wrap64 (j - 1) = j - 1 := w64_pred (by omega) (by omega) hm1
    have e2 := w64_succ j0 j1 hm1
    have e3 : wrap64 (i - 1) = i - 1 := w64_pred (by omega) (by omega) hm
    by_cases c1 : 0 < j ∧ rd (rd_L1 ts i) j < rd (rd_L1 ts i) (j - 1)
    · refine ⟨fun _ => Ev.step (fun k => spileref19_Check.l2.eq_2 ..) ?_, fun h => absurd (bad_here j0 j1 h1 (.inl c1)) h⟩
      rw [e1, e2, e3]
      exact evp j1 (evp c1.1 (evp h0 (evp h1 (evp j0 (evp (by omega) (evp (by omega) (evp (by omega) (evp c1.2 (Ev.now _)))))))))
    · by_cases c2 : 0 < i ∧ rd (rd_L1 ts (i - 1)) j < rd (rd_L1 ts i) j
      · refine ⟨fun _ => Ev.step (fun k => spileref19_Check.l2.eq_2 ..) ?_, fun h => absurd (bad_here j0 j1 h1 (.inr c2)) h⟩
        have hp := hr (i - 1) (by omega) (by omega)
        rw [e1, e2, e3]
        refine evp j1 ?_
        by_cases jp : j > 0
        · exact evp jp (evp h0 (evp h1 (evp j0 (evp (by omega) (evp (by omega) (evp (by omega) (evn (fun h => c1 ⟨jp, h⟩) (evp c2.1 (evp (by omega) (evp (by omega) (evp (by omega) (evp c2.2 (Ev.now _)))))))))))))
        · exact evn jp (evp c2.1 (evp h0 (evp h1 (evp j0 (evp (by omega) (evp (by omega) (evp (by omega) (evp (by omega) (evp c2.2 (Ev.now _))))))))))
      · refine says_step jh (bad_next (fun h => h.elim c1 c2)) (fun r h => Ev.step (fun k => spileref19_Check.l2.eq_2 ..) ?_)
        rw [e1, e2, e3]
        refine evp j1 ?_
        by_cases jp : j > 0
        · refine evp jp (evp h0 (evp h1 (evp j0 (evp (by omega) (evp (by omega) (evp (by omega) (evn (fun h => c1 ⟨jp, h⟩) ?_)))))))
          by_cases ip : i > 0
          · have hp := hr (i - 1) (by omega) (by omega)
            exact evp ip (evp (by omega) (evp (by omega) (evp (by omega) (evn (fun h => c2 ⟨ip, h⟩) h))))
          · exact evn ip h
        · refine evn jp ?_
          by_cases ip : i > 0
          · have hp := hr (i - 1) (by omega) (by omega)
            exact evp ip (evp h0 (evp h1 (evp j0 (evp (by omega) (evp (by omega) (evp (by omega) (evp (by omega) (evn (fun h => c2 ⟨ip, h⟩) h))))))))
          · exact evn ip h
theorem shape_rect (hs as_ : List Int) (ts : List (List Int)) (hl : ts.length ≤ maxLen) :
    (Rect ts (as_.length : Int) → Ev (fun k => spileref19_shape.l0 k 0 hs as_ ts) 0) ∧ (¬ Rect ts (as_.length : Int) → Ev (fun k => spileref19_shape.l0 k 0 hs as_ ts) 10) := by
  have hm := len_le hl
  have h := count_up 0 (ts.length : Int) (fun i => ((∀ j, i ≤ j → j < (ts.length : Int) → ((rd_L1 ts j).length : Int) = (as_.length : Int)) → Ev (fun k => spileref19_shape.l0 k i hs as_ ts) 0) ∧ (¬ (∀ j, i ≤ j → j < (ts.length : Int) → ((rd_L1 ts j).length : Int) = (as_.length : Int)) → Ev (fun k => spileref19_shape.l0 k i hs as_ ts) 10)) ?_ ?_ 0 (by omega) (by omega)
  · exact h
  · exact ⟨fun _ => Ev.step (fun k => spileref19_shape.l0.eq_2 ..) (evn (by omega) (Ev.now _)), fun h => absurd (fun j h1 h2 => absurd h2 (by omega)) h⟩
  · intro i h0 h1 ih
    by_cases hq : ((rd_L1 ts i).length : Int) = (as_.length : Int)
    · have go : ∀ r, Ev (fun k => spileref19_shape.l0 k (i + 1) hs as_ ts) r → Ev (fun k => spileref19_shape.l0 k i hs as_ ts) r := fun r h => by
        refine Ev.step (fun k => spileref19_shape.l0.eq_2 ..) (evp h1 (evp h0 (evp hq ?_)))
        rw [w64_succ h0 h1 hm]
        exact h
      refine ⟨fun h => go _ (ih.1 fun j hj hn => h j (by omega) hn), fun h => go _ (ih.2 fun h2 => h fun j hj hn => ?_)⟩
      by_cases e : j = i
      · subst e; exact hq
      · exact h2 j (by omega) hn
    · exact ⟨fun h => absurd (h i (by omega) h1) hq, fun _ => Ev.step (fun k => spileref19_shape.l0.eq_2 ..) (evp h1 (evp h0 (evn hq (Ev.now _))))⟩
/-- A right correction table. -/
structure Valid (hs as_ : List Int) (ts : List (List Int)) : Prop where
  hs2 : 2 ≤ hs.length
  as2 : 2 ≤ as_.length
  hs32 : hs.length ≤ 32
  as32 : as_.length ≤ 32
  rows : ts.length = hs.length
  rect : Rect ts (as_.length : Int)
  heat : ∀ j, 0 ≤ j → j < (hs.length : Int) → -400 ≤ rd hs j ∧ rd hs j ≤ 600
  str : ∀ j, 0 ≤ j → j < (as_.length : Int) → 0 ≤ rd as_ j ∧ rd as_ j ≤ 10000
  num : ∀ i j, 0 ≤ i → i < (ts.length : Int) → 0 ≤ j → j < (as_.length : Int) → 0 ≤ rd (rd_L1 ts i) j ∧ rd (rd_L1 ts i) j ≤ 10000
  hris : Ris hs
  aris : Ris as_
  conf : ∀ i j, 0 ≤ i → i < (ts.length : Int) → 0 ≤ j → j < (as_.length : Int) → ¬ Conf ts i j
theorem row_len {ts : List (List Int)} (h : ∀ x, x ∈ ts → x.length ≤ maxLen) (i : Int) (h0 : 0 ≤ i) (h1 : i < (ts.length : Int)) : (rd_L1 ts i).length ≤ maxLen := by
  refine h _ ?_
  unfold rd_L1
  rw [List.getD_eq_getElem?_getD, List.getElem?_eq_getElem (by omega)]
  exact List.getElem_mem _
theorem check_both (hs as_ : List Int) (ts : List (List Int)) (hh : hs.length ≤ maxLen) (ha : as_.length ≤ maxLen) (ht : ts.length ≤ maxLen) (hrl : ∀ x, x ∈ ts → x.length ≤ maxLen) :
    ∃ r, Ev (fun k => correct_Check.f k hs as_ ts) r ∧ Ev (fun k => spileref19_Check.f k hs as_ ts) r ∧ (r = 0 ↔ Valid hs as_ ts) := by
  have hrl' := row_len hrl
  by_cases a1 : (hs.length : Int) < 2 ∨ (as_.length : Int) < 2
  · refine ⟨9, ?_, ?_, ⟨fun h => absurd h (by decide), fun v => absurd a1 (by have := v.hs2; have := v.as2; omega)⟩⟩
    · unfold correct_Check.f
      by_cases b : (hs.length : Int) < 2
      · exact evp b (Ev.step (fun k => correct_Check.j0.eq_2 ..) (evp rfl (Ev.now _)))
      · exact evn b (Ev.step (fun k => correct_Check.j0.eq_2 ..) (evp (by simp; omega) (Ev.now _)))
    · unfold spileref19_Check.f
      refine evb (a := 9) ?_ (evn (by decide) (Ev.now _))
      unfold spileref19_shape.f
      by_cases b : (hs.length : Int) < 2
      · exact evp b (Ev.step (fun k => spileref19_shape.j0.eq_2 ..) (evp rfl (Ev.now _)))
      · exact evn b (Ev.step (fun k => spileref19_shape.j0.eq_2 ..) (evp (by simp; omega) (Ev.now _)))
  have p1 : ∀ {r}, Ev (fun k => correct_Check.j0 k (hs.length : Int) false hs as_ ts (as_.length : Int)) r → Ev (fun k => correct_Check.f k hs as_ ts) r := fun {r} h => by
    unfold correct_Check.f
    refine evn (by omega) ?_
    rw [show decide ((as_.length : Int) < 2) = false from decide_eq_false (by omega)]
    exact h
  have q1 : ∀ {r}, Ev (fun k => spileref19_shape.j0 k false hs as_ ts) r → Ev (fun k => spileref19_shape.f k hs as_ ts) r := fun {r} h => by
    unfold spileref19_shape.f
    refine evn (by omega) ?_
    rw [show decide ((as_.length : Int) < 2) = false from decide_eq_false (by omega)]
    exact h
  have fail : ∀ {r : Int}, r ≠ 0 → Ev (fun k => spileref19_shape.f k hs as_ ts) r → Ev (fun k => spileref19_Check.f k hs as_ ts) r := fun {r} hr h => by
    unfold spileref19_Check.f
    exact evb h (evn hr (Ev.now _))
  by_cases a2 : (hs.length : Int) > 32 ∨ (as_.length : Int) > 32
  · refine ⟨8, p1 ?_, fail (by decide) (q1 ?_), ⟨fun h => absurd h (by decide), fun v => absurd a2 (by have := v.hs32; have := v.as32; omega)⟩⟩
    · refine Ev.step (fun k => correct_Check.j0.eq_2 ..) (evn (by decide) ?_)
      by_cases b : (hs.length : Int) > 32
      · exact evp b (Ev.step (fun k => correct_Check.j1.eq_2 ..) (evp rfl (Ev.now _)))
      · exact evn b (Ev.step (fun k => correct_Check.j1.eq_2 ..) (evp (by simp; omega) (Ev.now _)))
    · refine Ev.step (fun k => spileref19_shape.j0.eq_2 ..) (evn (by decide) ?_)
      by_cases b : (hs.length : Int) > 32
      · exact evp b (Ev.step (fun k => spileref19_shape.j1.eq_2 ..) (evp rfl (Ev.now _)))
      · exact evn b (Ev.step (fun k => spileref19_shape.j1.eq_2 ..) (evp (by simp; omega) (Ev.now _)))
  have p2 : ∀ {r}, Ev (fun k => correct_Check.j1 k (hs.length : Int) false hs as_ ts (as_.length : Int)) r → Ev (fun k => correct_Check.f k hs as_ ts) r := fun {r} h => by
    refine p1 (Ev.step (fun k => correct_Check.j0.eq_2 ..) (evn (by decide) (evn (by omega) ?_)))
    rw [show decide ((as_.length : Int) > 32) = false from decide_eq_false (by omega)]
    exact h
  have q2 : ∀ {r}, Ev (fun k => spileref19_shape.j1 k false hs as_ ts) r → Ev (fun k => spileref19_shape.f k hs as_ ts) r := fun {r} h => by
    refine q1 (Ev.step (fun k => spileref19_shape.j0.eq_2 ..) (evn (by decide) (evn (by omega) ?_)))
    rw [show decide ((as_.length : Int) > 32) = false from decide_eq_false (by omega)]
    exact h
  have hn35 := any35 ts (as_.length : Int) ht
  by_cases a3 : ¬ ((ts.length : Int) = (hs.length : Int) ∧ Rect ts (as_.length : Int))
  · refine ⟨10, p2 ?_, fail (by decide) (q2 ?_), ⟨fun h => absurd h (by decide), fun v => absurd ⟨by have := v.rows; omega, v.rect⟩ a3⟩⟩
    · refine Ev.step (fun k => correct_Check.j1.eq_2 ..) (evn (by decide) ?_)
      by_cases b : (ts.length : Int) = (hs.length : Int)
      · refine evp b (evb (hn35.1 ?_) (Ev.step (fun k => correct_Check.j2.eq_2 ..) (evp rfl (Ev.now _))))
        exact Classical.byContradiction fun hn => a3 ⟨b, fun i h0 h1 => Classical.byContradiction fun h2 => hn ⟨i, h0, h1, h2⟩⟩
      · exact evn b (Ev.step (fun k => correct_Check.j2.eq_2 ..) (evp rfl (Ev.now _)))
    · refine Ev.step (fun k => spileref19_shape.j1.eq_2 ..) (evn (by decide) ?_)
      by_cases b : (ts.length : Int) = (hs.length : Int)
      · exact evp b ((shape_rect hs as_ ts ht).2 fun h => a3 ⟨b, h⟩)
      · exact evn b (Ev.now _)
  obtain ⟨b3, rect⟩ := Classical.not_not.1 a3
  have p3 : ∀ {r}, Ev (fun k => correct_Check.j2 k false hs as_ ts) r → Ev (fun k => correct_Check.f k hs as_ ts) r := fun {r} h =>
    p2 (Ev.step (fun k => correct_Check.j1.eq_2 ..) (evn (by decide) (evp b3 (evb (hn35.2 fun ⟨i, h0, h1, h2⟩ => h2 (rect i h0 h1)) h))))
  have q3 : Ev (fun k => spileref19_shape.f k hs as_ ts) 0 := q2 (Ev.step (fun k => spileref19_shape.j1.eq_2 ..) (evn (by decide) (evp b3 ((shape_rect hs as_ ts ht).1 rect))))
  have h37 := any37 hs hh
  have h27 := any27 as_ ha
  have wh := within_ev hs (-400) 600 hh
  have wa := within_ev as_ 0 10000 ha
  by_cases a4 : (∃ j, 0 ≤ j ∧ j < (hs.length : Int) ∧ Out (-400) 600 (rd hs j)) ∨ (∃ j, 0 ≤ j ∧ j < (as_.length : Int) ∧ Out 0 10000 (rd as_ j))
  · refine ⟨2, p3 ?_, ?_, ⟨fun h => absurd h (by decide), fun v => ?_⟩⟩
    · refine Ev.step (fun k => correct_Check.j2.eq_2 ..) (evn (by decide) ?_)
      by_cases b : ∃ j, 0 ≤ j ∧ j < (hs.length : Int) ∧ Out (-400) 600 (rd hs j)
      · exact evb (h37.1 b) (evp rfl (Ev.step (fun k => correct_Check.j3.eq_2 ..) (evp rfl (Ev.now _))))
      · exact evb (h37.2 b) (evn (by decide) (evb (h27.1 (a4.resolve_left b)) (Ev.step (fun k => correct_Check.j3.eq_2 ..) (evp rfl (Ev.now _)))))
    · unfold spileref19_Check.f
      refine evb q3 (evp rfl ?_)
      by_cases b : ∃ j, 0 ≤ j ∧ j < (hs.length : Int) ∧ Out (-400) 600 (rd hs j)
      · exact evb (wh.2 fun h => h b) (evn (by decide) (Ev.step (fun k => spileref19_Check.j0.eq_2 ..) (evp rfl (Ev.now _))))
      · exact evb (wh.1 b) (evp rfl (evb (wa.2 fun h => h (a4.resolve_left b)) (Ev.step (fun k => spileref19_Check.j0.eq_2 ..) (evp rfl (Ev.now _)))))
    · rcases a4 with ⟨j, h0, h1, h2⟩ | ⟨j, h0, h1, h2⟩
      · have := v.heat j h0 h1; simp only [Out] at h2; omega
      · have := v.str j h0 h1; simp only [Out] at h2; omega
  have a4' := not_or.1 a4
  have p4 : ∀ {r}, Ev (fun k => correct_Check.j3 k false hs as_ ts) r → Ev (fun k => correct_Check.f k hs as_ ts) r := fun {r} h =>
    p3 (Ev.step (fun k => correct_Check.j2.eq_2 ..) (evn (by decide) (evb (h37.2 a4'.1) (evn (by decide) (evb (h27.2 a4'.2) h)))))
  have q4 : ∀ {r}, Ev (fun k => spileref19_Check.l0 k 0 hs as_ ts) r → Ev (fun k => spileref19_Check.f k hs as_ ts) r := fun {r} h => by
    unfold spileref19_Check.f
    exact evb q3 (evp rfl (evb (wh.1 a4'.1) (evp rfl (evb (wa.1 a4'.2) (Ev.step (fun k => spileref19_Check.j0.eq_2 ..) (evn (by decide) h))))))
  have h38 := any38 ts ht hrl'
  have hm := len_le ht
  have rows : ∀ {r}, (∀ {P : Prop}, (P ↔ ∃ i, 0 ≤ i ∧ i < (ts.length : Int) ∧ OutRow (rd_L1 ts i)) → (P → Ev (fun k => spileref19_Check.l0 k 0 hs as_ ts) 2) ∧ (¬ P → Ev (fun k => spileref19_Check.l0 k (ts.length : Int) hs as_ ts) r → Ev (fun k => spileref19_Check.l0 k 0 hs as_ ts) r)) := fun {r P} hP => by
    have h := count_up 0 (ts.length : Int) (fun i => ((∃ j, i ≤ j ∧ j < (ts.length : Int) ∧ OutRow (rd_L1 ts j)) → Ev (fun k => spileref19_Check.l0 k i hs as_ ts) 2) ∧ (¬ (∃ j, i ≤ j ∧ j < (ts.length : Int) ∧ OutRow (rd_L1 ts j)) → Ev (fun k => spileref19_Check.l0 k (ts.length : Int) hs as_ ts) r → Ev (fun k => spileref19_Check.l0 k i hs as_ ts) r)) ?_ ?_ 0 (by omega) (by omega)
    · exact ⟨fun p => h.1 (hP.1 p), fun p => h.2 (fun q => p (hP.2 q))⟩
    · exact ⟨fun ⟨j, h0, h1, _⟩ => absurd h1 (by omega), fun _ h => h⟩
    · intro i h0 h1 ih
      have w := within_ev (rd_L1 ts i) 0 10000 (hrl' i h0 h1)
      by_cases c : OutRow (rd_L1 ts i)
      · exact ⟨fun _ => Ev.step (fun k => spileref19_Check.l0.eq_2 ..) (evp h1 (evp h0 (evb (w.2 fun h => h c) (evn (by decide) (Ev.now _))))), fun hn => absurd ⟨i, by omega, h1, c⟩ hn⟩
      · have go : ∀ r, Ev (fun k => spileref19_Check.l0 k (i + 1) hs as_ ts) r → Ev (fun k => spileref19_Check.l0 k i hs as_ ts) r := fun r h => by
          refine Ev.step (fun k => spileref19_Check.l0.eq_2 ..) (evp h1 (evp h0 (evb (w.1 c) (evp rfl ?_))))
          rw [w64_succ h0 h1 hm]
          exact h
        refine ⟨fun ⟨j, g0, g1, g2⟩ => go _ (ih.1 ?_), fun hn h => go _ (ih.2 (fun ⟨j, g0, g1, g2⟩ => hn ⟨j, by omega, g1, g2⟩) h)⟩
        by_cases e : j = i
        · subst e; exact absurd g2 c
        · exact ⟨j, by omega, g1, g2⟩
  by_cases a5 : ∃ i, 0 ≤ i ∧ i < (ts.length : Int) ∧ OutRow (rd_L1 ts i)
  · refine ⟨2, p4 (Ev.step (fun k => correct_Check.j3.eq_2 ..) (evn (by decide) (evb (h38.1 a5) (evp rfl (Ev.now _))))), q4 ((rows (r := 0) Iff.rfl).1 a5), ⟨fun h => absurd h (by decide), fun v => ?_⟩⟩
    obtain ⟨i, h0, h1, j, g0, g1, g2⟩ := a5
    have := v.num i j h0 h1 g0 (by have := rect i h0 h1; omega)
    simp only [Out] at g2
    omega
  have q5 : ∀ {r}, Ev (fun k => spileref19_Check.l0 k (ts.length : Int) hs as_ ts) r → Ev (fun k => spileref19_Check.f k hs as_ ts) r := fun {r} h => q4 ((rows Iff.rfl).2 a5 h)
  have r1 := rising_ev hs hh (by omega)
  have r2 := rising_ev as_ ha (by omega)
  have s1 := rises_ev hs hh (by omega)
  have s2 := rises_ev as_ ha (by omega)
  by_cases a6 : ¬ (Ris hs ∧ Ris as_)
  · refine ⟨5, p4 (Ev.step (fun k => correct_Check.j3.eq_2 ..) (evn (by decide) (evb (h38.2 a5) (evn (by decide) ?_)))), q5 (Ev.step (fun k => spileref19_Check.l0.eq_2 ..) (evn (by omega) ?_)), ⟨fun h => absurd h (by decide), fun v => absurd ⟨v.hris, v.aris⟩ a6⟩⟩
    · by_cases b : Ris hs
      · exact evb (r1.1 b) (evp rfl (evb (r2.2 fun h => a6 ⟨b, h⟩) (evn (by decide) (Ev.now _))))
      · exact evb (r1.2 b) (evn (by decide) (Ev.now _))
    · by_cases b : Ris hs
      · exact evb (s1.1 b) (evp rfl (evb (s2.2 fun h => a6 ⟨b, h⟩) (Ev.step (fun k => spileref19_Check.j2.eq_2 ..) (evp rfl (Ev.now _)))))
      · exact evb (s1.2 b) (evn (by decide) (Ev.step (fun k => spileref19_Check.j2.eq_2 ..) (evp rfl (Ev.now _))))
  replace a6 := Classical.not_not.1 a6
  have p6 : ∀ {r}, Ev (fun k => correct_Check.l0 k ts (ts.length : Int) 0 hs as_ ts) r → Ev (fun k => correct_Check.f k hs as_ ts) r := fun {r} h =>
    p4 (Ev.step (fun k => correct_Check.j3.eq_2 ..) (evn (by decide) (evb (h38.2 a5) (evn (by decide) (evb (r1.1 a6.1) (evp rfl (evb (r2.1 a6.2) (evp rfl h))))))))
  have q6 : ∀ {r}, Ev (fun k => spileref19_Check.l1 k 0 hs as_ ts) r → Ev (fun k => spileref19_Check.f k hs as_ ts) r := fun {r} h =>
    q5 (Ev.step (fun k => spileref19_Check.l0.eq_2 ..) (evn (by omega) (evb (s1.1 a6.1) (evp rfl (evb (s2.1 a6.2) (Ev.step (fun k => spileref19_Check.j2.eq_2 ..) (evn (by decide) h)))))))
  have c1 := conf_prog hs as_ ts (as_.length : Int) rect ht (by omega) (by omega) 0 (by omega) (by omega)
  have c2 := conf_ref hs as_ ts rect ht ha 0 (by omega) (by omega)
  by_cases a7 : BadFrom ts (as_.length : Int) 0 0
  · refine ⟨18, p6 (c1.1 a7), q6 (c2.1 a7), ⟨fun h => absurd h (by decide), fun v => ?_⟩⟩
    obtain ⟨i2, j2, h, h0, h1, h2, hc⟩ := a7
    exact absurd hc (v.conf i2 j2 (by omega) h2 h0 h1)
  · refine ⟨0, p6 (c1.2 a7), q6 (c2.2 a7), ⟨fun _ => ?_, fun _ => rfl⟩⟩
    refine ⟨by omega, by omega, by omega, by omega, by omega, rect, fun j h0 h1 => ?_, fun j h0 h1 => ?_, fun i j h0 h1 g0 g1 => ?_, a6.1, a6.2, fun i j h0 h1 g0 g1 hc => a7 ⟨i, j, by omega, g0, g1, h1, hc⟩⟩
    · exact Classical.byContradiction fun h => a4'.1 ⟨j, h0, h1, by simp only [Out]; omega⟩
    · exact Classical.byContradiction fun h => a4'.2 ⟨j, h0, h1, by simp only [Out]; omega⟩
    · exact Classical.byContradiction fun h => a5 ⟨i, h0, h1, j, g0, by have := rect i h0 h1; omega, by simp only [Out]; omega⟩
end Go.Proofs.YtmdfnambaedllaaDoor.Pure
namespace Go.Proofs.YtmdfnambaedllaaDoor.Pure
open Go Go.RowKit Go.Proofs.YtmdfnambaedllaaDoorW.PrintWords Go.Proofs.YtmdfnambaedllaaDoorW.PrintLast Go.Proofs.YtmdfnambaedllaaDoorW.PrintMore Go.Proofs.YtmdfnambaedllaaDoor.Pr Go.Proofs.YtmdfnambaedllaaDoor.PL
theorem Ris.lt {l : List Int} (h : Ris l) {i j : Int} (h0 : 0 ≤ i) (h1 : i < j) (h2 : j < (l.length : Int)) : rd l i < rd l j := by
  obtain ⟨d, hd⟩ : ∃ d : Nat, j = i + 1 + d := ⟨(j - i - 1).toNat, by omega⟩
  induction d generalizing j with
  | zero =>
    obtain rfl : j = i + 1 := by omega
    exact h i h0 (by omega)
  | succ d ih =>
    have := ih (j := j - 1) (by omega) (by omega) (by omega)
    have h3 := h (j - 1) (by omega) (by omega)
    rw [show j - 1 + 1 = j from by omega] at h3
    omega
theorem Ris.le {l : List Int} (h : Ris l) {i j : Int} (h0 : 0 ≤ i) (h1 : i ≤ j) (h2 : j < (l.length : Int)) : rd l i ≤ rd l j := by
  by_cases e : i = j
  · subst e; exact Int.le_refl _
  · exact Int.le_of_lt (h.lt h0 (by omega) h2)
/-- A number is between the first and the last one. -/
def In (l : List Int) (n : Int) : Prop := rd l 0 ≤ n ∧ n ≤ rd l ((l.length : Int) - 1)
/-- p is the place ahead of n. -/
def At (l : List Int) (n p : Int) : Prop := 0 ≤ p ∧ p ≤ (l.length : Int) - 2 ∧ rd l p ≤ n ∧ (p < (l.length : Int) - 2 → n < rd l (p + 1))
theorem At.unique {l : List Int} (hl : Ris l) {n p q : Int} (h : At l n p) (h2 : At l n q) : p = q := by
  obtain ⟨a, b, c, d⟩ := h
  obtain ⟨a2, b2, c2, d2⟩ := h2
  by_cases e : p < q
  · have := d (by omega)
    have := hl.le (i := p + 1) (j := q) (by omega) (by omega) (by omega)
    omega
  · by_cases e2 : q < p
    · have := d2 (by omega)
      have := hl.le (i := q + 1) (j := p) (by omega) (by omega) (by omega)
      omega
    · omega
theorem place_prog {l : List Int} (hl : Ris l) (h2 : 2 ≤ l.length) (h32 : l.length ≤ 32) (n : Int) :
    (¬ In l n → Ev (fun k => correct_place_int.f k l n) (0, false)) ∧ (In l n → ∃ p, At l n p ∧ Ev (fun k => correct_place_int.f k l n) (p, true)) := by
  have e1 : wrap64 ((l.length : Int) - 1) = (l.length : Int) - 1 := w64 (by omega) (by omega)
  have e2 : wrap64 ((l.length : Int) - 2) = (l.length : Int) - 2 := w64 (by omega) (by omega)
  unfold correct_place_int.f
  rw [e1, e2]
  constructor
  · intro h
    refine evp (by omega) ?_
    by_cases c : n < rd l 0
    · exact evp c (Ev.now _)
    · refine evn c (evp (by omega) (evp (by omega) (evp ?_ (Ev.now _))))
      exact Classical.byContradiction fun h3 => h ⟨by omega, by omega⟩
  · intro ⟨h, h'⟩
    have hs := search_ev (l.length : Int) (fun i => rd l i > n) (fun i j k => sort_Search_32_at_55.l0 k i j l n) ?_ ?_ ?_ ?_ (by omega)
    · obtain ⟨r, hr, r0, r1, r2, r3⟩ := hs
      have hr1 : 1 ≤ r := by
        by_cases e : r = 0
        · have := r3 0 (by omega) (by omega)
          omega
        · omega
      have e3 : wrap64 (r - 1) = r - 1 := w64 (by omega) (by omega)
      have a1 := r2 (r - 1) (by omega) (by omega)
      refine ⟨mn (r - 1) ((l.length : Int) - 2), ?_, evp (by omega) (evn (by omega) (evp (by omega) (evp (by omega) (evn (by omega) (evb (a := r) hr ?_)))))⟩
      · unfold mn At
        by_cases c : (l.length : Int) - 2 < r - 1
        · rw [if_pos c]
          have := hl.le (i := (l.length : Int) - 2) (j := r - 1) (by omega) (by omega) (by omega)
          exact ⟨by omega, by omega, by omega, fun h => absurd h (by omega)⟩
        · rw [if_neg c]
          refine ⟨by omega, by omega, by omega, fun h4 => ?_⟩
          have := r3 (r - 1 + 1) (by omega) (by omega)
          omega
      · rw [e3]
        exact Ev.now _
    · intro i h0 h1
      exact Ev.step (fun k => sort_Search_32_at_55.l0.eq_2 ..) (evn (by omega) (Ev.now _))
    · intro i j h0 h1 h3 q r hr
      refine Ev.step (fun k => sort_Search_32_at_55.l0.eq_2 ..) ?_
      rw [half h0 h1 (by omega)]
      exact evp h1 (evb (a := true) (evc (fun _ => rfl) (by unfold correct_place_int_1.f; rw [if_pos (by omega), if_pos (by omega), decide_eq_true q])) (evp rfl hr))
    · intro i j h0 h1 h3 q r hr
      refine Ev.step (fun k => sort_Search_32_at_55.l0.eq_2 ..) ?_
      rw [half h0 h1 (by omega), w64 (x := (i + j) / 2 + 1) (by omega) (by omega)]
      exact evp h1 (evb (a := false) (evc (fun _ => rfl) (by unfold correct_place_int_1.f; rw [if_pos (by omega), if_pos (by omega), decide_eq_false q])) (evn (by decide) hr))
    · intro a b h0 h1 h3 q
      have := hl.le h0 h1 h3
      omega
theorem inside_ref {l : List Int} (h2 : 2 ≤ l.length) (h32 : l.length ≤ 32) (n : Int) : (In l n → spileref19_inside.f l n = some true) ∧ (¬ In l n → spileref19_inside.f l n = some false) := by
  have e1 : wrap64 ((l.length : Int) - 1) = (l.length : Int) - 1 := w64 (by omega) (by omega)
  unfold spileref19_inside.f
  rw [e1, if_pos (by omega)]
  constructor
  · intro ⟨h, h'⟩
    rw [if_pos (by omega), if_pos (by omega), if_pos (by omega), decide_eq_true h']
  · intro h
    by_cases c : n ≥ rd l 0
    · rw [if_pos c, if_pos (by omega), if_pos (by omega), decide_eq_false (fun h3 => h ⟨c, h3⟩)]
    · rw [if_neg c]
theorem place_ref {l : List Int} (hl : Ris l) (h2 : 2 ≤ l.length) (h32 : l.length ≤ 32) {n p : Int} (hp : At l n p) : Ev (fun k => spileref19_place.f k l n) p := by
  have e1 : wrap64 ((l.length : Int) - 1) = (l.length : Int) - 1 := w64 (by omega) (by omega)
  obtain ⟨p0, p1, p2, p3⟩ := hp
  have tail := count_up (p + 1) ((l.length : Int) - 1) (fun i => Ev (fun k => spileref19_place.l0 k l n p i) p) ?_ ?_ (p + 1) (by omega) (by omega)
  · have front := count_up 0 p (fun i => ∀ at_, Ev (fun k => spileref19_place.l0 k l n at_ i) p) ?_ ?_ 0 (by omega) p0
    · exact front 0
    · intro at_
      refine Ev.step (fun k => spileref19_place.l0.eq_2 ..) ?_
      rw [e1, w64 (x := p + 1) (by omega) (by omega)]
      exact evp (by omega) (evp (by omega) (evp (by omega) (evp p2 tail)))
    · intro i h0 h1 ih at_
      have := hl.le h0 (show i ≤ p by omega) (by omega)
      refine Ev.step (fun k => spileref19_place.l0.eq_2 ..) ?_
      rw [e1, w64 (x := i + 1) (by omega) (by omega)]
      exact evp (by omega) (evp (by omega) (evp (by omega) (evp (by omega) (ih _))))
  · refine Ev.step (fun k => spileref19_place.l0.eq_2 ..) ?_
    rw [e1]
    exact evn (by omega) (Ev.now _)
  · intro i h0 h1 ih
    have := p3 (by omega)
    have := hl.le (i := p + 1) (j := i) (by omega) (by omega) (by omega)
    refine Ev.step (fun k => spileref19_place.l0.eq_2 ..) ?_
    rw [e1, w64 (x := i + 1) (by omega) (by omega)]
    exact evp (by omega) (evp (by omega) (evp (by omega) (evn (by omega) ih)))
theorem at_exists {l : List Int} (hl : Ris l) (h2 : 2 ≤ l.length) (h32 : l.length ≤ 32) {n : Int} (h : In l n) : ∃ p, At l n p := by
  obtain ⟨p, hp, _⟩ := (place_prog hl h2 h32 n).2 h
  exact ⟨p, hp⟩
/-- The strength between four numbers of a table. -/
def between (h0 h1 a0 a1 c00 c01 c10 c11 h a : Int) : Int :=
  (2 * ((h1 - h) * ((a1 - a) * c00 + (a - a0) * c01) + (h - h0) * ((a1 - a) * c10 + (a - a0) * c11)) + (h1 - h0) * (a1 - a0)) / (2 * ((h1 - h0) * (a1 - a0)))
theorem between_wraps {h0 h1 a0 a1 c00 c01 c10 c11 h a : Int} (b1 : -400 ≤ h0) (b2 : h0 < h1) (b3 : h1 ≤ 600) (b4 : 0 ≤ a0) (b5 : a0 < a1) (b6 : a1 ≤ 10000) (b7 : h0 ≤ h) (b8 : h ≤ h1) (b9 : a0 ≤ a) (b10 : a ≤ a1)
    (k1 : 0 ≤ c00 ∧ c00 ≤ 10000) (k2 : 0 ≤ c01 ∧ c01 ≤ 10000) (k3 : 0 ≤ c10 ∧ c10 ≤ 10000) (k4 : 0 ≤ c11 ∧ c11 ≤ 10000) :
    wrap64 (2 * wrap64 (wrap64 (h1 - h0) * wrap64 (a1 - a0))) ≠ 0 ∧
    wrap64 (Int.tdiv (wrap64 (wrap64 (2 * wrap64 (wrap64 (wrap64 (h1 - h) * wrap64 (wrap64 (wrap64 (a1 - a) * c00) + wrap64 (wrap64 (a - a0) * c01))) + wrap64 (wrap64 (h - h0) * wrap64 (wrap64 (wrap64 (a1 - a) * c10) + wrap64 (wrap64 (a - a0) * c11))))) + wrap64 (wrap64 (h1 - h0) * wrap64 (a1 - a0)))) (wrap64 (2 * wrap64 (wrap64 (h1 - h0) * wrap64 (a1 - a0))))) = between h0 h1 a0 a1 c00 c01 c10 c11 h a := by
  have m1 := mulb (x := a1 - a) (y := c00) (X := 10000) (Y := 10000) (by omega) (by omega) k1.1 k1.2
  have m2 := mulb (x := a - a0) (y := c01) (X := 10000) (Y := 10000) (by omega) (by omega) k2.1 k2.2
  have m3 := mulb (x := a1 - a) (y := c10) (X := 10000) (Y := 10000) (by omega) (by omega) k3.1 k3.2
  have m4 := mulb (x := a - a0) (y := c11) (X := 10000) (Y := 10000) (by omega) (by omega) k4.1 k4.2
  have m5 := mulb (x := h1 - h) (y := (a1 - a) * c00 + (a - a0) * c01) (X := 1000) (Y := 200000000) (by omega) (by omega) (by omega) (by omega)
  have m6 := mulb (x := h - h0) (y := (a1 - a) * c10 + (a - a0) * c11) (X := 1000) (Y := 200000000) (by omega) (by omega) (by omega) (by omega)
  have m7 := mulb (x := h1 - h0) (y := a1 - a0) (X := 1000) (Y := 10000) (by omega) (by omega) (by omega) (by omega)
  have m8 : 1 ≤ (h1 - h0) * (a1 - a0) := Int.mul_pos (by omega) (by omega)
  have e1 : wrap64 (h1 - h0) = h1 - h0 := w64 (by omega) (by omega)
  have e2 : wrap64 (a1 - a0) = a1 - a0 := w64 (by omega) (by omega)
  have e3 : wrap64 (h1 - h) = h1 - h := w64 (by omega) (by omega)
  have e4 : wrap64 (a1 - a) = a1 - a := w64 (by omega) (by omega)
  have e5 : wrap64 (a - a0) = a - a0 := w64 (by omega) (by omega)
  have e6 : wrap64 (h - h0) = h - h0 := w64 (by omega) (by omega)
  rw [e1, e2, e3, e4, e5, e6]
  unfold between
  generalize (a1 - a) * c00 = q1 at *
  generalize (a - a0) * c01 = q2 at *
  generalize (a1 - a) * c10 = q3 at *
  generalize (a - a0) * c11 = q4 at *
  rw [w64 (x := q1) (by omega) (by omega), w64 (x := q2) (by omega) (by omega), w64 (x := q3) (by omega) (by omega), w64 (x := q4) (by omega) (by omega), w64 (x := q1 + q2) (by omega) (by omega), w64 (x := q3 + q4) (by omega) (by omega)]
  generalize (h1 - h) * (q1 + q2) = q5 at *
  generalize (h - h0) * (q3 + q4) = q6 at *
  generalize (h1 - h0) * (a1 - a0) = q7 at *
  rw [w64 (x := q5) (by omega) (by omega), w64 (x := q6) (by omega) (by omega), w64 (x := q7) (by omega) (by omega), w64 (x := q5 + q6) (by omega) (by omega), w64 (x := 2 * (q5 + q6)) (by omega) (by omega), w64 (x := 2 * (q5 + q6) + q7) (by omega) (by omega), w64 (x := 2 * q7) (by omega) (by omega)]
  refine ⟨by omega, ?_⟩
  rw [Int.tdiv_eq_ediv_of_nonneg (by omega)]
  have d1 : 0 ≤ (2 * (q5 + q6) + q7) / (2 * q7) := Int.ediv_nonneg (by omega) (by omega)
  have d2 : (2 * (q5 + q6) + q7) / (2 * q7) ≤ 2 * (q5 + q6) + q7 := Int.ediv_le_self _ (by omega)
  exact w64 (by omega) (by omega)
/-- The strength of a right table at two places. -/
def tab (hs as_ : List Int) (ts : List (List Int)) (p q h a : Int) : Int :=
  between (rd hs p) (rd hs (p + 1)) (rd as_ q) (rd as_ (q + 1)) (rd (rd_L1 ts p) q) (rd (rd_L1 ts p) (q + 1)) (rd (rd_L1 ts (p + 1)) q) (rd (rd_L1 ts (p + 1)) (q + 1)) h a
theorem At.next {l : List Int} {n p : Int} (h : At l n p) (hi : In l n) : n ≤ rd l (p + 1) := by
  obtain ⟨a, b, c, d⟩ := h
  by_cases e : p < (l.length : Int) - 2
  · exact Int.le_of_lt (d e)
  · have : p + 1 = (l.length : Int) - 1 := by omega
    rw [this]
    exact hi.2
theorem at_ref {hs as_ : List Int} {ts : List (List Int)} (v : Valid hs as_ ts) {h a p q : Int} (hh : In hs h) (ha : In as_ a) (hp : At hs h p) (hq : At as_ a q) :
    Ev (fun k => spileref19_At.f k hs as_ ts h a) (tab hs as_ ts p q h a) := by
  have := v.hs2; have := v.as2; have := v.hs32; have := v.as32; have := v.rows
  obtain ⟨p0, p1, p2, p3⟩ := hp
  obtain ⟨q0, q1, q2, q3⟩ := hq
  have hp' : At hs h p := ⟨p0, p1, p2, p3⟩
  have hq' : At as_ a q := ⟨q0, q1, q2, q3⟩
  have r1 := v.rect p p0 (by omega)
  have r2 := v.rect (p + 1) (by omega) (by omega)
  have bw := between_wraps (v.heat p p0 (by omega)).1 (v.hris p p0 (by omega)) (v.heat (p + 1) (by omega) (by omega)).2 (v.str q q0 (by omega)).1 (v.aris q q0 (by omega)) (v.str (q + 1) (by omega) (by omega)).2 p2 (hp'.next hh) q2 (hq'.next ha)
    (v.num p q p0 (by omega) q0 (by omega)) (v.num p (q + 1) p0 (by omega) (by omega) (by omega)) (v.num (p + 1) q (by omega) (by omega) q0 (by omega)) (v.num (p + 1) (q + 1) (by omega) (by omega) (by omega) (by omega))
  have e1 : wrap64 (p + 1) = p + 1 := w64 (by omega) (by omega)
  have e2 : wrap64 (q + 1) = q + 1 := w64 (by omega) (by omega)
  unfold spileref19_At.f
  refine evb (place_ref v.hris (by omega) (by omega) hp') (evb (place_ref v.aris (by omega) (by omega) hq') ?_)
  rw [e1, e2]
  refine evp p0 (evp (by omega) (evp (by omega) (evp (by omega) (evp q0 (evp (by omega) (evp (by omega) (evp (by omega) (evp (by omega) (evp (by omega) (evp (by omega) (evp (by omega) (evp (by omega) (evp (by omega) (evn bw.1 (evr bw.2)))))))))))))))
theorem at_prog {hs as_ : List Int} {ts : List (List Int)} (v : Valid hs as_ ts) (h a : Int) :
    (¬ (In hs h ∧ In as_ a) → Ev (fun k => correct_at.f k hs as_ ts h a) (0, false)) ∧
    (In hs h → In as_ a → ∀ p q, At hs h p → At as_ a q → Ev (fun k => correct_at.f k hs as_ ts h a) (tab hs as_ ts p q h a, true)) := by
  have := v.hs2; have := v.as2; have := v.hs32; have := v.as32; have := v.rows
  have pl1 := place_prog v.hris (by omega) (by omega) h
  have pl2 := place_prog v.aris (by omega) (by omega) a
  constructor
  · intro hn
    unfold correct_at.f
    by_cases c : In hs h
    · obtain ⟨p, _, hp⟩ := pl1.2 c
      exact evb hp (evb (pl2.1 fun c2 => hn ⟨c, c2⟩) (evp rfl (evn (by decide) (Ev.now _))))
    · by_cases c2 : In as_ a
      · obtain ⟨q, _, hq⟩ := pl2.2 c2
        exact evb (pl1.1 c) (evb hq (evn (by decide) (Ev.now _)))
      · exact evb (pl1.1 c) (evb (pl2.1 c2) (evn (by decide) (Ev.now _)))
  · intro hh ha p q hp hq
    obtain ⟨p', hp', ep⟩ := pl1.2 hh
    obtain ⟨q', hq', eq⟩ := pl2.2 ha
    obtain rfl := hp'.unique v.hris hp
    obtain rfl := hq'.unique v.aris hq
    obtain ⟨p0, p1, p2, p3⟩ := hp
    obtain ⟨q0, q1, q2, q3⟩ := hq
    have r1 := v.rect p' p0 (by omega)
    have r2 := v.rect (p' + 1) (by omega) (by omega)
    have bw := between_wraps (v.heat p' p0 (by omega)).1 (v.hris p' p0 (by omega)) (v.heat (p' + 1) (by omega) (by omega)).2 (v.str q' q0 (by omega)).1 (v.aris q' q0 (by omega)) (v.str (q' + 1) (by omega) (by omega)).2 p2 (hp'.next hh) q2 (hq'.next ha)
      (v.num p' q' p0 (by omega) q0 (by omega)) (v.num p' (q' + 1) p0 (by omega) (by omega) (by omega)) (v.num (p' + 1) q' (by omega) (by omega) q0 (by omega)) (v.num (p' + 1) (q' + 1) (by omega) (by omega) (by omega) (by omega))
    have e1 : wrap64 (p' + 1) = p' + 1 := w64 (by omega) (by omega)
    have e2 : wrap64 (q' + 1) = q' + 1 := w64 (by omega) (by omega)
    unfold correct_at.f
    refine evb ep (evb eq ?_)
    simp only [e1, e2]
    refine evp trivial (evp trivial (evp p0 (evp (by omega) (evp q0 (evp (by omega) (evp (by omega) (evp (by omega) (evp (by omega) (evp (by omega) (evp (by omega) (evp (by omega) (evp (by omega) (evp (by omega) (evp (by omega) (evp (by omega) (evn bw.1 (evr ?_)))))))))))))))))
    rw [bw.2]
    rfl
end Go.Proofs.YtmdfnambaedllaaDoor.Pure
namespace Go.Proofs.YtmdfnambaedllaaDoor.Pure
open Go Go.RowKit Go.Proofs.YtmdfnambaedllaaDoorW.PrintWords Go.Proofs.YtmdfnambaedllaaDoorW.PrintLast Go.Proofs.YtmdfnambaedllaaDoorW.PrintMore Go.Proofs.YtmdfnambaedllaaDoor.Pr Go.Proofs.YtmdfnambaedllaaDoor.PL Go.Proofs.YtmdfnambaedllaaDoor.Opn Go.Proofs.YtmdfnambaedllaaDoor.X
theorem around_ends {l : List Int} (h2 : 2 ≤ l.length) (h32 : l.length ≤ 32) (n e : Int) :
    correct_Around_1.f l n e = some (mx (rd l 0) (wrap64 (n - e)), mn (rd l ((l.length : Int) - 1)) (wrap64 (n + e))) := by
  have e1 : wrap64 ((l.length : Int) - 1) = (l.length : Int) - 1 := w64 (by omega) (by omega)
  unfold correct_Around_1.f
  rw [e1, if_pos (by omega), if_pos (by omega), if_pos (by omega)]
theorem mx_in {l : List Int} (hl : Ris l) (h2 : 2 ≤ l.length) {n e : Int} (hn : In l n) (b0 : -400 ≤ rd l 0) (b1 : rd l ((l.length : Int) - 1) ≤ 10000) (e0 : 0 ≤ e) (e1 : e ≤ 10001) : In l (mx (rd l 0) (wrap64 (n - e))) := by
  obtain ⟨a, b⟩ := hn
  have := hl.le (i := 0) (j := (l.length : Int) - 1) (by omega) (by omega) (by omega)
  rw [w64 (x := n - e) (by omega) (by omega)]
  unfold In mx
  split <;> omega
theorem mn_in {l : List Int} (hl : Ris l) (h2 : 2 ≤ l.length) {n e : Int} (hn : In l n) (b0 : -400 ≤ rd l 0) (b1 : rd l ((l.length : Int) - 1) ≤ 10000) (e0 : 0 ≤ e) (e1 : e ≤ 10001) : In l (mn (rd l ((l.length : Int) - 1)) (wrap64 (n + e))) := by
  obtain ⟨a, b⟩ := hn
  have := hl.le (i := 0) (j := (l.length : Int) - 1) (by omega) (by omega) (by omega)
  rw [w64 (x := n + e) (by omega) (by omega)]
  unfold In mn
  split <;> omega
theorem small_some (n : Int) : ∃ b, spileref19_small.f n = some b := by
  unfold spileref19_small.f
  split
  · exact ⟨_, rfl⟩
  · split <;> exact ⟨_, rfl⟩
/-- Few ends. -/
theorem few_some (hs as_ : List Int) (ts : List (List Int)) (ht : ts.length ≤ maxLen) : ∃ b, Ev (fun k => spileref19_Few.f k hs as_ ts) b := by
  have hm := len_le ht
  have loop := count_up 0 (ts.length : Int) (fun i => ∃ b, Ev (fun k => spileref19_Few.l0 k i hs as_ ts) b) ⟨true, Ev.step (fun k => spileref19_Few.l0.eq_2 ..) (evn (by omega) (Ev.now _))⟩ (fun i h0 h1 ⟨b, hb⟩ => by
    obtain ⟨s, hs'⟩ := small_some ((rd_L1 ts i).length : Int)
    cases s with
    | true =>
      refine ⟨b, Ev.step (fun k => spileref19_Few.l0.eq_2 ..) (evp h1 (evp h0 (evb (evc (fun _ => rfl) hs') (evp rfl ?_))))⟩
      rw [w64_succ h0 h1 hm]
      exact hb
    | false => exact ⟨false, Ev.step (fun k => spileref19_Few.l0.eq_2 ..) (evp h1 (evp h0 (evb (evc (fun _ => rfl) hs') (evn (by decide) (Ev.now _)))))⟩) 0 (by omega) (by omega)
  have no : Ev (fun k => spileref19_Few.j0 k true hs as_ ts) false := Ev.step (fun k => spileref19_Few.j0.eq_2 ..) (evp rfl (Ev.now _))
  obtain ⟨s1, e1⟩ := small_some (hs.length : Int)
  obtain ⟨s2, e2⟩ := small_some (as_.length : Int)
  obtain ⟨s3, e3⟩ := small_some (ts.length : Int)
  unfold spileref19_Few.f
  cases s1 with
  | false => exact ⟨false, evb (evc (fun _ => rfl) e1) (evn (by decide) no)⟩
  | true =>
    cases s2 with
    | false => exact ⟨false, evb (evc (fun _ => rfl) e1) (evp rfl (evb (evc (fun _ => rfl) e2) (evn (by decide) no)))⟩
    | true =>
      cases s3 with
      | false => exact ⟨false, evb (evc (fun _ => rfl) e1) (evp rfl (evb (evc (fun _ => rfl) e2) (evp rfl (evb (evc (fun _ => rfl) e3) no))))⟩
      | true =>
        obtain ⟨b, hb⟩ := loop
        exact ⟨b, evb (evc (fun _ => rfl) e1) (evp rfl (evb (evc (fun _ => rfl) e2) (evp rfl (evb (evc (fun _ => rfl) e3) (Ev.step (fun k => spileref19_Few.j0.eq_2 ..) (evn (by decide) hb))))))⟩
end Go.Proofs.YtmdfnambaedllaaDoor.Pure
namespace Go.Proofs.YtmdfnambaedllaaDoor.Pure
open Go Go.RowKit Go.Proofs.YtmdfnambaedllaaDoorW.PrintWords Go.Proofs.YtmdfnambaedllaaDoorW.PrintLast Go.Proofs.YtmdfnambaedllaaDoorW.PrintMore Go.Proofs.YtmdfnambaedllaaDoor.Pr Go.Proofs.YtmdfnambaedllaaDoor.PL
theorem steps_le (f : Int → Int) (lo hi : Int) (h : ∀ j, lo ≤ j → j < hi → f j ≤ f (j + 1)) {i j : Int} (h0 : lo ≤ i) (h1 : i ≤ j) (h2 : j ≤ hi) : f i ≤ f j := by
  obtain ⟨d, hd⟩ : ∃ d : Nat, j = i + d := ⟨(j - i).toNat, by omega⟩
  induction d generalizing j with
  | zero =>
    obtain rfl : j = i := by omega
    exact Int.le_refl _
  | succ d ih =>
    have := ih (j := j - 1) (by omega) (by omega) (by omega)
    have h3 := h (j - 1) (by omega) (by omega)
    rw [show j - 1 + 1 = j from by omega] at h3
    omega
theorem round_le {n d n2 d2 : Int} (h0 : 0 < d) (h1 : 0 < d2) (h : n * d2 ≤ n2 * d) : (2 * n + d) / (2 * d) ≤ (2 * n2 + d2) / (2 * d2) := by
  have a := Int.ediv_mul_le (2 * n + d) (show 2 * d ≠ 0 by omega)
  generalize (2 * n + d) / (2 * d) = r at *
  rw [Int.le_ediv_iff_mul_le (by omega)]
  have b := Int.mul_le_mul_of_nonneg_right a (show 0 ≤ d2 by omega)
  refine Int.le_of_mul_le_mul_left (a := d) ?_ h0
  grind
/-- Along one line of nodes. -/
theorem line_le {x0 x1 x z0 z1 z y0 y1 u0 u1 : Int} (a1 : x0 ≤ x) (a2 : x ≤ x1) (a3 : x0 < x1) (b1 : z0 ≤ z) (b2 : z ≤ z1) (b3 : z0 < z1) (h0 : y0 ≤ y1) (h1 : y1 ≤ u0) (h2 : u0 ≤ u1) :
    ((x1 - x) * y0 + (x - x0) * y1) * (z1 - z0) ≤ ((z1 - z) * u0 + (z - z0) * u1) * (x1 - x0) := by
  have p1 : (x1 - x) * y0 + (x - x0) * y1 ≤ (x1 - x0) * y1 := by
    have := Int.mul_le_mul_of_nonneg_left h0 (show 0 ≤ x1 - x by omega)
    grind
  have p2 : (z1 - z0) * u0 ≤ (z1 - z) * u0 + (z - z0) * u1 := by
    have := Int.mul_le_mul_of_nonneg_left h2 (show 0 ≤ z - z0 by omega)
    grind
  have q1 := Int.mul_le_mul_of_nonneg_right p1 (show 0 ≤ z1 - z0 by omega)
  have q2 := Int.mul_le_mul_of_nonneg_right p2 (show 0 ≤ x1 - x0 by omega)
  have q3 := Int.mul_le_mul_of_nonneg_left h1 (Int.mul_nonneg (show 0 ≤ x1 - x0 by omega) (show 0 ≤ z1 - z0 by omega))
  grind
theorem same_le {x0 x1 x z y0 y1 : Int} (a1 : x ≤ z) (a3 : x0 < x1) (h0 : y0 ≤ y1) : ((x1 - x) * y0 + (x - x0) * y1) * (x1 - x0) ≤ ((x1 - z) * y0 + (z - x0) * y1) * (x1 - x0) := by
  refine Int.mul_le_mul_of_nonneg_right ?_ (by omega)
  have := Int.mul_le_mul_of_nonneg_left h0 (show 0 ≤ z - x by omega)
  grind
/-- x is the strength at a heat and an apparent strength. -/
def IsStr (hs as_ : List Int) (ts : List (List Int)) (h a x : Int) : Prop := In hs h ∧ In as_ a ∧ ∃ p q, At hs h p ∧ At as_ a q ∧ x = tab hs as_ ts p q h a
theorem IsStr.mk' {hs as_ : List Int} {ts : List (List Int)} (v : Valid hs as_ ts) {h a : Int} (hh : In hs h) (ha : In as_ a) : ∃ x, IsStr hs as_ ts h a x := by
  have := v.hs2; have := v.as2; have := v.hs32; have := v.as32
  obtain ⟨p, hp⟩ := at_exists v.hris (by omega) (by omega) hh
  obtain ⟨q, hq⟩ := at_exists v.aris (by omega) (by omega) ha
  exact ⟨_, hh, ha, p, q, hp, hq, rfl⟩
theorem IsStr.prog {hs as_ : List Int} {ts : List (List Int)} (v : Valid hs as_ ts) {h a x : Int} (hx : IsStr hs as_ ts h a x) : Ev (fun k => correct_at.f k hs as_ ts h a) (x, true) := by
  obtain ⟨hh, ha, p, q, hp, hq, rfl⟩ := hx
  exact (at_prog v h a).2 hh ha p q hp hq
theorem row_step {hs as_ : List Int} {ts : List (List Int)} (v : Valid hs as_ ts) {i j : Int} (i0 : 0 ≤ i) (i1 : i < (ts.length : Int)) (j0 : 0 ≤ j) (j1 : j + 1 < (as_.length : Int)) : rd (rd_L1 ts i) j ≤ rd (rd_L1 ts i) (j + 1) := by
  have := v.conf i (j + 1) i0 i1 (by omega) j1
  unfold Conf at this
  rw [show j + 1 - 1 = j from by omega] at this
  exact Classical.byContradiction fun h => this (.inl ⟨by omega, by omega⟩)
theorem col_step {hs as_ : List Int} {ts : List (List Int)} (v : Valid hs as_ ts) {i j : Int} (i0 : 0 ≤ i) (i1 : i + 1 < (ts.length : Int)) (j0 : 0 ≤ j) (j1 : j < (as_.length : Int)) : rd (rd_L1 ts (i + 1)) j ≤ rd (rd_L1 ts i) j := by
  have := v.conf (i + 1) j (by omega) i1 j0 j1
  unfold Conf at this
  rw [show i + 1 - 1 = i from by omega] at this
  exact Classical.byContradiction fun h => this (.inr ⟨by omega, by omega⟩)
theorem IsStr.mono_a {hs as_ : List Int} {ts : List (List Int)} (v : Valid hs as_ ts) {h a b x y : Int} (hab : a ≤ b) (hx : IsStr hs as_ ts h a x) (hy : IsStr hs as_ ts h b y) : x ≤ y := by
  have := v.hs2; have := v.as2; have := v.hs32; have := v.as32; have := v.rows
  obtain ⟨hh, ha, p, q, hp, hq, rfl⟩ := hx
  obtain ⟨_, hb, p', r, hp', hr, rfl⟩ := hy
  obtain rfl := hp.unique v.hris hp'
  have P := hp; have Q := hq; have R := hr
  obtain ⟨p0, p1, p2, _⟩ := hp
  obtain ⟨q0, q1, q2, _⟩ := hq
  obtain ⟨r0, r1, r2, _⟩ := hr
  have hn := P.next hh
  have an := Q.next ha
  have bn := R.next hb
  have ih := v.hris p p0 (by omega)
  have ia := v.aris q q0 (by omega)
  have ib := v.aris r r0 (by omega)
  let f : Int → Int := fun j => (rd hs (p + 1) - h) * rd (rd_L1 ts p) j + (h - rd hs p) * rd (rd_L1 ts (p + 1)) j
  have fs : ∀ j, 0 ≤ j → j < (as_.length : Int) - 1 → f j ≤ f (j + 1) := fun j j0 j1 => by
    have s1 := Int.mul_le_mul_of_nonneg_left (row_step v p0 (by omega) j0 (by omega)) (show 0 ≤ rd hs (p + 1) - h by omega)
    have s2 := Int.mul_le_mul_of_nonneg_left (row_step v (i := p + 1) (by omega) (by omega) j0 (by omega)) (show 0 ≤ h - rd hs p by omega)
    show _ + _ ≤ _ + _
    omega
  have fl := fun {i j : Int} => steps_le f 0 ((as_.length : Int) - 1) fs (i := i) (j := j)
  unfold tab between
  refine round_le (Int.mul_pos (by omega) (by omega)) (Int.mul_pos (by omega) (by omega)) ?_
  have key : ((rd as_ (q + 1) - a) * f q + (a - rd as_ q) * f (q + 1)) * (rd as_ (r + 1) - rd as_ r) ≤ ((rd as_ (r + 1) - b) * f r + (b - rd as_ r) * f (r + 1)) * (rd as_ (q + 1) - rd as_ q) := by
    by_cases e : q = r
    · subst e
      exact same_le hab ia (fs q q0 (by omega))
    · have qr : q + 1 ≤ r := by
        by_cases g : q < r
        · omega
        · have := v.aris.le (i := r + 1) (j := q) (by omega) (by omega) (by omega)
          have := R.2.2.2 (by omega)
          omega
      exact line_le q2 an ia r2 bn ib (fs q q0 (by omega)) (fl (by omega) qr (by omega)) (fs r r0 (by omega))
  have k2 := Int.mul_le_mul_of_nonneg_left key (show 0 ≤ rd hs (p + 1) - rd hs p by omega)
  simp only [f] at k2
  grind
theorem IsStr.mono_h {hs as_ : List Int} {ts : List (List Int)} (v : Valid hs as_ ts) {h g a x y : Int} (hg : h ≤ g) (hx : IsStr hs as_ ts h a x) (hy : IsStr hs as_ ts g a y) : y ≤ x := by
  have := v.hs2; have := v.as2; have := v.hs32; have := v.as32; have := v.rows
  obtain ⟨hh, ha, p, q, hp, hq, rfl⟩ := hx
  obtain ⟨hgi, _, r, q', hr, hq', rfl⟩ := hy
  obtain rfl := hq.unique v.aris hq'
  have P := hp; have Q := hq; have R := hr
  obtain ⟨p0, p1, p2, _⟩ := hp
  obtain ⟨q0, q1, q2, _⟩ := hq
  obtain ⟨r0, r1, r2, _⟩ := hr
  have hn := P.next hh
  have an := Q.next ha
  have gn := R.next hgi
  have ih := v.hris p p0 (by omega)
  have ia := v.aris q q0 (by omega)
  have ig := v.hris r r0 (by omega)
  let f : Int → Int := fun i => - ((rd as_ (q + 1) - a) * rd (rd_L1 ts i) q + (a - rd as_ q) * rd (rd_L1 ts i) (q + 1))
  have fs : ∀ j, 0 ≤ j → j < (hs.length : Int) - 1 → f j ≤ f (j + 1) := fun j j0 j1 => by
    have s1 := Int.mul_le_mul_of_nonneg_left (col_step v j0 (show j + 1 < (ts.length : Int) by omega) q0 (by omega)) (show 0 ≤ rd as_ (q + 1) - a by omega)
    have s2 := Int.mul_le_mul_of_nonneg_left (col_step v (j := q + 1) j0 (show j + 1 < (ts.length : Int) by omega) (by omega) (by omega)) (show 0 ≤ a - rd as_ q by omega)
    show - (_ + _) ≤ - (_ + _)
    omega
  have fl := fun {i j : Int} => steps_le f 0 ((hs.length : Int) - 1) fs (i := i) (j := j)
  unfold tab between
  refine round_le (Int.mul_pos (by omega) (by omega)) (Int.mul_pos (by omega) (by omega)) ?_
  have key : ((rd hs (p + 1) - h) * f p + (h - rd hs p) * f (p + 1)) * (rd hs (r + 1) - rd hs r) ≤ ((rd hs (r + 1) - g) * f r + (g - rd hs r) * f (r + 1)) * (rd hs (p + 1) - rd hs p) := by
    by_cases e : p = r
    · subst e
      exact same_le hg ih (fs p p0 (by omega))
    · have pr : p + 1 ≤ r := by
        by_cases c : p < r
        · omega
        · have := v.hris.le (i := r + 1) (j := p) (by omega) (by omega) (by omega)
          have := R.2.2.2 (by omega)
          omega
      exact line_le p2 hn ih r2 gn ig (fs p p0 (by omega)) (fl (by omega) pr (by omega)) (fs r r0 (by omega))
  have k2 := Int.mul_le_mul_of_nonneg_left key (show 0 ≤ rd as_ (q + 1) - rd as_ q by omega)
  simp only [f] at k2
  grind
theorem IsStr.unique {hs as_ : List Int} {ts : List (List Int)} (v : Valid hs as_ ts) {h a x y : Int} (hx : IsStr hs as_ ts h a x) (hy : IsStr hs as_ ts h a y) : x = y :=
  Int.le_antisymm (hx.mono_a v (Int.le_refl _) hy) (hy.mono_a v (Int.le_refl _) hx)
end Go.Proofs.YtmdfnambaedllaaDoor.Pure
namespace Go.Proofs.YtmdfnambaedllaaDoor.Pure
open Go Go.RowKit Go.Proofs.YtmdfnambaedllaaDoorW.PrintWords Go.Proofs.YtmdfnambaedllaaDoorW.PrintLast Go.Proofs.YtmdfnambaedllaaDoorW.PrintMore Go.Proofs.YtmdfnambaedllaaDoor.Pr Go.Proofs.YtmdfnambaedllaaDoor.PL
theorem true_prog {hs as_ : List Int} {ts : List (List Int)} (v : Valid hs as_ ts) (p : Ev (fun k => correct_Check.f k hs as_ ts) 0) (h a : Int) :
    (¬ (In hs h ∧ In as_ a) → Ev (fun k => correct_True.f k hs as_ ts h a) (0, 2)) ∧ (∀ x, IsStr hs as_ ts h a x → Ev (fun k => correct_True.f k hs as_ ts h a) (x, 0)) := by
  unfold correct_True.f
  exact ⟨fun hn => evb p (evp rfl (evb ((at_prog v h a).1 hn) (evn (by decide) (Ev.now _)))), fun x hx => evb p (evp rfl (evb (hx.prog v) (evp rfl (Ev.now _))))⟩
theorem true_bad {hs as_ : List Int} {ts : List (List Int)} {c : Int} (p : Ev (fun k => correct_Check.f k hs as_ ts) c) (hc : c ≠ 0) (h a : Int) : Ev (fun k => correct_True.f k hs as_ ts h a) (0, 1) := by
  unfold correct_True.f
  exact evb p (evn hc (Ev.now _))
/-- What Apparent looks for: m, the last one whose strength is not greater than s. -/
def Found (hs as_ : List Int) (ts : List (List Int)) (h s m : Int) : Prop := In as_ m ∧ (∃ x, IsStr hs as_ ts h m x ∧ x ≤ s) ∧ (m < rd as_ ((as_.length : Int) - 1) → ∃ x, IsStr hs as_ ts h (m + 1) x ∧ s < x)
theorem Found.unique {hs as_ : List Int} {ts : List (List Int)} (v : Valid hs as_ ts) {h s m n : Int} (hm : Found hs as_ ts h s m) (hn : Found hs as_ ts h s n) : m = n := by
  obtain ⟨a1, ⟨x, hx, xs⟩, a3⟩ := hm
  obtain ⟨b1, ⟨y, hy, ys⟩, b3⟩ := hn
  have := a1.2; have := b1.2
  by_cases c : m < n
  · obtain ⟨z, hz, zs⟩ := a3 (by omega)
    have := hz.mono_a v (show m + 1 ≤ n by omega) hy
    omega
  · by_cases c2 : n < m
    · obtain ⟨z, hz, zs⟩ := b3 (by omega)
      have := hz.mono_a v (show n + 1 ≤ m by omega) hx
      omega
    · omega
theorem apparent_prog {hs as_ : List Int} {ts : List (List Int)} (v : Valid hs as_ ts) (p : Ev (fun k => correct_Check.f k hs as_ ts) 0) (h s : Int) :
    (¬ (In hs h ∧ ¬ Out 0 10000 s) → Ev (fun k => correct_Apparent.f k hs as_ ts h s) (0, 2)) ∧
    (In hs h → ¬ Out 0 10000 s → (Ev (fun k => correct_Apparent.f k hs as_ ts h s) (0, 7) ∧ ∃ x, IsStr hs as_ ts h (rd as_ 0) x ∧ s < x) ∨ (∃ m, Ev (fun k => correct_Apparent.f k hs as_ ts h s) (m, 0) ∧ Found hs as_ ts h s m)) := by
  have n1 := v.hs2; have n2 := v.as2; have n3 := v.hs32; have n4 := v.as32
  have B3 := (v.str 0 (by omega) (by omega)).1
  have B4 := (v.str ((as_.length : Int) - 1) (by omega) (by omega)).2
  have B5 := v.aris.le (i := 0) (j := (as_.length : Int) - 1) (by omega) (by omega) (by omega)
  have pl := place_prog v.hris (by omega) (by omega) h
  have w1 : wrap64 ((as_.length : Int) - 1) = (as_.length : Int) - 1 := w64 (by omega) (by omega)
  constructor
  · intro hn
    unfold correct_Apparent.f
    by_cases c : In hs h
    · obtain ⟨q, _, hq⟩ := pl.2 c
      have o : Out 0 10000 s := Classical.byContradiction fun o => hn ⟨c, o⟩
      exact evb p (evp rfl (evb hq (evp rfl (evb (a := true) (evc (fun _ => rfl) (by rw [strange_eq, decide_eq_true o])) (Ev.step (fun k => correct_Apparent.j0.eq_2 ..) (evp rfl (Ev.now _)))))))
    · exact evb p (evp rfl (evb (pl.1 c) (evn (by decide) (Ev.step (fun k => correct_Apparent.j0.eq_2 ..) (evp rfl (Ev.now _))))))
  · intro hh ho
    obtain ⟨q, _, hq⟩ := pl.2 hh
    have lo_in : In as_ (rd as_ 0) := ⟨Int.le_refl _, B5⟩
    have str : ∀ i, 0 ≤ i → i < rd as_ ((as_.length : Int) - 1) - rd as_ 0 + 1 → ∃ x, IsStr hs as_ ts h (rd as_ 0 + i) x := fun i i0 i1 => IsStr.mk' v hh ⟨by omega, by omega⟩
    have sr := search_ev (rd as_ ((as_.length : Int) - 1) - rd as_ 0 + 1) (fun i => ∃ x, IsStr hs as_ ts h (rd as_ 0 + i) x ∧ s < x) (fun i j k => sort_Search_32_at_33.l0 k i j hs as_ ts h (rd as_ 0) s) ?_ ?_ ?_ ?_ (by omega)
    · obtain ⟨r, hr, r0, r1, r2, r3⟩ := sr
      have top : ∀ {z}, Ev (fun k => if r = 0 then some (0, 7) else some (wrap64 (wrap64 (rd as_ 0 + r) - 1), 0)) z → Ev (fun k => correct_Apparent.f k hs as_ ts h s) z := fun {z} hz => by
        unfold correct_Apparent.f
        refine evb p (evp rfl (evb hq (evp rfl (evb (a := false) (evc (fun _ => rfl) (by rw [strange_eq, decide_eq_false ho])) (Ev.step (fun k => correct_Apparent.j0.eq_2 ..) (evn (by decide) ?_))))))
        rw [w1, w64 (x := rd as_ ((as_.length : Int) - 1) - rd as_ 0) (by omega) (by omega), w64 (x := rd as_ ((as_.length : Int) - 1) - rd as_ 0 + 1) (by omega) (by omega)]
        exact evp (by omega) (evp (by omega) (evp (by omega) (evb hr hz)))
      by_cases c : r = 0
      · obtain ⟨x, hx, hs'⟩ := r3 0 (by omega) (by omega)
        rw [Int.add_zero] at hx
        exact .inl ⟨top (evp c (Ev.now _)), x, hx, hs'⟩
      · refine .inr ⟨rd as_ 0 + r - 1, top (evn c (evr ?_)), ⟨by omega, by omega⟩, ?_, fun hm => ?_⟩
        · rw [w64 (x := rd as_ 0 + r) (by omega) (by omega), w64 (x := rd as_ 0 + r - 1) (by omega) (by omega)]
        · obtain ⟨x, hx⟩ := str (r - 1) (by omega) (by omega)
          have hn := r2 (r - 1) (by omega) (by omega)
          refine ⟨x, by rwa [show rd as_ 0 + (r - 1) = rd as_ 0 + r - 1 from by omega] at hx, ?_⟩
          exact Classical.byContradiction fun h2 => hn ⟨x, hx, by omega⟩
        · obtain ⟨x, hx, h2⟩ := r3 r (by omega) (by omega)
          exact ⟨x, by rwa [show rd as_ 0 + r - 1 + 1 = rd as_ 0 + r from by omega], h2⟩
    · intro i h0 h1
      exact Ev.step (fun k => sort_Search_32_at_33.l0.eq_2 ..) (evn (by omega) (Ev.now _))
    · intro i j h0 h1 h3 ⟨x, hx, hs'⟩ r hr
      refine Ev.step (fun k => sort_Search_32_at_33.l0.eq_2 ..) ?_
      rw [half h0 h1 (by omega)]
      refine evp h1 (evb (a := true) ?_ (evp rfl hr))
      unfold correct_Apparent_1.f
      rw [w64 (x := rd as_ 0 + (i + j) / 2) (by omega) (by omega)]
      exact evb (hx.prog v) (evr (decide_eq_true hs'))
    · intro i j h0 h1 h3 hq' r hr
      obtain ⟨x, hx⟩ := str ((i + j) / 2) (by omega) (by omega)
      refine Ev.step (fun k => sort_Search_32_at_33.l0.eq_2 ..) ?_
      rw [half h0 h1 (by omega), w64 (x := (i + j) / 2 + 1) (by omega) (by omega)]
      refine evp h1 (evb (a := false) ?_ (evn (by decide) hr))
      unfold correct_Apparent_1.f
      rw [w64 (x := rd as_ 0 + (i + j) / 2) (by omega) (by omega)]
      exact evb (hx.prog v) (evr (decide_eq_false fun h2 => hq' ⟨x, hx, h2⟩))
    · intro a b h0 h1 h3 ⟨x, hx, hs'⟩
      obtain ⟨y, hy⟩ := str b (by omega) h3
      have := hx.mono_a v (show rd as_ 0 + a ≤ rd as_ 0 + b by omega) hy
      exact ⟨y, hy, by omega⟩
end Go.Proofs.YtmdfnambaedllaaDoor.Pure
