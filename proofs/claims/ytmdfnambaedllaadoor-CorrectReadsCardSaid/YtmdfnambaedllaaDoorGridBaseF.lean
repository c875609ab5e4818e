/-
What several laws of this seat rest on: contracts of the functions that they reach, and plain lemmas.
-/
import Derived.Test.YtmdfnambaedllaaDoorGridBaseE
namespace Go.Proofs.YtmdfnambaedllaaDoor.Pr
open Go.RowKit Go.Proofs.YtmdfnambaedllaaDoorW.PrintWords Go.Proofs.YtmdfnambaedllaaDoorW.PrintLast Go.Proofs.YtmdfnambaedllaaDoorW.PrintMore Go.Proofs.YtmdfnambaedllaaDoor.X
attribute [local go_sem] max2_int min2_int max_two min_two max_three min_three max_four min_four   -- for this text's walks alone
set_option linter.unusedVariables false
set_option linter.unusedSimpArgs false
def correct_Apparent.j0 : Nat → Bool → List Int → List Int → List (List Int) → Int → Int → Option (Int × Int)
 | 0, _, _, _, _, _, _ => none
 | k + 1, x28, x318000, x318001, x318002, x319000, x320000 => if x28 = true then (some (0, 2)) else (if 0 < (x318001.length : Int) then (if 0 ≤ (wrap64 ((x318001.length : Int) - 1)) then (if (wrap64 ((x318001.length : Int) - 1)) < (x318001.length : Int) then ((sort_Search_32_at_33.f k (wrap64 ((wrap64 ((rd x318001 (wrap64 ((x318001.length : Int) - 1))) - (rd x318001 0))) + 1)) x318000 x318001 x318002 x319000 (rd x318001 0) x320000).bind fun t327 => (if t327 = 0 then (some (0, 7)) else (some (wrap64 ((wrap64 ((rd x318001 0) + t327)) - 1), 0)))) else (none)) else (none)) else (none))
def correct_Apparent.f (k : Nat) (l0_0 : List Int) (l0_1 : List Int) (l0_2 : List (List Int)) (a1 : Int) (a2 : Int) : Option (Int × Int) := (correct_Check.f k l0_0 l0_1 l0_2).bind fun t320 => (if t320 = 0 then ((correct_place_int.f k l0_0 a1).bind fun bt321 => (if bt321.2 = true then ((correct_strange.f a2).bind fun t323 => (correct_Apparent.j0 k t323 l0_0 l0_1 l0_2 a1 a2)) else (correct_Apparent.j0 k true l0_0 l0_1 l0_2 a1 a2))) else (some (0, 1)))
theorem correct_Apparent.mono_l : ∀ k, (∀ y0 y1 y2 y3 y4 y5, LeO (correct_Apparent.j0 k y0 y1 y2 y3 y4 y5) (correct_Apparent.j0 (k + 1) y0 y1 y2 y3 y4 y5))
 | 0 => fun _ _ _ _ _ _ r h => by simp [correct_Apparent.j0] at h
 | k + 1 => by
  have ih0 := correct_Apparent.mono_l k
  ·
   intro y0 y1 y2 y3 y4 y5
   unfold correct_Apparent.j0
   repeat' first
   | (with_reducible exact ih0 _ _ _ _ _ _)
   | (with_reducible exact correct_Check.mono _ _ _ _)
   | (with_reducible exact correct_place_int.mono _ _ _)
   | (with_reducible exact sort_Search_32_at_33.mono _ _ _ _ _ _ _ _)
   | (with_reducible exact LeO.refl _)
   | (with_reducible exact LeO.none _)
   | (with_reducible refine LeO.ite ?_ ?_)
   | (with_reducible refine LeO.bind ?_ (fun _ => ?_))
   | exact ih0 _ _ _ _ _ _
   | exact correct_Check.mono _ _ _ _
   | exact correct_place_int.mono _ _ _
   | exact sort_Search_32_at_33.mono _ _ _ _ _ _ _ _
   | exact LeO.none _
   | refine LeO.ite ?_ ?_
   | refine LeO.bind ?_ (fun _ => ?_)
theorem correct_Apparent.mono : ∀ a0 a1 a2 a3 a4 k, LeO (correct_Apparent.f k a0 a1 a2 a3 a4) (correct_Apparent.f (k + 1) a0 a1 a2 a3 a4) := by
 intro a0 a1 a2 a3 a4 k
 have ih0 := correct_Apparent.mono_l k
 unfold correct_Apparent.f
 repeat' first
   | (with_reducible exact ih0 _ _ _ _ _ _)
   | (with_reducible exact correct_Check.mono _ _ _ _)
   | (with_reducible exact correct_place_int.mono _ _ _)
   | (with_reducible exact sort_Search_32_at_33.mono _ _ _ _ _ _ _ _)
   | (with_reducible exact LeO.refl _)
   | (with_reducible exact LeO.none _)
   | (with_reducible refine LeO.ite ?_ ?_)
   | (with_reducible refine LeO.bind ?_ (fun _ => ?_))
   | exact ih0 _ _ _ _ _ _
   | exact correct_Check.mono _ _ _ _
   | exact correct_place_int.mono _ _ _
   | exact sort_Search_32_at_33.mono _ _ _ _ _ _ _ _
   | exact LeO.none _
   | refine LeO.ite ?_ ?_
   | refine LeO.bind ?_ (fun _ => ?_)
def correct_Apparent.T6 : Bool × List (List Nat × List Nat) := (true, [([], []), ([0], [0]), ([1], [1]), ([2], [2]), ([], []), ([4], [4]), ([], []), ([6], [6]), ([7], [7]), ([8], [8]), ([5, 9], [5, 9]), ([10], [10]), ([], []), ([12, 3, 0, 1, 2, 3, 12], [3, 12]), ([11, 13, 0, 1, 2, 3, 4, 5, 6, 7, 8, 9, 10, 11, 12, 13], [11])])
def correct_Apparent.B6 : List Nat := [0, 1, 3, 7, 0, 16, 0, 64, 192, 448, 1008, 2032, 0, 4111, 16383]
theorem correct_Apparent.tab6 : rtab .any (opsOf Tryd.f16 6) = correct_Apparent.T6 := by kernel_rfl
theorem correct_Apparent.bits6 : waitsOk correct_Apparent.T6.2 correct_Apparent.B6 = true := by kernel_rfl
set_option maxHeartbeats 8000000 in
set_option maxRecDepth 100000 in
theorem correct_Apparent.calls (k : Nat) (A0_0 : Option Addr) (c0_0 : Nat) (l0_0 : List Int) (A0_1 : Option Addr) (c0_1 : Nat) (l0_1 : List Int) (A0_2 : Option Addr) (c0_2 : Nat) (l0_2 : List (List Int)) (a1 : Int) (a2 : Int) (r1 : Int) (r2 : Int) (w : World) (hr0_0 : Kd.C (Kd.int .i64) w A0_0 l0_0.length l0_0) (hc0_0 : l0_0.length ≤ c0_0) (hr0_1 : Kd.C (Kd.int .i64) w A0_1 l0_1.length l0_1) (hc0_1 : l0_1.length ≤ c0_1) (hr0_2 : Kd.C (Kd.slice 3 (Kd.int .i64)) w A0_2 l0_2.length l0_2) (hc0_2 : l0_2.length ≤ c0_2) (h : correct_Apparent.f k l0_0 l0_1 l0_2 a1 a2 = some (r1, r2)) :
  Calls Tryd.prog 16 #[.agg #[.slice A0_0 l0_0.length c0_0, .slice A0_1 l0_1.length c0_1, .slice A0_2 l0_2.length c0_2], .int .i64 a1, .int .i64 a2] w fun e w' => e = .returned (.tuple #[.int .i64 r1, .int .i64 r2]) ∧ Below w.heap.size w w' := by
 have hu25 := Tryd.underlying25
 have hu3 := Tryd.underlying3
 have HR0_0 := Aside0.mk hr0_0
 have HC0_0 := Aside0.mk hc0_0
 clear hr0_0 hc0_0
 have HR0_1 := Aside0.mk hr0_1
 have HC0_1 := Aside0.mk hc0_1
 clear hr0_1 hc0_1
 have HR0_2 := Aside0.mk hr0_2
 have HC0_2 := Aside0.mk hc0_2
 clear hr0_2 hc0_2
 have HB := Aside0.mk (Below.refl w.heap.size w)
 have H : ((correct_Check.f k l0_0 l0_1 l0_2).bind fun t320 => (if t320 = 0 then ((correct_place_int.f k l0_0 a1).bind fun bt321 => (if bt321.2 = true then ((correct_strange.f a2).bind fun t323 => (correct_Apparent.j0 k t323 l0_0 l0_1 l0_2 a1 a2)) else (correct_Apparent.j0 k true l0_0 l0_1 l0_2 a1 a2))) else (some (0, 1)))) = some (r1, r2) := h
 clear h
 replace H := Option.bind_eq_some_iff.mp H
 obtain ⟨t320, A40, H⟩ := H
 replace H : (if t320 = 0 then ((correct_place_int.f k l0_0 a1).bind fun bt321 => (if bt321.2 = true then ((correct_strange.f a2).bind fun t323 => (correct_Apparent.j0 k t323 l0_0 l0_1 l0_2 a1 a2)) else (correct_Apparent.j0 k true l0_0 l0_1 l0_2 a1 a2))) else (some (0, 1))) = some (r1, r2) := H
 have A4 := Aside0.mk A40
 clear A40
 by_cases c5 : t320 = 0
 ·
  rw [if_pos c5] at H
  have c5b0 : (t320 == 0) = true := beq_iff_eq.mpr c5
  have c5b1 : (t320 != 0) = false := bne_eq_false_iff_eq.mpr c5
  clear c5
  replace H := Option.bind_eq_some_iff.mp H
  obtain ⟨⟨t321, t322⟩, A60, H⟩ := H
  replace H : (if t322 = true then ((correct_strange.f a2).bind fun t323 => (correct_Apparent.j0 k t323 l0_0 l0_1 l0_2 a1 a2)) else (correct_Apparent.j0 k true l0_0 l0_1 l0_2 a1 a2)) = some (r1, r2) := H
  have A6 := Aside0.mk A60
  clear A60
  have HC7 := Aside0.mk H
  clear H
  go_enter Tryd.func16, Tryd.ntmps16
  go_upto_region 4 with (first | ((with_reducible refine gate_dst (N := 3) rfl ?_); refine box_event ?hg (N := 3) ?hd (cs := #[.slice A0_0 l0_0.length c0_0, .slice A0_1 l0_1.length c0_1, .slice A0_2 l0_2.length c0_2]) (t := 25) ?hr ?_; (case hd => rfl); (case hg => rfl); (case hr => first | (go_simp; done) | (go_simp; rfl)); intro gb317 hg w8 hbox hb; have n0_ := Aside0.mk (below_step (by repeat (first | (with_reducible first | exact HB.out | apply below_alloc | apply pw_below_drewN | apply below_drew1) | exact HB.out)) hb); have n1_ := Aside0.mk (hbox); have n2_ := Aside0.mk ((by rw [hg]; exact (below_size (by repeat (first | (with_reducible first | exact HB.out | apply below_alloc | apply pw_below_drewN | apply below_drew1) | exact HB.out))) : w.heap.size ≤ gb317)); have n3_ := Aside0.mk ((by rw [hg]; exact (below_size (by repeat (first | (with_reducible first | exact HB.out | apply below_alloc | apply pw_below_drewN | apply below_drew1) | exact HB.out))) : w.heap.size ≤ gb317)); clear HB; have HB := n0_; have BK317 := n1_; have GW317 := n2_; have GE317 := n3_; clear n0_ n1_ n2_ n3_; clear hb hbox hg) | ((with_reducible refine gate_dst (N := 4) rfl ?_); refine box_event ?hg (N := 4) ?hd (cs := #[.int .i64 a1]) (t := 3) ?hr ?_; (case hd => rfl); (case hg => rfl); (case hr => first | (go_simp; done) | (go_simp; rfl)); intro gb318 hg w9 hbox hb; have n0_ := Aside0.mk (blk_below (g := gb317) (o := .cells #[.slice A0_0 l0_0.length c0_0, .slice A0_1 l0_1.length c0_1, .slice A0_2 l0_2.length c0_2] 25 (0, 0)) (by (with_reducible repeat (first | refine blk_drewN ?_ _ | refine blk_drew ?_ | refine blk_alloc ?_ _)); exact BK317.out) hb); have n1_ := Aside0.mk (below_step (by repeat (first | (with_reducible first | exact HB.out | apply below_alloc | apply pw_below_drewN | apply below_drew1 | refine below_set ?_ GE317.out) | exact HB.out)) hb); have n2_ := Aside0.mk (hbox); have n3_ := Aside0.mk ((by rw [hg]; exact (below_size (by repeat (first | (with_reducible first | exact HB.out | apply below_alloc | apply pw_below_drewN | apply below_drew1 | refine below_set ?_ GE317.out) | exact HB.out))) : w.heap.size ≤ gb318)); have n4_ := Aside0.mk ((by rw [hg]; exact (below_size (by repeat (first | (with_reducible first | exact HB.out | apply below_alloc | apply pw_below_drewN | apply below_drew1 | refine below_set ?_ GE317.out) | exact HB.out))) : w.heap.size ≤ gb318)); have n5_ := Aside0.mk ((by rw [hg]; exact Nat.ne_of_lt (blk_lt (g := gb317) (o := .cells #[.slice A0_0 l0_0.length c0_0, .slice A0_1 l0_1.length c0_1, .slice A0_2 l0_2.length c0_2] 25 (0, 0)) (by (with_reducible repeat (first | refine blk_drewN ?_ _ | refine blk_drew ?_ | refine blk_alloc ?_ _)); exact BK317.out)) : gb317 ≠ gb318)); have n6_ := Aside0.mk ((by rw [hg]; exact Nat.ne_of_gt (blk_lt (g := gb317) (o := .cells #[.slice A0_0 l0_0.length c0_0, .slice A0_1 l0_1.length c0_1, .slice A0_2 l0_2.length c0_2] 25 (0, 0)) (by (with_reducible repeat (first | refine blk_drewN ?_ _ | refine blk_drew ?_ | refine blk_alloc ?_ _)); exact BK317.out)) : gb318 ≠ gb317)); clear BK317; clear HB; have BK317 := n0_; have HB := n1_; have BK318 := n2_; have GW318 := n3_; have GE318 := n4_; have NB317_318 := n5_; have NB318_317 := n6_; clear n0_ n1_ n2_ n3_ n4_ n5_ n6_; clear hb hbox hg) | ((with_reducible refine gate_dst (N := 5) rfl ?_); refine box_event ?hg (N := 5) ?hd (cs := #[.int .i64 a2]) (t := 3) ?hr ?_; (case hd => rfl); (case hg => rfl); (case hr => first | (go_simp; done) | (go_simp; rfl)); intro gb319 hg w10 hbox hb; have n0_ := Aside0.mk (blk_below (g := gb317) (o := .cells #[.slice A0_0 l0_0.length c0_0, .slice A0_1 l0_1.length c0_1, .slice A0_2 l0_2.length c0_2] 25 (0, 0)) (by (with_reducible repeat (first | refine blk_drewN ?_ _ | refine blk_drew ?_ | refine blk_alloc ?_ _)); exact BK317.out) hb); have n1_ := Aside0.mk (blk_below (g := gb318) (o := .cells #[.int .i64 a1] 3 (0, 0)) (by (with_reducible repeat (first | refine blk_drewN ?_ _ | refine blk_drew ?_ | refine blk_alloc ?_ _)); exact BK318.out) hb); have n2_ := Aside0.mk (below_step (by repeat (first | (with_reducible first | exact HB.out | apply below_alloc | apply pw_below_drewN | apply below_drew1 | refine below_set ?_ GE317.out | refine below_set ?_ GE318.out) | exact HB.out)) hb); have n3_ := Aside0.mk (hbox); have n4_ := Aside0.mk ((by rw [hg]; exact (below_size (by repeat (first | (with_reducible first | exact HB.out | apply below_alloc | apply pw_below_drewN | apply below_drew1 | refine below_set ?_ GE317.out | refine below_set ?_ GE318.out) | exact HB.out))) : w.heap.size ≤ gb319)); have n5_ := Aside0.mk ((by rw [hg]; exact (below_size (by repeat (first | (with_reducible first | exact HB.out | apply below_alloc | apply pw_below_drewN | apply below_drew1 | refine below_set ?_ GE317.out | refine below_set ?_ GE318.out) | exact HB.out))) : w.heap.size ≤ gb319)); have n6_ := Aside0.mk ((by rw [hg]; exact Nat.ne_of_lt (blk_lt (g := gb317) (o := .cells #[.slice A0_0 l0_0.length c0_0, .slice A0_1 l0_1.length c0_1, .slice A0_2 l0_2.length c0_2] 25 (0, 0)) (by (with_reducible repeat (first | refine blk_drewN ?_ _ | refine blk_drew ?_ | refine blk_alloc ?_ _)); exact BK317.out)) : gb317 ≠ gb319)); have n7_ := Aside0.mk ((by rw [hg]; exact Nat.ne_of_gt (blk_lt (g := gb317) (o := .cells #[.slice A0_0 l0_0.length c0_0, .slice A0_1 l0_1.length c0_1, .slice A0_2 l0_2.length c0_2] 25 (0, 0)) (by (with_reducible repeat (first | refine blk_drewN ?_ _ | refine blk_drew ?_ | refine blk_alloc ?_ _)); exact BK317.out)) : gb319 ≠ gb317)); have n8_ := Aside0.mk ((by rw [hg]; exact Nat.ne_of_lt (blk_lt (g := gb318) (o := .cells #[.int .i64 a1] 3 (0, 0)) (by (with_reducible repeat (first | refine blk_drewN ?_ _ | refine blk_drew ?_ | refine blk_alloc ?_ _)); exact BK318.out)) : gb318 ≠ gb319)); have n9_ := Aside0.mk ((by rw [hg]; exact Nat.ne_of_gt (blk_lt (g := gb318) (o := .cells #[.int .i64 a1] 3 (0, 0)) (by (with_reducible repeat (first | refine blk_drewN ?_ _ | refine blk_drew ?_ | refine blk_alloc ?_ _)); exact BK318.out)) : gb319 ≠ gb318)); clear BK317; clear BK318; clear HB; have BK317 := n0_; have BK318 := n1_; have HB := n2_; have BK319 := n3_; have GW319 := n4_; have GE319 := n5_; have NB317_319 := n6_; have NB319_317 := n7_; have NB318_319 := n8_; have NB319_318 := n9_; clear n0_ n1_ n2_ n3_ n4_ n5_ n6_ n7_ n8_ n9_; clear hb hbox hg; have hnb11 := NB317_318.out; have hnc11 := NB318_317.out; have hnb12 := NB317_319.out; have hnc12 := NB319_317.out; have hcz13_0 : w10.cell? ⟨gb317, 0, none⟩ = some (.slice A0_0 l0_0.length c0_0) := (blk_cell BK317.out 0).trans rfl; have hcz13_1 : w10.cell? ⟨gb317, 1, none⟩ = some (.slice A0_1 l0_1.length c0_1) := (blk_cell BK317.out 1).trans rfl; have hcz13_2 : w10.cell? ⟨gb317, 2, none⟩ = some (.slice A0_2 l0_2.length c0_2) := (blk_cell BK317.out 2).trans rfl; have hfz13_0 := blk_frozen BK317.out 0; have hfz13_1 := blk_frozen BK317.out 1; have hfz13_2 := blk_frozen BK317.out 2) | ((with_reducible refine gate_callee (f := 18) rfl ?_); refine goesL_ (some 14) rfl rfl Tryd.func18 (by kernel_rfl) rfl #[.agg #[.slice A0_0 l0_0.length c0_0, .slice A0_1 l0_1.length c0_1, .slice A0_2 l0_2.length c0_2]] rfl (by (try simp only [List.map_toArray, List.map_cons, List.map_nil]); first | done | rfl | (simp only [List.length_drop, List.length_take]; rfl)) ?_; (with_reducible refine (correct_Check.calls k _ _ l0_0 _ _ l0_1 _ _ l0_2 t320 _ ?side1 ?side2 ?side3 ?side4 ?side5 ?side6 A4.out).mono ?_); (case side1 => repeat (first | exact (Kd.C_below HR0_0.out HB.out) | (with_reducible refine Kd.C_alloc ?_ _) | (with_reducible refine Kd.C_drewN ?_ _) | (with_reducible refine Kd.C_drew ?_))); (case side2 => exact HC0_0.out); (case side3 => repeat (first | exact (Kd.C_below HR0_1.out HB.out) | (with_reducible refine Kd.C_alloc ?_ _) | (with_reducible refine Kd.C_drewN ?_ _) | (with_reducible refine Kd.C_drew ?_))); (case side4 => exact HC0_1.out); (case side5 => repeat (first | exact (Kd.C_below HR0_2.out HB.out) | (with_reducible refine Kd.C_alloc ?_ _) | (with_reducible refine Kd.C_drewN ?_ _) | (with_reducible refine Kd.C_drew ?_))); (case side6 => exact HC0_2.out); rintro e w14 ⟨rfl, hb⟩; refine ⟨_, rfl, ?_⟩; have n0_ := Aside0.mk (blk_below (g := gb317) (o := .cells #[.slice A0_0 l0_0.length c0_0, .slice A0_1 l0_1.length c0_1, .slice A0_2 l0_2.length c0_2] 25 (0, 0)) (by (with_reducible repeat (first | refine blk_drewN ?_ _ | refine blk_drew ?_ | refine blk_alloc ?_ _)); exact BK317.out) hb); have n1_ := Aside0.mk (blk_below (g := gb318) (o := .cells #[.int .i64 a1] 3 (0, 0)) (by (with_reducible repeat (first | refine blk_drewN ?_ _ | refine blk_drew ?_ | refine blk_alloc ?_ _)); exact BK318.out) hb); have n2_ := Aside0.mk (blk_below (g := gb319) (o := .cells #[.int .i64 a2] 3 (0, 0)) (by (with_reducible repeat (first | refine blk_drewN ?_ _ | refine blk_drew ?_ | refine blk_alloc ?_ _)); exact BK319.out) hb); have n3_ := Aside0.mk (below_step (by repeat (first | (with_reducible first | exact HB.out | apply below_alloc | apply pw_below_drewN | apply below_drew1 | refine below_set ?_ GE317.out | refine below_set ?_ GE318.out | refine below_set ?_ GE319.out) | exact HB.out)) hb); clear BK317; clear BK318; clear BK319; clear HB; have BK317 := n0_; have BK318 := n1_; have BK319 := n2_; have HB := n3_; clear n0_ n1_ n2_ n3_; (try clear hb); (try clear hb2); (try clear hk); (try clear hi); have hcz15_0 : w14.cell? ⟨gb317, 0, none⟩ = some (.slice A0_0 l0_0.length c0_0) := (blk_cell BK317.out 0).trans rfl; have hcz15_1 : w14.cell? ⟨gb317, 1, none⟩ = some (.slice A0_1 l0_1.length c0_1) := (blk_cell BK317.out 1).trans rfl; have hcz15_2 : w14.cell? ⟨gb317, 2, none⟩ = some (.slice A0_2 l0_2.length c0_2) := (blk_cell BK317.out 2).trans rfl; have hfz15_0 := blk_frozen BK317.out 0; have hfz15_1 := blk_frozen BK317.out 1; have hfz15_2 := blk_frozen BK317.out 2; have hnb16 := NB318_319.out; have hnc16 := NB319_318.out; have hcz17_0 : w14.cell? ⟨gb318, 0, none⟩ = some (.int .i64 a1) := (blk_cell BK318.out 0).trans rfl; have hfz17_0 := blk_frozen BK318.out 0) | ((with_reducible refine gate_callee (f := 31) rfl ?_); refine goesL_ (some 20) rfl rfl Tryd.func31 (by kernel_rfl) rfl #[.slice A0_0 l0_0.length c0_0, .int .i64 a1] rfl (by (try simp only [List.map_toArray, List.map_cons, List.map_nil]); first | done | rfl | (simp only [List.length_drop, List.length_take]; rfl)) ?_; (with_reducible refine (correct_place_int.calls k _ _ l0_0 a1 t321 t322 _ ?side1 ?side2 A6.out).mono ?_); (case side1 => repeat (first | exact (Kd.C_below HR0_0.out HB.out) | (with_reducible refine Kd.C_alloc ?_ _) | (with_reducible refine Kd.C_drewN ?_ _) | (with_reducible refine Kd.C_drew ?_))); (case side2 => exact HC0_0.out); rintro e w18 ⟨rfl, hb⟩; refine ⟨_, rfl, ?_⟩; have n0_ := Aside0.mk (blk_below (g := gb317) (o := .cells #[.slice A0_0 l0_0.length c0_0, .slice A0_1 l0_1.length c0_1, .slice A0_2 l0_2.length c0_2] 25 (0, 0)) (by (with_reducible repeat (first | refine blk_drewN ?_ _ | refine blk_drew ?_ | refine blk_alloc ?_ _)); exact BK317.out) hb); have n1_ := Aside0.mk (blk_below (g := gb318) (o := .cells #[.int .i64 a1] 3 (0, 0)) (by (with_reducible repeat (first | refine blk_drewN ?_ _ | refine blk_drew ?_ | refine blk_alloc ?_ _)); exact BK318.out) hb); have n2_ := Aside0.mk (blk_below (g := gb319) (o := .cells #[.int .i64 a2] 3 (0, 0)) (by (with_reducible repeat (first | refine blk_drewN ?_ _ | refine blk_drew ?_ | refine blk_alloc ?_ _)); exact BK319.out) hb); have n3_ := Aside0.mk (below_step (by repeat (first | (with_reducible first | exact HB.out | apply below_alloc | apply pw_below_drewN | apply below_drew1 | refine below_set ?_ GE317.out | refine below_set ?_ GE318.out | refine below_set ?_ GE319.out) | exact HB.out)) hb); clear BK317; clear BK318; clear BK319; clear HB; have BK317 := n0_; have BK318 := n1_; have BK319 := n2_; have HB := n3_; clear n0_ n1_ n2_ n3_; (try clear hb); (try clear hb2); (try clear hk); (try clear hi)))
  (try simp only [Act.put, List.setIfInBounds_toArray, List.set_cons_zero, List.set_cons_succ])
  go_cut [28] (fun v28 wc => ∃ (kq : Nat) (x28_6 : Bool), v28 = .bool x28_6 ∧ Aside0 (correct_Apparent.j0 kq x28_6 l0_0 l0_1 l0_2 a1 a2 = some (r1, r2)) ∧ Aside0 (kq ≤ k) ∧ Aside0 (wc.heap[gb317]? = some (.cells #[(.slice A0_0 l0_0.length c0_0), (.slice A0_1 l0_1.length c0_1), (.slice A0_2 l0_2.length c0_2)] 25 (0, 0))) ∧ Aside0 (wc.heap[gb318]? = some (.cells #[.int .i64 a1] 3 (0, 0))) ∧ Aside0 (wc.heap[gb319]? = some (.cells #[.int .i64 a2] 3 (0, 0))) ∧ Aside0 (Below w.heap.size w wc))
  case first =>
   have H := HC7.out
   clear HC7
   by_cases c19 : t322 = true
   ·
    subst c19
    have H1 : ((correct_strange.f a2).bind fun t323 => (correct_Apparent.j0 k t323 l0_0 l0_1 l0_2 a1 a2)) = some (r1, r2) := by rw [if_pos rfl] at H; exact H
    clear H
    have H := H1
    clear H1
    replace H := Option.bind_eq_some_iff.mp H
    obtain ⟨t323, A200, H⟩ := H
    replace H : (correct_Apparent.j0 k t323 l0_0 l0_1 l0_2 a1 a2) = some (r1, r2) := H
    have A20 := Aside0.mk A200
    clear A200
    have H' := Aside0.mk H
    clear H
    have hnb21 := NB319_317.out
    have hnc21 := NB317_319.out
    have hnb22 := NB319_318.out
    have hnc22 := NB318_319.out
    have hcz23_0 : w18.cell? ⟨gb319, 0, none⟩ = some (.int .i64 a2) := (blk_cell BK319.out 0).trans rfl
    have hfz23_0 := blk_frozen BK319.out 0
    go_wp2_with (first | (go_at_call 27; (with_reducible refine (correct_strange.calls a2 t323 _ A20.out).mono ?_); rintro e w' ⟨rfl, ⟨nd, rfl⟩⟩))
    go_meet
    case rel => exact ⟨_, (t323), (by first | rfl | (simp; done) | (simp [*]; done)), H', ⟨by first | omega | exact Nat.le_refl _⟩, ⟨by (with_reducible repeat (first | refine blk_drewN ?_ _ | refine blk_drew ?_ | refine blk_alloc ?_ _)); exact BK317.out⟩, ⟨by (with_reducible repeat (first | refine blk_drewN ?_ _ | refine blk_drew ?_ | refine blk_alloc ?_ _)); exact BK318.out⟩, ⟨by (with_reducible repeat (first | refine blk_drewN ?_ _ | refine blk_drew ?_ | refine blk_alloc ?_ _)); exact BK319.out⟩, ⟨by repeat (first | (with_reducible first | exact HB.out | apply below_alloc | apply pw_below_drewN | apply below_drew1 | refine below_set ?_ GE317.out | refine below_set ?_ GE318.out | refine below_set ?_ GE319.out) | exact HB.out)⟩⟩
   ·
    replace c19 := Bool.eq_false_iff.mpr c19
    subst c19
    have H1 : (correct_Apparent.j0 k true l0_0 l0_1 l0_2 a1 a2) = some (r1, r2) := by rw [if_neg (show ¬ (false = true) by decide)] at H; exact H
    clear H
    have H := H1
    clear H1
    have H' := Aside0.mk H
    clear H
    go_wp2
    go_meet
    case rel => exact ⟨_, (true), (by first | rfl | (simp; done) | (simp [*]; done)), H', ⟨by first | omega | exact Nat.le_refl _⟩, ⟨by (with_reducible repeat (first | refine blk_drewN ?_ _ | refine blk_drew ?_ | refine blk_alloc ?_ _)); exact BK317.out⟩, ⟨by (with_reducible repeat (first | refine blk_drewN ?_ _ | refine blk_drew ?_ | refine blk_alloc ?_ _)); exact BK318.out⟩, ⟨by (with_reducible repeat (first | refine blk_drewN ?_ _ | refine blk_drew ?_ | refine blk_alloc ?_ _)); exact BK319.out⟩, ⟨by repeat (first | (with_reducible first | exact HB.out | apply below_alloc | apply pw_below_drewN | apply below_drew1 | refine below_set ?_ GE317.out | refine below_set ?_ GE318.out | refine below_set ?_ GE319.out) | exact HB.out)⟩⟩
  case rest =>
   clear HC7
   try clear c1
   try clear c2
   try clear p2
   try clear c3
   try clear c5
   try clear c5b0
   try clear c5b1
   try clear c11
   try clear c12
   try clear c16
   try clear c18
   try clear c19
   try clear c21
   try clear c22
   try clear hcz13_0
   try clear hcz13_1
   try clear hcz13_2
   try clear hcz15_0
   try clear hcz15_1
   try clear hcz15_2
   try clear hcz17_0
   try clear hcz23_0
   try clear hfz13_0
   try clear hfz13_1
   try clear hfz13_2
   try clear hfz15_0
   try clear hfz15_1
   try clear hfz15_2
   try clear hfz17_0
   try clear hfz23_0
   obtain ⟨kq, x28_6, rfl, HA, HJ6, BK317, BK318, BK319, HB⟩ := hcut
   cases kq with
   | zero => exact absurd HA.out (by simp [correct_Apparent.j0])
   | succ kj6 =>
    have H := HA.out
    clear HA
    simp only [correct_Apparent.j0] at H
    by_cases c24 : x28_6 = true
    ·
     subst c24
     have H1 : (some (0, 2)) = some (r1, r2) := by rw [if_pos rfl] at H; exact H
     clear H
     have H := H1
     clear H1
     simp only [Option.some.injEq, Prod.mk.injEq] at H
     obtain ⟨rfl, rfl⟩ := H
     go_wp2
     go_ret2
     exact ⟨by first | rfl | (simp [errW_none, errW_some] <;> rfl) | (simp [*, errW_none, errW_some] <;> rfl), by repeat (first | (with_reducible first | exact HB.out | apply below_alloc | apply pw_below_drewN | apply below_drew1 | refine below_set ?_ GE317.out | refine below_set ?_ GE318.out | refine below_set ?_ GE319.out) | exact HB.out)⟩
    ·
     replace c24 := Bool.eq_false_iff.mpr c24
     subst c24
     have H1 : (if 0 < (l0_1.length : Int) then (if 0 ≤ (wrap64 ((l0_1.length : Int) - 1)) then (if (wrap64 ((l0_1.length : Int) - 1)) < (l0_1.length : Int) then ((sort_Search_32_at_33.f kj6 (wrap64 ((wrap64 ((rd l0_1 (wrap64 ((l0_1.length : Int) - 1))) - (rd l0_1 0))) + 1)) l0_0 l0_1 l0_2 a1 (rd l0_1 0) a2).bind fun t327 => (if t327 = 0 then (some (0, 7)) else (some (wrap64 ((wrap64 ((rd l0_1 0) + t327)) - 1), 0)))) else (none)) else (none)) else (none)) = some (r1, r2) := by rw [if_neg (show ¬ (false = true) by decide)] at H; exact H
     clear H
     have H := H1
     clear H1
     by_cases c25 : 0 < (l0_1.length : Int)
     ·
      rw [if_pos c25] at H
      have c25b0 : decide (0 < (l0_1.length : Int)) = true := decide_eq_true c25
      have c25b1 : decide (0 < l0_1.length) = true := decide_eq_true (by omega)
      clear c25
      obtain ⟨ji26, hji26⟩ : ∃ j_ : Int, (wrap64 ((l0_1.length : Int) - 1)) = j_ := ⟨_, rfl⟩
      replace H : (if 0 ≤ (ji26) then (if (ji26) < (l0_1.length : Int) then ((sort_Search_32_at_33.f kj6 (wrap64 ((wrap64 ((rd l0_1 (ji26)) - (rd l0_1 0))) + 1)) l0_0 l0_1 l0_2 a1 (rd l0_1 0) a2).bind fun t327 => (if t327 = 0 then (some (0, 7)) else (some (wrap64 ((wrap64 ((rd l0_1 0) + t327)) - 1), 0)))) else (none)) else (none)) = some (r1, r2) := by first | (rw [hji26] at H; exact H) | (simp only [hji26] at H ⊢; exact H)
      have hji26w : (IntKind.i64.wrap ((l0_1.length : Int) - 1)) = ji26 := (i64_w _).trans hji26
      by_cases c27 : 0 ≤ (ji26)
      ·
       rw [if_pos c27] at H
       have c27b0 : decide (0 ≤ (ji26)) = true := decide_eq_true c27
       clear c27
       by_cases c28 : (ji26) < (l0_1.length : Int)
       ·
        rw [if_pos c28] at H
        have c28b0 : decide ((ji26) < (l0_1.length : Int)) = true := decide_eq_true c28
        clear c28
        replace H := Option.bind_eq_some_iff.mp H
        obtain ⟨t327, A290, H⟩ := H
        replace H : (if t327 = 0 then (some (0, 7)) else (some (wrap64 ((wrap64 ((rd l0_1 0) + t327)) - 1), 0))) = some (r1, r2) := H
        have A29 := Aside0.mk A290
        clear A290
        by_cases c30 : t327 = 0
        ·
         rw [if_pos c30] at H
         have c30b0 : (t327 == 0) = true := beq_iff_eq.mpr c30
         have c30b1 : (t327 != 0) = false := bne_eq_false_iff_eq.mpr c30
         clear c30
         simp only [Option.some.injEq, Prod.mk.injEq] at H
         obtain ⟨rfl, rfl⟩ := H
         try go_wp2
         have n0_ := Aside0.mk (blk_drew BK317.out)
         have n1_ := Aside0.mk (blk_drew BK318.out)
         have n2_ := Aside0.mk (blk_drew BK319.out)
         have n3_ := Aside0.mk (below_drew1 HB.out)
         clear BK317
         clear BK318
         clear BK319
         clear HB
         have BK317 := n0_
         have BK318 := n1_
         have BK319 := n2_
         have HB := n3_
         clear n0_ n1_ n2_ n3_
         have p324 : 0 ≤ (0 : Int) := (by omega)
         have q324 : 0 < (l0_1.length : Int) := of_decide_eq_true (by first | (with_reducible assumption) | assumption)
         obtain ⟨ad324, e324, hx324_0⟩ := Kd.at_int HR0_1.out 0 p324 q324
         have hw324_0 := hx324_0
         (try rw [show ((0 : Int)).toNat = 0 from rfl] at hw324_0)
         (try rw [show 0 * 1 = 0 from rfl] at hw324_0)
         (try rw [Addr.add_zero'] at hw324_0)
         cases e324
         have qi324 : (0 < l0_1.length) = True := eq_true (by omega)
         (try rw [show ((0 : Int)).toNat = 0 from rfl] at hx324_0)
         (try rw [Addr.add_zero'] at hx324_0)
         replace hx324_0 := (HB.out.cell (World.block_lt_of_cell? w _ hx324_0)).trans hx324_0
         replace p324 := eq_true p324
         replace q324 := eq_true q324
         have p325 : 0 ≤ ((ji26) : Int) := of_decide_eq_true (by first | (with_reducible assumption) | assumption)
         have q325 : (ji26) < (l0_1.length : Int) := of_decide_eq_true (by first | (with_reducible assumption) | assumption)
         obtain ⟨ad325, e325, hx325_0⟩ := Kd.at_int HR0_1.out (ji26) p325 q325
         have hw325_0 := hx325_0
         obtain rfl : ad324 = ad325 := (by injection e325)
         replace hx325_0 := (HB.out.cell (World.block_lt_of_cell? w _ hx325_0)).trans hx325_0
         replace p325 := eq_true p325
         replace q325 := eq_true q325
         refine start_ (n := 15) (S := fun w' => w'.cell? ⟨gb317, 0, none⟩ = some (.slice A0_0 l0_0.length c0_0) ∧ w'.cell? ⟨gb317, 1, none⟩ = some (.slice (some ad324) l0_1.length c0_1) ∧ w'.cell? ⟨gb317, 2, none⟩ = some (.slice A0_2 l0_2.length c0_2) ∧ w'.cell? ad324 = some (.int .i64 (rd l0_1 0)) ∧ w'.cell? (ad324.add ((ji26)).toNat) = some (.int .i64 (rd l0_1 (ji26)))) (ds := []) #[false, false, false, false, false, false, false, false, false, false, false, false, false, false, false] (by kernel_rfl) rfl rfl ⟨(blk_cell BK317.out 0).trans rfl, (blk_cell BK317.out 1).trans rfl, (blk_cell BK317.out 2).trans rfl, ((HB.out.cell (World.block_lt_of_cell? w _ hw324_0)).trans hw324_0), ((HB.out.cell (World.block_lt_of_cell? w _ hw325_0)).trans hw325_0)⟩ (fun hHeld => ?_); refine with_tabW correct_Apparent.tab6 correct_Apparent.bits6 (fun HT_ HW_ => ?_)
         generalize wc.drew = w31 at BK317 BK318 BK319 HB hx324_0 hx325_0 hHeld ⊢
         refine pure_ (i := 0) (N := some 29) (v := ?_) (a' := ?_) #[true, false, false, false, false, false, false, false, false, false, false, false, false, false, false] rfl rfl (any_of HT_.out (by kernel_rfl)) (fun _ _ _ h => h) (Or.inl ⟨by rfl, ?_⟩) ?_ ?_
         rotate_left
         ·
          intro w'
          go_simp
          with_reducible rfl
         rotate_left
         ·
          simp only [Act.put, List.setIfInBounds_toArray, List.set_cons_zero, List.set_cons_succ, i64_w, i32_w]
          rfl
         refine pure_ (i := 4) (N := some 33) (v := ?_) (a' := ?_) #[true, false, false, false, true, false, false, false, false, false, false, false, false, false, false] rfl rfl (any_of HT_.out (by kernel_rfl)) (fun _ _ _ h => h) (Or.inl ⟨by rfl, ?_⟩) ?_ ?_
         rotate_left
         ·
          intro w'
          go_simp
          with_reducible rfl
         rotate_left
         ·
          simp only [Act.put, List.setIfInBounds_toArray, List.set_cons_zero, List.set_cons_succ, i64_w, i32_w]
          rfl
         refine pure_ (i := 6) (N := some 35) (v := ?_) (a' := ?_) #[true, false, false, false, true, false, true, false, false, false, false, false, false, false, false] rfl rfl (any_of HT_.out (by kernel_rfl)) (fun _ _ _ h => h) (Or.inl ⟨by rfl, ?_⟩) ?_ ?_
         rotate_left
         ·
          intro w'
          go_simp
          with_reducible rfl
         rotate_left
         ·
          simp only [Act.put, List.setIfInBounds_toArray, List.set_cons_zero, List.set_cons_succ, i64_w, i32_w]
          rfl
         refine take_ (i := 1) (N := some 30) (v := ?_) (a' := ?_) #[true, true, false, false, true, false, true, false, false, false, false, false, false, false, false] rfl rfl (take_ofW HT_.out HW_.out (by kernel_rfl)) (fun _ _ _ h => h) (Or.inl ⟨by rfl, ?_⟩) hHeld ?_ ?_
         rotate_left
         ·
          rintro w' ⟨s0, s1, s2, s3, s4⟩
          go_simp
          with_reducible rfl
         rotate_left
         ·
          simp only [Act.put, List.setIfInBounds_toArray, List.set_cons_zero, List.set_cons_succ, i64_w, i32_w]
          rfl
         refine pure_ (i := 2) (N := some 31) (v := ?_) (a' := ?_) #[true, true, true, false, true, false, true, false, false, false, false, false, false, false, false] rfl rfl (any_of HT_.out (by kernel_rfl)) (fun _ _ _ h => h) (Or.inl ⟨by rfl, ?_⟩) ?_ ?_
         rotate_left
         ·
          intro w'
          go_simp
          with_reducible rfl
         rotate_left
         ·
          simp only [Act.put, List.setIfInBounds_toArray, List.set_cons_zero, List.set_cons_succ, i64_w, i32_w]
          rfl
         refine take_ (i := 3) (N := some 32) (v := ?_) (a' := ?_) #[true, true, true, true, true, false, true, false, false, false, false, false, false, false, false] rfl rfl (take_ofW HT_.out HW_.out (by kernel_rfl)) (fun _ _ _ h => h) (Or.inl ⟨by rfl, ?_⟩) hHeld ?_ ?_
         rotate_left
         ·
          rintro w' ⟨s0, s1, s2, s3, s4⟩
          go_simp
          with_reducible rfl
         rotate_left
         ·
          simp only [Act.put, List.setIfInBounds_toArray, List.set_cons_zero, List.set_cons_succ, i64_w, i32_w]
          rfl
         refine take_ (i := 5) (N := some 34) (v := ?_) (a' := ?_) #[true, true, true, true, true, true, true, false, false, false, false, false, false, false, false] rfl rfl (take_ofW HT_.out HW_.out (by kernel_rfl)) (fun _ _ _ h => h) (Or.inl ⟨by rfl, ?_⟩) hHeld ?_ ?_
         rotate_left
         ·
          rintro w' ⟨s0, s1, s2, s3, s4⟩
          go_simp
          with_reducible rfl
         rotate_left
         ·
          simp only [Act.put, List.setIfInBounds_toArray, List.set_cons_zero, List.set_cons_succ, i64_w, i32_w]
          rfl
         refine take_ (i := 7) (N := some 36) (v := ?_) (a' := ?_) #[true, true, true, true, true, true, true, true, false, false, false, false, false, false, false] rfl rfl (take_ofW HT_.out HW_.out (by kernel_rfl)) (fun _ _ _ h => h) (Or.inl ⟨by rfl, ?_⟩) hHeld ?_ ?_
         rotate_left
         ·
          rintro w' ⟨s0, s1, s2, s3, s4⟩
          go_simp
          with_reducible rfl
         rotate_left
         ·
          simp only [Act.put, List.setIfInBounds_toArray, List.set_cons_zero, List.set_cons_succ, i64_w, i32_w]
          rfl
         refine pure_ (i := 8) (N := some 37) (v := ?_) (a' := ?_) #[true, true, true, true, true, true, true, true, true, false, false, false, false, false, false] rfl rfl (any_of HT_.out (by kernel_rfl)) (fun _ _ _ h => h) (Or.inl ⟨by rfl, ?_⟩) ?_ ?_
         rotate_left
         ·
          intro w'
          go_simp
          with_reducible rfl
         rotate_left
         ·
          simp only [Act.put, List.setIfInBounds_toArray, List.set_cons_zero, List.set_cons_succ, i64_w, i32_w]
          rfl
         refine pure_ (i := 9) (N := some 38) (v := ?_) (a' := ?_) #[true, true, true, true, true, true, true, true, true, true, false, false, false, false, false] rfl rfl (any_of HT_.out (by kernel_rfl)) (fun _ _ _ h => h) (Or.inl ⟨by rfl, ?_⟩) ?_ ?_
         rotate_left
         ·
          intro w'
          go_simp
          with_reducible rfl
         rotate_left
         ·
          simp only [Act.put, List.setIfInBounds_toArray, List.set_cons_zero, List.set_cons_succ, i64_w, i32_w]
          rfl
         refine pure_ (i := 10) (N := some 39) (v := ?_) (a' := ?_) #[true, true, true, true, true, true, true, true, true, true, true, false, false, false, false] rfl rfl (any_of HT_.out (by kernel_rfl)) (fun _ _ _ h => h) (Or.inl ⟨by rfl, ?_⟩) ?_ ?_
         rotate_left
         ·
          intro w'
          go_simp
          with_reducible rfl
         rotate_left
         ·
          simp only [Act.put, List.setIfInBounds_toArray, List.set_cons_zero, List.set_cons_succ, i64_w, i32_w]
          rfl
         refine take_ (i := 11) (N := some 40) (v := ?_) (a' := ?_) #[true, true, true, true, true, true, true, true, true, true, true, true, false, false, false] rfl rfl (take_ofW HT_.out HW_.out (by kernel_rfl)) (fun _ _ _ h => h) (Or.inl ⟨by rfl, ?_⟩) hHeld ?_ ?_
         rotate_left
         ·
          rintro w' ⟨s0, s1, s2, s3, s4⟩
          go_simp
          with_reducible rfl
         rotate_left
         ·
          simp only [Act.put, List.setIfInBounds_toArray, List.set_cons_zero, List.set_cons_succ, i64_w, i32_w]
          rfl
         refine one_ (i := 12) (N := some 10) #[true, true, true, true, true, true, true, true, true, true, true, true, true, false, false] rfl rfl (one_of HT_.out (by kernel_rfl)) (by decide) (fun K hK => ?_)
         refine box_step ?hg (N := 10) ?hd (cs := #[.int .i64 0]) (t := 3) ?hr ?_; (case hd => rfl); (case hg => rfl); (case hr => first | (go_simp; done) | (go_simp; rfl))
         intro gb326 hg w32 hbox hb
         have n0_ := Aside0.mk (blk_below (g := gb317) (o := .cells #[.slice A0_0 l0_0.length c0_0, .slice (some ad324) l0_1.length c0_1, .slice A0_2 l0_2.length c0_2] 25 (0, 0)) (by (with_reducible repeat (first | refine blk_drewN ?_ _ | refine blk_drew ?_ | refine blk_alloc ?_ _)); exact BK317.out) hb)
         have n1_ := Aside0.mk (blk_below (g := gb318) (o := .cells #[.int .i64 a1] 3 (0, 0)) (by (with_reducible repeat (first | refine blk_drewN ?_ _ | refine blk_drew ?_ | refine blk_alloc ?_ _)); exact BK318.out) hb)
         have n2_ := Aside0.mk (blk_below (g := gb319) (o := .cells #[.int .i64 a2] 3 (0, 0)) (by (with_reducible repeat (first | refine blk_drewN ?_ _ | refine blk_drew ?_ | refine blk_alloc ?_ _)); exact BK319.out) hb)
         have n3_ := Aside0.mk (below_step (by repeat (first | (with_reducible first | exact HB.out | apply below_alloc | apply pw_below_drewN | apply below_drew1 | refine below_set ?_ GE317.out | refine below_set ?_ GE318.out | refine below_set ?_ GE319.out) | exact HB.out)) hb)
         have n4_ := Aside0.mk (hbox)
         have n5_ := Aside0.mk ((by rw [hg]; exact (below_size (by repeat (first | (with_reducible first | exact HB.out | apply below_alloc | apply pw_below_drewN | apply below_drew1 | refine below_set ?_ GE317.out | refine below_set ?_ GE318.out | refine below_set ?_ GE319.out) | exact HB.out))) : w.heap.size ≤ gb326))
         have n6_ := Aside0.mk ((by rw [hg]; exact (below_size (by repeat (first | (with_reducible first | exact HB.out | apply below_alloc | apply pw_below_drewN | apply below_drew1 | refine below_set ?_ GE317.out | refine below_set ?_ GE318.out | refine below_set ?_ GE319.out) | exact HB.out))) : w.heap.size ≤ gb326))
         have n7_ := Aside0.mk ((by rw [hg]; exact Nat.ne_of_lt (blk_lt (g := gb317) (o := .cells #[.slice A0_0 l0_0.length c0_0, .slice (some ad324) l0_1.length c0_1, .slice A0_2 l0_2.length c0_2] 25 (0, 0)) (by (with_reducible repeat (first | refine blk_drewN ?_ _ | refine blk_drew ?_ | refine blk_alloc ?_ _)); exact BK317.out)) : gb317 ≠ gb326))
         have n8_ := Aside0.mk ((by rw [hg]; exact Nat.ne_of_gt (blk_lt (g := gb317) (o := .cells #[.slice A0_0 l0_0.length c0_0, .slice (some ad324) l0_1.length c0_1, .slice A0_2 l0_2.length c0_2] 25 (0, 0)) (by (with_reducible repeat (first | refine blk_drewN ?_ _ | refine blk_drew ?_ | refine blk_alloc ?_ _)); exact BK317.out)) : gb326 ≠ gb317))
         have n9_ := Aside0.mk ((by rw [hg]; exact Nat.ne_of_lt (blk_lt (g := gb318) (o := .cells #[.int .i64 a1] 3 (0, 0)) (by (with_reducible repeat (first | refine blk_drewN ?_ _ | refine blk_drew ?_ | refine blk_alloc ?_ _)); exact BK318.out)) : gb318 ≠ gb326))
         have n10_ := Aside0.mk ((by rw [hg]; exact Nat.ne_of_gt (blk_lt (g := gb318) (o := .cells #[.int .i64 a1] 3 (0, 0)) (by (with_reducible repeat (first | refine blk_drewN ?_ _ | refine blk_drew ?_ | refine blk_alloc ?_ _)); exact BK318.out)) : gb326 ≠ gb318))
         have n11_ := Aside0.mk ((by rw [hg]; exact Nat.ne_of_lt (blk_lt (g := gb319) (o := .cells #[.int .i64 a2] 3 (0, 0)) (by (with_reducible repeat (first | refine blk_drewN ?_ _ | refine blk_drew ?_ | refine blk_alloc ?_ _)); exact BK319.out)) : gb319 ≠ gb326))
         have n12_ := Aside0.mk ((by rw [hg]; exact Nat.ne_of_gt (blk_lt (g := gb319) (o := .cells #[.int .i64 a2] 3 (0, 0)) (by (with_reducible repeat (first | refine blk_drewN ?_ _ | refine blk_drew ?_ | refine blk_alloc ?_ _)); exact BK319.out)) : gb326 ≠ gb319))
         clear BK317
         clear BK318
         clear BK319
         clear HB
         have BK317 := n0_
         have BK318 := n1_
         have BK319 := n2_
         have HB := n3_
         have BK326 := n4_
         have GW326 := n5_
         have GE326 := n6_
         have NB317_326 := n7_
         have NB326_317 := n8_
         have NB318_326 := n9_
         have NB326_318 := n10_
         have NB319_326 := n11_
         have NB326_319 := n12_
         clear n0_ n1_ n2_ n3_ n4_ n5_ n6_ n7_ n8_ n9_ n10_ n11_ n12_
         clear hb hbox hg
         refine hK.out _ _ ⟨(blk_cell BK317.out 0).trans rfl, (blk_cell BK317.out 1).trans rfl, (blk_cell BK317.out 2).trans rfl, ((HB.out.cell (World.block_lt_of_cell? w _ hw324_0)).trans hw324_0), ((HB.out.cell (World.block_lt_of_cell? w _ hw325_0)).trans hw325_0)⟩ (fun hHeld => ?_)
         clear hK K
         refine norm_ (a' := ?_) ?_ ?_
         rotate_left
         ·
          show Act.put _ (some 10) _ = _
          simp only [Act.put, List.setIfInBounds_toArray, List.set_cons_zero, List.set_cons_succ, i64_w, i32_w]
          rfl
         refine one_ (i := 13) (N := none) #[true, true, true, true, true, true, true, true, true, true, true, true, true, true, false] rfl rfl (one_of HT_.out (by kernel_rfl)) (by decide) (fun K hK => ?_)
         have hs33 : w32.cell? ⟨gb326, 0, none⟩ = some (.int .i64 0) := (blk_cell BK326.out 0).trans rfl
         have hfs33 := blk_frozen BK326.out 0
         have hns33_0 := NB317_326.out
         have hns33_1 := NB318_326.out
         have hns33_2 := NB319_326.out
         have hms33_0 := NB326_317.out
         have hms33_1 := NB326_318.out
         have hms33_2 := NB326_319.out
         refine skip_ (w1 := ?_) (by rfl) rfl ?_ ?_
         rotate_left
         ·
          go_simp
          rfl
         refine hK.out _ _ ⟨((cell_far (p := ⟨gb326, _, none⟩) NB317_326.out _).trans (hHeld.1)), ((cell_far (p := ⟨gb326, _, none⟩) NB317_326.out _).trans (hHeld.2.1)), ((cell_far (p := ⟨gb326, _, none⟩) NB317_326.out _).trans (hHeld.2.2.1)), ((cell_far (p := ⟨gb326, _, none⟩) (ne_far hw324_0 GW326.out) _).trans (hHeld.2.2.2.1)), ((cell_far (p := ⟨gb326, _, none⟩) (ne_far hw325_0 GW326.out) _).trans (hHeld.2.2.2.2))⟩ (fun hHeld => ?_)
         clear hK K
         refine pure_ (i := 14) (N := some 11) (v := ?_) (a' := ?_) #[true, true, true, true, true, true, true, true, true, true, true, true, true, true, true] rfl rfl (any_of HT_.out (by kernel_rfl)) (fun _ _ _ h => h) (Or.inl ⟨by rfl, ?_⟩) ?_ ?_
         rotate_left
         ·
          intro w'
          go_simp
          with_reducible rfl
         rotate_left
         ·
          simp only [Act.put, List.setIfInBounds_toArray, List.set_cons_zero, List.set_cons_succ, i64_w, i32_w]
          rfl
         refine done_ (done_of HT_.out (by kernel_rfl)) ?_
         have hnb34 := NB326_317.out
         have hnc34 := NB317_326.out
         have hnb35 := NB326_318.out
         have hnc35 := NB318_326.out
         have hnb36 := NB326_319.out
         have hnc36 := NB319_326.out
         have hcz37_0 : w32.cell? ⟨gb326, 0, none⟩ = some (.int .i64 0) := (blk_cell BK326.out 0).trans rfl
         have hfz37_0 := blk_frozen BK326.out 0
         try go_wp2_with (first | ((with_reducible refine gate_callee (f := 32) rfl ?_); refine goesL_ (some 46) rfl rfl Tryd.func32 (by kernel_rfl) rfl #[.int .i64 (wrap64 ((wrap64 ((rd l0_1 (ji26)) - (rd l0_1 0))) + 1)), .func (.func 33) #[] #[.pointer (some ⟨gb317, 0, none⟩), .pointer (some ⟨gb318, 0, none⟩), .pointer (some ⟨gb326, 0, none⟩), .pointer (some ⟨gb319, 0, none⟩)]] rfl (by (try simp only [List.map_toArray, List.map_cons, List.map_nil]); first | done | (simp only [hji26]; rfl) | rfl | (simp only [List.length_drop, List.length_take]; rfl)) ?_; (with_reducible refine (sort_Search_32_at_33.calls kj6 (wrap64 ((wrap64 ((rd l0_1 (ji26)) - (rd l0_1 0))) + 1))  gb317 A0_0 c0_0 l0_0 (some ad324) c0_1 l0_1 A0_2 c0_2 l0_2 gb318 a1 gb326 (rd l0_1 0) gb319 a2 t327 _ ?side1 ?side2 ?side3 ?side4 ?side5 ?side6 ?side7 ?side8 ?side9 ?side10 A29.out).mono ?_); (case side1 => exact Kd.C_below HR0_0.out (by repeat (first | (with_reducible first | exact HB.out | apply below_alloc | apply pw_below_drewN | apply below_drew1 | refine below_set ?_ GE317.out | refine below_set ?_ GE318.out | refine below_set ?_ GE319.out | refine below_set ?_ GE326.out) | exact HB.out))); (case side2 => exact HC0_0.out); (case side3 => exact Kd.C_below HR0_1.out (by repeat (first | (with_reducible first | exact HB.out | apply below_alloc | apply pw_below_drewN | apply below_drew1 | refine below_set ?_ GE317.out | refine below_set ?_ GE318.out | refine below_set ?_ GE319.out | refine below_set ?_ GE326.out) | exact HB.out))); (case side4 => exact HC0_1.out); (case side5 => exact Kd.C_below HR0_2.out (by repeat (first | (with_reducible first | exact HB.out | apply below_alloc | apply pw_below_drewN | apply below_drew1 | refine below_set ?_ GE317.out | refine below_set ?_ GE318.out | refine below_set ?_ GE319.out | refine below_set ?_ GE326.out) | exact HB.out))); (case side6 => exact HC0_2.out); (case side7 => (with_reducible repeat (first | refine blk_drewN ?_ _ | refine blk_drew ?_ | refine blk_alloc ?_ _)); refine blk_far ?_ NB317_326.out _; (with_reducible repeat (first | refine blk_drewN ?_ _ | refine blk_drew ?_ | refine blk_alloc ?_ _)); exact BK317.out); (case side8 => (with_reducible repeat (first | refine blk_drewN ?_ _ | refine blk_drew ?_ | refine blk_alloc ?_ _)); refine blk_far ?_ NB318_326.out _; (with_reducible repeat (first | refine blk_drewN ?_ _ | refine blk_drew ?_ | refine blk_alloc ?_ _)); exact BK318.out); (case side9 => (with_reducible repeat (first | refine blk_drewN ?_ _ | refine blk_drew ?_ | refine blk_alloc ?_ _)); refine blk_put (cs := #[.int .i64 0]) ?_ 0 _ rfl; (with_reducible repeat (first | refine blk_drewN ?_ _ | refine blk_drew ?_ | refine blk_alloc ?_ _)); exact BK326.out); (case side10 => (with_reducible repeat (first | refine blk_drewN ?_ _ | refine blk_drew ?_ | refine blk_alloc ?_ _)); refine blk_far ?_ NB319_326.out _; (with_reducible repeat (first | refine blk_drewN ?_ _ | refine blk_drew ?_ | refine blk_alloc ?_ _)); exact BK319.out); rintro e w38 ⟨rfl, hb⟩; refine ⟨_, rfl, ?_⟩; have n0_ := Aside0.mk (blk_below (g := gb317) (o := .cells #[.slice A0_0 l0_0.length c0_0, .slice (some ad324) l0_1.length c0_1, .slice A0_2 l0_2.length c0_2] 25 (0, 0)) (by (with_reducible repeat (first | refine blk_drewN ?_ _ | refine blk_drew ?_ | refine blk_alloc ?_ _)); refine blk_far ?_ NB317_326.out _; (with_reducible repeat (first | refine blk_drewN ?_ _ | refine blk_drew ?_ | refine blk_alloc ?_ _)); exact BK317.out) hb); have n1_ := Aside0.mk (blk_below (g := gb318) (o := .cells #[.int .i64 a1] 3 (0, 0)) (by (with_reducible repeat (first | refine blk_drewN ?_ _ | refine blk_drew ?_ | refine blk_alloc ?_ _)); refine blk_far ?_ NB318_326.out _; (with_reducible repeat (first | refine blk_drewN ?_ _ | refine blk_drew ?_ | refine blk_alloc ?_ _)); exact BK318.out) hb); have n2_ := Aside0.mk (blk_below (g := gb319) (o := .cells #[.int .i64 a2] 3 (0, 0)) (by (with_reducible repeat (first | refine blk_drewN ?_ _ | refine blk_drew ?_ | refine blk_alloc ?_ _)); refine blk_far ?_ NB319_326.out _; (with_reducible repeat (first | refine blk_drewN ?_ _ | refine blk_drew ?_ | refine blk_alloc ?_ _)); exact BK319.out) hb); have n3_ := Aside0.mk (blk_below (g := gb326) (o := .cells #[.int .i64 (rd l0_1 0)] 3 (0, 0)) (by (with_reducible repeat (first | refine blk_drewN ?_ _ | refine blk_drew ?_ | refine blk_alloc ?_ _)); refine blk_put (cs := #[.int .i64 0]) ?_ 0 _ rfl; (with_reducible repeat (first | refine blk_drewN ?_ _ | refine blk_drew ?_ | refine blk_alloc ?_ _)); exact BK326.out) hb); have n4_ := Aside0.mk (below_step (by repeat (first | (with_reducible first | exact HB.out | apply below_alloc | apply pw_below_drewN | apply below_drew1 | refine below_set ?_ GE317.out | refine below_set ?_ GE318.out | refine below_set ?_ GE319.out | refine below_set ?_ GE326.out) | exact HB.out)) hb); clear BK317; clear BK318; clear BK319; clear BK326; clear HB; have BK317 := n0_; have BK318 := n1_; have BK319 := n2_; have BK326 := n3_; have HB := n4_; clear n0_ n1_ n2_ n3_ n4_; (try clear hb); (try clear hb2); (try clear hk); (try clear hi)))
         go_ret2
         exact ⟨by first | rfl | (simp [errW_none, errW_some] <;> rfl) | (simp only [← hji26]; first | rfl | (simp [errW_none, errW_some] <;> rfl)) | (simp [*, errW_none, errW_some] <;> rfl), by repeat (first | (with_reducible first | exact HB.out | apply below_alloc | apply pw_below_drewN | apply below_drew1 | refine below_set ?_ GE317.out | refine below_set ?_ GE318.out | refine below_set ?_ GE319.out | refine below_set ?_ GE326.out) | exact HB.out)⟩
        ·
         rw [if_neg c30] at H
         have c30b0 : (t327 == 0) = false := beq_eq_false_iff_ne.mpr c30
         have c30b1 : (t327 != 0) = true := bne_iff_ne.mpr c30
         simp only [Option.some.injEq, Prod.mk.injEq] at H
         obtain ⟨rfl, rfl⟩ := H
         try go_wp2
         have n0_ := Aside0.mk (blk_drew BK317.out)
         have n1_ := Aside0.mk (blk_drew BK318.out)
         have n2_ := Aside0.mk (blk_drew BK319.out)
         have n3_ := Aside0.mk (below_drew1 HB.out)
         clear BK317
         clear BK318
         clear BK319
         clear HB
         have BK317 := n0_
         have BK318 := n1_
         have BK319 := n2_
         have HB := n3_
         clear n0_ n1_ n2_ n3_
         have p324 : 0 ≤ (0 : Int) := (by omega)
         have q324 : 0 < (l0_1.length : Int) := of_decide_eq_true (by first | (with_reducible assumption) | assumption)
         obtain ⟨ad324, e324, hx324_0⟩ := Kd.at_int HR0_1.out 0 p324 q324
         have hw324_0 := hx324_0
         (try rw [show ((0 : Int)).toNat = 0 from rfl] at hw324_0)
         (try rw [show 0 * 1 = 0 from rfl] at hw324_0)
         (try rw [Addr.add_zero'] at hw324_0)
         cases e324
         have qi324 : (0 < l0_1.length) = True := eq_true (by omega)
         (try rw [show ((0 : Int)).toNat = 0 from rfl] at hx324_0)
         (try rw [Addr.add_zero'] at hx324_0)
         replace hx324_0 := (HB.out.cell (World.block_lt_of_cell? w _ hx324_0)).trans hx324_0
         replace p324 := eq_true p324
         replace q324 := eq_true q324
         have p325 : 0 ≤ ((ji26) : Int) := of_decide_eq_true (by first | (with_reducible assumption) | assumption)
         have q325 : (ji26) < (l0_1.length : Int) := of_decide_eq_true (by first | (with_reducible assumption) | assumption)
         obtain ⟨ad325, e325, hx325_0⟩ := Kd.at_int HR0_1.out (ji26) p325 q325
         have hw325_0 := hx325_0
         obtain rfl : ad324 = ad325 := (by injection e325)
         replace hx325_0 := (HB.out.cell (World.block_lt_of_cell? w _ hx325_0)).trans hx325_0
         replace p325 := eq_true p325
         replace q325 := eq_true q325
         refine start_ (n := 15) (S := fun w' => w'.cell? ⟨gb317, 0, none⟩ = some (.slice A0_0 l0_0.length c0_0) ∧ w'.cell? ⟨gb317, 1, none⟩ = some (.slice (some ad324) l0_1.length c0_1) ∧ w'.cell? ⟨gb317, 2, none⟩ = some (.slice A0_2 l0_2.length c0_2) ∧ w'.cell? ad324 = some (.int .i64 (rd l0_1 0)) ∧ w'.cell? (ad324.add ((ji26)).toNat) = some (.int .i64 (rd l0_1 (ji26)))) (ds := []) #[false, false, false, false, false, false, false, false, false, false, false, false, false, false, false] (by kernel_rfl) rfl rfl ⟨(blk_cell BK317.out 0).trans rfl, (blk_cell BK317.out 1).trans rfl, (blk_cell BK317.out 2).trans rfl, ((HB.out.cell (World.block_lt_of_cell? w _ hw324_0)).trans hw324_0), ((HB.out.cell (World.block_lt_of_cell? w _ hw325_0)).trans hw325_0)⟩ (fun hHeld => ?_); refine with_tabW correct_Apparent.tab6 correct_Apparent.bits6 (fun HT_ HW_ => ?_)
         generalize wc.drew = w39 at BK317 BK318 BK319 HB hx324_0 hx325_0 hHeld ⊢
         refine pure_ (i := 0) (N := some 29) (v := ?_) (a' := ?_) #[true, false, false, false, false, false, false, false, false, false, false, false, false, false, false] rfl rfl (any_of HT_.out (by kernel_rfl)) (fun _ _ _ h => h) (Or.inl ⟨by rfl, ?_⟩) ?_ ?_
         rotate_left
         ·
          intro w'
          go_simp
          with_reducible rfl
         rotate_left
         ·
          simp only [Act.put, List.setIfInBounds_toArray, List.set_cons_zero, List.set_cons_succ, i64_w, i32_w]
          rfl
         refine pure_ (i := 4) (N := some 33) (v := ?_) (a' := ?_) #[true, false, false, false, true, false, false, false, false, false, false, false, false, false, false] rfl rfl (any_of HT_.out (by kernel_rfl)) (fun _ _ _ h => h) (Or.inl ⟨by rfl, ?_⟩) ?_ ?_
         rotate_left
         ·
          intro w'
          go_simp
          with_reducible rfl
         rotate_left
         ·
          simp only [Act.put, List.setIfInBounds_toArray, List.set_cons_zero, List.set_cons_succ, i64_w, i32_w]
          rfl
         refine pure_ (i := 6) (N := some 35) (v := ?_) (a' := ?_) #[true, false, false, false, true, false, true, false, false, false, false, false, false, false, false] rfl rfl (any_of HT_.out (by kernel_rfl)) (fun _ _ _ h => h) (Or.inl ⟨by rfl, ?_⟩) ?_ ?_
         rotate_left
         ·
          intro w'
          go_simp
          with_reducible rfl
         rotate_left
         ·
          simp only [Act.put, List.setIfInBounds_toArray, List.set_cons_zero, List.set_cons_succ, i64_w, i32_w]
          rfl
         refine take_ (i := 1) (N := some 30) (v := ?_) (a' := ?_) #[true, true, false, false, true, false, true, false, false, false, false, false, false, false, false] rfl rfl (take_ofW HT_.out HW_.out (by kernel_rfl)) (fun _ _ _ h => h) (Or.inl ⟨by rfl, ?_⟩) hHeld ?_ ?_
         rotate_left
         ·
          rintro w' ⟨s0, s1, s2, s3, s4⟩
          go_simp
          with_reducible rfl
         rotate_left
         ·
          simp only [Act.put, List.setIfInBounds_toArray, List.set_cons_zero, List.set_cons_succ, i64_w, i32_w]
          rfl
         refine pure_ (i := 2) (N := some 31) (v := ?_) (a' := ?_) #[true, true, true, false, true, false, true, false, false, false, false, false, false, false, false] rfl rfl (any_of HT_.out (by kernel_rfl)) (fun _ _ _ h => h) (Or.inl ⟨by rfl, ?_⟩) ?_ ?_
         rotate_left
         ·
          intro w'
          go_simp
          with_reducible rfl
         rotate_left
         ·
          simp only [Act.put, List.setIfInBounds_toArray, List.set_cons_zero, List.set_cons_succ, i64_w, i32_w]
          rfl
         refine take_ (i := 3) (N := some 32) (v := ?_) (a' := ?_) #[true, true, true, true, true, false, true, false, false, false, false, false, false, false, false] rfl rfl (take_ofW HT_.out HW_.out (by kernel_rfl)) (fun _ _ _ h => h) (Or.inl ⟨by rfl, ?_⟩) hHeld ?_ ?_
         rotate_left
         ·
          rintro w' ⟨s0, s1, s2, s3, s4⟩
          go_simp
          with_reducible rfl
         rotate_left
         ·
          simp only [Act.put, List.setIfInBounds_toArray, List.set_cons_zero, List.set_cons_succ, i64_w, i32_w]
          rfl
         refine take_ (i := 5) (N := some 34) (v := ?_) (a' := ?_) #[true, true, true, true, true, true, true, false, false, false, false, false, false, false, false] rfl rfl (take_ofW HT_.out HW_.out (by kernel_rfl)) (fun _ _ _ h => h) (Or.inl ⟨by rfl, ?_⟩) hHeld ?_ ?_
         rotate_left
         ·
          rintro w' ⟨s0, s1, s2, s3, s4⟩
          go_simp
          with_reducible rfl
         rotate_left
         ·
          simp only [Act.put, List.setIfInBounds_toArray, List.set_cons_zero, List.set_cons_succ, i64_w, i32_w]
          rfl
         refine take_ (i := 7) (N := some 36) (v := ?_) (a' := ?_) #[true, true, true, true, true, true, true, true, false, false, false, false, false, false, false] rfl rfl (take_ofW HT_.out HW_.out (by kernel_rfl)) (fun _ _ _ h => h) (Or.inl ⟨by rfl, ?_⟩) hHeld ?_ ?_
         rotate_left
         ·
          rintro w' ⟨s0, s1, s2, s3, s4⟩
          go_simp
          with_reducible rfl
         rotate_left
         ·
          simp only [Act.put, List.setIfInBounds_toArray, List.set_cons_zero, List.set_cons_succ, i64_w, i32_w]
          rfl
         refine pure_ (i := 8) (N := some 37) (v := ?_) (a' := ?_) #[true, true, true, true, true, true, true, true, true, false, false, false, false, false, false] rfl rfl (any_of HT_.out (by kernel_rfl)) (fun _ _ _ h => h) (Or.inl ⟨by rfl, ?_⟩) ?_ ?_
         rotate_left
         ·
          intro w'
          go_simp
          with_reducible rfl
         rotate_left
         ·
          simp only [Act.put, List.setIfInBounds_toArray, List.set_cons_zero, List.set_cons_succ, i64_w, i32_w]
          rfl
         refine pure_ (i := 9) (N := some 38) (v := ?_) (a' := ?_) #[true, true, true, true, true, true, true, true, true, true, false, false, false, false, false] rfl rfl (any_of HT_.out (by kernel_rfl)) (fun _ _ _ h => h) (Or.inl ⟨by rfl, ?_⟩) ?_ ?_
         rotate_left
         ·
          intro w'
          go_simp
          with_reducible rfl
         rotate_left
         ·
          simp only [Act.put, List.setIfInBounds_toArray, List.set_cons_zero, List.set_cons_succ, i64_w, i32_w]
          rfl
         refine pure_ (i := 10) (N := some 39) (v := ?_) (a' := ?_) #[true, true, true, true, true, true, true, true, true, true, true, false, false, false, false] rfl rfl (any_of HT_.out (by kernel_rfl)) (fun _ _ _ h => h) (Or.inl ⟨by rfl, ?_⟩) ?_ ?_
         rotate_left
         ·
          intro w'
          go_simp
          with_reducible rfl
         rotate_left
         ·
          simp only [Act.put, List.setIfInBounds_toArray, List.set_cons_zero, List.set_cons_succ, i64_w, i32_w]
          rfl
         refine take_ (i := 11) (N := some 40) (v := ?_) (a' := ?_) #[true, true, true, true, true, true, true, true, true, true, true, true, false, false, false] rfl rfl (take_ofW HT_.out HW_.out (by kernel_rfl)) (fun _ _ _ h => h) (Or.inl ⟨by rfl, ?_⟩) hHeld ?_ ?_
         rotate_left
         ·
          rintro w' ⟨s0, s1, s2, s3, s4⟩
          go_simp
          with_reducible rfl
         rotate_left
         ·
          simp only [Act.put, List.setIfInBounds_toArray, List.set_cons_zero, List.set_cons_succ, i64_w, i32_w]
          rfl
         refine one_ (i := 12) (N := some 10) #[true, true, true, true, true, true, true, true, true, true, true, true, true, false, false] rfl rfl (one_of HT_.out (by kernel_rfl)) (by decide) (fun K hK => ?_)
         refine box_step ?hg (N := 10) ?hd (cs := #[.int .i64 0]) (t := 3) ?hr ?_; (case hd => rfl); (case hg => rfl); (case hr => first | (go_simp; done) | (go_simp; rfl))
         intro gb326 hg w40 hbox hb
         have n0_ := Aside0.mk (blk_below (g := gb317) (o := .cells #[.slice A0_0 l0_0.length c0_0, .slice (some ad324) l0_1.length c0_1, .slice A0_2 l0_2.length c0_2] 25 (0, 0)) (by (with_reducible repeat (first | refine blk_drewN ?_ _ | refine blk_drew ?_ | refine blk_alloc ?_ _)); exact BK317.out) hb)
         have n1_ := Aside0.mk (blk_below (g := gb318) (o := .cells #[.int .i64 a1] 3 (0, 0)) (by (with_reducible repeat (first | refine blk_drewN ?_ _ | refine blk_drew ?_ | refine blk_alloc ?_ _)); exact BK318.out) hb)
         have n2_ := Aside0.mk (blk_below (g := gb319) (o := .cells #[.int .i64 a2] 3 (0, 0)) (by (with_reducible repeat (first | refine blk_drewN ?_ _ | refine blk_drew ?_ | refine blk_alloc ?_ _)); exact BK319.out) hb)
         have n3_ := Aside0.mk (below_step (by repeat (first | (with_reducible first | exact HB.out | apply below_alloc | apply pw_below_drewN | apply below_drew1 | refine below_set ?_ GE317.out | refine below_set ?_ GE318.out | refine below_set ?_ GE319.out) | exact HB.out)) hb)
         have n4_ := Aside0.mk (hbox)
         have n5_ := Aside0.mk ((by rw [hg]; exact (below_size (by repeat (first | (with_reducible first | exact HB.out | apply below_alloc | apply pw_below_drewN | apply below_drew1 | refine below_set ?_ GE317.out | refine below_set ?_ GE318.out | refine below_set ?_ GE319.out) | exact HB.out))) : w.heap.size ≤ gb326))
         have n6_ := Aside0.mk ((by rw [hg]; exact (below_size (by repeat (first | (with_reducible first | exact HB.out | apply below_alloc | apply pw_below_drewN | apply below_drew1 | refine below_set ?_ GE317.out | refine below_set ?_ GE318.out | refine below_set ?_ GE319.out) | exact HB.out))) : w.heap.size ≤ gb326))
         have n7_ := Aside0.mk ((by rw [hg]; exact Nat.ne_of_lt (blk_lt (g := gb317) (o := .cells #[.slice A0_0 l0_0.length c0_0, .slice (some ad324) l0_1.length c0_1, .slice A0_2 l0_2.length c0_2] 25 (0, 0)) (by (with_reducible repeat (first | refine blk_drewN ?_ _ | refine blk_drew ?_ | refine blk_alloc ?_ _)); exact BK317.out)) : gb317 ≠ gb326))
         have n8_ := Aside0.mk ((by rw [hg]; exact Nat.ne_of_gt (blk_lt (g := gb317) (o := .cells #[.slice A0_0 l0_0.length c0_0, .slice (some ad324) l0_1.length c0_1, .slice A0_2 l0_2.length c0_2] 25 (0, 0)) (by (with_reducible repeat (first | refine blk_drewN ?_ _ | refine blk_drew ?_ | refine blk_alloc ?_ _)); exact BK317.out)) : gb326 ≠ gb317))
         have n9_ := Aside0.mk ((by rw [hg]; exact Nat.ne_of_lt (blk_lt (g := gb318) (o := .cells #[.int .i64 a1] 3 (0, 0)) (by (with_reducible repeat (first | refine blk_drewN ?_ _ | refine blk_drew ?_ | refine blk_alloc ?_ _)); exact BK318.out)) : gb318 ≠ gb326))
         have n10_ := Aside0.mk ((by rw [hg]; exact Nat.ne_of_gt (blk_lt (g := gb318) (o := .cells #[.int .i64 a1] 3 (0, 0)) (by (with_reducible repeat (first | refine blk_drewN ?_ _ | refine blk_drew ?_ | refine blk_alloc ?_ _)); exact BK318.out)) : gb326 ≠ gb318))
         have n11_ := Aside0.mk ((by rw [hg]; exact Nat.ne_of_lt (blk_lt (g := gb319) (o := .cells #[.int .i64 a2] 3 (0, 0)) (by (with_reducible repeat (first | refine blk_drewN ?_ _ | refine blk_drew ?_ | refine blk_alloc ?_ _)); exact BK319.out)) : gb319 ≠ gb326))
         have n12_ := Aside0.mk ((by rw [hg]; exact Nat.ne_of_gt (blk_lt (g := gb319) (o := .cells #[.int .i64 a2] 3 (0, 0)) (by (with_reducible repeat (first | refine blk_drewN ?_ _ | refine blk_drew ?_ | refine blk_alloc ?_ _)); exact BK319.out)) : gb326 ≠ gb319))
         clear BK317
         clear BK318
         clear BK319
         clear HB
         have BK317 := n0_
         have BK318 := n1_
         have BK319 := n2_
         have HB := n3_
         have BK326 := n4_
         have GW326 := n5_
         have GE326 := n6_
         have NB317_326 := n7_
         have NB326_317 := n8_
         have NB318_326 := n9_
         have NB326_318 := n10_
         have NB319_326 := n11_
         have NB326_319 := n12_
         clear n0_ n1_ n2_ n3_ n4_ n5_ n6_ n7_ n8_ n9_ n10_ n11_ n12_
         clear hb hbox hg
         refine hK.out _ _ ⟨(blk_cell BK317.out 0).trans rfl, (blk_cell BK317.out 1).trans rfl, (blk_cell BK317.out 2).trans rfl, ((HB.out.cell (World.block_lt_of_cell? w _ hw324_0)).trans hw324_0), ((HB.out.cell (World.block_lt_of_cell? w _ hw325_0)).trans hw325_0)⟩ (fun hHeld => ?_)
         clear hK K
         refine norm_ (a' := ?_) ?_ ?_
         rotate_left
         ·
          show Act.put _ (some 10) _ = _
          simp only [Act.put, List.setIfInBounds_toArray, List.set_cons_zero, List.set_cons_succ, i64_w, i32_w]
          rfl
         refine one_ (i := 13) (N := none) #[true, true, true, true, true, true, true, true, true, true, true, true, true, true, false] rfl rfl (one_of HT_.out (by kernel_rfl)) (by decide) (fun K hK => ?_)
         have hs41 : w40.cell? ⟨gb326, 0, none⟩ = some (.int .i64 0) := (blk_cell BK326.out 0).trans rfl
         have hfs41 := blk_frozen BK326.out 0
         have hns41_0 := NB317_326.out
         have hns41_1 := NB318_326.out
         have hns41_2 := NB319_326.out
         have hms41_0 := NB326_317.out
         have hms41_1 := NB326_318.out
         have hms41_2 := NB326_319.out
         refine skip_ (w1 := ?_) (by rfl) rfl ?_ ?_
         rotate_left
         ·
          go_simp
          rfl
         refine hK.out _ _ ⟨((cell_far (p := ⟨gb326, _, none⟩) NB317_326.out _).trans (hHeld.1)), ((cell_far (p := ⟨gb326, _, none⟩) NB317_326.out _).trans (hHeld.2.1)), ((cell_far (p := ⟨gb326, _, none⟩) NB317_326.out _).trans (hHeld.2.2.1)), ((cell_far (p := ⟨gb326, _, none⟩) (ne_far hw324_0 GW326.out) _).trans (hHeld.2.2.2.1)), ((cell_far (p := ⟨gb326, _, none⟩) (ne_far hw325_0 GW326.out) _).trans (hHeld.2.2.2.2))⟩ (fun hHeld => ?_)
         clear hK K
         refine pure_ (i := 14) (N := some 11) (v := ?_) (a' := ?_) #[true, true, true, true, true, true, true, true, true, true, true, true, true, true, true] rfl rfl (any_of HT_.out (by kernel_rfl)) (fun _ _ _ h => h) (Or.inl ⟨by rfl, ?_⟩) ?_ ?_
         rotate_left
         ·
          intro w'
          go_simp
          with_reducible rfl
         rotate_left
         ·
          simp only [Act.put, List.setIfInBounds_toArray, List.set_cons_zero, List.set_cons_succ, i64_w, i32_w]
          rfl
         refine done_ (done_of HT_.out (by kernel_rfl)) ?_
         have hnb42 := NB326_317.out
         have hnc42 := NB317_326.out
         have hnb43 := NB326_318.out
         have hnc43 := NB318_326.out
         have hnb44 := NB326_319.out
         have hnc44 := NB319_326.out
         have hcz45_0 : w40.cell? ⟨gb326, 0, none⟩ = some (.int .i64 0) := (blk_cell BK326.out 0).trans rfl
         have hfz45_0 := blk_frozen BK326.out 0
         try go_wp2_with (first | ((with_reducible refine gate_callee (f := 32) rfl ?_); refine goesL_ (some 46) rfl rfl Tryd.func32 (by kernel_rfl) rfl #[.int .i64 (wrap64 ((wrap64 ((rd l0_1 (ji26)) - (rd l0_1 0))) + 1)), .func (.func 33) #[] #[.pointer (some ⟨gb317, 0, none⟩), .pointer (some ⟨gb318, 0, none⟩), .pointer (some ⟨gb326, 0, none⟩), .pointer (some ⟨gb319, 0, none⟩)]] rfl (by (try simp only [List.map_toArray, List.map_cons, List.map_nil]); first | done | (simp only [hji26]; rfl) | rfl | (simp only [List.length_drop, List.length_take]; rfl)) ?_; (with_reducible refine (sort_Search_32_at_33.calls kj6 (wrap64 ((wrap64 ((rd l0_1 (ji26)) - (rd l0_1 0))) + 1))  gb317 A0_0 c0_0 l0_0 (some ad324) c0_1 l0_1 A0_2 c0_2 l0_2 gb318 a1 gb326 (rd l0_1 0) gb319 a2 t327 _ ?side1 ?side2 ?side3 ?side4 ?side5 ?side6 ?side7 ?side8 ?side9 ?side10 A29.out).mono ?_); (case side1 => exact Kd.C_below HR0_0.out (by repeat (first | (with_reducible first | exact HB.out | apply below_alloc | apply pw_below_drewN | apply below_drew1 | refine below_set ?_ GE317.out | refine below_set ?_ GE318.out | refine below_set ?_ GE319.out | refine below_set ?_ GE326.out) | exact HB.out))); (case side2 => exact HC0_0.out); (case side3 => exact Kd.C_below HR0_1.out (by repeat (first | (with_reducible first | exact HB.out | apply below_alloc | apply pw_below_drewN | apply below_drew1 | refine below_set ?_ GE317.out | refine below_set ?_ GE318.out | refine below_set ?_ GE319.out | refine below_set ?_ GE326.out) | exact HB.out))); (case side4 => exact HC0_1.out); (case side5 => exact Kd.C_below HR0_2.out (by repeat (first | (with_reducible first | exact HB.out | apply below_alloc | apply pw_below_drewN | apply below_drew1 | refine below_set ?_ GE317.out | refine below_set ?_ GE318.out | refine below_set ?_ GE319.out | refine below_set ?_ GE326.out) | exact HB.out))); (case side6 => exact HC0_2.out); (case side7 => (with_reducible repeat (first | refine blk_drewN ?_ _ | refine blk_drew ?_ | refine blk_alloc ?_ _)); refine blk_far ?_ NB317_326.out _; (with_reducible repeat (first | refine blk_drewN ?_ _ | refine blk_drew ?_ | refine blk_alloc ?_ _)); exact BK317.out); (case side8 => (with_reducible repeat (first | refine blk_drewN ?_ _ | refine blk_drew ?_ | refine blk_alloc ?_ _)); refine blk_far ?_ NB318_326.out _; (with_reducible repeat (first | refine blk_drewN ?_ _ | refine blk_drew ?_ | refine blk_alloc ?_ _)); exact BK318.out); (case side9 => (with_reducible repeat (first | refine blk_drewN ?_ _ | refine blk_drew ?_ | refine blk_alloc ?_ _)); refine blk_put (cs := #[.int .i64 0]) ?_ 0 _ rfl; (with_reducible repeat (first | refine blk_drewN ?_ _ | refine blk_drew ?_ | refine blk_alloc ?_ _)); exact BK326.out); (case side10 => (with_reducible repeat (first | refine blk_drewN ?_ _ | refine blk_drew ?_ | refine blk_alloc ?_ _)); refine blk_far ?_ NB319_326.out _; (with_reducible repeat (first | refine blk_drewN ?_ _ | refine blk_drew ?_ | refine blk_alloc ?_ _)); exact BK319.out); rintro e w46 ⟨rfl, hb⟩; refine ⟨_, rfl, ?_⟩; have n0_ := Aside0.mk (blk_below (g := gb317) (o := .cells #[.slice A0_0 l0_0.length c0_0, .slice (some ad324) l0_1.length c0_1, .slice A0_2 l0_2.length c0_2] 25 (0, 0)) (by (with_reducible repeat (first | refine blk_drewN ?_ _ | refine blk_drew ?_ | refine blk_alloc ?_ _)); refine blk_far ?_ NB317_326.out _; (with_reducible repeat (first | refine blk_drewN ?_ _ | refine blk_drew ?_ | refine blk_alloc ?_ _)); exact BK317.out) hb); have n1_ := Aside0.mk (blk_below (g := gb318) (o := .cells #[.int .i64 a1] 3 (0, 0)) (by (with_reducible repeat (first | refine blk_drewN ?_ _ | refine blk_drew ?_ | refine blk_alloc ?_ _)); refine blk_far ?_ NB318_326.out _; (with_reducible repeat (first | refine blk_drewN ?_ _ | refine blk_drew ?_ | refine blk_alloc ?_ _)); exact BK318.out) hb); have n2_ := Aside0.mk (blk_below (g := gb319) (o := .cells #[.int .i64 a2] 3 (0, 0)) (by (with_reducible repeat (first | refine blk_drewN ?_ _ | refine blk_drew ?_ | refine blk_alloc ?_ _)); refine blk_far ?_ NB319_326.out _; (with_reducible repeat (first | refine blk_drewN ?_ _ | refine blk_drew ?_ | refine blk_alloc ?_ _)); exact BK319.out) hb); have n3_ := Aside0.mk (blk_below (g := gb326) (o := .cells #[.int .i64 (rd l0_1 0)] 3 (0, 0)) (by (with_reducible repeat (first | refine blk_drewN ?_ _ | refine blk_drew ?_ | refine blk_alloc ?_ _)); refine blk_put (cs := #[.int .i64 0]) ?_ 0 _ rfl; (with_reducible repeat (first | refine blk_drewN ?_ _ | refine blk_drew ?_ | refine blk_alloc ?_ _)); exact BK326.out) hb); have n4_ := Aside0.mk (below_step (by repeat (first | (with_reducible first | exact HB.out | apply below_alloc | apply pw_below_drewN | apply below_drew1 | refine below_set ?_ GE317.out | refine below_set ?_ GE318.out | refine below_set ?_ GE319.out | refine below_set ?_ GE326.out) | exact HB.out)) hb); clear BK317; clear BK318; clear BK319; clear BK326; clear HB; have BK317 := n0_; have BK318 := n1_; have BK319 := n2_; have BK326 := n3_; have HB := n4_; clear n0_ n1_ n2_ n3_ n4_; (try clear hb); (try clear hb2); (try clear hk); (try clear hi); have hcz47_0 : w46.cell? ⟨gb326, 0, none⟩ = some (.int .i64 (rd l0_1 0)) := (blk_cell BK326.out 0).trans rfl; have hfz47_0 := blk_frozen BK326.out 0))
         go_ret2
         exact ⟨by first | rfl | (simp [errW_none, errW_some] <;> rfl) | (simp only [← hji26]; first | rfl | (simp [errW_none, errW_some] <;> rfl)) | (simp [*, errW_none, errW_some] <;> rfl), by repeat (first | (with_reducible first | exact HB.out | apply below_alloc | apply pw_below_drewN | apply below_drew1 | refine below_set ?_ GE317.out | refine below_set ?_ GE318.out | refine below_set ?_ GE319.out | refine below_set ?_ GE326.out) | exact HB.out)⟩
       ·
        rw [if_neg c28] at H
        exact absurd H (by simp)
      ·
       rw [if_neg c27] at H
       exact absurd H (by simp)
     ·
      rw [if_neg c25] at H
      exact absurd H (by simp)
 ·
  rw [if_neg c5] at H
  have c5b0 : (t320 == 0) = false := beq_eq_false_iff_ne.mpr c5
  have c5b1 : (t320 != 0) = true := bne_iff_ne.mpr c5
  simp only [Option.some.injEq, Prod.mk.injEq] at H
  obtain ⟨rfl, rfl⟩ := H
  go_enter Tryd.func16, Tryd.ntmps16
  go_wp2_with (first | ((with_reducible refine gate_dst (N := 3) rfl ?_); refine box_event ?hg (N := 3) ?hd (cs := #[.slice A0_0 l0_0.length c0_0, .slice A0_1 l0_1.length c0_1, .slice A0_2 l0_2.length c0_2]) (t := 25) ?hr ?_; (case hd => rfl); (case hg => rfl); (case hr => first | (go_simp; done) | (go_simp; rfl)); intro gb317 hg w48 hbox hb; have n0_ := Aside0.mk (below_step (by repeat (first | (with_reducible first | exact HB.out | apply below_alloc | apply pw_below_drewN | apply below_drew1) | exact HB.out)) hb); have n1_ := Aside0.mk (hbox); have n2_ := Aside0.mk ((by rw [hg]; exact (below_size (by repeat (first | (with_reducible first | exact HB.out | apply below_alloc | apply pw_below_drewN | apply below_drew1) | exact HB.out))) : w.heap.size ≤ gb317)); have n3_ := Aside0.mk ((by rw [hg]; exact (below_size (by repeat (first | (with_reducible first | exact HB.out | apply below_alloc | apply pw_below_drewN | apply below_drew1) | exact HB.out))) : w.heap.size ≤ gb317)); clear HB; have HB := n0_; have BK317 := n1_; have GW317 := n2_; have GE317 := n3_; clear n0_ n1_ n2_ n3_; clear hb hbox hg) | ((with_reducible refine gate_dst (N := 4) rfl ?_); refine box_event ?hg (N := 4) ?hd (cs := #[.int .i64 a1]) (t := 3) ?hr ?_; (case hd => rfl); (case hg => rfl); (case hr => first | (go_simp; done) | (go_simp; rfl)); intro gb318 hg w49 hbox hb; have n0_ := Aside0.mk (blk_below (g := gb317) (o := .cells #[.slice A0_0 l0_0.length c0_0, .slice A0_1 l0_1.length c0_1, .slice A0_2 l0_2.length c0_2] 25 (0, 0)) (by (with_reducible repeat (first | refine blk_drewN ?_ _ | refine blk_drew ?_ | refine blk_alloc ?_ _)); exact BK317.out) hb); have n1_ := Aside0.mk (below_step (by repeat (first | (with_reducible first | exact HB.out | apply below_alloc | apply pw_below_drewN | apply below_drew1 | refine below_set ?_ GE317.out) | exact HB.out)) hb); have n2_ := Aside0.mk (hbox); have n3_ := Aside0.mk ((by rw [hg]; exact (below_size (by repeat (first | (with_reducible first | exact HB.out | apply below_alloc | apply pw_below_drewN | apply below_drew1 | refine below_set ?_ GE317.out) | exact HB.out))) : w.heap.size ≤ gb318)); have n4_ := Aside0.mk ((by rw [hg]; exact (below_size (by repeat (first | (with_reducible first | exact HB.out | apply below_alloc | apply pw_below_drewN | apply below_drew1 | refine below_set ?_ GE317.out) | exact HB.out))) : w.heap.size ≤ gb318)); have n5_ := Aside0.mk ((by rw [hg]; exact Nat.ne_of_lt (blk_lt (g := gb317) (o := .cells #[.slice A0_0 l0_0.length c0_0, .slice A0_1 l0_1.length c0_1, .slice A0_2 l0_2.length c0_2] 25 (0, 0)) (by (with_reducible repeat (first | refine blk_drewN ?_ _ | refine blk_drew ?_ | refine blk_alloc ?_ _)); exact BK317.out)) : gb317 ≠ gb318)); have n6_ := Aside0.mk ((by rw [hg]; exact Nat.ne_of_gt (blk_lt (g := gb317) (o := .cells #[.slice A0_0 l0_0.length c0_0, .slice A0_1 l0_1.length c0_1, .slice A0_2 l0_2.length c0_2] 25 (0, 0)) (by (with_reducible repeat (first | refine blk_drewN ?_ _ | refine blk_drew ?_ | refine blk_alloc ?_ _)); exact BK317.out)) : gb318 ≠ gb317)); clear BK317; clear HB; have BK317 := n0_; have HB := n1_; have BK318 := n2_; have GW318 := n3_; have GE318 := n4_; have NB317_318 := n5_; have NB318_317 := n6_; clear n0_ n1_ n2_ n3_ n4_ n5_ n6_; clear hb hbox hg) | ((with_reducible refine gate_dst (N := 5) rfl ?_); refine box_event ?hg (N := 5) ?hd (cs := #[.int .i64 a2]) (t := 3) ?hr ?_; (case hd => rfl); (case hg => rfl); (case hr => first | (go_simp; done) | (go_simp; rfl)); intro gb319 hg w50 hbox hb; have n0_ := Aside0.mk (blk_below (g := gb317) (o := .cells #[.slice A0_0 l0_0.length c0_0, .slice A0_1 l0_1.length c0_1, .slice A0_2 l0_2.length c0_2] 25 (0, 0)) (by (with_reducible repeat (first | refine blk_drewN ?_ _ | refine blk_drew ?_ | refine blk_alloc ?_ _)); exact BK317.out) hb); have n1_ := Aside0.mk (blk_below (g := gb318) (o := .cells #[.int .i64 a1] 3 (0, 0)) (by (with_reducible repeat (first | refine blk_drewN ?_ _ | refine blk_drew ?_ | refine blk_alloc ?_ _)); exact BK318.out) hb); have n2_ := Aside0.mk (below_step (by repeat (first | (with_reducible first | exact HB.out | apply below_alloc | apply pw_below_drewN | apply below_drew1 | refine below_set ?_ GE317.out | refine below_set ?_ GE318.out) | exact HB.out)) hb); have n3_ := Aside0.mk (hbox); have n4_ := Aside0.mk ((by rw [hg]; exact (below_size (by repeat (first | (with_reducible first | exact HB.out | apply below_alloc | apply pw_below_drewN | apply below_drew1 | refine below_set ?_ GE317.out | refine below_set ?_ GE318.out) | exact HB.out))) : w.heap.size ≤ gb319)); have n5_ := Aside0.mk ((by rw [hg]; exact (below_size (by repeat (first | (with_reducible first | exact HB.out | apply below_alloc | apply pw_below_drewN | apply below_drew1 | refine below_set ?_ GE317.out | refine below_set ?_ GE318.out) | exact HB.out))) : w.heap.size ≤ gb319)); have n6_ := Aside0.mk ((by rw [hg]; exact Nat.ne_of_lt (blk_lt (g := gb317) (o := .cells #[.slice A0_0 l0_0.length c0_0, .slice A0_1 l0_1.length c0_1, .slice A0_2 l0_2.length c0_2] 25 (0, 0)) (by (with_reducible repeat (first | refine blk_drewN ?_ _ | refine blk_drew ?_ | refine blk_alloc ?_ _)); exact BK317.out)) : gb317 ≠ gb319)); have n7_ := Aside0.mk ((by rw [hg]; exact Nat.ne_of_gt (blk_lt (g := gb317) (o := .cells #[.slice A0_0 l0_0.length c0_0, .slice A0_1 l0_1.length c0_1, .slice A0_2 l0_2.length c0_2] 25 (0, 0)) (by (with_reducible repeat (first | refine blk_drewN ?_ _ | refine blk_drew ?_ | refine blk_alloc ?_ _)); exact BK317.out)) : gb319 ≠ gb317)); have n8_ := Aside0.mk ((by rw [hg]; exact Nat.ne_of_lt (blk_lt (g := gb318) (o := .cells #[.int .i64 a1] 3 (0, 0)) (by (with_reducible repeat (first | refine blk_drewN ?_ _ | refine blk_drew ?_ | refine blk_alloc ?_ _)); exact BK318.out)) : gb318 ≠ gb319)); have n9_ := Aside0.mk ((by rw [hg]; exact Nat.ne_of_gt (blk_lt (g := gb318) (o := .cells #[.int .i64 a1] 3 (0, 0)) (by (with_reducible repeat (first | refine blk_drewN ?_ _ | refine blk_drew ?_ | refine blk_alloc ?_ _)); exact BK318.out)) : gb319 ≠ gb318)); clear BK317; clear BK318; clear HB; have BK317 := n0_; have BK318 := n1_; have HB := n2_; have BK319 := n3_; have GW319 := n4_; have GE319 := n5_; have NB317_319 := n6_; have NB319_317 := n7_; have NB318_319 := n8_; have NB319_318 := n9_; clear n0_ n1_ n2_ n3_ n4_ n5_ n6_ n7_ n8_ n9_; clear hb hbox hg; have hnb51 := NB317_318.out; have hnc51 := NB318_317.out; have hnb52 := NB317_319.out; have hnc52 := NB319_317.out; have hcz53_0 : w50.cell? ⟨gb317, 0, none⟩ = some (.slice A0_0 l0_0.length c0_0) := (blk_cell BK317.out 0).trans rfl; have hcz53_1 : w50.cell? ⟨gb317, 1, none⟩ = some (.slice A0_1 l0_1.length c0_1) := (blk_cell BK317.out 1).trans rfl; have hcz53_2 : w50.cell? ⟨gb317, 2, none⟩ = some (.slice A0_2 l0_2.length c0_2) := (blk_cell BK317.out 2).trans rfl; have hfz53_0 := blk_frozen BK317.out 0; have hfz53_1 := blk_frozen BK317.out 1; have hfz53_2 := blk_frozen BK317.out 2) | ((with_reducible refine gate_callee (f := 18) rfl ?_); refine goesL_ (some 14) rfl rfl Tryd.func18 (by kernel_rfl) rfl #[.agg #[.slice A0_0 l0_0.length c0_0, .slice A0_1 l0_1.length c0_1, .slice A0_2 l0_2.length c0_2]] rfl (by (try simp only [List.map_toArray, List.map_cons, List.map_nil]); first | done | rfl | (simp only [List.length_drop, List.length_take]; rfl)) ?_; (with_reducible refine (correct_Check.calls k _ _ l0_0 _ _ l0_1 _ _ l0_2 t320 _ ?side1 ?side2 ?side3 ?side4 ?side5 ?side6 A4.out).mono ?_); (case side1 => repeat (first | exact (Kd.C_below HR0_0.out HB.out) | (with_reducible refine Kd.C_alloc ?_ _) | (with_reducible refine Kd.C_drewN ?_ _) | (with_reducible refine Kd.C_drew ?_))); (case side2 => exact HC0_0.out); (case side3 => repeat (first | exact (Kd.C_below HR0_1.out HB.out) | (with_reducible refine Kd.C_alloc ?_ _) | (with_reducible refine Kd.C_drewN ?_ _) | (with_reducible refine Kd.C_drew ?_))); (case side4 => exact HC0_1.out); (case side5 => repeat (first | exact (Kd.C_below HR0_2.out HB.out) | (with_reducible refine Kd.C_alloc ?_ _) | (with_reducible refine Kd.C_drewN ?_ _) | (with_reducible refine Kd.C_drew ?_))); (case side6 => exact HC0_2.out); rintro e w54 ⟨rfl, hb⟩; refine ⟨_, rfl, ?_⟩; have n0_ := Aside0.mk (blk_below (g := gb317) (o := .cells #[.slice A0_0 l0_0.length c0_0, .slice A0_1 l0_1.length c0_1, .slice A0_2 l0_2.length c0_2] 25 (0, 0)) (by (with_reducible repeat (first | refine blk_drewN ?_ _ | refine blk_drew ?_ | refine blk_alloc ?_ _)); exact BK317.out) hb); have n1_ := Aside0.mk (blk_below (g := gb318) (o := .cells #[.int .i64 a1] 3 (0, 0)) (by (with_reducible repeat (first | refine blk_drewN ?_ _ | refine blk_drew ?_ | refine blk_alloc ?_ _)); exact BK318.out) hb); have n2_ := Aside0.mk (blk_below (g := gb319) (o := .cells #[.int .i64 a2] 3 (0, 0)) (by (with_reducible repeat (first | refine blk_drewN ?_ _ | refine blk_drew ?_ | refine blk_alloc ?_ _)); exact BK319.out) hb); have n3_ := Aside0.mk (below_step (by repeat (first | (with_reducible first | exact HB.out | apply below_alloc | apply pw_below_drewN | apply below_drew1 | refine below_set ?_ GE317.out | refine below_set ?_ GE318.out | refine below_set ?_ GE319.out) | exact HB.out)) hb); clear BK317; clear BK318; clear BK319; clear HB; have BK317 := n0_; have BK318 := n1_; have BK319 := n2_; have HB := n3_; clear n0_ n1_ n2_ n3_; (try clear hb); (try clear hb2); (try clear hk); (try clear hi)))
  go_ret2
  exact ⟨by first | rfl | (simp [errW_none, errW_some] <;> rfl) | (simp [*, errW_none, errW_some] <;> rfl), by repeat (first | (with_reducible first | exact HB.out | apply below_alloc | apply pw_below_drewN | apply below_drew1 | refine below_set ?_ GE317.out | refine below_set ?_ GE318.out | refine below_set ?_ GE319.out) | exact HB.out)⟩
end Go.Proofs.YtmdfnambaedllaaDoor.Pr
namespace Go.Proofs.YtmdfnambaedllaaDoor.Pr
open Go.RowKit Go.Proofs.YtmdfnambaedllaaDoorW.PrintWords Go.Proofs.YtmdfnambaedllaaDoorW.PrintLast Go.Proofs.YtmdfnambaedllaaDoorW.PrintMore Go.Proofs.YtmdfnambaedllaaDoor.X
attribute [local go_sem] max2_int min2_int max_two min_two max_three min_three max_four min_four   -- for this text's walks alone
set_option linter.unusedVariables false
set_option linter.unusedSimpArgs false
mutual
def spileref19_Apparent.j0 : Nat → Int → Int → Bool → List Int → List Int → List (List Int) → Option (Int × Int)
 | 0, _, _, _, _, _, _ => none
 | k + 1, x1, x2, x26, x329000, x329001, x329002 => if x26 = true then (some (0, 2)) else (if 0 < (x329001.length : Int) then (if 0 ≤ (wrap64 ((x329001.length : Int) - 1)) then (if (wrap64 ((x329001.length : Int) - 1)) < (x329001.length : Int) then ((spileref19_At.f k x329000 x329001 x329002 x1 (rd x329001 0)).bind fun t333 => (if t333 > x2 then (some (0, 7)) else (spileref19_Apparent.l0 k x1 x2 (rd x329001 0) (rd x329001 (wrap64 ((x329001.length : Int) - 1))) x329000 x329001 x329002))) else (none)) else (none)) else (none))
def spileref19_Apparent.l0 : Nat → Int → Int → Int → Int → List Int → List Int → List (List Int) → Option (Int × Int)
 | 0, _, _, _, _, _, _, _ => none
 | k + 1, x1, x2, x8, x9, x329000, x329001, x329002 => if x8 < x9 then ((spileref19_At.f k x329000 x329001 x329002 x1 (wrap64 (Int.tdiv (wrap64 ((wrap64 (x8 + x9)) + 1)) 2))).bind fun t334 => (if t334 ≤ x2 then (spileref19_Apparent.l0 k x1 x2 (wrap64 (Int.tdiv (wrap64 ((wrap64 (x8 + x9)) + 1)) 2)) x9 x329000 x329001 x329002) else (spileref19_Apparent.l0 k x1 x2 x8 (wrap64 ((wrap64 (Int.tdiv (wrap64 ((wrap64 (x8 + x9)) + 1)) 2)) - 1)) x329000 x329001 x329002))) else (some (x8, 0))
end
def spileref19_Apparent.f (k : Nat) (l0_0 : List Int) (l0_1 : List Int) (l0_2 : List (List Int)) (a1 : Int) (a2 : Int) : Option (Int × Int) := (spileref19_Check.f k l0_0 l0_1 l0_2).bind fun t329 => (if t329 = 0 then ((spileref19_inside.f l0_0 a1).bind fun t330 => (if t330 = true then (if a2 < 0 then (spileref19_Apparent.j0 k a1 a2 true l0_0 l0_1 l0_2) else (spileref19_Apparent.j0 k a1 a2 (decide (a2 > 10000)) l0_0 l0_1 l0_2)) else (spileref19_Apparent.j0 k a1 a2 true l0_0 l0_1 l0_2))) else (some (0, 1)))
theorem spileref19_Apparent.mono_l : ∀ k, (∀ y0 y1 y2 y3 y4 y5, LeO (spileref19_Apparent.j0 k y0 y1 y2 y3 y4 y5) (spileref19_Apparent.j0 (k + 1) y0 y1 y2 y3 y4 y5)) ∧ (∀ y0 y1 y2 y3 y4 y5 y6, LeO (spileref19_Apparent.l0 k y0 y1 y2 y3 y4 y5 y6) (spileref19_Apparent.l0 (k + 1) y0 y1 y2 y3 y4 y5 y6))
 | 0 => ⟨fun _ _ _ _ _ _ r h => by simp [spileref19_Apparent.j0] at h, fun _ _ _ _ _ _ _ r h => by simp [spileref19_Apparent.l0] at h⟩
 | k + 1 => by
  obtain ⟨ih0, ih1⟩ := spileref19_Apparent.mono_l k
  refine ⟨?_, ?_⟩
  ·
   intro y0 y1 y2 y3 y4 y5
   unfold spileref19_Apparent.j0
   repeat' first
   | (with_reducible exact ih0 _ _ _ _ _ _)
   | (with_reducible exact ih1 _ _ _ _ _ _ _)
   | (with_reducible exact spileref19_At.mono _ _ _ _ _ _)
   | (with_reducible exact spileref19_Check.mono _ _ _ _)
   | (with_reducible exact LeO.refl _)
   | (with_reducible exact LeO.none _)
   | (with_reducible refine LeO.ite ?_ ?_)
   | (with_reducible refine LeO.bind ?_ (fun _ => ?_))
   | exact ih0 _ _ _ _ _ _
   | exact ih1 _ _ _ _ _ _ _
   | exact spileref19_At.mono _ _ _ _ _ _
   | exact spileref19_Check.mono _ _ _ _
   | exact LeO.none _
   | refine LeO.ite ?_ ?_
   | refine LeO.bind ?_ (fun _ => ?_)
  ·
   intro y0 y1 y2 y3 y4 y5 y6
   unfold spileref19_Apparent.l0
   repeat' first
   | (with_reducible exact ih0 _ _ _ _ _ _)
   | (with_reducible exact ih1 _ _ _ _ _ _ _)
   | (with_reducible exact spileref19_At.mono _ _ _ _ _ _)
   | (with_reducible exact spileref19_Check.mono _ _ _ _)
   | (with_reducible exact LeO.refl _)
   | (with_reducible exact LeO.none _)
   | (with_reducible refine LeO.ite ?_ ?_)
   | (with_reducible refine LeO.bind ?_ (fun _ => ?_))
   | exact ih0 _ _ _ _ _ _
   | exact ih1 _ _ _ _ _ _ _
   | exact spileref19_At.mono _ _ _ _ _ _
   | exact spileref19_Check.mono _ _ _ _
   | exact LeO.none _
   | refine LeO.ite ?_ ?_
   | refine LeO.bind ?_ (fun _ => ?_)
theorem spileref19_Apparent.mono : ∀ a0 a1 a2 a3 a4 k, LeO (spileref19_Apparent.f k a0 a1 a2 a3 a4) (spileref19_Apparent.f (k + 1) a0 a1 a2 a3 a4) := by
 intro a0 a1 a2 a3 a4 k
 obtain ⟨ih0, ih1⟩ := spileref19_Apparent.mono_l k
 unfold spileref19_Apparent.f
 repeat' first
   | (with_reducible exact ih0 _ _ _ _ _ _)
   | (with_reducible exact ih1 _ _ _ _ _ _ _)
   | (with_reducible exact spileref19_At.mono _ _ _ _ _ _)
   | (with_reducible exact spileref19_Check.mono _ _ _ _)
   | (with_reducible exact LeO.refl _)
   | (with_reducible exact LeO.none _)
   | (with_reducible refine LeO.ite ?_ ?_)
   | (with_reducible refine LeO.bind ?_ (fun _ => ?_))
   | exact ih0 _ _ _ _ _ _
   | exact ih1 _ _ _ _ _ _ _
   | exact spileref19_At.mono _ _ _ _ _ _
   | exact spileref19_Check.mono _ _ _ _
   | exact LeO.none _
   | refine LeO.ite ?_ ?_
   | refine LeO.bind ?_ (fun _ => ?_)
end Go.Proofs.YtmdfnambaedllaaDoor.Pr
namespace Go.Proofs.YtmdfnambaedllaaDoor.Pr
open Go.RowKit Go.Proofs.YtmdfnambaedllaaDoorW.PrintWords Go.Proofs.YtmdfnambaedllaaDoorW.PrintLast Go.Proofs.YtmdfnambaedllaaDoorW.PrintMore Go.Proofs.YtmdfnambaedllaaDoor.X
attribute [local go_sem] max2_int min2_int max_two min_two max_three min_three max_four min_four   -- for this text's walks alone
set_option linter.unusedVariables false
set_option linter.unusedSimpArgs false
def spilelaw19_CorrectReads.f (k : Nat) (l0_0 : List Int) (l0_1 : List Int) (l0_2 : List (List Int)) (a1 : Int) (a2 : Int) : Option (Bool) := (spilelaw19_awake.f).bind fun t336 => (if t336 = true then ((spileref19_Few.f k l0_0 l0_1 l0_2).bind fun t337 => (if t337 = true then ((correct_True.f k l0_0 l0_1 l0_2 a1 a2).bind fun bt338 => ((spileref19_True.f k l0_0 l0_1 l0_2 a1 a2).bind fun bt340 => ((correct_Apparent.f k l0_0 l0_1 l0_2 a1 a2).bind fun bt342 => ((spileref19_Apparent.f k l0_0 l0_1 l0_2 a1 a2).bind fun bt344 => ((correct_Check.f k l0_0 l0_1 l0_2).bind fun t346 => ((spileref19_Check.f k l0_0 l0_1 l0_2).bind fun t347 => (if t346 = t347 then (if bt338.1 = bt340.1 then (if bt338.2 = bt340.2 then (if bt342.1 = bt344.1 then (some (bt342.2 == bt344.2)) else (some false)) else (some false)) else (some false)) else (some false)))))))) else (some true))) else (some false))
theorem spilelaw19_CorrectReads.mono : ∀ a0 a1 a2 a3 a4 k, LeO (spilelaw19_CorrectReads.f k a0 a1 a2 a3 a4) (spilelaw19_CorrectReads.f (k + 1) a0 a1 a2 a3 a4) := by
 intro a0 a1 a2 a3 a4 k
 unfold spilelaw19_CorrectReads.f
 repeat' first
   | (with_reducible exact correct_Apparent.mono _ _ _ _ _ _)
   | (with_reducible exact correct_Check.mono _ _ _ _)
   | (with_reducible exact correct_True.mono _ _ _ _ _ _)
   | (with_reducible exact spileref19_Apparent.mono _ _ _ _ _ _)
   | (with_reducible exact spileref19_Check.mono _ _ _ _)
   | (with_reducible exact spileref19_Few.mono _ _ _ _)
   | (with_reducible exact spileref19_True.mono _ _ _ _ _ _)
   | (with_reducible exact LeO.refl _)
   | (with_reducible exact LeO.none _)
   | (with_reducible refine LeO.ite ?_ ?_)
   | (with_reducible refine LeO.bind ?_ (fun _ => ?_))
   | exact correct_Apparent.mono _ _ _ _ _ _
   | exact correct_Check.mono _ _ _ _
   | exact correct_True.mono _ _ _ _ _ _
   | exact spileref19_Apparent.mono _ _ _ _ _ _
   | exact spileref19_Check.mono _ _ _ _
   | exact spileref19_Few.mono _ _ _ _
   | exact spileref19_True.mono _ _ _ _ _ _
   | exact LeO.none _
   | refine LeO.ite ?_ ?_
   | refine LeO.bind ?_ (fun _ => ?_)
end Go.Proofs.YtmdfnambaedllaaDoor.Pr
namespace Go.Proofs.YtmdfnambaedllaaDoor.Pure
open Go Go.RowKit Go.Proofs.YtmdfnambaedllaaDoorW.PrintWords Go.Proofs.YtmdfnambaedllaaDoorW.PrintLast Go.Proofs.YtmdfnambaedllaaDoorW.PrintMore Go.Proofs.YtmdfnambaedllaaDoor.Pr Go.Proofs.YtmdfnambaedllaaDoor.PL
theorem steps_le (f : Int → Int) (lo hi : Int) (h : ∀ j, lo ≤ j → j < hi → f j ≤ f (j + 1)) {i j : Int} (h0 : lo ≤ i) (h1 : i ≤ j) (h2 : j ≤ hi) : f i ≤ f j := by
  obtain ⟨d, hd⟩ : ∃ d : Nat, j = i + d := ⟨(j - i).toNat, by omega⟩
  induction d generalizing j with
  | zero =>
    obtain rfl : j = i := by omega
    exact Int.le_refl _
  | succ d ih =>
    have := ih (j := j - 1) (by omega) (by omega) (by omega)
    have h3 := h (j - 1) (by omega) (by omega)
    rw [show j - 1 + 1 = j from by omega] at h3
    omega
theorem round_le {n d n2 d2 : Int} (h0 : 0 < d) (h1 : 0 < d2) (h : n * d2 ≤ n2 * d) : (2 * n + d) / (2 * d) ≤ (2 * n2 + d2) / (2 * d2) := by
  have a := Int.ediv_mul_le (2 * n + d) (show 2 * d ≠ 0 by omega)
  generalize (2 * n + d) / (2 * d) = r at *
  rw [Int.le_ediv_iff_mul_le (by omega)]
  have b := Int.mul_le_mul_of_nonneg_right a (show 0 ≤ d2 by omega)
  refine Int.le_of_mul_le_mul_left (a := d) ?_ h0
  grind
/-- Along one line of nodes. -/
theorem line_le {x0 x1 x z0 z1 z y0 y1 u0 u1 : Int} (a1 : x0 ≤ x) (a2 : x ≤ x1) (a3 : x0 < x1) (b1 : z0 ≤ z) (b2 : z ≤ z1) (b3 : z0 < z1) (h0 : y0 ≤ y1) (h1 : y1 ≤ u0) (h2 : u0 ≤ u1) :
    ((x1 - x) * y0 + (x - x0) * y1) * (z1 - z0) ≤ ((z1 - z) * u0 + (z - z0) * u1) * (x1 - x0) := by
  have p1 : (x1 - x) * y0 + (x - x0) * y1 ≤ (x1 - x0) * y1 := by
    have := Int.mul_le_mul_of_nonneg_left h0 (show 0 ≤ x1 - x by omega)
    grind
  have p2 : (z1 - z0) * u0 ≤ (z1 - z) * u0 + (z - z0) * u1 := by
    have := Int.mul_le_mul_of_nonneg_left h2 (show 0 ≤ z - z0 by omega)
    grind
  have q1 := Int.mul_le_mul_of_nonneg_right p1 (show 0 ≤ z1 - z0 by omega)
  have q2 := Int.mul_le_mul_of_nonneg_right p2 (show 0 ≤ x1 - x0 by omega)
  have q3 := Int.mul_le_mul_of_nonneg_left h1 (Int.mul_nonneg (show 0 ≤ x1 - x0 by omega) (show 0 ≤ z1 - z0 by omega))
  grind
theorem same_le {x0 x1 x z y0 y1 : Int} (a1 : x ≤ z) (a3 : x0 < x1) (h0 : y0 ≤ y1) : ((x1 - x) * y0 + (x - x0) * y1) * (x1 - x0) ≤ ((x1 - z) * y0 + (z - x0) * y1) * (x1 - x0) := by
  refine Int.mul_le_mul_of_nonneg_right ?_ (by omega)
  have := Int.mul_le_mul_of_nonneg_left h0 (show 0 ≤ z - x by omega)
  grind
/-- x is the strength at a heat and an apparent strength. -/
def IsStr (hs as_ : List Int) (ts : List (List Int)) (h a x : Int) : Prop := In hs h ∧ In as_ a ∧ ∃ p q, At hs h p ∧ At as_ a q ∧ x = tab hs as_ ts p q h a
theorem IsStr.mk' {hs as_ : List Int} {ts : List (List Int)} (v : Valid hs as_ ts) {h a : Int} (hh : In hs h) (ha : In as_ a) : ∃ x, IsStr hs as_ ts h a x := by
  have := v.hs2; have := v.as2; have := v.hs32; have := v.as32
  obtain ⟨p, hp⟩ := at_exists v.hris (by omega) (by omega) hh
  obtain ⟨q, hq⟩ := at_exists v.aris (by omega) (by omega) ha
  exact ⟨_, hh, ha, p, q, hp, hq, rfl⟩
theorem IsStr.prog {hs as_ : List Int} {ts : List (List Int)} (v : Valid hs as_ ts) {h a x : Int} (hx : IsStr hs as_ ts h a x) : Ev (fun k => correct_at.f k hs as_ ts h a) (x, true) := by
  obtain ⟨hh, ha, p, q, hp, hq, rfl⟩ := hx
  exact (at_prog v h a).2 hh ha p q hp hq
theorem row_step {hs as_ : List Int} {ts : List (List Int)} (v : Valid hs as_ ts) {i j : Int} (i0 : 0 ≤ i) (i1 : i < (ts.length : Int)) (j0 : 0 ≤ j) (j1 : j + 1 < (as_.length : Int)) : rd (rd_L1 ts i) j ≤ rd (rd_L1 ts i) (j + 1) := by
  have := v.conf i (j + 1) i0 i1 (by omega) j1
  unfold Conf at this
  rw [show j + 1 - 1 = j from by omega] at this
  exact Classical.byContradiction fun h => this (.inl ⟨by omega, by omega⟩)
theorem col_step {hs as_ : List Int} {ts : List (List Int)} (v : Valid hs as_ ts) {i j : Int} (i0 : 0 ≤ i) (i1 : i + 1 < (ts.length : Int)) (j0 : 0 ≤ j) (j1 : j < (as_.length : Int)) : rd (rd_L1 ts (i + 1)) j ≤ rd (rd_L1 ts i) j := by
  have := v.conf (i + 1) j (by omega) i1 j0 j1
  unfold Conf at this
  rw [show i + 1 - 1 = i from by omega] at this
  exact Classical.byContradiction fun h => this (.inr ⟨by omega, by omega⟩)
theorem IsStr.mono_a {hs as_ : List Int} {ts : List (List Int)} (v : Valid hs as_ ts) {h a b x y : Int} (hab : a ≤ b) (hx : IsStr hs as_ ts h a x) (hy : IsStr hs as_ ts h b y) : x ≤ y := by
  have := v.hs2; have := v.as2; have := v.hs32; have := v.as32; have := v.rows
  obtain ⟨hh, ha, p, q, hp, hq, rfl⟩ := hx
  obtain ⟨_, hb, p', r, hp', hr, rfl⟩ := hy
  obtain rfl := hp.unique v.hris hp'
  have P := hp; have Q := hq; have R := hr
  obtain ⟨p0, p1, p2, _⟩ := hp
  obtain ⟨q0, q1, q2, _⟩ := hq
  obtain ⟨r0, r1, r2, _⟩ := hr
  have hn := P.next hh
  have an := Q.next ha
  have bn := R.next hb
  have ih := v.hris p p0 (by omega)
  have ia := v.aris q q0 (by omega)
  have ib := v.aris r r0 (by omega)
  let f : Int → Int := fun j => (rd hs (p + 1) - h) * rd (rd_L1 ts p) j + (h - rd hs p) * rd (rd_L1 ts (p + 1)) j
  have fs : ∀ j, 0 ≤ j → j < (as_.length : Int) - 1 → f j ≤ f (j + 1) := fun j j0 j1 => by
    have s1 := Int.mul_le_mul_of_nonneg_left (row_step v p0 (by omega) j0 (by omega)) (show 0 ≤ rd hs (p + 1) - h by omega)
    have s2 := Int.mul_le_mul_of_nonneg_left (row_step v (i := p + 1) (by omega) (by omega) j0 (by omega)) (show 0 ≤ h - rd hs p by omega)
    show _ + _ ≤ _ + _
    omega
  have fl := fun {i j : Int} => steps_le f 0 ((as_.length : Int) - 1) fs (i := i) (j := j)
  unfold tab between
  refine round_le (Int.mul_pos (by omega) (by omega)) (Int.mul_pos (by omega) (by omega)) ?_
  have key : ((rd as_ (q + 1) - a) * f q + (a - rd as_ q) * f (q + 1)) * (rd as_ (r + 1) - rd as_ r) ≤ ((rd as_ (r + 1) - b) * f r + (b - rd as_ r) * f (r + 1)) * (rd as_ (q + 1) - rd as_ q) := by
    by_cases e : q = r
    · subst e
      exact same_le hab ia (fs q q0 (by omega))
    · have qr : q + 1 ≤ r := by
        by_cases g : q < r
        · omega
        · have := v.aris.le (i := r + 1) (j := q) (by omega) (by omega) (by omega)
          have := R.2.2.2 (by omega)
          omega
      exact line_le q2 an ia r2 bn ib (fs q q0 (by omega)) (fl (by omega) qr (by omega)) (fs r r0 (by omega))
  have k2 := Int.mul_le_mul_of_nonneg_left key (show 0 ≤ rd hs (p + 1) - rd hs p by omega)
  simp only [f] at k2
  grind
theorem IsStr.mono_h {hs as_ : List Int} {ts : List (List Int)} (v : Valid hs as_ ts) {h g a x y : Int} (hg : h ≤ g) (hx : IsStr hs as_ ts h a x) (hy : IsStr hs as_ ts g a y) : y ≤ x := by
  have := v.hs2; have := v.as2; have := v.hs32; have := v.as32; have := v.rows
  obtain ⟨hh, ha, p, q, hp, hq, rfl⟩ := hx
  obtain ⟨hgi, _, r, q', hr, hq', rfl⟩ := hy
  obtain rfl := hq.unique v.aris hq'
  have P := hp; have Q := hq; have R := hr
  obtain ⟨p0, p1, p2, _⟩ := hp
  obtain ⟨q0, q1, q2, _⟩ := hq
  obtain ⟨r0, r1, r2, _⟩ := hr
  have hn := P.next hh
  have an := Q.next ha
  have gn := R.next hgi
  have ih := v.hris p p0 (by omega)
  have ia := v.aris q q0 (by omega)
  have ig := v.hris r r0 (by omega)
  let f : Int → Int := fun i => - ((rd as_ (q + 1) - a) * rd (rd_L1 ts i) q + (a - rd as_ q) * rd (rd_L1 ts i) (q + 1))
  have fs : ∀ j, 0 ≤ j → j < (hs.length : Int) - 1 → f j ≤ f (j + 1) := fun j j0 j1 => by
    have s1 := Int.mul_le_mul_of_nonneg_left (col_step v j0 (show j + 1 < (ts.length : Int) by omega) q0 (by omega)) (show 0 ≤ rd as_ (q + 1) - a by omega)
    have s2 := Int.mul_le_mul_of_nonneg_left (col_step v (j := q + 1) j0 (show j + 1 < (ts.length : Int) by omega) (by omega) (by omega)) (show 0 ≤ a - rd as_ q by omega)
    show - (_ + _) ≤ - (_ + _)
    omega
  have fl := fun {i j : Int} => steps_le f 0 ((hs.length : Int) - 1) fs (i := i) (j := j)
  unfold tab between
  refine round_le (Int.mul_pos (by omega) (by omega)) (Int.mul_pos (by omega) (by omega)) ?_
  have key : ((rd hs (p + 1) - h) * f p + (h - rd hs p) * f (p + 1)) * (rd hs (r + 1) - rd hs r) ≤ ((rd hs (r + 1) - g) * f r + (g - rd hs r) * f (r + 1)) * (rd hs (p + 1) - rd hs p) := by
    by_cases e : p = r
    · subst e
      exact same_le hg ih (fs p p0 (by omega))
    · have pr : p + 1 ≤ r := by
        by_cases c : p < r
        · omega
        · have := v.hris.le (i := r + 1) (j := p) (by omega) (by omega) (by omega)
          have := R.2.2.2 (by omega)
          omega
      exact line_le p2 hn ih r2 gn ig (fs p p0 (by omega)) (fl (by omega) pr (by omega)) (fs r r0 (by omega))
  have k2 := Int.mul_le_mul_of_nonneg_left key (show 0 ≤ rd as_ (q + 1) - rd as_ q by omega)
  simp only [f] at k2
  grind
theorem IsStr.unique {hs as_ : List Int} {ts : List (List Int)} (v : Valid hs as_ ts) {h a x y : Int} (hx : IsStr hs as_ ts h a x) (hy : IsStr hs as_ ts h a y) : x = y :=
  Int.le_antisymm (hx.mono_a v (Int.le_refl _) hy) (hy.mono_a v (Int.le_refl _) hx)
end Go.Proofs.YtmdfnambaedllaaDoor.Pure
namespace Go.Proofs.YtmdfnambaedllaaDoor.Pure
open Go Go.RowKit Go.Proofs.YtmdfnambaedllaaDoorW.PrintWords Go.Proofs.YtmdfnambaedllaaDoorW.PrintLast Go.Proofs.YtmdfnambaedllaaDoorW.PrintMore Go.Proofs.YtmdfnambaedllaaDoor.Pr Go.Proofs.YtmdfnambaedllaaDoor.PL
theorem true_prog {hs as_ : List Int} {ts : List (List Int)} (v : Valid hs as_ ts) (p : Ev (fun k => correct_Check.f k hs as_ ts) 0) (h a : Int) :
    (¬ (In hs h ∧ In as_ a) → Ev (fun k => correct_True.f k hs as_ ts h a) (0, 2)) ∧ (∀ x, IsStr hs as_ ts h a x → Ev (fun k => correct_True.f k hs as_ ts h a) (x, 0)) := by
  unfold correct_True.f
  exact ⟨fun hn => evb p (evp rfl (evb ((at_prog v h a).1 hn) (evn (by decide) (Ev.now _)))), fun x hx => evb p (evp rfl (evb (hx.prog v) (evp rfl (Ev.now _))))⟩
theorem true_bad {hs as_ : List Int} {ts : List (List Int)} {c : Int} (p : Ev (fun k => correct_Check.f k hs as_ ts) c) (hc : c ≠ 0) (h a : Int) : Ev (fun k => correct_True.f k hs as_ ts h a) (0, 1) := by
  unfold correct_True.f
  exact evb p (evn hc (Ev.now _))
/-- What Apparent looks for: m, the last one whose strength is not greater than s. -/
def Found (hs as_ : List Int) (ts : List (List Int)) (h s m : Int) : Prop := In as_ m ∧ (∃ x, IsStr hs as_ ts h m x ∧ x ≤ s) ∧ (m < rd as_ ((as_.length : Int) - 1) → ∃ x, IsStr hs as_ ts h (m + 1) x ∧ s < x)
theorem Found.unique {hs as_ : List Int} {ts : List (List Int)} (v : Valid hs as_ ts) {h s m n : Int} (hm : Found hs as_ ts h s m) (hn : Found hs as_ ts h s n) : m = n := by
  obtain ⟨a1, ⟨x, hx, xs⟩, a3⟩ := hm
  obtain ⟨b1, ⟨y, hy, ys⟩, b3⟩ := hn
  have := a1.2; have := b1.2
  by_cases c : m < n
  · obtain ⟨z, hz, zs⟩ := a3 (by omega)
    have := hz.mono_a v (show m + 1 ≤ n by omega) hy
    omega
  · by_cases c2 : n < m
    · obtain ⟨z, hz, zs⟩ := b3 (by omega)
      have := hz.mono_a v (show n + 1 ≤ m by omega) hx
      omega
    · omega
theorem apparent_prog {hs as_ : List Int} {ts : List (List Int)} (v : Valid hs as_ ts) (p : Ev (fun k => correct_Check.f k hs as_ ts) 0) (h s : Int) :
    (¬ (In hs h ∧ ¬ Out 0 10000 s) → Ev (fun k => correct_Apparent.f k hs as_ ts h s) (0, 2)) ∧
    (In hs h → ¬ Out 0 10000 s → (Ev (fun k => correct_Apparent.f k hs as_ ts h s) (0, 7) ∧ ∃ x, IsStr hs as_ ts h (rd as_ 0) x ∧ s < x) ∨ (∃ m, Ev (fun k => correct_Apparent.f k hs as_ ts h s) (m, 0) ∧ Found hs as_ ts h s m)) := by
  have n1 := v.hs2; have n2 := v.as2; have n3 := v.hs32; have n4 := v.as32
  have B3 := (v.str 0 (by omega) (by omega)).1
  have B4 := (v.str ((as_.length : Int) - 1) (by omega) (by omega)).2
  have B5 := v.aris.le (i := 0) (j := (as_.length : Int) - 1) (by omega) (by omega) (by omega)
  have pl := place_prog v.hris (by omega) (by omega) h
  have w1 : wrap64 ((as_.length : Int) - 1) = (as_.length : Int) - 1 := w64 (by omega) (by omega)
  constructor
  · intro hn
    unfold correct_Apparent.f
    by_cases c : In hs h
    · obtain ⟨q, _, hq⟩ := pl.2 c
      have o : Out 0 10000 s := Classical.byContradiction fun o => hn ⟨c, o⟩
      exact evb p (evp rfl (evb hq (evp rfl (evb (a := true) (evc (fun _ => rfl) (by rw [strange_eq, decide_eq_true o])) (Ev.step (fun k => correct_Apparent.j0.eq_2 ..) (evp rfl (Ev.now _)))))))
    · exact evb p (evp rfl (evb (pl.1 c) (evn (by decide) (Ev.step (fun k => correct_Apparent.j0.eq_2 ..) (evp rfl (Ev.now _))))))
  · intro hh ho
    obtain ⟨q, _, hq⟩ := pl.2 hh
    have lo_in : In as_ (rd as_ 0) := ⟨Int.le_refl _, B5⟩
    have str : ∀ i, 0 ≤ i → i < rd as_ ((as_.length : Int) - 1) - rd as_ 0 + 1 → ∃ x, IsStr hs as_ ts h (rd as_ 0 + i) x := fun i i0 i1 => IsStr.mk' v hh ⟨by omega, by omega⟩
    have sr := search_ev (rd as_ ((as_.length : Int) - 1) - rd as_ 0 + 1) (fun i => ∃ x, IsStr hs as_ ts h (rd as_ 0 + i) x ∧ s < x) (fun i j k => sort_Search_32_at_33.l0 k i j hs as_ ts h (rd as_ 0) s) ?_ ?_ ?_ ?_ (by omega)
    · obtain ⟨r, hr, r0, r1, r2, r3⟩ := sr
      have top : ∀ {z}, Ev (fun k => if r = 0 then some (0, 7) else some (wrap64 (wrap64 (rd as_ 0 + r) - 1), 0)) z → Ev (fun k => correct_Apparent.f k hs as_ ts h s) z := fun {z} hz => by
        unfold correct_Apparent.f
        refine evb p (evp rfl (evb hq (evp rfl (evb (a := false) (evc (fun _ => rfl) (by rw [strange_eq, decide_eq_false ho])) (Ev.step (fun k => correct_Apparent.j0.eq_2 ..) (evn (by decide) ?_))))))
        rw [w1, w64 (x := rd as_ ((as_.length : Int) - 1) - rd as_ 0) (by omega) (by omega), w64 (x := rd as_ ((as_.length : Int) - 1) - rd as_ 0 + 1) (by omega) (by omega)]
        exact evp (by omega) (evp (by omega) (evp (by omega) (evb hr hz)))
      by_cases c : r = 0
      · obtain ⟨x, hx, hs'⟩ := r3 0 (by omega) (by omega)
        rw [Int.add_zero] at hx
        exact .inl ⟨top (evp c (Ev.now _)), x, hx, hs'⟩
      · refine .inr ⟨rd as_ 0 + r - 1, top (evn c (evr ?_)), ⟨by omega, by omega⟩, ?_, fun hm => ?_⟩
        · rw [w64 (x := rd as_ 0 + r) (by omega) (by omega), w64 (x := rd as_ 0 + r - 1) (by omega) (by omega)]
        · obtain ⟨x, hx⟩ := str (r - 1) (by omega) (by omega)
          have hn := r2 (r - 1) (by omega) (by omega)
          refine ⟨x, by rwa [show rd as_ 0 + (r - 1) = rd as_ 0 + r - 1 from by omega] at hx, ?_⟩
          exact Classical.byContradiction fun h2 => hn ⟨x, hx, by omega⟩
        · obtain ⟨x, hx, h2⟩ := r3 r (by omega) (by omega)
          exact ⟨x, by rwa [show rd as_ 0 + r - 1 + 1 = rd as_ 0 + r from by omega], h2⟩
    · intro i h0 h1
      exact Ev.step (fun k => sort_Search_32_at_33.l0.eq_2 ..) (evn (by omega) (Ev.now _))
    · intro i j h0 h1 h3 ⟨x, hx, hs'⟩ r hr
      refine Ev.step (fun k => sort_Search_32_at_33.l0.eq_2 ..) ?_
      rw [half h0 h1 (by omega)]
      refine evp h1 (evb (a := true) ?_ (evp rfl hr))
      unfold correct_Apparent_1.f
      rw [w64 (x := rd as_ 0 + (i + j) / 2) (by omega) (by omega)]
      exact evb (hx.prog v) (evr (decide_eq_true hs'))
    · intro i j h0 h1 h3 hq' r hr
      obtain ⟨x, hx⟩ := str ((i + j) / 2) (by omega) (by omega)
      refine Ev.step (fun k => sort_Search_32_at_33.l0.eq_2 ..) ?_
      rw [half h0 h1 (by omega), w64 (x := (i + j) / 2 + 1) (by omega) (by omega)]
      refine evp h1 (evb (a := false) ?_ (evn (by decide) hr))
      unfold correct_Apparent_1.f
      rw [w64 (x := rd as_ 0 + (i + j) / 2) (by omega) (by omega)]
      exact evb (hx.prog v) (evr (decide_eq_false fun h2 => hq' ⟨x, hx, h2⟩))
    · intro a b h0 h1 h3 ⟨x, hx, hs'⟩
      obtain ⟨y, hy⟩ := str b (by omega) h3
      have := hx.mono_a v (show rd as_ 0 + a ≤ rd as_ 0 + b by omega) hy
      exact ⟨y, hy, by omega⟩
end Go.Proofs.YtmdfnambaedllaaDoor.Pure
