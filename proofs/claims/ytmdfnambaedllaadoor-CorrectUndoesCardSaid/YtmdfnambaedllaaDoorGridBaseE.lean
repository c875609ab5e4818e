/-
A part of what these laws rest on: contracts of the functions that they reach, and plain lemmas.
-/
import Derived.Test.YtmdfnambaedllaaDoorGridBaseD
set_option linter.unusedVariables false
set_option linter.unusedSimpArgs false
namespace Go.Proofs.YtmdfnambaedllaaDoor.Pr
open Go.RowKit Go.Proofs.YtmdfnambaedllaaDoorW.PrintWords Go.Proofs.YtmdfnambaedllaaDoorW.PrintLast Go.Proofs.YtmdfnambaedllaaDoorW.PrintMore Go.Proofs.YtmdfnambaedllaaDoor.X
attribute [local go_sem] max2_int min2_int max_two min_two max_three min_three max_four min_four   -- for this text's walks alone
set_option linter.unusedVariables false
set_option linter.unusedSimpArgs false
mutual
def spileref19_Check.j0 : Nat → Bool → List Int → List Int → List (List Int) → Option (Int)
 | 0, _, _, _, _ => none
 | k + 1, x21, x219000, x219001, x219002 => if x21 = true then (some 2) else (spileref19_Check.l0 k 0 x219000 x219001 x219002)
def spileref19_Check.l0 : Nat → Int → List Int → List Int → List (List Int) → Option (Int)
 | 0, _, _, _, _ => none
 | k + 1, x4, x219000, x219001, x219002 => if x4 < (x219002.length : Int) then (if 0 ≤ x4 then ((spileref19_within.f k (rd_L1 x219002 x4) 0 10000).bind fun t223 => (if t223 = true then (spileref19_Check.l0 k (wrap64 (x4 + 1)) x219000 x219001 x219002) else (some 2))) else (none)) else ((spileref19_rises.f k x219000).bind fun t224 => (if t224 = true then ((spileref19_rises.f k x219001).bind fun t225 => (spileref19_Check.j2 k (!t225) x219000 x219001 x219002)) else (spileref19_Check.j2 k true x219000 x219001 x219002)))
def spileref19_Check.j2 : Nat → Bool → List Int → List Int → List (List Int) → Option (Int)
 | 0, _, _, _, _ => none
 | k + 1, x45, x219000, x219001, x219002 => if x45 = true then (some 5) else (spileref19_Check.l1 k 0 x219000 x219001 x219002)
def spileref19_Check.l1 : Nat → Int → List Int → List Int → List (List Int) → Option (Int)
 | 0, _, _, _, _ => none
 | k + 1, x5, x219000, x219001, x219002 => if x5 < (x219002.length : Int) then (spileref19_Check.l2 k x5 0 x219000 x219001 x219002) else (some 0)
def spileref19_Check.l2 : Nat → Int → Int → List Int → List Int → List (List Int) → Option (Int)
 | 0, _, _, _, _, _ => none
 | k + 1, x5, x6, x219000, x219001, x219002 => if x6 < (x219001.length : Int) then (if x6 > 0 then (if 0 ≤ x5 then (if x5 < (x219002.length : Int) then (if 0 ≤ x6 then (if x6 < ((rd_L1 x219002 x5).length : Int) then (if 0 ≤ (wrap64 (x6 - 1)) then (if (wrap64 (x6 - 1)) < ((rd_L1 x219002 x5).length : Int) then (if (rd (rd_L1 x219002 x5) x6) < (rd (rd_L1 x219002 x5) (wrap64 (x6 - 1))) then (some 18) else (if x5 > 0 then (if 0 ≤ (wrap64 (x5 - 1)) then (if (wrap64 (x5 - 1)) < (x219002.length : Int) then (if x6 < ((rd_L1 x219002 (wrap64 (x5 - 1))).length : Int) then (if (rd (rd_L1 x219002 x5) x6) > (rd (rd_L1 x219002 (wrap64 (x5 - 1))) x6) then (some 18) else (spileref19_Check.l2 k x5 (wrap64 (x6 + 1)) x219000 x219001 x219002)) else (none)) else (none)) else (none)) else (spileref19_Check.l2 k x5 (wrap64 (x6 + 1)) x219000 x219001 x219002))) else (none)) else (none)) else (none)) else (none)) else (none)) else (none)) else (if x5 > 0 then (if 0 ≤ x5 then (if x5 < (x219002.length : Int) then (if 0 ≤ x6 then (if x6 < ((rd_L1 x219002 x5).length : Int) then (if 0 ≤ (wrap64 (x5 - 1)) then (if (wrap64 (x5 - 1)) < (x219002.length : Int) then (if x6 < ((rd_L1 x219002 (wrap64 (x5 - 1))).length : Int) then (if (rd (rd_L1 x219002 x5) x6) > (rd (rd_L1 x219002 (wrap64 (x5 - 1))) x6) then (some 18) else (spileref19_Check.l2 k x5 (wrap64 (x6 + 1)) x219000 x219001 x219002)) else (none)) else (none)) else (none)) else (none)) else (none)) else (none)) else (none)) else (spileref19_Check.l2 k x5 (wrap64 (x6 + 1)) x219000 x219001 x219002))) else (spileref19_Check.l1 k (wrap64 (x5 + 1)) x219000 x219001 x219002)
end
def spileref19_Check.f (k : Nat) (l0_0 : List Int) (l0_1 : List Int) (l0_2 : List (List Int)) : Option (Int) := (spileref19_shape.f k l0_0 l0_1 l0_2).bind fun t219 => (if t219 = 0 then ((spileref19_within.f k l0_0 (-400) 600).bind fun t220 => (if t220 = true then ((spileref19_within.f k l0_1 0 10000).bind fun t221 => (spileref19_Check.j0 k (!t221) l0_0 l0_1 l0_2)) else (spileref19_Check.j0 k true l0_0 l0_1 l0_2))) else (some t219))
theorem spileref19_Check.mono_l : ∀ k, (∀ y0 y1 y2 y3, LeO (spileref19_Check.j0 k y0 y1 y2 y3) (spileref19_Check.j0 (k + 1) y0 y1 y2 y3)) ∧ (∀ y0 y1 y2 y3, LeO (spileref19_Check.l0 k y0 y1 y2 y3) (spileref19_Check.l0 (k + 1) y0 y1 y2 y3)) ∧ (∀ y0 y1 y2 y3, LeO (spileref19_Check.j2 k y0 y1 y2 y3) (spileref19_Check.j2 (k + 1) y0 y1 y2 y3)) ∧ (∀ y0 y1 y2 y3, LeO (spileref19_Check.l1 k y0 y1 y2 y3) (spileref19_Check.l1 (k + 1) y0 y1 y2 y3)) ∧ (∀ y0 y1 y2 y3 y4, LeO (spileref19_Check.l2 k y0 y1 y2 y3 y4) (spileref19_Check.l2 (k + 1) y0 y1 y2 y3 y4))
 | 0 => ⟨fun _ _ _ _ r h => by simp [spileref19_Check.j0] at h, fun _ _ _ _ r h => by simp [spileref19_Check.l0] at h, fun _ _ _ _ r h => by simp [spileref19_Check.j2] at h, fun _ _ _ _ r h => by simp [spileref19_Check.l1] at h, fun _ _ _ _ _ r h => by simp [spileref19_Check.l2] at h⟩
 | k + 1 => by
  obtain ⟨ih0, ih1, ih2, ih3, ih4⟩ := spileref19_Check.mono_l k
  refine ⟨?_, ?_, ?_, ?_, ?_⟩
  ·
   intro y0 y1 y2 y3
   unfold spileref19_Check.j0
   repeat' first
   | (with_reducible exact ih0 _ _ _ _)
   | (with_reducible exact ih1 _ _ _ _)
   | (with_reducible exact ih2 _ _ _ _)
   | (with_reducible exact ih3 _ _ _ _)
   | (with_reducible exact ih4 _ _ _ _ _)
   | (with_reducible exact spileref19_rises.mono _ _)
   | (with_reducible exact spileref19_shape.mono _ _ _ _)
   | (with_reducible exact spileref19_within.mono _ _ _ _)
   | (with_reducible exact LeO.refl _)
   | (with_reducible exact LeO.none _)
   | (with_reducible refine LeO.ite ?_ ?_)
   | (with_reducible refine LeO.bind ?_ (fun _ => ?_))
   | exact ih0 _ _ _ _
   | exact ih1 _ _ _ _
   | exact ih2 _ _ _ _
   | exact ih3 _ _ _ _
   | exact ih4 _ _ _ _ _
   | exact spileref19_rises.mono _ _
   | exact spileref19_shape.mono _ _ _ _
   | exact spileref19_within.mono _ _ _ _
   | exact LeO.none _
   | refine LeO.ite ?_ ?_
   | refine LeO.bind ?_ (fun _ => ?_)
  ·
   intro y0 y1 y2 y3
   unfold spileref19_Check.l0
   repeat' first
   | (with_reducible exact ih0 _ _ _ _)
   | (with_reducible exact ih1 _ _ _ _)
   | (with_reducible exact ih2 _ _ _ _)
   | (with_reducible exact ih3 _ _ _ _)
   | (with_reducible exact ih4 _ _ _ _ _)
   | (with_reducible exact spileref19_rises.mono _ _)
   | (with_reducible exact spileref19_shape.mono _ _ _ _)
   | (with_reducible exact spileref19_within.mono _ _ _ _)
   | (with_reducible exact LeO.refl _)
   | (with_reducible exact LeO.none _)
   | (with_reducible refine LeO.ite ?_ ?_)
   | (with_reducible refine LeO.bind ?_ (fun _ => ?_))
   | exact ih0 _ _ _ _
   | exact ih1 _ _ _ _
   | exact ih2 _ _ _ _
   | exact ih3 _ _ _ _
   | exact ih4 _ _ _ _ _
   | exact spileref19_rises.mono _ _
   | exact spileref19_shape.mono _ _ _ _
   | exact spileref19_within.mono _ _ _ _
   | exact LeO.none _
   | refine LeO.ite ?_ ?_
   | refine LeO.bind ?_ (fun _ => ?_)
  ·
   intro y0 y1 y2 y3
   unfold spileref19_Check.j2
   repeat' first
   | (with_reducible exact ih0 _ _ _ _)
   | (with_reducible exact ih1 _ _ _ _)
   | (with_reducible exact ih2 _ _ _ _)
   | (with_reducible exact ih3 _ _ _ _)
   | (with_reducible exact ih4 _ _ _ _ _)
   | (with_reducible exact spileref19_rises.mono _ _)
   | (with_reducible exact spileref19_shape.mono _ _ _ _)
   | (with_reducible exact spileref19_within.mono _ _ _ _)
   | (with_reducible exact LeO.refl _)
   | (with_reducible exact LeO.none _)
   | (with_reducible refine LeO.ite ?_ ?_)
   | (with_reducible refine LeO.bind ?_ (fun _ => ?_))
   | exact ih0 _ _ _ _
   | exact ih1 _ _ _ _
   | exact ih2 _ _ _ _
   | exact ih3 _ _ _ _
   | exact ih4 _ _ _ _ _
   | exact spileref19_rises.mono _ _
   | exact spileref19_shape.mono _ _ _ _
   | exact spileref19_within.mono _ _ _ _
   | exact LeO.none _
   | refine LeO.ite ?_ ?_
   | refine LeO.bind ?_ (fun _ => ?_)
  ·
   intro y0 y1 y2 y3
   unfold spileref19_Check.l1
   repeat' first
   | (with_reducible exact ih0 _ _ _ _)
   | (with_reducible exact ih1 _ _ _ _)
   | (with_reducible exact ih2 _ _ _ _)
   | (with_reducible exact ih3 _ _ _ _)
   | (with_reducible exact ih4 _ _ _ _ _)
   | (with_reducible exact spileref19_rises.mono _ _)
   | (with_reducible exact spileref19_shape.mono _ _ _ _)
   | (with_reducible exact spileref19_within.mono _ _ _ _)
   | (with_reducible exact LeO.refl _)
   | (with_reducible exact LeO.none _)
   | (with_reducible refine LeO.ite ?_ ?_)
   | (with_reducible refine LeO.bind ?_ (fun _ => ?_))
   | exact ih0 _ _ _ _
   | exact ih1 _ _ _ _
   | exact ih2 _ _ _ _
   | exact ih3 _ _ _ _
   | exact ih4 _ _ _ _ _
   | exact spileref19_rises.mono _ _
   | exact spileref19_shape.mono _ _ _ _
   | exact spileref19_within.mono _ _ _ _
   | exact LeO.none _
   | refine LeO.ite ?_ ?_
   | refine LeO.bind ?_ (fun _ => ?_)
  ·
   intro y0 y1 y2 y3 y4
   unfold spileref19_Check.l2
   repeat' first
   | (with_reducible exact ih0 _ _ _ _)
   | (with_reducible exact ih1 _ _ _ _)
   | (with_reducible exact ih2 _ _ _ _)
   | (with_reducible exact ih3 _ _ _ _)
   | (with_reducible exact ih4 _ _ _ _ _)
   | (with_reducible exact spileref19_rises.mono _ _)
   | (with_reducible exact spileref19_shape.mono _ _ _ _)
   | (with_reducible exact spileref19_within.mono _ _ _ _)
   | (with_reducible exact LeO.refl _)
   | (with_reducible exact LeO.none _)
   | (with_reducible refine LeO.ite ?_ ?_)
   | (with_reducible refine LeO.bind ?_ (fun _ => ?_))
   | exact ih0 _ _ _ _
   | exact ih1 _ _ _ _
   | exact ih2 _ _ _ _
   | exact ih3 _ _ _ _
   | exact ih4 _ _ _ _ _
   | exact spileref19_rises.mono _ _
   | exact spileref19_shape.mono _ _ _ _
   | exact spileref19_within.mono _ _ _ _
   | exact LeO.none _
   | refine LeO.ite ?_ ?_
   | refine LeO.bind ?_ (fun _ => ?_)
theorem spileref19_Check.mono : ∀ a0 a1 a2 k, LeO (spileref19_Check.f k a0 a1 a2) (spileref19_Check.f (k + 1) a0 a1 a2) := by
 intro a0 a1 a2 k
 obtain ⟨ih0, ih1, ih2, ih3, ih4⟩ := spileref19_Check.mono_l k
 unfold spileref19_Check.f
 repeat' first
   | (with_reducible exact ih0 _ _ _ _)
   | (with_reducible exact ih1 _ _ _ _)
   | (with_reducible exact ih2 _ _ _ _)
   | (with_reducible exact ih3 _ _ _ _)
   | (with_reducible exact ih4 _ _ _ _ _)
   | (with_reducible exact spileref19_rises.mono _ _)
   | (with_reducible exact spileref19_shape.mono _ _ _ _)
   | (with_reducible exact spileref19_within.mono _ _ _ _)
   | (with_reducible exact LeO.refl _)
   | (with_reducible exact LeO.none _)
   | (with_reducible refine LeO.ite ?_ ?_)
   | (with_reducible refine LeO.bind ?_ (fun _ => ?_))
   | exact ih0 _ _ _ _
   | exact ih1 _ _ _ _
   | exact ih2 _ _ _ _
   | exact ih3 _ _ _ _
   | exact ih4 _ _ _ _ _
   | exact spileref19_rises.mono _ _
   | exact spileref19_shape.mono _ _ _ _
   | exact spileref19_within.mono _ _ _ _
   | exact LeO.none _
   | refine LeO.ite ?_ ?_
   | refine LeO.bind ?_ (fun _ => ?_)
set_option maxHeartbeats 8000000 in
set_option maxRecDepth 100000 in
theorem spileref19_Check.calls (k : Nat) (A0_0 : Option Addr) (c0_0 : Nat) (l0_0 : List Int) (A0_1 : Option Addr) (c0_1 : Nat) (l0_1 : List Int) (A0_2 : Option Addr) (c0_2 : Nat) (l0_2 : List (List Int)) (r : Int) (w : World) (hr0_0 : Kd.C (Kd.int .i64) w A0_0 l0_0.length l0_0) (hc0_0 : l0_0.length ≤ c0_0) (hr0_1 : Kd.C (Kd.int .i64) w A0_1 l0_1.length l0_1) (hc0_1 : l0_1.length ≤ c0_1) (hr0_2 : Kd.C (Kd.slice 3 (Kd.int .i64)) w A0_2 l0_2.length l0_2) (hc0_2 : l0_2.length ≤ c0_2) (h : spileref19_Check.f k l0_0 l0_1 l0_2 = some r) :
  Calls Tryd.prog 19 #[.agg #[.slice A0_0 l0_0.length c0_0, .slice A0_1 l0_1.length c0_1, .slice A0_2 l0_2.length c0_2]] w fun e w' => e = .returned (.int .i64 r) ∧ Below w.heap.size w w' := by
 have hu25 := Tryd.underlying25
 have HR0_0 := Aside0.mk hr0_0
 have HC0_0 := Aside0.mk hc0_0
 clear hr0_0 hc0_0
 have HR0_1 := Aside0.mk hr0_1
 have HC0_1 := Aside0.mk hc0_1
 clear hr0_1 hc0_1
 have HR0_2 := Aside0.mk hr0_2
 have HC0_2 := Aside0.mk hc0_2
 clear hr0_2 hc0_2
 have HB := Aside0.mk (Below.refl w.heap.size w)
 have H : ((spileref19_shape.f k l0_0 l0_1 l0_2).bind fun t219 => (if t219 = 0 then ((spileref19_within.f k l0_0 (-400) 600).bind fun t220 => (if t220 = true then ((spileref19_within.f k l0_1 0 10000).bind fun t221 => (spileref19_Check.j0 k (!t221) l0_0 l0_1 l0_2)) else (spileref19_Check.j0 k true l0_0 l0_1 l0_2))) else (some t219))) = some r := h
 clear h
 replace H := Option.bind_eq_some_iff.mp H
 obtain ⟨t219, A20, H⟩ := H
 replace H : (if t219 = 0 then ((spileref19_within.f k l0_0 (-400) 600).bind fun t220 => (if t220 = true then ((spileref19_within.f k l0_1 0 10000).bind fun t221 => (spileref19_Check.j0 k (!t221) l0_0 l0_1 l0_2)) else (spileref19_Check.j0 k true l0_0 l0_1 l0_2))) else (some t219)) = some r := H
 have A2 := Aside0.mk A20
 clear A20
 by_cases c3 : t219 = 0
 ·
  rw [if_pos c3] at H
  have c3b0 : (t219 == 0) = true := beq_iff_eq.mpr c3
  have c3b1 : (t219 != 0) = false := bne_eq_false_iff_eq.mpr c3
  clear c3
  have HC4 := Aside0.mk H
  clear H
  go_enter Tryd.func19, Tryd.ntmps19
  go_upto_region 4 with (first | ((with_reducible refine gate_dst (N := 1) rfl ?_); refine box_event ?hg (N := 1) ?hd (cs := #[.slice A0_0 l0_0.length c0_0, .slice A0_1 l0_1.length c0_1, .slice A0_2 l0_2.length c0_2]) (t := 25) ?hr ?_; (case hd => rfl); (case hg => rfl); (case hr => first | (go_simp; done) | (go_simp; rfl)); intro gb218 hg w5 hbox hb; have n0_ := Aside0.mk (below_step (by repeat (first | (with_reducible first | exact HB.out | apply below_alloc | apply pw_below_drewN | apply below_drew1) | exact HB.out)) hb); have n1_ := Aside0.mk (hbox); have n2_ := Aside0.mk ((by rw [hg]; exact (below_size (by repeat (first | (with_reducible first | exact HB.out | apply below_alloc | apply pw_below_drewN | apply below_drew1) | exact HB.out))) : w.heap.size ≤ gb218)); have n3_ := Aside0.mk ((by rw [hg]; exact (below_size (by repeat (first | (with_reducible first | exact HB.out | apply below_alloc | apply pw_below_drewN | apply below_drew1) | exact HB.out))) : w.heap.size ≤ gb218)); clear HB; have HB := n0_; have BK218 := n1_; have GW218 := n2_; have GE218 := n3_; clear n0_ n1_ n2_ n3_; clear hb hbox hg; have hcz6_0 : w5.cell? ⟨gb218, 0, none⟩ = some (.slice A0_0 l0_0.length c0_0) := (blk_cell BK218.out 0).trans rfl; have hcz6_1 : w5.cell? ⟨gb218, 1, none⟩ = some (.slice A0_1 l0_1.length c0_1) := (blk_cell BK218.out 1).trans rfl; have hcz6_2 : w5.cell? ⟨gb218, 2, none⟩ = some (.slice A0_2 l0_2.length c0_2) := (blk_cell BK218.out 2).trans rfl; have hfz6_0 := blk_frozen BK218.out 0; have hfz6_1 := blk_frozen BK218.out 1; have hfz6_2 := blk_frozen BK218.out 2) | (go_at_call 40; (with_reducible refine (spileref19_shape.calls k _ _ l0_0 _ _ l0_1 _ _ l0_2 t219 _ ?side1 ?side2 ?side3 ?side4 ?side5 ?side6 A2.out).mono ?_); (case side1 => repeat (first | exact (Kd.C_below HR0_0.out HB.out) | (with_reducible refine Kd.C_alloc ?_ _) | (with_reducible refine Kd.C_drewN ?_ _) | (with_reducible refine Kd.C_drew ?_))); (case side2 => exact HC0_0.out); (case side3 => repeat (first | exact (Kd.C_below HR0_1.out HB.out) | (with_reducible refine Kd.C_alloc ?_ _) | (with_reducible refine Kd.C_drewN ?_ _) | (with_reducible refine Kd.C_drew ?_))); (case side4 => exact HC0_1.out); (case side5 => repeat (first | exact (Kd.C_below HR0_2.out HB.out) | (with_reducible refine Kd.C_alloc ?_ _) | (with_reducible refine Kd.C_drewN ?_ _) | (with_reducible refine Kd.C_drew ?_))); (case side6 => exact HC0_2.out); rintro e w7 ⟨rfl, hb⟩; have n0_ := Aside0.mk (blk_below (g := gb218) (o := .cells #[.slice A0_0 l0_0.length c0_0, .slice A0_1 l0_1.length c0_1, .slice A0_2 l0_2.length c0_2] 25 (0, 0)) (by (with_reducible repeat (first | refine blk_drewN ?_ _ | refine blk_drew ?_ | refine blk_alloc ?_ _)); exact BK218.out) hb); have n1_ := Aside0.mk (below_step (by repeat (first | (with_reducible first | exact HB.out | apply below_alloc | apply pw_below_drewN | apply below_drew1 | refine below_set ?_ GE218.out) | exact HB.out)) hb); clear BK218; clear HB; have BK218 := n0_; have HB := n1_; clear n0_ n1_; (try clear hb); (try clear hb2); (try clear hk); (try clear hi)))
  repeat (go_quiet (first | ((with_reducible refine gate_dst (N := 1) rfl ?_); refine box_event ?hg (N := 1) ?hd (cs := #[.slice A0_0 l0_0.length c0_0, .slice A0_1 l0_1.length c0_1, .slice A0_2 l0_2.length c0_2]) (t := 25) ?hr ?_; (case hd => rfl); (case hg => rfl); (case hr => first | (go_simp; done) | (go_simp; rfl)); intro gb218 hg w5 hbox hb; have n0_ := Aside0.mk (below_step (by repeat (first | (with_reducible first | exact HB.out | apply below_alloc | apply pw_below_drewN | apply below_drew1) | exact HB.out)) hb); have n1_ := Aside0.mk (hbox); have n2_ := Aside0.mk ((by rw [hg]; exact (below_size (by repeat (first | (with_reducible first | exact HB.out | apply below_alloc | apply pw_below_drewN | apply below_drew1) | exact HB.out))) : w.heap.size ≤ gb218)); have n3_ := Aside0.mk ((by rw [hg]; exact (below_size (by repeat (first | (with_reducible first | exact HB.out | apply below_alloc | apply pw_below_drewN | apply below_drew1) | exact HB.out))) : w.heap.size ≤ gb218)); clear HB; have HB := n0_; have BK218 := n1_; have GW218 := n2_; have GE218 := n3_; clear n0_ n1_ n2_ n3_; clear hb hbox hg; have hcz6_0 : w5.cell? ⟨gb218, 0, none⟩ = some (.slice A0_0 l0_0.length c0_0) := (blk_cell BK218.out 0).trans rfl; have hcz6_1 : w5.cell? ⟨gb218, 1, none⟩ = some (.slice A0_1 l0_1.length c0_1) := (blk_cell BK218.out 1).trans rfl; have hcz6_2 : w5.cell? ⟨gb218, 2, none⟩ = some (.slice A0_2 l0_2.length c0_2) := (blk_cell BK218.out 2).trans rfl; have hfz6_0 := blk_frozen BK218.out 0; have hfz6_1 := blk_frozen BK218.out 1; have hfz6_2 := blk_frozen BK218.out 2) | (go_at_call 40; (with_reducible refine (spileref19_shape.calls k _ _ l0_0 _ _ l0_1 _ _ l0_2 t219 _ ?side1 ?side2 ?side3 ?side4 ?side5 ?side6 A2.out).mono ?_); (case side1 => repeat (first | exact (Kd.C_below HR0_0.out HB.out) | (with_reducible refine Kd.C_alloc ?_ _) | (with_reducible refine Kd.C_drewN ?_ _) | (with_reducible refine Kd.C_drew ?_))); (case side2 => exact HC0_0.out); (case side3 => repeat (first | exact (Kd.C_below HR0_1.out HB.out) | (with_reducible refine Kd.C_alloc ?_ _) | (with_reducible refine Kd.C_drewN ?_ _) | (with_reducible refine Kd.C_drew ?_))); (case side4 => exact HC0_1.out); (case side5 => repeat (first | exact (Kd.C_below HR0_2.out HB.out) | (with_reducible refine Kd.C_alloc ?_ _) | (with_reducible refine Kd.C_drewN ?_ _) | (with_reducible refine Kd.C_drew ?_))); (case side6 => exact HC0_2.out); rintro e w7 ⟨rfl, hb⟩; have n0_ := Aside0.mk (blk_below (g := gb218) (o := .cells #[.slice A0_0 l0_0.length c0_0, .slice A0_1 l0_1.length c0_1, .slice A0_2 l0_2.length c0_2] 25 (0, 0)) (by (with_reducible repeat (first | refine blk_drewN ?_ _ | refine blk_drew ?_ | refine blk_alloc ?_ _)); exact BK218.out) hb); have n1_ := Aside0.mk (below_step (by repeat (first | (with_reducible first | exact HB.out | apply below_alloc | apply pw_below_drewN | apply below_drew1 | refine below_set ?_ GE218.out) | exact HB.out)) hb); clear BK218; clear HB; have BK218 := n0_; have HB := n1_; clear n0_ n1_; (try clear hb); (try clear hb2); (try clear hk); (try clear hi))); go_upto_region 4 with (first | ((with_reducible refine gate_dst (N := 1) rfl ?_); refine box_event ?hg (N := 1) ?hd (cs := #[.slice A0_0 l0_0.length c0_0, .slice A0_1 l0_1.length c0_1, .slice A0_2 l0_2.length c0_2]) (t := 25) ?hr ?_; (case hd => rfl); (case hg => rfl); (case hr => first | (go_simp; done) | (go_simp; rfl)); intro gb218 hg w5 hbox hb; have n0_ := Aside0.mk (below_step (by repeat (first | (with_reducible first | exact HB.out | apply below_alloc | apply pw_below_drewN | apply below_drew1) | exact HB.out)) hb); have n1_ := Aside0.mk (hbox); have n2_ := Aside0.mk ((by rw [hg]; exact (below_size (by repeat (first | (with_reducible first | exact HB.out | apply below_alloc | apply pw_below_drewN | apply below_drew1) | exact HB.out))) : w.heap.size ≤ gb218)); have n3_ := Aside0.mk ((by rw [hg]; exact (below_size (by repeat (first | (with_reducible first | exact HB.out | apply below_alloc | apply pw_below_drewN | apply below_drew1) | exact HB.out))) : w.heap.size ≤ gb218)); clear HB; have HB := n0_; have BK218 := n1_; have GW218 := n2_; have GE218 := n3_; clear n0_ n1_ n2_ n3_; clear hb hbox hg; have hcz6_0 : w5.cell? ⟨gb218, 0, none⟩ = some (.slice A0_0 l0_0.length c0_0) := (blk_cell BK218.out 0).trans rfl; have hcz6_1 : w5.cell? ⟨gb218, 1, none⟩ = some (.slice A0_1 l0_1.length c0_1) := (blk_cell BK218.out 1).trans rfl; have hcz6_2 : w5.cell? ⟨gb218, 2, none⟩ = some (.slice A0_2 l0_2.length c0_2) := (blk_cell BK218.out 2).trans rfl; have hfz6_0 := blk_frozen BK218.out 0; have hfz6_1 := blk_frozen BK218.out 1; have hfz6_2 := blk_frozen BK218.out 2) | (go_at_call 40; (with_reducible refine (spileref19_shape.calls k _ _ l0_0 _ _ l0_1 _ _ l0_2 t219 _ ?side1 ?side2 ?side3 ?side4 ?side5 ?side6 A2.out).mono ?_); (case side1 => repeat (first | exact (Kd.C_below HR0_0.out HB.out) | (with_reducible refine Kd.C_alloc ?_ _) | (with_reducible refine Kd.C_drewN ?_ _) | (with_reducible refine Kd.C_drew ?_))); (case side2 => exact HC0_0.out); (case side3 => repeat (first | exact (Kd.C_below HR0_1.out HB.out) | (with_reducible refine Kd.C_alloc ?_ _) | (with_reducible refine Kd.C_drewN ?_ _) | (with_reducible refine Kd.C_drew ?_))); (case side4 => exact HC0_1.out); (case side5 => repeat (first | exact (Kd.C_below HR0_2.out HB.out) | (with_reducible refine Kd.C_alloc ?_ _) | (with_reducible refine Kd.C_drewN ?_ _) | (with_reducible refine Kd.C_drew ?_))); (case side6 => exact HC0_2.out); rintro e w7 ⟨rfl, hb⟩; have n0_ := Aside0.mk (blk_below (g := gb218) (o := .cells #[.slice A0_0 l0_0.length c0_0, .slice A0_1 l0_1.length c0_1, .slice A0_2 l0_2.length c0_2] 25 (0, 0)) (by (with_reducible repeat (first | refine blk_drewN ?_ _ | refine blk_drew ?_ | refine blk_alloc ?_ _)); exact BK218.out) hb); have n1_ := Aside0.mk (below_step (by repeat (first | (with_reducible first | exact HB.out | apply below_alloc | apply pw_below_drewN | apply below_drew1 | refine below_set ?_ GE218.out) | exact HB.out)) hb); clear BK218; clear HB; have BK218 := n0_; have HB := n1_; clear n0_ n1_; (try clear hb); (try clear hb2); (try clear hk); (try clear hi))))
  (try simp only [Act.put, List.setIfInBounds_toArray, List.set_cons_zero, List.set_cons_succ])
  go_cut [21] (fun v21 wc => ∃ (kq : Nat) (x21_3 : Bool), v21 = .bool x21_3 ∧ Aside0 (spileref19_Check.j0 kq x21_3 l0_0 l0_1 l0_2 = some r) ∧ Aside0 (kq ≤ k) ∧ Aside0 (wc.heap[gb218]? = some (.cells #[(.slice A0_0 l0_0.length c0_0), (.slice A0_1 l0_1.length c0_1), (.slice A0_2 l0_2.length c0_2)] 25 (0, 0))) ∧ Aside0 (Below w.heap.size w wc))
  case first =>
   have H := HC4.out
   clear HC4
   replace H := Option.bind_eq_some_iff.mp H
   obtain ⟨t220, A80, H⟩ := H
   replace H : (if t220 = true then ((spileref19_within.f k l0_1 0 10000).bind fun t221 => (spileref19_Check.j0 k (!t221) l0_0 l0_1 l0_2)) else (spileref19_Check.j0 k true l0_0 l0_1 l0_2)) = some r := H
   have A8 := Aside0.mk A80
   clear A80
   by_cases c9 : t220 = true
   ·
    subst c9
    have H1 : ((spileref19_within.f k l0_1 0 10000).bind fun t221 => (spileref19_Check.j0 k (!t221) l0_0 l0_1 l0_2)) = some r := by rw [if_pos rfl] at H; exact H
    clear H
    have H := H1
    clear H1
    replace H := Option.bind_eq_some_iff.mp H
    obtain ⟨t221, A100, H⟩ := H
    replace H : (spileref19_Check.j0 k (!t221) l0_0 l0_1 l0_2) = some r := H
    have A10 := Aside0.mk A100
    clear A100
    have H' := Aside0.mk H
    clear H
    have hcz11_0 : w7.cell? ⟨gb218, 0, none⟩ = some (.slice A0_0 l0_0.length c0_0) := (blk_cell BK218.out 0).trans rfl
    have hcz11_1 : w7.cell? ⟨gb218, 1, none⟩ = some (.slice A0_1 l0_1.length c0_1) := (blk_cell BK218.out 1).trans rfl
    have hcz11_2 : w7.cell? ⟨gb218, 2, none⟩ = some (.slice A0_2 l0_2.length c0_2) := (blk_cell BK218.out 2).trans rfl
    have hfz11_0 := blk_frozen BK218.out 0
    have hfz11_1 := blk_frozen BK218.out 1
    have hfz11_2 := blk_frozen BK218.out 2
    go_wp2_with (first | (go_at_call 41; (with_reducible refine (spileref19_within.calls k _ _ l0_0 (-400) 600 true _ ?side1 ?side2 A8.out).mono ?_); (case side1 => repeat (first | exact (Kd.C_below HR0_0.out HB.out) | (with_reducible refine Kd.C_alloc ?_ _) | (with_reducible refine Kd.C_drewN ?_ _) | (with_reducible refine Kd.C_drew ?_))); (case side2 => exact HC0_0.out); rintro e w' ⟨rfl, ⟨nd, rfl⟩⟩; (try first | exact ⟨rfl, _, World.drewN_drewN _ _ _⟩ | exact ⟨rfl, _, Eq.trans (World.drewN_drewN _ _ _) (congrArg (World.drewN _) (Nat.add_assoc _ _ _))⟩)) | (go_at_call 41; (with_reducible refine (spileref19_within.calls k _ _ l0_1 0 10000 t221 _ ?side1 ?side2 A10.out).mono ?_); (case side1 => repeat (first | exact (Kd.C_below HR0_1.out (by repeat (first | (with_reducible first | exact HB.out | apply below_alloc | apply pw_below_drewN | apply below_drew1 | refine below_set ?_ GE218.out) | exact HB.out))) | (with_reducible refine Kd.C_alloc ?_ _) | (with_reducible refine Kd.C_drewN ?_ _) | (with_reducible refine Kd.C_drew ?_))); (case side2 => exact HC0_1.out); rintro e w' ⟨rfl, ⟨nd, rfl⟩⟩; (try first | exact ⟨rfl, _, World.drewN_drewN _ _ _⟩ | exact ⟨rfl, _, Eq.trans (World.drewN_drewN _ _ _) (congrArg (World.drewN _) (Nat.add_assoc _ _ _))⟩)))
    repeat (go_quiet (first | (go_at_call 41; (with_reducible refine (spileref19_within.calls k _ _ l0_0 (-400) 600 true _ ?side1 ?side2 A8.out).mono ?_); (case side1 => repeat (first | exact (Kd.C_below HR0_0.out HB.out) | (with_reducible refine Kd.C_alloc ?_ _) | (with_reducible refine Kd.C_drewN ?_ _) | (with_reducible refine Kd.C_drew ?_))); (case side2 => exact HC0_0.out); rintro e w' ⟨rfl, ⟨nd, rfl⟩⟩; (try first | exact ⟨rfl, _, World.drewN_drewN _ _ _⟩ | exact ⟨rfl, _, Eq.trans (World.drewN_drewN _ _ _) (congrArg (World.drewN _) (Nat.add_assoc _ _ _))⟩)) | (go_at_call 41; (with_reducible refine (spileref19_within.calls k _ _ l0_1 0 10000 t221 _ ?side1 ?side2 A10.out).mono ?_); (case side1 => repeat (first | exact (Kd.C_below HR0_1.out (by repeat (first | (with_reducible first | exact HB.out | apply below_alloc | apply pw_below_drewN | apply below_drew1 | refine below_set ?_ GE218.out) | exact HB.out))) | (with_reducible refine Kd.C_alloc ?_ _) | (with_reducible refine Kd.C_drewN ?_ _) | (with_reducible refine Kd.C_drew ?_))); (case side2 => exact HC0_1.out); rintro e w' ⟨rfl, ⟨nd, rfl⟩⟩; (try first | exact ⟨rfl, _, World.drewN_drewN _ _ _⟩ | exact ⟨rfl, _, Eq.trans (World.drewN_drewN _ _ _) (congrArg (World.drewN _) (Nat.add_assoc _ _ _))⟩))); try go_wp2_with (first | (go_at_call 41; (with_reducible refine (spileref19_within.calls k _ _ l0_0 (-400) 600 true _ ?side1 ?side2 A8.out).mono ?_); (case side1 => repeat (first | exact (Kd.C_below HR0_0.out HB.out) | (with_reducible refine Kd.C_alloc ?_ _) | (with_reducible refine Kd.C_drewN ?_ _) | (with_reducible refine Kd.C_drew ?_))); (case side2 => exact HC0_0.out); rintro e w' ⟨rfl, ⟨nd, rfl⟩⟩; (try first | exact ⟨rfl, _, World.drewN_drewN _ _ _⟩ | exact ⟨rfl, _, Eq.trans (World.drewN_drewN _ _ _) (congrArg (World.drewN _) (Nat.add_assoc _ _ _))⟩)) | (go_at_call 41; (with_reducible refine (spileref19_within.calls k _ _ l0_1 0 10000 t221 _ ?side1 ?side2 A10.out).mono ?_); (case side1 => repeat (first | exact (Kd.C_below HR0_1.out (by repeat (first | (with_reducible first | exact HB.out | apply below_alloc | apply pw_below_drewN | apply below_drew1 | refine below_set ?_ GE218.out) | exact HB.out))) | (with_reducible refine Kd.C_alloc ?_ _) | (with_reducible refine Kd.C_drewN ?_ _) | (with_reducible refine Kd.C_drew ?_))); (case side2 => exact HC0_1.out); rintro e w' ⟨rfl, ⟨nd, rfl⟩⟩; (try first | exact ⟨rfl, _, World.drewN_drewN _ _ _⟩ | exact ⟨rfl, _, Eq.trans (World.drewN_drewN _ _ _) (congrArg (World.drewN _) (Nat.add_assoc _ _ _))⟩))))
    go_meet
    case rel => exact ⟨_, (!t221), (by first | rfl | (simp; done) | (simp [*]; done)), H', ⟨by first | omega | exact Nat.le_refl _⟩, ⟨by (with_reducible repeat (first | refine blk_drewN ?_ _ | refine blk_drew ?_ | refine blk_alloc ?_ _)); exact BK218.out⟩, ⟨by repeat (first | (with_reducible first | exact HB.out | apply below_alloc | apply pw_below_drewN | apply below_drew1 | refine below_set ?_ GE218.out) | exact HB.out)⟩⟩
   ·
    replace c9 := Bool.eq_false_iff.mpr c9
    subst c9
    have H1 : (spileref19_Check.j0 k true l0_0 l0_1 l0_2) = some r := by rw [if_neg (show ¬ (false = true) by decide)] at H; exact H
    clear H
    have H := H1
    clear H1
    have H' := Aside0.mk H
    clear H
    have hcz12_0 : w7.cell? ⟨gb218, 0, none⟩ = some (.slice A0_0 l0_0.length c0_0) := (blk_cell BK218.out 0).trans rfl
    have hcz12_1 : w7.cell? ⟨gb218, 1, none⟩ = some (.slice A0_1 l0_1.length c0_1) := (blk_cell BK218.out 1).trans rfl
    have hcz12_2 : w7.cell? ⟨gb218, 2, none⟩ = some (.slice A0_2 l0_2.length c0_2) := (blk_cell BK218.out 2).trans rfl
    have hfz12_0 := blk_frozen BK218.out 0
    have hfz12_1 := blk_frozen BK218.out 1
    have hfz12_2 := blk_frozen BK218.out 2
    go_wp2_with (first | (go_at_call 41; (with_reducible refine (spileref19_within.calls k _ _ l0_0 (-400) 600 false _ ?side1 ?side2 A8.out).mono ?_); (case side1 => repeat (first | exact (Kd.C_below HR0_0.out HB.out) | (with_reducible refine Kd.C_alloc ?_ _) | (with_reducible refine Kd.C_drewN ?_ _) | (with_reducible refine Kd.C_drew ?_))); (case side2 => exact HC0_0.out); rintro e w' ⟨rfl, ⟨nd, rfl⟩⟩; (try first | exact ⟨rfl, _, World.drewN_drewN _ _ _⟩ | exact ⟨rfl, _, Eq.trans (World.drewN_drewN _ _ _) (congrArg (World.drewN _) (Nat.add_assoc _ _ _))⟩)))
    repeat (go_quiet (first | (go_at_call 41; (with_reducible refine (spileref19_within.calls k _ _ l0_0 (-400) 600 false _ ?side1 ?side2 A8.out).mono ?_); (case side1 => repeat (first | exact (Kd.C_below HR0_0.out HB.out) | (with_reducible refine Kd.C_alloc ?_ _) | (with_reducible refine Kd.C_drewN ?_ _) | (with_reducible refine Kd.C_drew ?_))); (case side2 => exact HC0_0.out); rintro e w' ⟨rfl, ⟨nd, rfl⟩⟩; (try first | exact ⟨rfl, _, World.drewN_drewN _ _ _⟩ | exact ⟨rfl, _, Eq.trans (World.drewN_drewN _ _ _) (congrArg (World.drewN _) (Nat.add_assoc _ _ _))⟩))); try go_wp2_with (first | (go_at_call 41; (with_reducible refine (spileref19_within.calls k _ _ l0_0 (-400) 600 false _ ?side1 ?side2 A8.out).mono ?_); (case side1 => repeat (first | exact (Kd.C_below HR0_0.out HB.out) | (with_reducible refine Kd.C_alloc ?_ _) | (with_reducible refine Kd.C_drewN ?_ _) | (with_reducible refine Kd.C_drew ?_))); (case side2 => exact HC0_0.out); rintro e w' ⟨rfl, ⟨nd, rfl⟩⟩; (try first | exact ⟨rfl, _, World.drewN_drewN _ _ _⟩ | exact ⟨rfl, _, Eq.trans (World.drewN_drewN _ _ _) (congrArg (World.drewN _) (Nat.add_assoc _ _ _))⟩))))
    go_meet
    case rel => exact ⟨_, (true), (by first | rfl | (simp; done) | (simp [*]; done)), H', ⟨by first | omega | exact Nat.le_refl _⟩, ⟨by (with_reducible repeat (first | refine blk_drewN ?_ _ | refine blk_drew ?_ | refine blk_alloc ?_ _)); exact BK218.out⟩, ⟨by repeat (first | (with_reducible first | exact HB.out | apply below_alloc | apply pw_below_drewN | apply below_drew1 | refine below_set ?_ GE218.out) | exact HB.out)⟩⟩
  case rest =>
   clear HC4
   try clear c1
   try clear p2
   try clear c3
   try clear c3b0
   try clear c3b1
   try clear c9
   try clear hcz11_0
   try clear hcz11_1
   try clear hcz11_2
   try clear hcz12_0
   try clear hcz12_1
   try clear hcz12_2
   try clear hcz6_0
   try clear hcz6_1
   try clear hcz6_2
   try clear hfz11_0
   try clear hfz11_1
   try clear hfz11_2
   try clear hfz12_0
   try clear hfz12_1
   try clear hfz12_2
   try clear hfz6_0
   try clear hfz6_1
   try clear hfz6_2
   obtain ⟨kq, x21_3, rfl, HA, HJ3, BK218, HB⟩ := hcut
   cases kq with
   | zero => exact absurd HA.out (by simp [spileref19_Check.j0])
   | succ kj3 =>
    have H := HA.out
    clear HA
    simp only [spileref19_Check.j0] at H
    by_cases c13 : x21_3 = true
    ·
     subst c13
     have H1 : (some 2) = some r := by rw [if_pos rfl] at H; exact H
     clear H
     have H := H1
     clear H1
     obtain rfl := Option.some.inj H
     go_wp2
     repeat (go_quiet (fail); try go_wp2)
     go_ret
     exact ⟨by first | rfl | (simp [errW_none, errW_some] <;> rfl) | (simp [*, errW_none, errW_some] <;> rfl), by repeat (first | (with_reducible first | exact HB.out | apply below_alloc | apply pw_below_drewN | apply below_drew1 | refine below_set ?_ GE218.out) | exact HB.out)⟩
    ·
     replace c13 := Bool.eq_false_iff.mpr c13
     subst c13
     have H1 : (spileref19_Check.l0 kj3 0 l0_0 l0_1 l0_2) = some r := by rw [if_neg (show ¬ (false = true) by decide)] at H; exact H
     clear H
     have H := H1
     clear H1
     have H' := Aside0.mk H
     clear H
     go_wp2
     repeat (go_quiet (fail); try go_wp2)
     go_loopg [4] kj3 (fun kq v4 w' => ∃ (x4_2 : Int), v4 = .int .i64 x4_2 ∧ Aside0 (spileref19_Check.l0 kq x4_2 l0_0 l0_1 l0_2 = some r) ∧ Aside0 (kq ≤ kj3) ∧ Aside0 (w'.heap[gb218]? = some (.cells #[(.slice A0_0 l0_0.length c0_0), (.slice A0_1 l0_1.length c0_1), (.slice A0_2 l0_2.length c0_2)] 25 (0, 0))) ∧ Aside0 (Below w.heap.size w w'))
     case atStart => exact ⟨(0), (by first | rfl | (simp; done) | (simp [*]; done)), H', ⟨Nat.le_refl _⟩, ⟨by (with_reducible repeat (first | refine blk_drewN ?_ _ | refine blk_drew ?_ | refine blk_alloc ?_ _)); exact BK218.out⟩, ⟨by repeat (first | (with_reducible first | exact HB.out | apply below_alloc | apply pw_below_drewN | apply below_drew1 | refine below_set ?_ GE218.out) | exact HB.out)⟩⟩
     case round =>
      clear H'
      try clear c1
      try clear p2
      try clear c3
      try clear c3b0
      try clear c3b1
      try clear c9
      try clear c13
      try clear hcz11_0
      try clear hcz11_1
      try clear hcz11_2
      try clear hcz12_0
      try clear hcz12_1
      try clear hcz12_2
      try clear hcz6_0
      try clear hcz6_1
      try clear hcz6_2
      try clear hfz11_0
      try clear hfz11_1
      try clear hfz11_2
      try clear hfz12_0
      try clear hfz12_1
      try clear hfz12_2
      try clear hfz6_0
      try clear hfz6_1
      try clear hfz6_2
      try clear p2
      obtain ⟨x4_2, rfl, HA, HK2, BK218, HB⟩ := hrel
      cases gk with
      | zero => exact absurd HA.out (by simp [spileref19_Check.l0])
      | succ k2 =>
       have H := HA.out
       clear HA
       simp only [spileref19_Check.l0] at H
       by_cases c14 : x4_2 < (l0_2.length : Int)
       ·
        rw [if_pos c14] at H
        have c14b0 : decide (x4_2 < (l0_2.length : Int)) = true := decide_eq_true c14
        clear c14
        by_cases c15 : 0 ≤ x4_2
        ·
         rw [if_pos c15] at H
         have c15b0 : decide (0 ≤ x4_2) = true := decide_eq_true c15
         clear c15
         replace H := Option.bind_eq_some_iff.mp H
         obtain ⟨t223, A160, H⟩ := H
         replace H : (if t223 = true then (spileref19_Check.l0 k2 (wrap64 (x4_2 + 1)) l0_0 l0_1 l0_2) else (some 2)) = some r := H
         have A16 := Aside0.mk A160
         clear A160
         by_cases c17 : t223 = true
         ·
          subst c17
          have H1 : (spileref19_Check.l0 k2 (wrap64 (x4_2 + 1)) l0_0 l0_1 l0_2) = some r := by rw [if_pos rfl] at H; exact H
          clear H
          have H := H1
          clear H1
          have H' := Aside0.mk H
          clear H
          have hcz18_0 : wr.cell? ⟨gb218, 0, none⟩ = some (.slice A0_0 l0_0.length c0_0) := (blk_cell BK218.out 0).trans rfl
          have hcz18_1 : wr.cell? ⟨gb218, 1, none⟩ = some (.slice A0_1 l0_1.length c0_1) := (blk_cell BK218.out 1).trans rfl
          have hcz18_2 : wr.cell? ⟨gb218, 2, none⟩ = some (.slice A0_2 l0_2.length c0_2) := (blk_cell BK218.out 2).trans rfl
          have hfz18_0 := blk_frozen BK218.out 0
          have hfz18_1 := blk_frozen BK218.out 1
          have hfz18_2 := blk_frozen BK218.out 2
          have p222 : 0 ≤ (x4_2 : Int) := of_decide_eq_true (by first | (with_reducible assumption) | assumption)
          have q222 : x4_2 < (l0_2.length : Int) := of_decide_eq_true (by first | (with_reducible assumption) | assumption)
          obtain ⟨ad222, A222_0, c222_0, e222, hx222_0, hl222_0, hi222_0⟩ := at_L1 HR0_2.out x4_2 p222 q222
          cases e222
          replace hx222_0 := (HB.out.cell (World.block_lt_of_cell? w _ hx222_0)).trans hx222_0
          have HR222_0 := Aside0.mk hi222_0
          have HC222_0 := Aside0.mk hl222_0
          clear hi222_0 hl222_0
          replace p222 := eq_true p222
          replace q222 := eq_true q222
          go_wp2_with (first | (go_at_call 41; (with_reducible refine (spileref19_within.calls k2 _ _ (rd_L1 l0_2 x4_2) 0 10000 true _ ?side1 ?side2 A16.out).mono ?_); (case side1 => repeat (first | exact (Kd.C_below HR222_0.out HB.out) | (with_reducible refine Kd.C_alloc ?_ _) | (with_reducible refine Kd.C_drewN ?_ _) | (with_reducible refine Kd.C_drew ?_))); (case side2 => exact HC222_0.out); rintro e w' ⟨rfl, ⟨nd, rfl⟩⟩; (try first | exact ⟨rfl, _, World.drewN_drewN _ _ _⟩ | exact ⟨rfl, _, Eq.trans (World.drewN_drewN _ _ _) (congrArg (World.drewN _) (Nat.add_assoc _ _ _))⟩)))
          repeat (go_quiet (first | (go_at_call 41; (with_reducible refine (spileref19_within.calls k2 _ _ (rd_L1 l0_2 x4_2) 0 10000 true _ ?side1 ?side2 A16.out).mono ?_); (case side1 => repeat (first | exact (Kd.C_below HR222_0.out HB.out) | (with_reducible refine Kd.C_alloc ?_ _) | (with_reducible refine Kd.C_drewN ?_ _) | (with_reducible refine Kd.C_drew ?_))); (case side2 => exact HC222_0.out); rintro e w' ⟨rfl, ⟨nd, rfl⟩⟩; (try first | exact ⟨rfl, _, World.drewN_drewN _ _ _⟩ | exact ⟨rfl, _, Eq.trans (World.drewN_drewN _ _ _) (congrArg (World.drewN _) (Nat.add_assoc _ _ _))⟩))); try go_wp2_with (first | (go_at_call 41; (with_reducible refine (spileref19_within.calls k2 _ _ (rd_L1 l0_2 x4_2) 0 10000 true _ ?side1 ?side2 A16.out).mono ?_); (case side1 => repeat (first | exact (Kd.C_below HR222_0.out HB.out) | (with_reducible refine Kd.C_alloc ?_ _) | (with_reducible refine Kd.C_drewN ?_ _) | (with_reducible refine Kd.C_drew ?_))); (case side2 => exact HC222_0.out); rintro e w' ⟨rfl, ⟨nd, rfl⟩⟩; (try first | exact ⟨rfl, _, World.drewN_drewN _ _ _⟩ | exact ⟨rfl, _, Eq.trans (World.drewN_drewN _ _ _) (congrArg (World.drewN _) (Nat.add_assoc _ _ _))⟩))))
          go_roundg k2
          case measure => have := HJ3.out; have := HK2.out; omega
          case rel => exact ⟨(wrap64 (x4_2 + 1)), (by first | rfl | (simp; done) | (simp [*]; done)), H', ⟨by have := HJ3.out; have := HK2.out; omega⟩, ⟨by (with_reducible repeat (first | refine blk_drewN ?_ _ | refine blk_drew ?_ | refine blk_alloc ?_ _)); exact BK218.out⟩, ⟨by repeat (first | (with_reducible first | exact HB.out | apply below_alloc | apply pw_below_drewN | apply below_drew1 | refine below_set ?_ GE218.out) | exact HB.out)⟩⟩
         ·
          replace c17 := Bool.eq_false_iff.mpr c17
          subst c17
          have H1 : (some 2) = some r := by rw [if_neg (show ¬ (false = true) by decide)] at H; exact H
          clear H
          have H := H1
          clear H1
          obtain rfl := Option.some.inj H
          have hcz19_0 : wr.cell? ⟨gb218, 0, none⟩ = some (.slice A0_0 l0_0.length c0_0) := (blk_cell BK218.out 0).trans rfl
          have hcz19_1 : wr.cell? ⟨gb218, 1, none⟩ = some (.slice A0_1 l0_1.length c0_1) := (blk_cell BK218.out 1).trans rfl
          have hcz19_2 : wr.cell? ⟨gb218, 2, none⟩ = some (.slice A0_2 l0_2.length c0_2) := (blk_cell BK218.out 2).trans rfl
          have hfz19_0 := blk_frozen BK218.out 0
          have hfz19_1 := blk_frozen BK218.out 1
          have hfz19_2 := blk_frozen BK218.out 2
          have p222 : 0 ≤ (x4_2 : Int) := of_decide_eq_true (by first | (with_reducible assumption) | assumption)
          have q222 : x4_2 < (l0_2.length : Int) := of_decide_eq_true (by first | (with_reducible assumption) | assumption)
          obtain ⟨ad222, A222_0, c222_0, e222, hx222_0, hl222_0, hi222_0⟩ := at_L1 HR0_2.out x4_2 p222 q222
          cases e222
          replace hx222_0 := (HB.out.cell (World.block_lt_of_cell? w _ hx222_0)).trans hx222_0
          have HR222_0 := Aside0.mk hi222_0
          have HC222_0 := Aside0.mk hl222_0
          clear hi222_0 hl222_0
          replace p222 := eq_true p222
          replace q222 := eq_true q222
          go_wp2_with (first | (go_at_call 41; (with_reducible refine (spileref19_within.calls k2 _ _ (rd_L1 l0_2 x4_2) 0 10000 false _ ?side1 ?side2 A16.out).mono ?_); (case side1 => repeat (first | exact (Kd.C_below HR222_0.out HB.out) | (with_reducible refine Kd.C_alloc ?_ _) | (with_reducible refine Kd.C_drewN ?_ _) | (with_reducible refine Kd.C_drew ?_))); (case side2 => exact HC222_0.out); rintro e w' ⟨rfl, ⟨nd, rfl⟩⟩; (try first | exact ⟨rfl, _, World.drewN_drewN _ _ _⟩ | exact ⟨rfl, _, Eq.trans (World.drewN_drewN _ _ _) (congrArg (World.drewN _) (Nat.add_assoc _ _ _))⟩)))
          repeat (go_quiet (first | (go_at_call 41; (with_reducible refine (spileref19_within.calls k2 _ _ (rd_L1 l0_2 x4_2) 0 10000 false _ ?side1 ?side2 A16.out).mono ?_); (case side1 => repeat (first | exact (Kd.C_below HR222_0.out HB.out) | (with_reducible refine Kd.C_alloc ?_ _) | (with_reducible refine Kd.C_drewN ?_ _) | (with_reducible refine Kd.C_drew ?_))); (case side2 => exact HC222_0.out); rintro e w' ⟨rfl, ⟨nd, rfl⟩⟩; (try first | exact ⟨rfl, _, World.drewN_drewN _ _ _⟩ | exact ⟨rfl, _, Eq.trans (World.drewN_drewN _ _ _) (congrArg (World.drewN _) (Nat.add_assoc _ _ _))⟩))); try go_wp2_with (first | (go_at_call 41; (with_reducible refine (spileref19_within.calls k2 _ _ (rd_L1 l0_2 x4_2) 0 10000 false _ ?side1 ?side2 A16.out).mono ?_); (case side1 => repeat (first | exact (Kd.C_below HR222_0.out HB.out) | (with_reducible refine Kd.C_alloc ?_ _) | (with_reducible refine Kd.C_drewN ?_ _) | (with_reducible refine Kd.C_drew ?_))); (case side2 => exact HC222_0.out); rintro e w' ⟨rfl, ⟨nd, rfl⟩⟩; (try first | exact ⟨rfl, _, World.drewN_drewN _ _ _⟩ | exact ⟨rfl, _, Eq.trans (World.drewN_drewN _ _ _) (congrArg (World.drewN _) (Nat.add_assoc _ _ _))⟩))))
          go_ret
          exact ⟨by first | rfl | (simp [errW_none, errW_some] <;> rfl) | (simp [*, errW_none, errW_some] <;> rfl), by repeat (first | (with_reducible first | exact HB.out | apply below_alloc | apply pw_below_drewN | apply below_drew1 | refine below_set ?_ GE218.out) | exact HB.out)⟩
        ·
         rw [if_neg c15] at H
         exact absurd H (by simp)
       ·
        rw [if_neg c14] at H
        have c14b0 : decide (x4_2 < (l0_2.length : Int)) = false := decide_eq_false c14
        clear c14
        have HC20 := Aside0.mk H
        clear H
        have hcz21_0 : wr.cell? ⟨gb218, 0, none⟩ = some (.slice A0_0 l0_0.length c0_0) := (blk_cell BK218.out 0).trans rfl
        have hcz21_1 : wr.cell? ⟨gb218, 1, none⟩ = some (.slice A0_1 l0_1.length c0_1) := (blk_cell BK218.out 1).trans rfl
        have hcz21_2 : wr.cell? ⟨gb218, 2, none⟩ = some (.slice A0_2 l0_2.length c0_2) := (blk_cell BK218.out 2).trans rfl
        have hfz21_0 := blk_frozen BK218.out 0
        have hfz21_1 := blk_frozen BK218.out 1
        have hfz21_2 := blk_frozen BK218.out 2
        go_upto_region 11 with (fail)
        repeat (go_quiet (fail); go_upto_region 11 with (fail))
        go_cut [45] (fun v45 wc => ∃ (kq : Nat) (x45_19 : Bool), v45 = .bool x45_19 ∧ Aside0 (spileref19_Check.j2 kq x45_19 l0_0 l0_1 l0_2 = some r) ∧ Aside0 (kq ≤ k2) ∧ Aside0 (wc.heap[gb218]? = some (.cells #[(.slice A0_0 l0_0.length c0_0), (.slice A0_1 l0_1.length c0_1), (.slice A0_2 l0_2.length c0_2)] 25 (0, 0))) ∧ Aside0 (Below w.heap.size w wc))
        case first =>
         have H := HC20.out
         clear HC20
         replace H := Option.bind_eq_some_iff.mp H
         obtain ⟨t224, A220, H⟩ := H
         replace H : (if t224 = true then ((spileref19_rises.f k2 l0_1).bind fun t225 => (spileref19_Check.j2 k2 (!t225) l0_0 l0_1 l0_2)) else (spileref19_Check.j2 k2 true l0_0 l0_1 l0_2)) = some r := H
         have A22 := Aside0.mk A220
         clear A220
         by_cases c23 : t224 = true
         ·
          subst c23
          have H1 : ((spileref19_rises.f k2 l0_1).bind fun t225 => (spileref19_Check.j2 k2 (!t225) l0_0 l0_1 l0_2)) = some r := by rw [if_pos rfl] at H; exact H
          clear H
          have H := H1
          clear H1
          replace H := Option.bind_eq_some_iff.mp H
          obtain ⟨t225, A240, H⟩ := H
          replace H : (spileref19_Check.j2 k2 (!t225) l0_0 l0_1 l0_2) = some r := H
          have A24 := Aside0.mk A240
          clear A240
          have H' := Aside0.mk H
          clear H
          have hcz25_0 : wr.cell? ⟨gb218, 0, none⟩ = some (.slice A0_0 l0_0.length c0_0) := (blk_cell BK218.out 0).trans rfl
          have hcz25_1 : wr.cell? ⟨gb218, 1, none⟩ = some (.slice A0_1 l0_1.length c0_1) := (blk_cell BK218.out 1).trans rfl
          have hcz25_2 : wr.cell? ⟨gb218, 2, none⟩ = some (.slice A0_2 l0_2.length c0_2) := (blk_cell BK218.out 2).trans rfl
          have hfz25_0 := blk_frozen BK218.out 0
          have hfz25_1 := blk_frozen BK218.out 1
          have hfz25_2 := blk_frozen BK218.out 2
          go_wp2_with (first | (go_at_call 42; (with_reducible refine (spileref19_rises.calls k2 _ _ l0_0 true _ ?side1 ?side2 A22.out).mono ?_); (case side1 => repeat (first | exact (Kd.C_below HR0_0.out HB.out) | (with_reducible refine Kd.C_alloc ?_ _) | (with_reducible refine Kd.C_drewN ?_ _) | (with_reducible refine Kd.C_drew ?_))); (case side2 => exact HC0_0.out); rintro e w' ⟨rfl, ⟨nd, rfl⟩⟩; (try first | exact ⟨rfl, _, World.drewN_drewN _ _ _⟩ | exact ⟨rfl, _, Eq.trans (World.drewN_drewN _ _ _) (congrArg (World.drewN _) (Nat.add_assoc _ _ _))⟩)) | (go_at_call 42; (with_reducible refine (spileref19_rises.calls k2 _ _ l0_1 t225 _ ?side1 ?side2 A24.out).mono ?_); (case side1 => repeat (first | exact (Kd.C_below HR0_1.out (by repeat (first | (with_reducible first | exact HB.out | apply below_alloc | apply pw_below_drewN | apply below_drew1 | refine below_set ?_ GE218.out) | exact HB.out))) | (with_reducible refine Kd.C_alloc ?_ _) | (with_reducible refine Kd.C_drewN ?_ _) | (with_reducible refine Kd.C_drew ?_))); (case side2 => exact HC0_1.out); rintro e w' ⟨rfl, ⟨nd, rfl⟩⟩; (try first | exact ⟨rfl, _, World.drewN_drewN _ _ _⟩ | exact ⟨rfl, _, Eq.trans (World.drewN_drewN _ _ _) (congrArg (World.drewN _) (Nat.add_assoc _ _ _))⟩)))
          repeat (go_quiet (first | (go_at_call 42; (with_reducible refine (spileref19_rises.calls k2 _ _ l0_0 true _ ?side1 ?side2 A22.out).mono ?_); (case side1 => repeat (first | exact (Kd.C_below HR0_0.out HB.out) | (with_reducible refine Kd.C_alloc ?_ _) | (with_reducible refine Kd.C_drewN ?_ _) | (with_reducible refine Kd.C_drew ?_))); (case side2 => exact HC0_0.out); rintro e w' ⟨rfl, ⟨nd, rfl⟩⟩; (try first | exact ⟨rfl, _, World.drewN_drewN _ _ _⟩ | exact ⟨rfl, _, Eq.trans (World.drewN_drewN _ _ _) (congrArg (World.drewN _) (Nat.add_assoc _ _ _))⟩)) | (go_at_call 42; (with_reducible refine (spileref19_rises.calls k2 _ _ l0_1 t225 _ ?side1 ?side2 A24.out).mono ?_); (case side1 => repeat (first | exact (Kd.C_below HR0_1.out (by repeat (first | (with_reducible first | exact HB.out | apply below_alloc | apply pw_below_drewN | apply below_drew1 | refine below_set ?_ GE218.out) | exact HB.out))) | (with_reducible refine Kd.C_alloc ?_ _) | (with_reducible refine Kd.C_drewN ?_ _) | (with_reducible refine Kd.C_drew ?_))); (case side2 => exact HC0_1.out); rintro e w' ⟨rfl, ⟨nd, rfl⟩⟩; (try first | exact ⟨rfl, _, World.drewN_drewN _ _ _⟩ | exact ⟨rfl, _, Eq.trans (World.drewN_drewN _ _ _) (congrArg (World.drewN _) (Nat.add_assoc _ _ _))⟩))); try go_wp2_with (first | (go_at_call 42; (with_reducible refine (spileref19_rises.calls k2 _ _ l0_0 true _ ?side1 ?side2 A22.out).mono ?_); (case side1 => repeat (first | exact (Kd.C_below HR0_0.out HB.out) | (with_reducible refine Kd.C_alloc ?_ _) | (with_reducible refine Kd.C_drewN ?_ _) | (with_reducible refine Kd.C_drew ?_))); (case side2 => exact HC0_0.out); rintro e w' ⟨rfl, ⟨nd, rfl⟩⟩; (try first | exact ⟨rfl, _, World.drewN_drewN _ _ _⟩ | exact ⟨rfl, _, Eq.trans (World.drewN_drewN _ _ _) (congrArg (World.drewN _) (Nat.add_assoc _ _ _))⟩)) | (go_at_call 42; (with_reducible refine (spileref19_rises.calls k2 _ _ l0_1 t225 _ ?side1 ?side2 A24.out).mono ?_); (case side1 => repeat (first | exact (Kd.C_below HR0_1.out (by repeat (first | (with_reducible first | exact HB.out | apply below_alloc | apply pw_below_drewN | apply below_drew1 | refine below_set ?_ GE218.out) | exact HB.out))) | (with_reducible refine Kd.C_alloc ?_ _) | (with_reducible refine Kd.C_drewN ?_ _) | (with_reducible refine Kd.C_drew ?_))); (case side2 => exact HC0_1.out); rintro e w' ⟨rfl, ⟨nd, rfl⟩⟩; (try first | exact ⟨rfl, _, World.drewN_drewN _ _ _⟩ | exact ⟨rfl, _, Eq.trans (World.drewN_drewN _ _ _) (congrArg (World.drewN _) (Nat.add_assoc _ _ _))⟩))))
          go_meet
          case rel => exact ⟨_, (!t225), (by first | rfl | (simp; done) | (simp [*]; done)), H', ⟨by have := HJ3.out; have := HK2.out; first | omega | exact Nat.le_refl _⟩, ⟨by (with_reducible repeat (first | refine blk_drewN ?_ _ | refine blk_drew ?_ | refine blk_alloc ?_ _)); exact BK218.out⟩, ⟨by repeat (first | (with_reducible first | exact HB.out | apply below_alloc | apply pw_below_drewN | apply below_drew1 | refine below_set ?_ GE218.out) | exact HB.out)⟩⟩
         ·
          replace c23 := Bool.eq_false_iff.mpr c23
          subst c23
          have H1 : (spileref19_Check.j2 k2 true l0_0 l0_1 l0_2) = some r := by rw [if_neg (show ¬ (false = true) by decide)] at H; exact H
          clear H
          have H := H1
          clear H1
          have H' := Aside0.mk H
          clear H
          have hcz26_0 : wr.cell? ⟨gb218, 0, none⟩ = some (.slice A0_0 l0_0.length c0_0) := (blk_cell BK218.out 0).trans rfl
          have hcz26_1 : wr.cell? ⟨gb218, 1, none⟩ = some (.slice A0_1 l0_1.length c0_1) := (blk_cell BK218.out 1).trans rfl
          have hcz26_2 : wr.cell? ⟨gb218, 2, none⟩ = some (.slice A0_2 l0_2.length c0_2) := (blk_cell BK218.out 2).trans rfl
          have hfz26_0 := blk_frozen BK218.out 0
          have hfz26_1 := blk_frozen BK218.out 1
          have hfz26_2 := blk_frozen BK218.out 2
          go_wp2_with (first | (go_at_call 42; (with_reducible refine (spileref19_rises.calls k2 _ _ l0_0 false _ ?side1 ?side2 A22.out).mono ?_); (case side1 => repeat (first | exact (Kd.C_below HR0_0.out HB.out) | (with_reducible refine Kd.C_alloc ?_ _) | (with_reducible refine Kd.C_drewN ?_ _) | (with_reducible refine Kd.C_drew ?_))); (case side2 => exact HC0_0.out); rintro e w' ⟨rfl, ⟨nd, rfl⟩⟩; (try first | exact ⟨rfl, _, World.drewN_drewN _ _ _⟩ | exact ⟨rfl, _, Eq.trans (World.drewN_drewN _ _ _) (congrArg (World.drewN _) (Nat.add_assoc _ _ _))⟩)))
          repeat (go_quiet (first | (go_at_call 42; (with_reducible refine (spileref19_rises.calls k2 _ _ l0_0 false _ ?side1 ?side2 A22.out).mono ?_); (case side1 => repeat (first | exact (Kd.C_below HR0_0.out HB.out) | (with_reducible refine Kd.C_alloc ?_ _) | (with_reducible refine Kd.C_drewN ?_ _) | (with_reducible refine Kd.C_drew ?_))); (case side2 => exact HC0_0.out); rintro e w' ⟨rfl, ⟨nd, rfl⟩⟩; (try first | exact ⟨rfl, _, World.drewN_drewN _ _ _⟩ | exact ⟨rfl, _, Eq.trans (World.drewN_drewN _ _ _) (congrArg (World.drewN _) (Nat.add_assoc _ _ _))⟩))); try go_wp2_with (first | (go_at_call 42; (with_reducible refine (spileref19_rises.calls k2 _ _ l0_0 false _ ?side1 ?side2 A22.out).mono ?_); (case side1 => repeat (first | exact (Kd.C_below HR0_0.out HB.out) | (with_reducible refine Kd.C_alloc ?_ _) | (with_reducible refine Kd.C_drewN ?_ _) | (with_reducible refine Kd.C_drew ?_))); (case side2 => exact HC0_0.out); rintro e w' ⟨rfl, ⟨nd, rfl⟩⟩; (try first | exact ⟨rfl, _, World.drewN_drewN _ _ _⟩ | exact ⟨rfl, _, Eq.trans (World.drewN_drewN _ _ _) (congrArg (World.drewN _) (Nat.add_assoc _ _ _))⟩))))
          go_meet
          case rel => exact ⟨_, (true), (by first | rfl | (simp; done) | (simp [*]; done)), H', ⟨by have := HJ3.out; have := HK2.out; first | omega | exact Nat.le_refl _⟩, ⟨by (with_reducible repeat (first | refine blk_drewN ?_ _ | refine blk_drew ?_ | refine blk_alloc ?_ _)); exact BK218.out⟩, ⟨by repeat (first | (with_reducible first | exact HB.out | apply below_alloc | apply pw_below_drewN | apply below_drew1 | refine below_set ?_ GE218.out) | exact HB.out)⟩⟩
        case rest =>
         clear HC20
         try clear c1
         try clear c2
         try clear p2
         try clear q2
         try clear hx2
         try clear c3
         try clear c3b0
         try clear c3b1
         try clear p6
         try clear c9
         try clear c13
         try clear c14
         try clear c14b0
         try clear c15
         try clear c15b0
         try clear c17
         try clear c19
         try clear c22
         try clear p22
         try clear q22
         try clear hx22
         try clear c23
         try clear hcz11_0
         try clear hcz11_1
         try clear hcz11_2
         try clear hcz12_0
         try clear hcz12_1
         try clear hcz12_2
         try clear hcz18_0
         try clear hcz18_1
         try clear hcz18_2
         try clear hcz19_0
         try clear hcz19_1
         try clear hcz19_2
         try clear hcz21_0
         try clear hcz21_1
         try clear hcz21_2
         try clear hcz25_0
         try clear hcz25_1
         try clear hcz25_2
         try clear hcz26_0
         try clear hcz26_1
         try clear hcz26_2
         try clear hcz6_0
         try clear hcz6_1
         try clear hcz6_2
         try clear hfz11_0
         try clear hfz11_1
         try clear hfz11_2
         try clear hfz12_0
         try clear hfz12_1
         try clear hfz12_2
         try clear hfz18_0
         try clear hfz18_1
         try clear hfz18_2
         try clear hfz19_0
         try clear hfz19_1
         try clear hfz19_2
         try clear hfz21_0
         try clear hfz21_1
         try clear hfz21_2
         try clear hfz25_0
         try clear hfz25_1
         try clear hfz25_2
         try clear hfz26_0
         try clear hfz26_1
         try clear hfz26_2
         try clear hfz6_0
         try clear hfz6_1
         try clear hfz6_2
         try clear hx222_0
         try clear p2
         try clear p222
         try clear q222
         obtain ⟨kq, x45_19, rfl, HA, HJ19, BK218, HB⟩ := hcut
         cases kq with
         | zero => exact absurd HA.out (by simp [spileref19_Check.j2])
         | succ kj19 =>
          have H := HA.out
          clear HA
          simp only [spileref19_Check.j2] at H
          by_cases c27 : x45_19 = true
          ·
           subst c27
           have H1 : (some 5) = some r := by rw [if_pos rfl] at H; exact H
           clear H
           have H := H1
           clear H1
           obtain rfl := Option.some.inj H
           go_wp2
           repeat (go_quiet (fail); try go_wp2)
           go_ret
           exact ⟨by first | rfl | (simp [errW_none, errW_some] <;> rfl) | (simp [*, errW_none, errW_some] <;> rfl), by repeat (first | (with_reducible first | exact HB.out | apply below_alloc | apply pw_below_drewN | apply below_drew1 | refine below_set ?_ GE218.out) | exact HB.out)⟩
          ·
           replace c27 := Bool.eq_false_iff.mpr c27
           subst c27
           have H1 : (spileref19_Check.l1 kj19 0 l0_0 l0_1 l0_2) = some r := by rw [if_neg (show ¬ (false = true) by decide)] at H; exact H
           clear H
           have H := H1
           clear H1
           have H' := Aside0.mk H
           clear H
           go_wp2
           repeat (go_quiet (fail); try go_wp2)
           go_loopg [5] kj19 (fun kq v5 w' => ∃ (x5_4 : Int), v5 = .int .i64 x5_4 ∧ Aside0 (spileref19_Check.l1 kq x5_4 l0_0 l0_1 l0_2 = some r) ∧ Aside0 (kq ≤ kj19) ∧ Aside0 (w'.heap[gb218]? = some (.cells #[(.slice A0_0 l0_0.length c0_0), (.slice A0_1 l0_1.length c0_1), (.slice A0_2 l0_2.length c0_2)] 25 (0, 0))) ∧ Aside0 (Below w.heap.size w w'))
           case atStart => exact ⟨(0), (by first | rfl | (simp; done) | (simp [*]; done)), H', ⟨Nat.le_refl _⟩, ⟨by (with_reducible repeat (first | refine blk_drewN ?_ _ | refine blk_drew ?_ | refine blk_alloc ?_ _)); exact BK218.out⟩, ⟨by repeat (first | (with_reducible first | exact HB.out | apply below_alloc | apply pw_below_drewN | apply below_drew1 | refine below_set ?_ GE218.out) | exact HB.out)⟩⟩
           case round =>
            clear H'
            try clear c1
            try clear c2
            try clear p2
            try clear q2
            try clear hx2
            try clear c3
            try clear c3b0
            try clear c3b1
            try clear p6
            try clear c9
            try clear c13
            try clear c14
            try clear c14b0
            try clear c15
            try clear c15b0
            try clear c17
            try clear c19
            try clear c22
            try clear p22
            try clear q22
            try clear hx22
            try clear c23
            try clear c27
            try clear hcz11_0
            try clear hcz11_1
            try clear hcz11_2
            try clear hcz12_0
            try clear hcz12_1
            try clear hcz12_2
            try clear hcz18_0
            try clear hcz18_1
            try clear hcz18_2
            try clear hcz19_0
            try clear hcz19_1
            try clear hcz19_2
            try clear hcz21_0
            try clear hcz21_1
            try clear hcz21_2
            try clear hcz25_0
            try clear hcz25_1
            try clear hcz25_2
            try clear hcz26_0
            try clear hcz26_1
            try clear hcz26_2
            try clear hcz6_0
            try clear hcz6_1
            try clear hcz6_2
            try clear hfz11_0
            try clear hfz11_1
            try clear hfz11_2
            try clear hfz12_0
            try clear hfz12_1
            try clear hfz12_2
            try clear hfz18_0
            try clear hfz18_1
            try clear hfz18_2
            try clear hfz19_0
            try clear hfz19_1
            try clear hfz19_2
            try clear hfz21_0
            try clear hfz21_1
            try clear hfz21_2
            try clear hfz25_0
            try clear hfz25_1
            try clear hfz25_2
            try clear hfz26_0
            try clear hfz26_1
            try clear hfz26_2
            try clear hfz6_0
            try clear hfz6_1
            try clear hfz6_2
            try clear hx222_0
            try clear p2
            try clear p22
            try clear p222
            try clear p6
            try clear q2
            try clear q22
            try clear q222
            obtain ⟨x5_4, rfl, HA, HK4, BK218, HB⟩ := hrel
            cases gk with
            | zero => exact absurd HA.out (by simp [spileref19_Check.l1])
            | succ k4 =>
             have H := HA.out
             clear HA
             simp only [spileref19_Check.l1] at H
             by_cases c28 : x5_4 < (l0_2.length : Int)
             ·
              rw [if_pos c28] at H
              have c28b0 : decide (x5_4 < (l0_2.length : Int)) = true := decide_eq_true c28
              clear c28
              have H' := Aside0.mk H
              clear H
              have hcz29_0 : wr.cell? ⟨gb218, 0, none⟩ = some (.slice A0_0 l0_0.length c0_0) := (blk_cell BK218.out 0).trans rfl
              have hcz29_1 : wr.cell? ⟨gb218, 1, none⟩ = some (.slice A0_1 l0_1.length c0_1) := (blk_cell BK218.out 1).trans rfl
              have hcz29_2 : wr.cell? ⟨gb218, 2, none⟩ = some (.slice A0_2 l0_2.length c0_2) := (blk_cell BK218.out 2).trans rfl
              have hfz29_0 := blk_frozen BK218.out 0
              have hfz29_1 := blk_frozen BK218.out 1
              have hfz29_2 := blk_frozen BK218.out 2
              go_wp2
              repeat (go_quiet (fail); try go_wp2)
              go_loopg [6] k4 (fun kq v6 w' => ∃ (x6_5 : Int), v6 = .int .i64 x6_5 ∧ Aside0 (spileref19_Check.l2 kq x5_4 x6_5 l0_0 l0_1 l0_2 = some r) ∧ Aside0 (kq ≤ k4) ∧ Aside0 (w'.heap[gb218]? = some (.cells #[(.slice A0_0 l0_0.length c0_0), (.slice A0_1 l0_1.length c0_1), (.slice A0_2 l0_2.length c0_2)] 25 (0, 0))) ∧ Aside0 (Below w.heap.size w w'))
              case atStart => exact ⟨(0), (by first | rfl | (simp; done) | (simp [*]; done)), H', ⟨Nat.le_refl _⟩, ⟨by (with_reducible repeat (first | refine blk_drewN ?_ _ | refine blk_drew ?_ | refine blk_alloc ?_ _)); exact BK218.out⟩, ⟨by repeat (first | (with_reducible first | exact HB.out | apply below_alloc | apply pw_below_drewN | apply below_drew1 | refine below_set ?_ GE218.out) | exact HB.out)⟩⟩
              case round =>
               clear H'
               try clear c1
               try clear c2
               try clear p2
               try clear q2
               try clear hx2
               try clear c3
               try clear c3b0
               try clear c3b1
               try clear p6
               try clear c9
               try clear c13
               try clear c14
               try clear c14b0
               try clear c15
               try clear c15b0
               try clear c17
               try clear c19
               try clear c22
               try clear p22
               try clear q22
               try clear hx22
               try clear c23
               try clear c27
               try clear c28
               try clear c28b0
               try clear hcz11_0
               try clear hcz11_1
               try clear hcz11_2
               try clear hcz12_0
               try clear hcz12_1
               try clear hcz12_2
               try clear hcz18_0
               try clear hcz18_1
               try clear hcz18_2
               try clear hcz19_0
               try clear hcz19_1
               try clear hcz19_2
               try clear hcz21_0
               try clear hcz21_1
               try clear hcz21_2
               try clear hcz25_0
               try clear hcz25_1
               try clear hcz25_2
               try clear hcz26_0
               try clear hcz26_1
               try clear hcz26_2
               try clear hcz29_0
               try clear hcz29_1
               try clear hcz29_2
               try clear hcz6_0
               try clear hcz6_1
               try clear hcz6_2
               try clear hfz11_0
               try clear hfz11_1
               try clear hfz11_2
               try clear hfz12_0
               try clear hfz12_1
               try clear hfz12_2
               try clear hfz18_0
               try clear hfz18_1
               try clear hfz18_2
               try clear hfz19_0
               try clear hfz19_1
               try clear hfz19_2
               try clear hfz21_0
               try clear hfz21_1
               try clear hfz21_2
               try clear hfz25_0
               try clear hfz25_1
               try clear hfz25_2
               try clear hfz26_0
               try clear hfz26_1
               try clear hfz26_2
               try clear hfz29_0
               try clear hfz29_1
               try clear hfz29_2
               try clear hfz6_0
               try clear hfz6_1
               try clear hfz6_2
               try clear hx222_0
               try clear p2
               try clear p22
               try clear p222
               try clear p6
               try clear q2
               try clear q22
               try clear q222
               obtain ⟨x6_5, rfl, HA, HK5, BK218, HB⟩ := hrel
               cases gk with
               | zero => exact absurd HA.out (by simp [spileref19_Check.l2])
               | succ k5 =>
                have H := HA.out
                clear HA
                simp only [spileref19_Check.l2] at H
                by_cases c30 : x6_5 < (l0_1.length : Int)
                ·
                 rw [if_pos c30] at H
                 have c30b0 : decide (x6_5 < (l0_1.length : Int)) = true := decide_eq_true c30
                 clear c30
                 by_cases c31 : x6_5 > 0
                 ·
                  rw [if_pos c31] at H
                  have c31b0 : decide (0 < x6_5) = true := decide_eq_true c31
                  clear c31
                  by_cases c32 : 0 ≤ x5_4
                  ·
                   rw [if_pos c32] at H
                   have c32b0 : decide (0 ≤ x5_4) = true := decide_eq_true c32
                   clear c32
                   by_cases c33 : x5_4 < (l0_2.length : Int)
                   ·
                    rw [if_pos c33] at H
                    have c33b0 : decide (x5_4 < (l0_2.length : Int)) = true := decide_eq_true c33
                    clear c33
                    by_cases c34 : 0 ≤ x6_5
                    ·
                     rw [if_pos c34] at H
                     have c34b0 : decide (0 ≤ x6_5) = true := decide_eq_true c34
                     clear c34
                     by_cases c35 : x6_5 < ((rd_L1 l0_2 x5_4).length : Int)
                     ·
                      rw [if_pos c35] at H
                      have c35b0 : decide (x6_5 < ((rd_L1 l0_2 x5_4).length : Int)) = true := decide_eq_true c35
                      clear c35
                      obtain ⟨ji36, hji36⟩ : ∃ j_ : Int, (wrap64 (x6_5 - 1)) = j_ := ⟨_, rfl⟩
                      replace H : (if 0 ≤ (ji36) then (if (ji36) < ((rd_L1 l0_2 x5_4).length : Int) then (if (rd (rd_L1 l0_2 x5_4) x6_5) < (rd (rd_L1 l0_2 x5_4) (ji36)) then (some 18) else (if x5_4 > 0 then (if 0 ≤ (wrap64 (x5_4 - 1)) then (if (wrap64 (x5_4 - 1)) < (l0_2.length : Int) then (if x6_5 < ((rd_L1 l0_2 (wrap64 (x5_4 - 1))).length : Int) then (if (rd (rd_L1 l0_2 x5_4) x6_5) > (rd (rd_L1 l0_2 (wrap64 (x5_4 - 1))) x6_5) then (some 18) else (spileref19_Check.l2 k5 x5_4 (wrap64 (x6_5 + 1)) l0_0 l0_1 l0_2)) else (none)) else (none)) else (none)) else (spileref19_Check.l2 k5 x5_4 (wrap64 (x6_5 + 1)) l0_0 l0_1 l0_2))) else (none)) else (none)) = some r := by first | (rw [hji36] at H; exact H) | (simp only [hji36] at H ⊢; exact H)
                      have hji36w : (IntKind.i64.wrap (x6_5 - 1)) = ji36 := (i64_w _).trans hji36
                      by_cases c37 : 0 ≤ (ji36)
                      ·
                       rw [if_pos c37] at H
                       have c37b0 : decide (0 ≤ (ji36)) = true := decide_eq_true c37
                       clear c37
                       by_cases c38 : (ji36) < ((rd_L1 l0_2 x5_4).length : Int)
                       ·
                        rw [if_pos c38] at H
                        have c38b0 : decide ((ji36) < ((rd_L1 l0_2 x5_4).length : Int)) = true := decide_eq_true c38
                        clear c38
                        by_cases c39 : (rd (rd_L1 l0_2 x5_4) x6_5) < (rd (rd_L1 l0_2 x5_4) (ji36))
                        ·
                         rw [if_pos c39] at H
                         have c39b0 : decide ((rd (rd_L1 l0_2 x5_4) x6_5) < (rd (rd_L1 l0_2 x5_4) (ji36))) = true := decide_eq_true c39
                         clear c39
                         obtain rfl := Option.some.inj H
                         have hcz40_0 : wr.cell? ⟨gb218, 0, none⟩ = some (.slice A0_0 l0_0.length c0_0) := (blk_cell BK218.out 0).trans rfl
                         have hcz40_1 : wr.cell? ⟨gb218, 1, none⟩ = some (.slice A0_1 l0_1.length c0_1) := (blk_cell BK218.out 1).trans rfl
                         have hcz40_2 : wr.cell? ⟨gb218, 2, none⟩ = some (.slice A0_2 l0_2.length c0_2) := (blk_cell BK218.out 2).trans rfl
                         have hfz40_0 := blk_frozen BK218.out 0
                         have hfz40_1 := blk_frozen BK218.out 1
                         have hfz40_2 := blk_frozen BK218.out 2
                         have p226 : 0 ≤ (x5_4 : Int) := of_decide_eq_true (by first | (with_reducible assumption) | assumption)
                         have q226 : x5_4 < (l0_2.length : Int) := of_decide_eq_true (by first | (with_reducible assumption) | assumption)
                         obtain ⟨ad226, A226_0, c226_0, e226, hx226_0, hl226_0, hi226_0⟩ := at_L1 HR0_2.out x5_4 p226 q226
                         cases e226
                         replace hx226_0 := (HB.out.cell (World.block_lt_of_cell? w _ hx226_0)).trans hx226_0
                         have HR226_0 := Aside0.mk hi226_0
                         have HC226_0 := Aside0.mk hl226_0
                         clear hi226_0 hl226_0
                         replace p226 := eq_true p226
                         replace q226 := eq_true q226
                         have p227 : 0 ≤ (x6_5 : Int) := of_decide_eq_true (by first | (with_reducible assumption) | assumption)
                         have q227 : x6_5 < ((rd_L1 l0_2 x5_4).length : Int) := of_decide_eq_true (by first | (with_reducible assumption) | assumption)
                         obtain ⟨ad227, e227, hx227_0⟩ := Kd.at_int HR226_0.out x6_5 p227 q227
                         cases e227
                         replace hx227_0 := (HB.out.cell (World.block_lt_of_cell? w _ hx227_0)).trans hx227_0
                         replace p227 := eq_true p227
                         replace q227 := eq_true q227
                         have p228 : 0 ≤ (x5_4 : Int) := of_decide_eq_true (by first | (with_reducible assumption) | assumption)
                         have q228 : x5_4 < (l0_2.length : Int) := of_decide_eq_true (by first | (with_reducible assumption) | assumption)
                         obtain ⟨ad228, A228_0, c228_0, e228, hx228_0, hl228_0, hi228_0⟩ := at_L1 HR0_2.out x5_4 p228 q228
                         obtain rfl : ad226 = ad228 := (by injection e228)
                         replace hx228_0 := (HB.out.cell (World.block_lt_of_cell? w _ hx228_0)).trans hx228_0
                         have HR228_0 := Aside0.mk hi228_0
                         have HC228_0 := Aside0.mk hl228_0
                         clear hi228_0 hl228_0
                         replace p228 := eq_true p228
                         replace q228 := eq_true q228
                         have ea_ := Option.some.inj (hx226_0.symm.trans hx228_0)
                         injection ea_ with ea_ en_ ec_
                         subst ea_
                         subst ec_
                         clear en_
                         have p229 : 0 ≤ ((ji36) : Int) := of_decide_eq_true (by first | (with_reducible assumption) | assumption)
                         have q229 : (ji36) < ((rd_L1 l0_2 x5_4).length : Int) := of_decide_eq_true (by first | (with_reducible assumption) | assumption)
                         obtain ⟨ad229, e229, hx229_0⟩ := Kd.at_int HR228_0.out (ji36) p229 q229
                         obtain rfl : ad227 = ad229 := (by injection e229)
                         replace hx229_0 := (HB.out.cell (World.block_lt_of_cell? w _ hx229_0)).trans hx229_0
                         replace p229 := eq_true p229
                         replace q229 := eq_true q229
                         go_wp2
                         repeat (go_quiet (fail); try go_wp2)
                         go_ret
                         exact ⟨by first | rfl | (simp [errW_none, errW_some] <;> rfl) | (simp only [← hji36]; first | rfl | (simp [errW_none, errW_some] <;> rfl)) | (simp [*, errW_none, errW_some] <;> rfl), by repeat (first | (with_reducible first | exact HB.out | apply below_alloc | apply pw_below_drewN | apply below_drew1 | refine below_set ?_ GE218.out) | exact HB.out)⟩
                        ·
                         rw [if_neg c39] at H
                         have c39b0 : decide ((rd (rd_L1 l0_2 x5_4) x6_5) < (rd (rd_L1 l0_2 x5_4) (ji36))) = false := decide_eq_false c39
                         clear c39
                         by_cases c41 : x5_4 > 0
                         ·
                          rw [if_pos c41] at H
                          have c41b0 : decide (0 < x5_4) = true := decide_eq_true c41
                          clear c41
                          obtain ⟨ji42, hji42⟩ : ∃ j_ : Int, (wrap64 (x5_4 - 1)) = j_ := ⟨_, rfl⟩
                          replace H : (if 0 ≤ (ji42) then (if (ji42) < (l0_2.length : Int) then (if x6_5 < ((rd_L1 l0_2 (ji42)).length : Int) then (if (rd (rd_L1 l0_2 x5_4) x6_5) > (rd (rd_L1 l0_2 (ji42)) x6_5) then (some 18) else (spileref19_Check.l2 k5 x5_4 (wrap64 (x6_5 + 1)) l0_0 l0_1 l0_2)) else (none)) else (none)) else (none)) = some r := by first | (rw [hji42] at H; exact H) | (simp only [hji42] at H ⊢; exact H)
                          have hji42w : (IntKind.i64.wrap (x5_4 - 1)) = ji42 := (i64_w _).trans hji42
                          by_cases c43 : 0 ≤ (ji42)
                          ·
                           rw [if_pos c43] at H
                           have c43b0 : decide (0 ≤ (ji42)) = true := decide_eq_true c43
                           clear c43
                           by_cases c44 : (ji42) < (l0_2.length : Int)
                           ·
                            rw [if_pos c44] at H
                            have c44b0 : decide ((ji42) < (l0_2.length : Int)) = true := decide_eq_true c44
                            clear c44
                            by_cases c45 : x6_5 < ((rd_L1 l0_2 (ji42)).length : Int)
                            ·
                             rw [if_pos c45] at H
                             have c45b0 : decide (x6_5 < ((rd_L1 l0_2 (ji42)).length : Int)) = true := decide_eq_true c45
                             clear c45
                             by_cases c46 : (rd (rd_L1 l0_2 x5_4) x6_5) > (rd (rd_L1 l0_2 (ji42)) x6_5)
                             ·
                              rw [if_pos c46] at H
                              have c46b0 : decide ((rd (rd_L1 l0_2 (ji42)) x6_5) < (rd (rd_L1 l0_2 x5_4) x6_5)) = true := decide_eq_true c46
                              clear c46
                              obtain rfl := Option.some.inj H
                              have hcz47_0 : wr.cell? ⟨gb218, 0, none⟩ = some (.slice A0_0 l0_0.length c0_0) := (blk_cell BK218.out 0).trans rfl
                              have hcz47_1 : wr.cell? ⟨gb218, 1, none⟩ = some (.slice A0_1 l0_1.length c0_1) := (blk_cell BK218.out 1).trans rfl
                              have hcz47_2 : wr.cell? ⟨gb218, 2, none⟩ = some (.slice A0_2 l0_2.length c0_2) := (blk_cell BK218.out 2).trans rfl
                              have hfz47_0 := blk_frozen BK218.out 0
                              have hfz47_1 := blk_frozen BK218.out 1
                              have hfz47_2 := blk_frozen BK218.out 2
                              have p226 : 0 ≤ (x5_4 : Int) := of_decide_eq_true (by first | (with_reducible assumption) | assumption)
                              have q226 : x5_4 < (l0_2.length : Int) := of_decide_eq_true (by first | (with_reducible assumption) | assumption)
                              obtain ⟨ad226, A226_0, c226_0, e226, hx226_0, hl226_0, hi226_0⟩ := at_L1 HR0_2.out x5_4 p226 q226
                              cases e226
                              replace hx226_0 := (HB.out.cell (World.block_lt_of_cell? w _ hx226_0)).trans hx226_0
                              have HR226_0 := Aside0.mk hi226_0
                              have HC226_0 := Aside0.mk hl226_0
                              clear hi226_0 hl226_0
                              replace p226 := eq_true p226
                              replace q226 := eq_true q226
                              have p227 : 0 ≤ (x6_5 : Int) := of_decide_eq_true (by first | (with_reducible assumption) | assumption)
                              have q227 : x6_5 < ((rd_L1 l0_2 x5_4).length : Int) := of_decide_eq_true (by first | (with_reducible assumption) | assumption)
                              obtain ⟨ad227, e227, hx227_0⟩ := Kd.at_int HR226_0.out x6_5 p227 q227
                              cases e227
                              replace hx227_0 := (HB.out.cell (World.block_lt_of_cell? w _ hx227_0)).trans hx227_0
                              replace p227 := eq_true p227
                              replace q227 := eq_true q227
                              have p228 : 0 ≤ (x5_4 : Int) := of_decide_eq_true (by first | (with_reducible assumption) | assumption)
                              have q228 : x5_4 < (l0_2.length : Int) := of_decide_eq_true (by first | (with_reducible assumption) | assumption)
                              obtain ⟨ad228, A228_0, c228_0, e228, hx228_0, hl228_0, hi228_0⟩ := at_L1 HR0_2.out x5_4 p228 q228
                              obtain rfl : ad226 = ad228 := (by injection e228)
                              replace hx228_0 := (HB.out.cell (World.block_lt_of_cell? w _ hx228_0)).trans hx228_0
                              have HR228_0 := Aside0.mk hi228_0
                              have HC228_0 := Aside0.mk hl228_0
                              clear hi228_0 hl228_0
                              replace p228 := eq_true p228
                              replace q228 := eq_true q228
                              have ea_ := Option.some.inj (hx226_0.symm.trans hx228_0)
                              injection ea_ with ea_ en_ ec_
                              subst ea_
                              subst ec_
                              clear en_
                              have p229 : 0 ≤ ((ji36) : Int) := of_decide_eq_true (by first | (with_reducible assumption) | assumption)
                              have q229 : (ji36) < ((rd_L1 l0_2 x5_4).length : Int) := of_decide_eq_true (by first | (with_reducible assumption) | assumption)
                              obtain ⟨ad229, e229, hx229_0⟩ := Kd.at_int HR228_0.out (ji36) p229 q229
                              obtain rfl : ad227 = ad229 := (by injection e229)
                              replace hx229_0 := (HB.out.cell (World.block_lt_of_cell? w _ hx229_0)).trans hx229_0
                              replace p229 := eq_true p229
                              replace q229 := eq_true q229
                              have p230 : 0 ≤ (x5_4 : Int) := of_decide_eq_true (by first | (with_reducible assumption) | assumption)
                              have q230 : x5_4 < (l0_2.length : Int) := of_decide_eq_true (by first | (with_reducible assumption) | assumption)
                              obtain ⟨ad230, A230_0, c230_0, e230, hx230_0, hl230_0, hi230_0⟩ := at_L1 HR0_2.out x5_4 p230 q230
                              obtain rfl : ad226 = ad230 := (by injection e230)
                              replace hx230_0 := (HB.out.cell (World.block_lt_of_cell? w _ hx230_0)).trans hx230_0
                              have HR230_0 := Aside0.mk hi230_0
                              have HC230_0 := Aside0.mk hl230_0
                              clear hi230_0 hl230_0
                              replace p230 := eq_true p230
                              replace q230 := eq_true q230
                              have ea_ := Option.some.inj (hx226_0.symm.trans hx230_0)
                              injection ea_ with ea_ en_ ec_
                              subst ea_
                              subst ec_
                              clear en_
                              have p231 : 0 ≤ (x6_5 : Int) := of_decide_eq_true (by first | (with_reducible assumption) | assumption)
                              have q231 : x6_5 < ((rd_L1 l0_2 x5_4).length : Int) := of_decide_eq_true (by first | (with_reducible assumption) | assumption)
                              obtain ⟨ad231, e231, hx231_0⟩ := Kd.at_int HR230_0.out x6_5 p231 q231
                              obtain rfl : ad227 = ad231 := (by injection e231)
                              replace hx231_0 := (HB.out.cell (World.block_lt_of_cell? w _ hx231_0)).trans hx231_0
                              replace p231 := eq_true p231
                              replace q231 := eq_true q231
                              have p232 : 0 ≤ ((ji42) : Int) := of_decide_eq_true (by first | (with_reducible assumption) | assumption)
                              have q232 : (ji42) < (l0_2.length : Int) := of_decide_eq_true (by first | (with_reducible assumption) | assumption)
                              obtain ⟨ad232, A232_0, c232_0, e232, hx232_0, hl232_0, hi232_0⟩ := at_L1 HR0_2.out (ji42) p232 q232
                              obtain rfl : ad226 = ad232 := (by injection e232)
                              replace hx232_0 := (HB.out.cell (World.block_lt_of_cell? w _ hx232_0)).trans hx232_0
                              have HR232_0 := Aside0.mk hi232_0
                              have HC232_0 := Aside0.mk hl232_0
                              clear hi232_0 hl232_0
                              replace p232 := eq_true p232
                              replace q232 := eq_true q232
                              have p233 : 0 ≤ (x6_5 : Int) := of_decide_eq_true (by first | (with_reducible assumption) | assumption)
                              have q233 : x6_5 < ((rd_L1 l0_2 (ji42)).length : Int) := of_decide_eq_true (by first | (with_reducible assumption) | assumption)
                              obtain ⟨ad233, e233, hx233_0⟩ := Kd.at_int HR232_0.out x6_5 p233 q233
                              cases e233
                              replace hx233_0 := (HB.out.cell (World.block_lt_of_cell? w _ hx233_0)).trans hx233_0
                              replace p233 := eq_true p233
                              replace q233 := eq_true q233
                              go_wp2
                              repeat (go_quiet (fail); try go_wp2)
                              go_ret
                              exact ⟨by first | rfl | (simp [errW_none, errW_some] <;> rfl) | (simp only [← hji36, ← hji42]; first | rfl | (simp [errW_none, errW_some] <;> rfl)) | (simp [*, errW_none, errW_some] <;> rfl), by repeat (first | (with_reducible first | exact HB.out | apply below_alloc | apply pw_below_drewN | apply below_drew1 | refine below_set ?_ GE218.out) | exact HB.out)⟩
                             ·
                              rw [if_neg c46] at H
                              have c46b0 : decide ((rd (rd_L1 l0_2 (ji42)) x6_5) < (rd (rd_L1 l0_2 x5_4) x6_5)) = false := decide_eq_false c46
                              clear c46
                              have H' := Aside0.mk H
                              clear H
                              have hcz48_0 : wr.cell? ⟨gb218, 0, none⟩ = some (.slice A0_0 l0_0.length c0_0) := (blk_cell BK218.out 0).trans rfl
                              have hcz48_1 : wr.cell? ⟨gb218, 1, none⟩ = some (.slice A0_1 l0_1.length c0_1) := (blk_cell BK218.out 1).trans rfl
                              have hcz48_2 : wr.cell? ⟨gb218, 2, none⟩ = some (.slice A0_2 l0_2.length c0_2) := (blk_cell BK218.out 2).trans rfl
                              have hfz48_0 := blk_frozen BK218.out 0
                              have hfz48_1 := blk_frozen BK218.out 1
                              have hfz48_2 := blk_frozen BK218.out 2
                              have p226 : 0 ≤ (x5_4 : Int) := of_decide_eq_true (by first | (with_reducible assumption) | assumption)
                              have q226 : x5_4 < (l0_2.length : Int) := of_decide_eq_true (by first | (with_reducible assumption) | assumption)
                              obtain ⟨ad226, A226_0, c226_0, e226, hx226_0, hl226_0, hi226_0⟩ := at_L1 HR0_2.out x5_4 p226 q226
                              cases e226
                              replace hx226_0 := (HB.out.cell (World.block_lt_of_cell? w _ hx226_0)).trans hx226_0
                              have HR226_0 := Aside0.mk hi226_0
                              have HC226_0 := Aside0.mk hl226_0
                              clear hi226_0 hl226_0
                              replace p226 := eq_true p226
                              replace q226 := eq_true q226
                              have p227 : 0 ≤ (x6_5 : Int) := of_decide_eq_true (by first | (with_reducible assumption) | assumption)
                              have q227 : x6_5 < ((rd_L1 l0_2 x5_4).length : Int) := of_decide_eq_true (by first | (with_reducible assumption) | assumption)
                              obtain ⟨ad227, e227, hx227_0⟩ := Kd.at_int HR226_0.out x6_5 p227 q227
                              cases e227
                              replace hx227_0 := (HB.out.cell (World.block_lt_of_cell? w _ hx227_0)).trans hx227_0
                              replace p227 := eq_true p227
                              replace q227 := eq_true q227
                              have p228 : 0 ≤ (x5_4 : Int) := of_decide_eq_true (by first | (with_reducible assumption) | assumption)
                              have q228 : x5_4 < (l0_2.length : Int) := of_decide_eq_true (by first | (with_reducible assumption) | assumption)
                              obtain ⟨ad228, A228_0, c228_0, e228, hx228_0, hl228_0, hi228_0⟩ := at_L1 HR0_2.out x5_4 p228 q228
                              obtain rfl : ad226 = ad228 := (by injection e228)
                              replace hx228_0 := (HB.out.cell (World.block_lt_of_cell? w _ hx228_0)).trans hx228_0
                              have HR228_0 := Aside0.mk hi228_0
                              have HC228_0 := Aside0.mk hl228_0
                              clear hi228_0 hl228_0
                              replace p228 := eq_true p228
                              replace q228 := eq_true q228
                              have ea_ := Option.some.inj (hx226_0.symm.trans hx228_0)
                              injection ea_ with ea_ en_ ec_
                              subst ea_
                              subst ec_
                              clear en_
                              have p229 : 0 ≤ ((ji36) : Int) := of_decide_eq_true (by first | (with_reducible assumption) | assumption)
                              have q229 : (ji36) < ((rd_L1 l0_2 x5_4).length : Int) := of_decide_eq_true (by first | (with_reducible assumption) | assumption)
                              obtain ⟨ad229, e229, hx229_0⟩ := Kd.at_int HR228_0.out (ji36) p229 q229
                              obtain rfl : ad227 = ad229 := (by injection e229)
                              replace hx229_0 := (HB.out.cell (World.block_lt_of_cell? w _ hx229_0)).trans hx229_0
                              replace p229 := eq_true p229
                              replace q229 := eq_true q229
                              have p230 : 0 ≤ (x5_4 : Int) := of_decide_eq_true (by first | (with_reducible assumption) | assumption)
                              have q230 : x5_4 < (l0_2.length : Int) := of_decide_eq_true (by first | (with_reducible assumption) | assumption)
                              obtain ⟨ad230, A230_0, c230_0, e230, hx230_0, hl230_0, hi230_0⟩ := at_L1 HR0_2.out x5_4 p230 q230
                              obtain rfl : ad226 = ad230 := (by injection e230)
                              replace hx230_0 := (HB.out.cell (World.block_lt_of_cell? w _ hx230_0)).trans hx230_0
                              have HR230_0 := Aside0.mk hi230_0
                              have HC230_0 := Aside0.mk hl230_0
                              clear hi230_0 hl230_0
                              replace p230 := eq_true p230
                              replace q230 := eq_true q230
                              have ea_ := Option.some.inj (hx226_0.symm.trans hx230_0)
                              injection ea_ with ea_ en_ ec_
                              subst ea_
                              subst ec_
                              clear en_
                              have p231 : 0 ≤ (x6_5 : Int) := of_decide_eq_true (by first | (with_reducible assumption) | assumption)
                              have q231 : x6_5 < ((rd_L1 l0_2 x5_4).length : Int) := of_decide_eq_true (by first | (with_reducible assumption) | assumption)
                              obtain ⟨ad231, e231, hx231_0⟩ := Kd.at_int HR230_0.out x6_5 p231 q231
                              obtain rfl : ad227 = ad231 := (by injection e231)
                              replace hx231_0 := (HB.out.cell (World.block_lt_of_cell? w _ hx231_0)).trans hx231_0
                              replace p231 := eq_true p231
                              replace q231 := eq_true q231
                              have p232 : 0 ≤ ((ji42) : Int) := of_decide_eq_true (by first | (with_reducible assumption) | assumption)
                              have q232 : (ji42) < (l0_2.length : Int) := of_decide_eq_true (by first | (with_reducible assumption) | assumption)
                              obtain ⟨ad232, A232_0, c232_0, e232, hx232_0, hl232_0, hi232_0⟩ := at_L1 HR0_2.out (ji42) p232 q232
                              obtain rfl : ad226 = ad232 := (by injection e232)
                              replace hx232_0 := (HB.out.cell (World.block_lt_of_cell? w _ hx232_0)).trans hx232_0
                              have HR232_0 := Aside0.mk hi232_0
                              have HC232_0 := Aside0.mk hl232_0
                              clear hi232_0 hl232_0
                              replace p232 := eq_true p232
                              replace q232 := eq_true q232
                              have p233 : 0 ≤ (x6_5 : Int) := of_decide_eq_true (by first | (with_reducible assumption) | assumption)
                              have q233 : x6_5 < ((rd_L1 l0_2 (ji42)).length : Int) := of_decide_eq_true (by first | (with_reducible assumption) | assumption)
                              obtain ⟨ad233, e233, hx233_0⟩ := Kd.at_int HR232_0.out x6_5 p233 q233
                              cases e233
                              replace hx233_0 := (HB.out.cell (World.block_lt_of_cell? w _ hx233_0)).trans hx233_0
                              replace p233 := eq_true p233
                              replace q233 := eq_true q233
                              go_wp2
                              repeat (go_quiet (fail); try go_wp2)
                              go_roundg k5
                              case measure => have := HJ3.out; have := HK2.out; have := HJ19.out; have := HK4.out; have := HK5.out; omega
                              case rel => exact ⟨(wrap64 (x6_5 + 1)), (by first | rfl | (simp; done) | (simp [*]; done)), H', ⟨by have := HJ3.out; have := HK2.out; have := HJ19.out; have := HK4.out; have := HK5.out; omega⟩, ⟨by (with_reducible repeat (first | refine blk_drewN ?_ _ | refine blk_drew ?_ | refine blk_alloc ?_ _)); exact BK218.out⟩, ⟨by repeat (first | (with_reducible first | exact HB.out | apply below_alloc | apply pw_below_drewN | apply below_drew1 | refine below_set ?_ GE218.out) | exact HB.out)⟩⟩
                            ·
                             rw [if_neg c45] at H
                             exact absurd H (by simp)
                           ·
                            rw [if_neg c44] at H
                            exact absurd H (by simp)
                          ·
                           rw [if_neg c43] at H
                           exact absurd H (by simp)
                         ·
                          rw [if_neg c41] at H
                          have c41b0 : decide (0 < x5_4) = false := decide_eq_false c41
                          clear c41
                          have H' := Aside0.mk H
                          clear H
                          have hcz49_0 : wr.cell? ⟨gb218, 0, none⟩ = some (.slice A0_0 l0_0.length c0_0) := (blk_cell BK218.out 0).trans rfl
                          have hcz49_1 : wr.cell? ⟨gb218, 1, none⟩ = some (.slice A0_1 l0_1.length c0_1) := (blk_cell BK218.out 1).trans rfl
                          have hcz49_2 : wr.cell? ⟨gb218, 2, none⟩ = some (.slice A0_2 l0_2.length c0_2) := (blk_cell BK218.out 2).trans rfl
                          have hfz49_0 := blk_frozen BK218.out 0
                          have hfz49_1 := blk_frozen BK218.out 1
                          have hfz49_2 := blk_frozen BK218.out 2
                          have p226 : 0 ≤ (x5_4 : Int) := of_decide_eq_true (by first | (with_reducible assumption) | assumption)
                          have q226 : x5_4 < (l0_2.length : Int) := of_decide_eq_true (by first | (with_reducible assumption) | assumption)
                          obtain ⟨ad226, A226_0, c226_0, e226, hx226_0, hl226_0, hi226_0⟩ := at_L1 HR0_2.out x5_4 p226 q226
                          cases e226
                          replace hx226_0 := (HB.out.cell (World.block_lt_of_cell? w _ hx226_0)).trans hx226_0
                          have HR226_0 := Aside0.mk hi226_0
                          have HC226_0 := Aside0.mk hl226_0
                          clear hi226_0 hl226_0
                          replace p226 := eq_true p226
                          replace q226 := eq_true q226
                          have p227 : 0 ≤ (x6_5 : Int) := of_decide_eq_true (by first | (with_reducible assumption) | assumption)
                          have q227 : x6_5 < ((rd_L1 l0_2 x5_4).length : Int) := of_decide_eq_true (by first | (with_reducible assumption) | assumption)
                          obtain ⟨ad227, e227, hx227_0⟩ := Kd.at_int HR226_0.out x6_5 p227 q227
                          cases e227
                          replace hx227_0 := (HB.out.cell (World.block_lt_of_cell? w _ hx227_0)).trans hx227_0
                          replace p227 := eq_true p227
                          replace q227 := eq_true q227
                          have p228 : 0 ≤ (x5_4 : Int) := of_decide_eq_true (by first | (with_reducible assumption) | assumption)
                          have q228 : x5_4 < (l0_2.length : Int) := of_decide_eq_true (by first | (with_reducible assumption) | assumption)
                          obtain ⟨ad228, A228_0, c228_0, e228, hx228_0, hl228_0, hi228_0⟩ := at_L1 HR0_2.out x5_4 p228 q228
                          obtain rfl : ad226 = ad228 := (by injection e228)
                          replace hx228_0 := (HB.out.cell (World.block_lt_of_cell? w _ hx228_0)).trans hx228_0
                          have HR228_0 := Aside0.mk hi228_0
                          have HC228_0 := Aside0.mk hl228_0
                          clear hi228_0 hl228_0
                          replace p228 := eq_true p228
                          replace q228 := eq_true q228
                          have ea_ := Option.some.inj (hx226_0.symm.trans hx228_0)
                          injection ea_ with ea_ en_ ec_
                          subst ea_
                          subst ec_
                          clear en_
                          have p229 : 0 ≤ ((ji36) : Int) := of_decide_eq_true (by first | (with_reducible assumption) | assumption)
                          have q229 : (ji36) < ((rd_L1 l0_2 x5_4).length : Int) := of_decide_eq_true (by first | (with_reducible assumption) | assumption)
                          obtain ⟨ad229, e229, hx229_0⟩ := Kd.at_int HR228_0.out (ji36) p229 q229
                          obtain rfl : ad227 = ad229 := (by injection e229)
                          replace hx229_0 := (HB.out.cell (World.block_lt_of_cell? w _ hx229_0)).trans hx229_0
                          replace p229 := eq_true p229
                          replace q229 := eq_true q229
                          go_wp2
                          repeat (go_quiet (fail); try go_wp2)
                          go_roundg k5
                          case measure => have := HJ3.out; have := HK2.out; have := HJ19.out; have := HK4.out; have := HK5.out; omega
                          case rel => exact ⟨(wrap64 (x6_5 + 1)), (by first | rfl | (simp; done) | (simp [*]; done)), H', ⟨by have := HJ3.out; have := HK2.out; have := HJ19.out; have := HK4.out; have := HK5.out; omega⟩, ⟨by (with_reducible repeat (first | refine blk_drewN ?_ _ | refine blk_drew ?_ | refine blk_alloc ?_ _)); exact BK218.out⟩, ⟨by repeat (first | (with_reducible first | exact HB.out | apply below_alloc | apply pw_below_drewN | apply below_drew1 | refine below_set ?_ GE218.out) | exact HB.out)⟩⟩
                       ·
                        rw [if_neg c38] at H
                        exact absurd H (by simp)
                      ·
                       rw [if_neg c37] at H
                       exact absurd H (by simp)
                     ·
                      rw [if_neg c35] at H
                      exact absurd H (by simp)
                    ·
                     rw [if_neg c34] at H
                     exact absurd H (by simp)
                   ·
                    rw [if_neg c33] at H
                    exact absurd H (by simp)
                  ·
                   rw [if_neg c32] at H
                   exact absurd H (by simp)
                 ·
                  rw [if_neg c31] at H
                  have c31b0 : decide (0 < x6_5) = false := decide_eq_false c31
                  clear c31
                  by_cases c50 : x5_4 > 0
                  ·
                   rw [if_pos c50] at H
                   have c50b0 : decide (0 < x5_4) = true := decide_eq_true c50
                   clear c50
                   by_cases c51 : 0 ≤ x5_4
                   ·
                    rw [if_pos c51] at H
                    have c51b0 : decide (0 ≤ x5_4) = true := decide_eq_true c51
                    clear c51
                    by_cases c52 : x5_4 < (l0_2.length : Int)
                    ·
                     rw [if_pos c52] at H
                     have c52b0 : decide (x5_4 < (l0_2.length : Int)) = true := decide_eq_true c52
                     clear c52
                     by_cases c53 : 0 ≤ x6_5
                     ·
                      rw [if_pos c53] at H
                      have c53b0 : decide (0 ≤ x6_5) = true := decide_eq_true c53
                      clear c53
                      by_cases c54 : x6_5 < ((rd_L1 l0_2 x5_4).length : Int)
                      ·
                       rw [if_pos c54] at H
                       have c54b0 : decide (x6_5 < ((rd_L1 l0_2 x5_4).length : Int)) = true := decide_eq_true c54
                       clear c54
                       obtain ⟨ji55, hji55⟩ : ∃ j_ : Int, (wrap64 (x5_4 - 1)) = j_ := ⟨_, rfl⟩
                       replace H : (if 0 ≤ (ji55) then (if (ji55) < (l0_2.length : Int) then (if x6_5 < ((rd_L1 l0_2 (ji55)).length : Int) then (if (rd (rd_L1 l0_2 x5_4) x6_5) > (rd (rd_L1 l0_2 (ji55)) x6_5) then (some 18) else (spileref19_Check.l2 k5 x5_4 (wrap64 (x6_5 + 1)) l0_0 l0_1 l0_2)) else (none)) else (none)) else (none)) = some r := by first | (rw [hji55] at H; exact H) | (simp only [hji55] at H ⊢; exact H)
                       have hji55w : (IntKind.i64.wrap (x5_4 - 1)) = ji55 := (i64_w _).trans hji55
                       by_cases c56 : 0 ≤ (ji55)
                       ·
                        rw [if_pos c56] at H
                        have c56b0 : decide (0 ≤ (ji55)) = true := decide_eq_true c56
                        clear c56
                        by_cases c57 : (ji55) < (l0_2.length : Int)
                        ·
                         rw [if_pos c57] at H
                         have c57b0 : decide ((ji55) < (l0_2.length : Int)) = true := decide_eq_true c57
                         clear c57
                         by_cases c58 : x6_5 < ((rd_L1 l0_2 (ji55)).length : Int)
                         ·
                          rw [if_pos c58] at H
                          have c58b0 : decide (x6_5 < ((rd_L1 l0_2 (ji55)).length : Int)) = true := decide_eq_true c58
                          clear c58
                          by_cases c59 : (rd (rd_L1 l0_2 x5_4) x6_5) > (rd (rd_L1 l0_2 (ji55)) x6_5)
                          ·
                           rw [if_pos c59] at H
                           have c59b0 : decide ((rd (rd_L1 l0_2 (ji55)) x6_5) < (rd (rd_L1 l0_2 x5_4) x6_5)) = true := decide_eq_true c59
                           clear c59
                           obtain rfl := Option.some.inj H
                           have hcz60_0 : wr.cell? ⟨gb218, 0, none⟩ = some (.slice A0_0 l0_0.length c0_0) := (blk_cell BK218.out 0).trans rfl
                           have hcz60_1 : wr.cell? ⟨gb218, 1, none⟩ = some (.slice A0_1 l0_1.length c0_1) := (blk_cell BK218.out 1).trans rfl
                           have hcz60_2 : wr.cell? ⟨gb218, 2, none⟩ = some (.slice A0_2 l0_2.length c0_2) := (blk_cell BK218.out 2).trans rfl
                           have hfz60_0 := blk_frozen BK218.out 0
                           have hfz60_1 := blk_frozen BK218.out 1
                           have hfz60_2 := blk_frozen BK218.out 2
                           have p234 : 0 ≤ (x5_4 : Int) := of_decide_eq_true (by first | (with_reducible assumption) | assumption)
                           have q234 : x5_4 < (l0_2.length : Int) := of_decide_eq_true (by first | (with_reducible assumption) | assumption)
                           obtain ⟨ad234, A234_0, c234_0, e234, hx234_0, hl234_0, hi234_0⟩ := at_L1 HR0_2.out x5_4 p234 q234
                           cases e234
                           replace hx234_0 := (HB.out.cell (World.block_lt_of_cell? w _ hx234_0)).trans hx234_0
                           have HR234_0 := Aside0.mk hi234_0
                           have HC234_0 := Aside0.mk hl234_0
                           clear hi234_0 hl234_0
                           replace p234 := eq_true p234
                           replace q234 := eq_true q234
                           have p235 : 0 ≤ (x6_5 : Int) := of_decide_eq_true (by first | (with_reducible assumption) | assumption)
                           have q235 : x6_5 < ((rd_L1 l0_2 x5_4).length : Int) := of_decide_eq_true (by first | (with_reducible assumption) | assumption)
                           obtain ⟨ad235, e235, hx235_0⟩ := Kd.at_int HR234_0.out x6_5 p235 q235
                           cases e235
                           replace hx235_0 := (HB.out.cell (World.block_lt_of_cell? w _ hx235_0)).trans hx235_0
                           replace p235 := eq_true p235
                           replace q235 := eq_true q235
                           have p236 : 0 ≤ ((ji55) : Int) := of_decide_eq_true (by first | (with_reducible assumption) | assumption)
                           have q236 : (ji55) < (l0_2.length : Int) := of_decide_eq_true (by first | (with_reducible assumption) | assumption)
                           obtain ⟨ad236, A236_0, c236_0, e236, hx236_0, hl236_0, hi236_0⟩ := at_L1 HR0_2.out (ji55) p236 q236
                           obtain rfl : ad234 = ad236 := (by injection e236)
                           replace hx236_0 := (HB.out.cell (World.block_lt_of_cell? w _ hx236_0)).trans hx236_0
                           have HR236_0 := Aside0.mk hi236_0
                           have HC236_0 := Aside0.mk hl236_0
                           clear hi236_0 hl236_0
                           replace p236 := eq_true p236
                           replace q236 := eq_true q236
                           have p237 : 0 ≤ (x6_5 : Int) := of_decide_eq_true (by first | (with_reducible assumption) | assumption)
                           have q237 : x6_5 < ((rd_L1 l0_2 (ji55)).length : Int) := of_decide_eq_true (by first | (with_reducible assumption) | assumption)
                           obtain ⟨ad237, e237, hx237_0⟩ := Kd.at_int HR236_0.out x6_5 p237 q237
                           cases e237
                           replace hx237_0 := (HB.out.cell (World.block_lt_of_cell? w _ hx237_0)).trans hx237_0
                           replace p237 := eq_true p237
                           replace q237 := eq_true q237
                           go_wp2
                           repeat (go_quiet (fail); try go_wp2)
                           go_ret
                           exact ⟨by first | rfl | (simp [errW_none, errW_some] <;> rfl) | (simp only [← hji55]; first | rfl | (simp [errW_none, errW_some] <;> rfl)) | (simp [*, errW_none, errW_some] <;> rfl), by repeat (first | (with_reducible first | exact HB.out | apply below_alloc | apply pw_below_drewN | apply below_drew1 | refine below_set ?_ GE218.out) | exact HB.out)⟩
                          ·
                           rw [if_neg c59] at H
                           have c59b0 : decide ((rd (rd_L1 l0_2 (ji55)) x6_5) < (rd (rd_L1 l0_2 x5_4) x6_5)) = false := decide_eq_false c59
                           clear c59
                           have H' := Aside0.mk H
                           clear H
                           have hcz61_0 : wr.cell? ⟨gb218, 0, none⟩ = some (.slice A0_0 l0_0.length c0_0) := (blk_cell BK218.out 0).trans rfl
                           have hcz61_1 : wr.cell? ⟨gb218, 1, none⟩ = some (.slice A0_1 l0_1.length c0_1) := (blk_cell BK218.out 1).trans rfl
                           have hcz61_2 : wr.cell? ⟨gb218, 2, none⟩ = some (.slice A0_2 l0_2.length c0_2) := (blk_cell BK218.out 2).trans rfl
                           have hfz61_0 := blk_frozen BK218.out 0
                           have hfz61_1 := blk_frozen BK218.out 1
                           have hfz61_2 := blk_frozen BK218.out 2
                           have p234 : 0 ≤ (x5_4 : Int) := of_decide_eq_true (by first | (with_reducible assumption) | assumption)
                           have q234 : x5_4 < (l0_2.length : Int) := of_decide_eq_true (by first | (with_reducible assumption) | assumption)
                           obtain ⟨ad234, A234_0, c234_0, e234, hx234_0, hl234_0, hi234_0⟩ := at_L1 HR0_2.out x5_4 p234 q234
                           cases e234
                           replace hx234_0 := (HB.out.cell (World.block_lt_of_cell? w _ hx234_0)).trans hx234_0
                           have HR234_0 := Aside0.mk hi234_0
                           have HC234_0 := Aside0.mk hl234_0
                           clear hi234_0 hl234_0
                           replace p234 := eq_true p234
                           replace q234 := eq_true q234
                           have p235 : 0 ≤ (x6_5 : Int) := of_decide_eq_true (by first | (with_reducible assumption) | assumption)
                           have q235 : x6_5 < ((rd_L1 l0_2 x5_4).length : Int) := of_decide_eq_true (by first | (with_reducible assumption) | assumption)
                           obtain ⟨ad235, e235, hx235_0⟩ := Kd.at_int HR234_0.out x6_5 p235 q235
                           cases e235
                           replace hx235_0 := (HB.out.cell (World.block_lt_of_cell? w _ hx235_0)).trans hx235_0
                           replace p235 := eq_true p235
                           replace q235 := eq_true q235
                           have p236 : 0 ≤ ((ji55) : Int) := of_decide_eq_true (by first | (with_reducible assumption) | assumption)
                           have q236 : (ji55) < (l0_2.length : Int) := of_decide_eq_true (by first | (with_reducible assumption) | assumption)
                           obtain ⟨ad236, A236_0, c236_0, e236, hx236_0, hl236_0, hi236_0⟩ := at_L1 HR0_2.out (ji55) p236 q236
                           obtain rfl : ad234 = ad236 := (by injection e236)
                           replace hx236_0 := (HB.out.cell (World.block_lt_of_cell? w _ hx236_0)).trans hx236_0
                           have HR236_0 := Aside0.mk hi236_0
                           have HC236_0 := Aside0.mk hl236_0
                           clear hi236_0 hl236_0
                           replace p236 := eq_true p236
                           replace q236 := eq_true q236
                           have p237 : 0 ≤ (x6_5 : Int) := of_decide_eq_true (by first | (with_reducible assumption) | assumption)
                           have q237 : x6_5 < ((rd_L1 l0_2 (ji55)).length : Int) := of_decide_eq_true (by first | (with_reducible assumption) | assumption)
                           obtain ⟨ad237, e237, hx237_0⟩ := Kd.at_int HR236_0.out x6_5 p237 q237
                           cases e237
                           replace hx237_0 := (HB.out.cell (World.block_lt_of_cell? w _ hx237_0)).trans hx237_0
                           replace p237 := eq_true p237
                           replace q237 := eq_true q237
                           go_wp2
                           repeat (go_quiet (fail); try go_wp2)
                           go_roundg k5
                           case measure => have := HJ3.out; have := HK2.out; have := HJ19.out; have := HK4.out; have := HK5.out; omega
                           case rel => exact ⟨(wrap64 (x6_5 + 1)), (by first | rfl | (simp; done) | (simp [*]; done)), H', ⟨by have := HJ3.out; have := HK2.out; have := HJ19.out; have := HK4.out; have := HK5.out; omega⟩, ⟨by (with_reducible repeat (first | refine blk_drewN ?_ _ | refine blk_drew ?_ | refine blk_alloc ?_ _)); exact BK218.out⟩, ⟨by repeat (first | (with_reducible first | exact HB.out | apply below_alloc | apply pw_below_drewN | apply below_drew1 | refine below_set ?_ GE218.out) | exact HB.out)⟩⟩
                         ·
                          rw [if_neg c58] at H
                          exact absurd H (by simp)
                        ·
                         rw [if_neg c57] at H
                         exact absurd H (by simp)
                       ·
                        rw [if_neg c56] at H
                        exact absurd H (by simp)
                      ·
                       rw [if_neg c54] at H
                       exact absurd H (by simp)
                     ·
                      rw [if_neg c53] at H
                      exact absurd H (by simp)
                    ·
                     rw [if_neg c52] at H
                     exact absurd H (by simp)
                   ·
                    rw [if_neg c51] at H
                    exact absurd H (by simp)
                  ·
                   rw [if_neg c50] at H
                   have c50b0 : decide (0 < x5_4) = false := decide_eq_false c50
                   clear c50
                   have H' := Aside0.mk H
                   clear H
                   have hcz62_0 : wr.cell? ⟨gb218, 0, none⟩ = some (.slice A0_0 l0_0.length c0_0) := (blk_cell BK218.out 0).trans rfl
                   have hcz62_1 : wr.cell? ⟨gb218, 1, none⟩ = some (.slice A0_1 l0_1.length c0_1) := (blk_cell BK218.out 1).trans rfl
                   have hcz62_2 : wr.cell? ⟨gb218, 2, none⟩ = some (.slice A0_2 l0_2.length c0_2) := (blk_cell BK218.out 2).trans rfl
                   have hfz62_0 := blk_frozen BK218.out 0
                   have hfz62_1 := blk_frozen BK218.out 1
                   have hfz62_2 := blk_frozen BK218.out 2
                   go_wp2
                   repeat (go_quiet (fail); try go_wp2)
                   go_roundg k5
                   case measure => have := HJ3.out; have := HK2.out; have := HJ19.out; have := HK4.out; have := HK5.out; omega
                   case rel => exact ⟨(wrap64 (x6_5 + 1)), (by first | rfl | (simp; done) | (simp [*]; done)), H', ⟨by have := HJ3.out; have := HK2.out; have := HJ19.out; have := HK4.out; have := HK5.out; omega⟩, ⟨by (with_reducible repeat (first | refine blk_drewN ?_ _ | refine blk_drew ?_ | refine blk_alloc ?_ _)); exact BK218.out⟩, ⟨by repeat (first | (with_reducible first | exact HB.out | apply below_alloc | apply pw_below_drewN | apply below_drew1 | refine below_set ?_ GE218.out) | exact HB.out)⟩⟩
                ·
                 rw [if_neg c30] at H
                 have c30b0 : decide (x6_5 < (l0_1.length : Int)) = false := decide_eq_false c30
                 clear c30
                 have H' := Aside0.mk H
                 clear H
                 have hcz63_0 : wr.cell? ⟨gb218, 0, none⟩ = some (.slice A0_0 l0_0.length c0_0) := (blk_cell BK218.out 0).trans rfl
                 have hcz63_1 : wr.cell? ⟨gb218, 1, none⟩ = some (.slice A0_1 l0_1.length c0_1) := (blk_cell BK218.out 1).trans rfl
                 have hcz63_2 : wr.cell? ⟨gb218, 2, none⟩ = some (.slice A0_2 l0_2.length c0_2) := (blk_cell BK218.out 2).trans rfl
                 have hfz63_0 := blk_frozen BK218.out 0
                 have hfz63_1 := blk_frozen BK218.out 1
                 have hfz63_2 := blk_frozen BK218.out 2
                 go_wp2
                 repeat (go_quiet (fail); try go_wp2)
                 go_roundg k5
                 case measure => have := HJ3.out; have := HK2.out; have := HJ19.out; have := HK4.out; have := HK5.out; omega
                 case rel => exact ⟨(wrap64 (x5_4 + 1)), (by first | rfl | (simp; done) | (simp [*]; done)), H', ⟨by have := HJ3.out; have := HK2.out; have := HJ19.out; have := HK4.out; have := HK5.out; omega⟩, ⟨by (with_reducible repeat (first | refine blk_drewN ?_ _ | refine blk_drew ?_ | refine blk_alloc ?_ _)); exact BK218.out⟩, ⟨by repeat (first | (with_reducible first | exact HB.out | apply below_alloc | apply pw_below_drewN | apply below_drew1 | refine below_set ?_ GE218.out) | exact HB.out)⟩⟩
             ·
              rw [if_neg c28] at H
              have c28b0 : decide (x5_4 < (l0_2.length : Int)) = false := decide_eq_false c28
              clear c28
              obtain rfl := Option.some.inj H
              have hcz64_0 : wr.cell? ⟨gb218, 0, none⟩ = some (.slice A0_0 l0_0.length c0_0) := (blk_cell BK218.out 0).trans rfl
              have hcz64_1 : wr.cell? ⟨gb218, 1, none⟩ = some (.slice A0_1 l0_1.length c0_1) := (blk_cell BK218.out 1).trans rfl
              have hcz64_2 : wr.cell? ⟨gb218, 2, none⟩ = some (.slice A0_2 l0_2.length c0_2) := (blk_cell BK218.out 2).trans rfl
              have hfz64_0 := blk_frozen BK218.out 0
              have hfz64_1 := blk_frozen BK218.out 1
              have hfz64_2 := blk_frozen BK218.out 2
              go_wp2
              repeat (go_quiet (fail); try go_wp2)
              go_ret
              exact ⟨by first | rfl | (simp [errW_none, errW_some] <;> rfl) | (simp [*, errW_none, errW_some] <;> rfl), by repeat (first | (with_reducible first | exact HB.out | apply below_alloc | apply pw_below_drewN | apply below_drew1 | refine below_set ?_ GE218.out) | exact HB.out)⟩
 ·
  rw [if_neg c3] at H
  have c3b0 : (t219 == 0) = false := beq_eq_false_iff_ne.mpr c3
  have c3b1 : (t219 != 0) = true := bne_iff_ne.mpr c3
  obtain rfl := Option.some.inj H
  go_enter Tryd.func19, Tryd.ntmps19
  go_wp2_with (first | ((with_reducible refine gate_dst (N := 1) rfl ?_); refine box_event ?hg (N := 1) ?hd (cs := #[.slice A0_0 l0_0.length c0_0, .slice A0_1 l0_1.length c0_1, .slice A0_2 l0_2.length c0_2]) (t := 25) ?hr ?_; (case hd => rfl); (case hg => rfl); (case hr => first | (go_simp; done) | (go_simp; rfl)); intro gb218 hg w65 hbox hb; have n0_ := Aside0.mk (below_step (by repeat (first | (with_reducible first | exact HB.out | apply below_alloc | apply pw_below_drewN | apply below_drew1) | exact HB.out)) hb); have n1_ := Aside0.mk (hbox); have n2_ := Aside0.mk ((by rw [hg]; exact (below_size (by repeat (first | (with_reducible first | exact HB.out | apply below_alloc | apply pw_below_drewN | apply below_drew1) | exact HB.out))) : w.heap.size ≤ gb218)); have n3_ := Aside0.mk ((by rw [hg]; exact (below_size (by repeat (first | (with_reducible first | exact HB.out | apply below_alloc | apply pw_below_drewN | apply below_drew1) | exact HB.out))) : w.heap.size ≤ gb218)); clear HB; have HB := n0_; have BK218 := n1_; have GW218 := n2_; have GE218 := n3_; clear n0_ n1_ n2_ n3_; clear hb hbox hg; have hcz66_0 : w65.cell? ⟨gb218, 0, none⟩ = some (.slice A0_0 l0_0.length c0_0) := (blk_cell BK218.out 0).trans rfl; have hcz66_1 : w65.cell? ⟨gb218, 1, none⟩ = some (.slice A0_1 l0_1.length c0_1) := (blk_cell BK218.out 1).trans rfl; have hcz66_2 : w65.cell? ⟨gb218, 2, none⟩ = some (.slice A0_2 l0_2.length c0_2) := (blk_cell BK218.out 2).trans rfl; have hfz66_0 := blk_frozen BK218.out 0; have hfz66_1 := blk_frozen BK218.out 1; have hfz66_2 := blk_frozen BK218.out 2) | (go_at_call 40; (with_reducible refine (spileref19_shape.calls k _ _ l0_0 _ _ l0_1 _ _ l0_2 t219 _ ?side1 ?side2 ?side3 ?side4 ?side5 ?side6 A2.out).mono ?_); (case side1 => repeat (first | exact (Kd.C_below HR0_0.out HB.out) | (with_reducible refine Kd.C_alloc ?_ _) | (with_reducible refine Kd.C_drewN ?_ _) | (with_reducible refine Kd.C_drew ?_))); (case side2 => exact HC0_0.out); (case side3 => repeat (first | exact (Kd.C_below HR0_1.out HB.out) | (with_reducible refine Kd.C_alloc ?_ _) | (with_reducible refine Kd.C_drewN ?_ _) | (with_reducible refine Kd.C_drew ?_))); (case side4 => exact HC0_1.out); (case side5 => repeat (first | exact (Kd.C_below HR0_2.out HB.out) | (with_reducible refine Kd.C_alloc ?_ _) | (with_reducible refine Kd.C_drewN ?_ _) | (with_reducible refine Kd.C_drew ?_))); (case side6 => exact HC0_2.out); rintro e w67 ⟨rfl, hb⟩; have n0_ := Aside0.mk (blk_below (g := gb218) (o := .cells #[.slice A0_0 l0_0.length c0_0, .slice A0_1 l0_1.length c0_1, .slice A0_2 l0_2.length c0_2] 25 (0, 0)) (by (with_reducible repeat (first | refine blk_drewN ?_ _ | refine blk_drew ?_ | refine blk_alloc ?_ _)); exact BK218.out) hb); have n1_ := Aside0.mk (below_step (by repeat (first | (with_reducible first | exact HB.out | apply below_alloc | apply pw_below_drewN | apply below_drew1 | refine below_set ?_ GE218.out) | exact HB.out)) hb); clear BK218; clear HB; have BK218 := n0_; have HB := n1_; clear n0_ n1_; (try clear hb); (try clear hb2); (try clear hk); (try clear hi)))
  repeat (go_quiet (first | ((with_reducible refine gate_dst (N := 1) rfl ?_); refine box_event ?hg (N := 1) ?hd (cs := #[.slice A0_0 l0_0.length c0_0, .slice A0_1 l0_1.length c0_1, .slice A0_2 l0_2.length c0_2]) (t := 25) ?hr ?_; (case hd => rfl); (case hg => rfl); (case hr => first | (go_simp; done) | (go_simp; rfl)); intro gb218 hg w65 hbox hb; have n0_ := Aside0.mk (below_step (by repeat (first | (with_reducible first | exact HB.out | apply below_alloc | apply pw_below_drewN | apply below_drew1) | exact HB.out)) hb); have n1_ := Aside0.mk (hbox); have n2_ := Aside0.mk ((by rw [hg]; exact (below_size (by repeat (first | (with_reducible first | exact HB.out | apply below_alloc | apply pw_below_drewN | apply below_drew1) | exact HB.out))) : w.heap.size ≤ gb218)); have n3_ := Aside0.mk ((by rw [hg]; exact (below_size (by repeat (first | (with_reducible first | exact HB.out | apply below_alloc | apply pw_below_drewN | apply below_drew1) | exact HB.out))) : w.heap.size ≤ gb218)); clear HB; have HB := n0_; have BK218 := n1_; have GW218 := n2_; have GE218 := n3_; clear n0_ n1_ n2_ n3_; clear hb hbox hg; have hcz66_0 : w65.cell? ⟨gb218, 0, none⟩ = some (.slice A0_0 l0_0.length c0_0) := (blk_cell BK218.out 0).trans rfl; have hcz66_1 : w65.cell? ⟨gb218, 1, none⟩ = some (.slice A0_1 l0_1.length c0_1) := (blk_cell BK218.out 1).trans rfl; have hcz66_2 : w65.cell? ⟨gb218, 2, none⟩ = some (.slice A0_2 l0_2.length c0_2) := (blk_cell BK218.out 2).trans rfl; have hfz66_0 := blk_frozen BK218.out 0; have hfz66_1 := blk_frozen BK218.out 1; have hfz66_2 := blk_frozen BK218.out 2) | (go_at_call 40; (with_reducible refine (spileref19_shape.calls k _ _ l0_0 _ _ l0_1 _ _ l0_2 t219 _ ?side1 ?side2 ?side3 ?side4 ?side5 ?side6 A2.out).mono ?_); (case side1 => repeat (first | exact (Kd.C_below HR0_0.out HB.out) | (with_reducible refine Kd.C_alloc ?_ _) | (with_reducible refine Kd.C_drewN ?_ _) | (with_reducible refine Kd.C_drew ?_))); (case side2 => exact HC0_0.out); (case side3 => repeat (first | exact (Kd.C_below HR0_1.out HB.out) | (with_reducible refine Kd.C_alloc ?_ _) | (with_reducible refine Kd.C_drewN ?_ _) | (with_reducible refine Kd.C_drew ?_))); (case side4 => exact HC0_1.out); (case side5 => repeat (first | exact (Kd.C_below HR0_2.out HB.out) | (with_reducible refine Kd.C_alloc ?_ _) | (with_reducible refine Kd.C_drewN ?_ _) | (with_reducible refine Kd.C_drew ?_))); (case side6 => exact HC0_2.out); rintro e w67 ⟨rfl, hb⟩; have n0_ := Aside0.mk (blk_below (g := gb218) (o := .cells #[.slice A0_0 l0_0.length c0_0, .slice A0_1 l0_1.length c0_1, .slice A0_2 l0_2.length c0_2] 25 (0, 0)) (by (with_reducible repeat (first | refine blk_drewN ?_ _ | refine blk_drew ?_ | refine blk_alloc ?_ _)); exact BK218.out) hb); have n1_ := Aside0.mk (below_step (by repeat (first | (with_reducible first | exact HB.out | apply below_alloc | apply pw_below_drewN | apply below_drew1 | refine below_set ?_ GE218.out) | exact HB.out)) hb); clear BK218; clear HB; have BK218 := n0_; have HB := n1_; clear n0_ n1_; (try clear hb); (try clear hb2); (try clear hk); (try clear hi))); try go_wp2_with (first | ((with_reducible refine gate_dst (N := 1) rfl ?_); refine box_event ?hg (N := 1) ?hd (cs := #[.slice A0_0 l0_0.length c0_0, .slice A0_1 l0_1.length c0_1, .slice A0_2 l0_2.length c0_2]) (t := 25) ?hr ?_; (case hd => rfl); (case hg => rfl); (case hr => first | (go_simp; done) | (go_simp; rfl)); intro gb218 hg w65 hbox hb; have n0_ := Aside0.mk (below_step (by repeat (first | (with_reducible first | exact HB.out | apply below_alloc | apply pw_below_drewN | apply below_drew1) | exact HB.out)) hb); have n1_ := Aside0.mk (hbox); have n2_ := Aside0.mk ((by rw [hg]; exact (below_size (by repeat (first | (with_reducible first | exact HB.out | apply below_alloc | apply pw_below_drewN | apply below_drew1) | exact HB.out))) : w.heap.size ≤ gb218)); have n3_ := Aside0.mk ((by rw [hg]; exact (below_size (by repeat (first | (with_reducible first | exact HB.out | apply below_alloc | apply pw_below_drewN | apply below_drew1) | exact HB.out))) : w.heap.size ≤ gb218)); clear HB; have HB := n0_; have BK218 := n1_; have GW218 := n2_; have GE218 := n3_; clear n0_ n1_ n2_ n3_; clear hb hbox hg; have hcz66_0 : w65.cell? ⟨gb218, 0, none⟩ = some (.slice A0_0 l0_0.length c0_0) := (blk_cell BK218.out 0).trans rfl; have hcz66_1 : w65.cell? ⟨gb218, 1, none⟩ = some (.slice A0_1 l0_1.length c0_1) := (blk_cell BK218.out 1).trans rfl; have hcz66_2 : w65.cell? ⟨gb218, 2, none⟩ = some (.slice A0_2 l0_2.length c0_2) := (blk_cell BK218.out 2).trans rfl; have hfz66_0 := blk_frozen BK218.out 0; have hfz66_1 := blk_frozen BK218.out 1; have hfz66_2 := blk_frozen BK218.out 2) | (go_at_call 40; (with_reducible refine (spileref19_shape.calls k _ _ l0_0 _ _ l0_1 _ _ l0_2 t219 _ ?side1 ?side2 ?side3 ?side4 ?side5 ?side6 A2.out).mono ?_); (case side1 => repeat (first | exact (Kd.C_below HR0_0.out HB.out) | (with_reducible refine Kd.C_alloc ?_ _) | (with_reducible refine Kd.C_drewN ?_ _) | (with_reducible refine Kd.C_drew ?_))); (case side2 => exact HC0_0.out); (case side3 => repeat (first | exact (Kd.C_below HR0_1.out HB.out) | (with_reducible refine Kd.C_alloc ?_ _) | (with_reducible refine Kd.C_drewN ?_ _) | (with_reducible refine Kd.C_drew ?_))); (case side4 => exact HC0_1.out); (case side5 => repeat (first | exact (Kd.C_below HR0_2.out HB.out) | (with_reducible refine Kd.C_alloc ?_ _) | (with_reducible refine Kd.C_drewN ?_ _) | (with_reducible refine Kd.C_drew ?_))); (case side6 => exact HC0_2.out); rintro e w67 ⟨rfl, hb⟩; have n0_ := Aside0.mk (blk_below (g := gb218) (o := .cells #[.slice A0_0 l0_0.length c0_0, .slice A0_1 l0_1.length c0_1, .slice A0_2 l0_2.length c0_2] 25 (0, 0)) (by (with_reducible repeat (first | refine blk_drewN ?_ _ | refine blk_drew ?_ | refine blk_alloc ?_ _)); exact BK218.out) hb); have n1_ := Aside0.mk (below_step (by repeat (first | (with_reducible first | exact HB.out | apply below_alloc | apply pw_below_drewN | apply below_drew1 | refine below_set ?_ GE218.out) | exact HB.out)) hb); clear BK218; clear HB; have BK218 := n0_; have HB := n1_; clear n0_ n1_; (try clear hb); (try clear hb2); (try clear hk); (try clear hi))))
  go_ret
  exact ⟨by first | rfl | (simp [errW_none, errW_some] <;> rfl) | (simp [*, errW_none, errW_some] <;> rfl), by repeat (first | (with_reducible first | exact HB.out | apply below_alloc | apply pw_below_drewN | apply below_drew1 | refine below_set ?_ GE218.out) | exact HB.out)⟩
end Go.Proofs.YtmdfnambaedllaaDoor.Pr
namespace Go.Proofs.YtmdfnambaedllaaDoor.Pr
open Go.RowKit Go.Proofs.YtmdfnambaedllaaDoorW.PrintWords Go.Proofs.YtmdfnambaedllaaDoorW.PrintLast Go.Proofs.YtmdfnambaedllaaDoorW.PrintMore Go.Proofs.YtmdfnambaedllaaDoor.X
attribute [local go_sem] max2_int min2_int max_two min_two max_three min_three max_four min_four   -- for this text's walks alone
set_option linter.unusedVariables false
set_option linter.unusedSimpArgs false
def spileref19_inside.f (l0 : List Int) (a1 : Int) : Option (Bool) := if 0 < (l0.length : Int) then (if a1 ≥ (rd l0 0) then (if 0 ≤ (wrap64 ((l0.length : Int) - 1)) then (if (wrap64 ((l0.length : Int) - 1)) < (l0.length : Int) then (some (decide (a1 ≤ (rd l0 (wrap64 ((l0.length : Int) - 1)))))) else (none)) else (none)) else (some false)) else (none)
set_option maxHeartbeats 8000000 in
set_option maxRecDepth 100000 in
theorem spileref19_inside.calls (A0 : Option Addr) (c0 : Nat) (l0 : List Int) (a1 : Int) (r : Bool) (w : World) (hr0 : Kd.C (Kd.int .i64) w A0 l0.length l0) (hc0 : l0.length ≤ c0) (h : spileref19_inside.f l0 a1 = some r) :
  Calls Tryd.prog 29 #[.slice A0 l0.length c0, .int .i64 a1] w fun e w' => e = .returned (.bool r) ∧ Drawn0 w w' := by
 have HR0 := Aside0.mk hr0
 have HC0 := Aside0.mk hc0
 clear hr0 hc0
 have H : (if 0 < (l0.length : Int) then (if a1 ≥ (rd l0 0) then (if 0 ≤ (wrap64 ((l0.length : Int) - 1)) then (if (wrap64 ((l0.length : Int) - 1)) < (l0.length : Int) then (some (decide (a1 ≤ (rd l0 (wrap64 ((l0.length : Int) - 1)))))) else (none)) else (none)) else (some false)) else (none)) = some r := h
 clear h
 by_cases c3 : 0 < (l0.length : Int)
 ·
  rw [if_pos c3] at H
  have c3b0 : decide (0 < (l0.length : Int)) = true := decide_eq_true c3
  have c3b1 : decide (0 < l0.length) = true := decide_eq_true (by omega)
  clear c3
  by_cases c4 : a1 ≥ (rd l0 0)
  ·
   rw [if_pos c4] at H
   have c4b0 : decide ((rd l0 0) ≤ a1) = true := decide_eq_true c4
   clear c4
   obtain ⟨ji5, hji5⟩ : ∃ j_ : Int, (wrap64 ((l0.length : Int) - 1)) = j_ := ⟨_, rfl⟩
   replace H : (if 0 ≤ (ji5) then (if (ji5) < (l0.length : Int) then (some (decide (a1 ≤ (rd l0 (ji5))))) else (none)) else (none)) = some r := by first | (rw [hji5] at H; exact H) | (simp only [hji5] at H ⊢; exact H)
   have hji5w : (IntKind.i64.wrap ((l0.length : Int) - 1)) = ji5 := (i64_w _).trans hji5
   by_cases c6 : 0 ≤ (ji5)
   ·
    rw [if_pos c6] at H
    have c6b0 : decide (0 ≤ (ji5)) = true := decide_eq_true c6
    clear c6
    by_cases c7 : (ji5) < (l0.length : Int)
    ·
     rw [if_pos c7] at H
     have c7b0 : decide ((ji5) < (l0.length : Int)) = true := decide_eq_true c7
     clear c7
     obtain rfl := Option.some.inj H
     have p238 : 0 ≤ (0 : Int) := (by omega)
     have q238 : 0 < (l0.length : Int) := of_decide_eq_true (by first | (with_reducible assumption) | assumption)
     obtain ⟨ad238, e238, hx238_0⟩ := Kd.at_int HR0.out 0 p238 q238
     cases e238
     have qi238 : (0 < l0.length) = True := eq_true (by omega)
     (try rw [show ((0 : Int)).toNat = 0 from rfl] at hx238_0)
     (try rw [Addr.add_zero'] at hx238_0)
     replace p238 := eq_true p238
     replace q238 := eq_true q238
     have p239 : 0 ≤ ((ji5) : Int) := of_decide_eq_true (by first | (with_reducible assumption) | assumption)
     have q239 : (ji5) < (l0.length : Int) := of_decide_eq_true (by first | (with_reducible assumption) | assumption)
     obtain ⟨ad239, e239, hx239_0⟩ := Kd.at_int HR0.out (ji5) p239 q239
     obtain rfl : ad238 = ad239 := (by injection e239)
     replace p239 := eq_true p239
     replace q239 := eq_true q239
     go_enter Tryd.func29, Tryd.ntmps29
     go_wp2
     go_ret
     exact ⟨by first | rfl | (simp; done) | (simp only [← hji5] <;> (first | rfl | simp)) | (simp [*]; done), by repeat (first | exact Drawn0.refl _ | apply Drawn0.step)⟩
    ·
     rw [if_neg c7] at H
     exact absurd H (by simp)
   ·
    rw [if_neg c6] at H
    exact absurd H (by simp)
  ·
   rw [if_neg c4] at H
   have c4b0 : decide ((rd l0 0) ≤ a1) = false := decide_eq_false c4
   clear c4
   obtain rfl := Option.some.inj H
   have p238 : 0 ≤ (0 : Int) := (by omega)
   have q238 : 0 < (l0.length : Int) := of_decide_eq_true (by first | (with_reducible assumption) | assumption)
   obtain ⟨ad238, e238, hx238_0⟩ := Kd.at_int HR0.out 0 p238 q238
   cases e238
   have qi238 : (0 < l0.length) = True := eq_true (by omega)
   (try rw [show ((0 : Int)).toNat = 0 from rfl] at hx238_0)
   (try rw [Addr.add_zero'] at hx238_0)
   replace p238 := eq_true p238
   replace q238 := eq_true q238
   go_enter Tryd.func29, Tryd.ntmps29
   go_wp2
   go_ret
   exact ⟨by first | rfl | (simp; done) | (simp [*]; done), by repeat (first | exact Drawn0.refl _ | apply Drawn0.step)⟩
 ·
  rw [if_neg c3] at H
  exact absurd H (by simp)
def spileref19_place.l0 : Nat → List Int → Int → Int → Int → Option (Int)
 | 0, _, _, _, _ => none
 | k + 1, x0, x1, x5, x6 => if x6 < (wrap64 ((x0.length : Int) - 1)) then (if 0 ≤ x6 then (if x6 < (x0.length : Int) then (if (rd x0 x6) ≤ x1 then (spileref19_place.l0 k x0 x1 x6 (wrap64 (x6 + 1))) else (spileref19_place.l0 k x0 x1 x5 (wrap64 (x6 + 1)))) else (none)) else (none)) else (some x5)
def spileref19_place.f (k : Nat) (l0 : List Int) (a1 : Int) : Option (Int) := spileref19_place.l0 k l0 a1 0 0
theorem spileref19_place.mono_l : ∀ k, (∀ y0 y1 y2 y3, LeO (spileref19_place.l0 k y0 y1 y2 y3) (spileref19_place.l0 (k + 1) y0 y1 y2 y3))
 | 0 => fun _ _ _ _ r h => by simp [spileref19_place.l0] at h
 | k + 1 => by
  have ih0 := spileref19_place.mono_l k
  ·
   intro y0 y1 y2 y3
   unfold spileref19_place.l0
   repeat' first
   | (with_reducible exact ih0 _ _ _ _)
   | (with_reducible exact LeO.refl _)
   | (with_reducible exact LeO.none _)
   | (with_reducible refine LeO.ite ?_ ?_)
   | (with_reducible refine LeO.bind ?_ (fun _ => ?_))
   | exact ih0 _ _ _ _
   | exact LeO.none _
   | refine LeO.ite ?_ ?_
   | refine LeO.bind ?_ (fun _ => ?_)
theorem spileref19_place.mono : ∀ a0 a1 k, LeO (spileref19_place.f k a0 a1) (spileref19_place.f (k + 1) a0 a1) := by
 intro a0 a1 k
 have ih0 := spileref19_place.mono_l k
 unfold spileref19_place.f
 repeat' first
   | (with_reducible exact ih0 _ _ _ _)
   | (with_reducible exact LeO.refl _)
   | (with_reducible exact LeO.none _)
   | (with_reducible refine LeO.ite ?_ ?_)
   | (with_reducible refine LeO.bind ?_ (fun _ => ?_))
   | exact ih0 _ _ _ _
   | exact LeO.none _
   | refine LeO.ite ?_ ?_
   | refine LeO.bind ?_ (fun _ => ?_)
set_option maxHeartbeats 8000000 in
set_option maxRecDepth 100000 in
theorem spileref19_place.calls (k : Nat) (A0 : Option Addr) (c0 : Nat) (l0 : List Int) (a1 : Int) (r : Int) (w : World) (hr0 : Kd.C (Kd.int .i64) w A0 l0.length l0) (hc0 : l0.length ≤ c0) (h : spileref19_place.f k l0 a1 = some r) :
  Calls Tryd.prog 54 #[.slice A0 l0.length c0, .int .i64 a1] w fun e w' => e = .returned (.int .i64 r) ∧ Drawn0 w w' := by
 have HR0 := Aside0.mk hr0
 have HC0 := Aside0.mk hc0
 clear hr0 hc0
 have H : (spileref19_place.l0 k l0 a1 0 0) = some r := h
 clear h
 have H' := Aside0.mk H
 clear H
 go_enter Tryd.func54, Tryd.ntmps54
 go_wp2
 go_loopg [5, 6] k (fun kq v5 v6 w' => ∃ (x5_1 : Int) (x6_1 : Int), v5 = .int .i64 x5_1 ∧ v6 = .int .i64 x6_1 ∧ Aside0 (spileref19_place.l0 kq l0 a1 x5_1 x6_1 = some r) ∧ Aside0 (kq ≤ k) ∧ Drawn0 w w')
 case atStart => exact ⟨(0), (0), (by first | rfl | (simp; done) | (simp [*]; done)), (by first | rfl | (simp; done) | (simp [*]; done)), H', ⟨Nat.le_refl _⟩, by repeat (first | exact Drawn0.refl _ | apply Drawn0.step)⟩
 case round =>
  clear H'
  try clear p2
  obtain ⟨x5_1, x6_1, rfl, rfl, HA, HK1, ⟨m1, rfl⟩⟩ := hrel
  cases gk with
  | zero => exact absurd HA.out (by simp [spileref19_place.l0])
  | succ k1 =>
   have H := HA.out
   clear HA
   simp only [spileref19_place.l0] at H
   by_cases c3 : x6_1 < (wrap64 ((l0.length : Int) - 1))
   ·
    rw [if_pos c3] at H
    have c3b0 : decide (x6_1 < (wrap64 ((l0.length : Int) - 1))) = true := decide_eq_true c3
    clear c3
    by_cases c4 : 0 ≤ x6_1
    ·
     rw [if_pos c4] at H
     have c4b0 : decide (0 ≤ x6_1) = true := decide_eq_true c4
     clear c4
     by_cases c5 : x6_1 < (l0.length : Int)
     ·
      rw [if_pos c5] at H
      have c5b0 : decide (x6_1 < (l0.length : Int)) = true := decide_eq_true c5
      clear c5
      by_cases c6 : (rd l0 x6_1) ≤ a1
      ·
       rw [if_pos c6] at H
       have c6b0 : decide ((rd l0 x6_1) ≤ a1) = true := decide_eq_true c6
       clear c6
       have H' := Aside0.mk H
       clear H
       have p240 : 0 ≤ (x6_1 : Int) := of_decide_eq_true (by first | (with_reducible assumption) | assumption)
       have q240 : x6_1 < (l0.length : Int) := of_decide_eq_true (by first | (with_reducible assumption) | assumption)
       obtain ⟨ad240, e240, hx240_0⟩ := Kd.at_int HR0.out x6_1 p240 q240
       cases e240
       replace p240 := eq_true p240
       replace q240 := eq_true q240
       go_wp2
       go_roundg k1
       case measure => have := HK1.out; omega
       case rel => exact ⟨(x6_1), (wrap64 (x6_1 + 1)), (by first | rfl | (simp; done) | (simp [*]; done)), (by first | rfl | (simp; done) | (simp [*]; done)), H', ⟨by have := HK1.out; omega⟩, by repeat (first | exact Drawn0.refl _ | apply Drawn0.step)⟩
      ·
       rw [if_neg c6] at H
       have c6b0 : decide ((rd l0 x6_1) ≤ a1) = false := decide_eq_false c6
       clear c6
       have H' := Aside0.mk H
       clear H
       have p240 : 0 ≤ (x6_1 : Int) := of_decide_eq_true (by first | (with_reducible assumption) | assumption)
       have q240 : x6_1 < (l0.length : Int) := of_decide_eq_true (by first | (with_reducible assumption) | assumption)
       obtain ⟨ad240, e240, hx240_0⟩ := Kd.at_int HR0.out x6_1 p240 q240
       cases e240
       replace p240 := eq_true p240
       replace q240 := eq_true q240
       go_wp2
       go_roundg k1
       case measure => have := HK1.out; omega
       case rel => exact ⟨(x5_1), (wrap64 (x6_1 + 1)), (by first | rfl | (simp; done) | (simp [*]; done)), (by first | rfl | (simp; done) | (simp [*]; done)), H', ⟨by have := HK1.out; omega⟩, by repeat (first | exact Drawn0.refl _ | apply Drawn0.step)⟩
     ·
      rw [if_neg c5] at H
      exact absurd H (by simp)
    ·
     rw [if_neg c4] at H
     exact absurd H (by simp)
   ·
    rw [if_neg c3] at H
    have c3b0 : decide (x6_1 < (wrap64 ((l0.length : Int) - 1))) = false := decide_eq_false c3
    clear c3
    obtain rfl := Option.some.inj H
    go_wp2
    go_ret
    exact ⟨by first | rfl | (simp; done) | (simp [*]; done), by repeat (first | exact Drawn0.refl _ | apply Drawn0.step)⟩
def spileref19_At.f (k : Nat) (l0_0 : List Int) (l0_1 : List Int) (l0_2 : List (List Int)) (a1 : Int) (a2 : Int) : Option (Int) := (spileref19_place.f k l0_0 a1).bind fun t242 => ((spileref19_place.f k l0_1 a2).bind fun t243 => (if 0 ≤ t242 then (if t242 < (l0_0.length : Int) then (if 0 ≤ (wrap64 (t242 + 1)) then (if (wrap64 (t242 + 1)) < (l0_0.length : Int) then (if 0 ≤ t243 then (if t243 < (l0_1.length : Int) then (if 0 ≤ (wrap64 (t243 + 1)) then (if (wrap64 (t243 + 1)) < (l0_1.length : Int) then (if t242 < (l0_2.length : Int) then (if t243 < ((rd_L1 l0_2 t242).length : Int) then (if (wrap64 (t243 + 1)) < ((rd_L1 l0_2 t242).length : Int) then (if (wrap64 (t242 + 1)) < (l0_2.length : Int) then (if t243 < ((rd_L1 l0_2 (wrap64 (t242 + 1))).length : Int) then (if (wrap64 (t243 + 1)) < ((rd_L1 l0_2 (wrap64 (t242 + 1))).length : Int) then (if (wrap64 (2 * (wrap64 ((wrap64 ((rd l0_0 (wrap64 (t242 + 1))) - (rd l0_0 t242))) * (wrap64 ((rd l0_1 (wrap64 (t243 + 1))) - (rd l0_1 t243))))))) = 0 then (none) else (some (wrap64 (Int.tdiv (wrap64 ((wrap64 (2 * (wrap64 ((wrap64 ((wrap64 ((rd l0_0 (wrap64 (t242 + 1))) - a1)) * (wrap64 ((wrap64 ((wrap64 ((rd l0_1 (wrap64 (t243 + 1))) - a2)) * (rd (rd_L1 l0_2 t242) t243))) + (wrap64 ((wrap64 (a2 - (rd l0_1 t243))) * (rd (rd_L1 l0_2 t242) (wrap64 (t243 + 1))))))))) + (wrap64 ((wrap64 (a1 - (rd l0_0 t242))) * (wrap64 ((wrap64 ((wrap64 ((rd l0_1 (wrap64 (t243 + 1))) - a2)) * (rd (rd_L1 l0_2 (wrap64 (t242 + 1))) t243))) + (wrap64 ((wrap64 (a2 - (rd l0_1 t243))) * (rd (rd_L1 l0_2 (wrap64 (t242 + 1))) (wrap64 (t243 + 1))))))))))))) + (wrap64 ((wrap64 ((rd l0_0 (wrap64 (t242 + 1))) - (rd l0_0 t242))) * (wrap64 ((rd l0_1 (wrap64 (t243 + 1))) - (rd l0_1 t243))))))) (wrap64 (2 * (wrap64 ((wrap64 ((rd l0_0 (wrap64 (t242 + 1))) - (rd l0_0 t242))) * (wrap64 ((rd l0_1 (wrap64 (t243 + 1))) - (rd l0_1 t243))))))))))) else (none)) else (none)) else (none)) else (none)) else (none)) else (none)) else (none)) else (none)) else (none)) else (none)) else (none)) else (none)) else (none)) else (none)))
theorem spileref19_At.mono : ∀ a0 a1 a2 a3 a4 k, LeO (spileref19_At.f k a0 a1 a2 a3 a4) (spileref19_At.f (k + 1) a0 a1 a2 a3 a4) := by
 intro a0 a1 a2 a3 a4 k
 unfold spileref19_At.f
 repeat' first
   | (with_reducible exact spileref19_place.mono _ _ _)
   | (with_reducible exact LeO.refl _)
   | (with_reducible exact LeO.none _)
   | (with_reducible refine LeO.ite ?_ ?_)
   | (with_reducible refine LeO.bind ?_ (fun _ => ?_))
   | exact spileref19_place.mono _ _ _
   | exact LeO.none _
   | refine LeO.ite ?_ ?_
   | refine LeO.bind ?_ (fun _ => ?_)
set_option maxHeartbeats 8000000 in
set_option maxRecDepth 100000 in
theorem spileref19_At.calls (k : Nat) (A0_0 : Option Addr) (c0_0 : Nat) (l0_0 : List Int) (A0_1 : Option Addr) (c0_1 : Nat) (l0_1 : List Int) (A0_2 : Option Addr) (c0_2 : Nat) (l0_2 : List (List Int)) (a1 : Int) (a2 : Int) (r : Int) (w : World) (hr0_0 : Kd.C (Kd.int .i64) w A0_0 l0_0.length l0_0) (hc0_0 : l0_0.length ≤ c0_0) (hr0_1 : Kd.C (Kd.int .i64) w A0_1 l0_1.length l0_1) (hc0_1 : l0_1.length ≤ c0_1) (hr0_2 : Kd.C (Kd.slice 3 (Kd.int .i64)) w A0_2 l0_2.length l0_2) (hc0_2 : l0_2.length ≤ c0_2) (h : spileref19_At.f k l0_0 l0_1 l0_2 a1 a2 = some r) :
  Calls Tryd.prog 30 #[.agg #[.slice A0_0 l0_0.length c0_0, .slice A0_1 l0_1.length c0_1, .slice A0_2 l0_2.length c0_2], .int .i64 a1, .int .i64 a2] w fun e w' => e = .returned (.int .i64 r) ∧ Below w.heap.size w w' := by
 have hu25 := Tryd.underlying25
 have HR0_0 := Aside0.mk hr0_0
 have HC0_0 := Aside0.mk hc0_0
 clear hr0_0 hc0_0
 have HR0_1 := Aside0.mk hr0_1
 have HC0_1 := Aside0.mk hc0_1
 clear hr0_1 hc0_1
 have HR0_2 := Aside0.mk hr0_2
 have HC0_2 := Aside0.mk hc0_2
 clear hr0_2 hc0_2
 have HB := Aside0.mk (Below.refl w.heap.size w)
 have H : ((spileref19_place.f k l0_0 a1).bind fun t242 => ((spileref19_place.f k l0_1 a2).bind fun t243 => (if 0 ≤ t242 then (if t242 < (l0_0.length : Int) then (if 0 ≤ (wrap64 (t242 + 1)) then (if (wrap64 (t242 + 1)) < (l0_0.length : Int) then (if 0 ≤ t243 then (if t243 < (l0_1.length : Int) then (if 0 ≤ (wrap64 (t243 + 1)) then (if (wrap64 (t243 + 1)) < (l0_1.length : Int) then (if t242 < (l0_2.length : Int) then (if t243 < ((rd_L1 l0_2 t242).length : Int) then (if (wrap64 (t243 + 1)) < ((rd_L1 l0_2 t242).length : Int) then (if (wrap64 (t242 + 1)) < (l0_2.length : Int) then (if t243 < ((rd_L1 l0_2 (wrap64 (t242 + 1))).length : Int) then (if (wrap64 (t243 + 1)) < ((rd_L1 l0_2 (wrap64 (t242 + 1))).length : Int) then (if (wrap64 (2 * (wrap64 ((wrap64 ((rd l0_0 (wrap64 (t242 + 1))) - (rd l0_0 t242))) * (wrap64 ((rd l0_1 (wrap64 (t243 + 1))) - (rd l0_1 t243))))))) = 0 then (none) else (some (wrap64 (Int.tdiv (wrap64 ((wrap64 (2 * (wrap64 ((wrap64 ((wrap64 ((rd l0_0 (wrap64 (t242 + 1))) - a1)) * (wrap64 ((wrap64 ((wrap64 ((rd l0_1 (wrap64 (t243 + 1))) - a2)) * (rd (rd_L1 l0_2 t242) t243))) + (wrap64 ((wrap64 (a2 - (rd l0_1 t243))) * (rd (rd_L1 l0_2 t242) (wrap64 (t243 + 1))))))))) + (wrap64 ((wrap64 (a1 - (rd l0_0 t242))) * (wrap64 ((wrap64 ((wrap64 ((rd l0_1 (wrap64 (t243 + 1))) - a2)) * (rd (rd_L1 l0_2 (wrap64 (t242 + 1))) t243))) + (wrap64 ((wrap64 (a2 - (rd l0_1 t243))) * (rd (rd_L1 l0_2 (wrap64 (t242 + 1))) (wrap64 (t243 + 1))))))))))))) + (wrap64 ((wrap64 ((rd l0_0 (wrap64 (t242 + 1))) - (rd l0_0 t242))) * (wrap64 ((rd l0_1 (wrap64 (t243 + 1))) - (rd l0_1 t243))))))) (wrap64 (2 * (wrap64 ((wrap64 ((rd l0_0 (wrap64 (t242 + 1))) - (rd l0_0 t242))) * (wrap64 ((rd l0_1 (wrap64 (t243 + 1))) - (rd l0_1 t243))))))))))) else (none)) else (none)) else (none)) else (none)) else (none)) else (none)) else (none)) else (none)) else (none)) else (none)) else (none)) else (none)) else (none)) else (none)))) = some r := h
 clear h
 replace H := Option.bind_eq_some_iff.mp H
 obtain ⟨t242, A40, H⟩ := H
 replace H : ((spileref19_place.f k l0_1 a2).bind fun t243 => (if 0 ≤ t242 then (if t242 < (l0_0.length : Int) then (if 0 ≤ (wrap64 (t242 + 1)) then (if (wrap64 (t242 + 1)) < (l0_0.length : Int) then (if 0 ≤ t243 then (if t243 < (l0_1.length : Int) then (if 0 ≤ (wrap64 (t243 + 1)) then (if (wrap64 (t243 + 1)) < (l0_1.length : Int) then (if t242 < (l0_2.length : Int) then (if t243 < ((rd_L1 l0_2 t242).length : Int) then (if (wrap64 (t243 + 1)) < ((rd_L1 l0_2 t242).length : Int) then (if (wrap64 (t242 + 1)) < (l0_2.length : Int) then (if t243 < ((rd_L1 l0_2 (wrap64 (t242 + 1))).length : Int) then (if (wrap64 (t243 + 1)) < ((rd_L1 l0_2 (wrap64 (t242 + 1))).length : Int) then (if (wrap64 (2 * (wrap64 ((wrap64 ((rd l0_0 (wrap64 (t242 + 1))) - (rd l0_0 t242))) * (wrap64 ((rd l0_1 (wrap64 (t243 + 1))) - (rd l0_1 t243))))))) = 0 then (none) else (some (wrap64 (Int.tdiv (wrap64 ((wrap64 (2 * (wrap64 ((wrap64 ((wrap64 ((rd l0_0 (wrap64 (t242 + 1))) - a1)) * (wrap64 ((wrap64 ((wrap64 ((rd l0_1 (wrap64 (t243 + 1))) - a2)) * (rd (rd_L1 l0_2 t242) t243))) + (wrap64 ((wrap64 (a2 - (rd l0_1 t243))) * (rd (rd_L1 l0_2 t242) (wrap64 (t243 + 1))))))))) + (wrap64 ((wrap64 (a1 - (rd l0_0 t242))) * (wrap64 ((wrap64 ((wrap64 ((rd l0_1 (wrap64 (t243 + 1))) - a2)) * (rd (rd_L1 l0_2 (wrap64 (t242 + 1))) t243))) + (wrap64 ((wrap64 (a2 - (rd l0_1 t243))) * (rd (rd_L1 l0_2 (wrap64 (t242 + 1))) (wrap64 (t243 + 1))))))))))))) + (wrap64 ((wrap64 ((rd l0_0 (wrap64 (t242 + 1))) - (rd l0_0 t242))) * (wrap64 ((rd l0_1 (wrap64 (t243 + 1))) - (rd l0_1 t243))))))) (wrap64 (2 * (wrap64 ((wrap64 ((rd l0_0 (wrap64 (t242 + 1))) - (rd l0_0 t242))) * (wrap64 ((rd l0_1 (wrap64 (t243 + 1))) - (rd l0_1 t243))))))))))) else (none)) else (none)) else (none)) else (none)) else (none)) else (none)) else (none)) else (none)) else (none)) else (none)) else (none)) else (none)) else (none)) else (none))) = some r := H
 have A4 := Aside0.mk A40
 clear A40
 replace H := Option.bind_eq_some_iff.mp H
 obtain ⟨t243, A50, H⟩ := H
 replace H : (if 0 ≤ t242 then (if t242 < (l0_0.length : Int) then (if 0 ≤ (wrap64 (t242 + 1)) then (if (wrap64 (t242 + 1)) < (l0_0.length : Int) then (if 0 ≤ t243 then (if t243 < (l0_1.length : Int) then (if 0 ≤ (wrap64 (t243 + 1)) then (if (wrap64 (t243 + 1)) < (l0_1.length : Int) then (if t242 < (l0_2.length : Int) then (if t243 < ((rd_L1 l0_2 t242).length : Int) then (if (wrap64 (t243 + 1)) < ((rd_L1 l0_2 t242).length : Int) then (if (wrap64 (t242 + 1)) < (l0_2.length : Int) then (if t243 < ((rd_L1 l0_2 (wrap64 (t242 + 1))).length : Int) then (if (wrap64 (t243 + 1)) < ((rd_L1 l0_2 (wrap64 (t242 + 1))).length : Int) then (if (wrap64 (2 * (wrap64 ((wrap64 ((rd l0_0 (wrap64 (t242 + 1))) - (rd l0_0 t242))) * (wrap64 ((rd l0_1 (wrap64 (t243 + 1))) - (rd l0_1 t243))))))) = 0 then (none) else (some (wrap64 (Int.tdiv (wrap64 ((wrap64 (2 * (wrap64 ((wrap64 ((wrap64 ((rd l0_0 (wrap64 (t242 + 1))) - a1)) * (wrap64 ((wrap64 ((wrap64 ((rd l0_1 (wrap64 (t243 + 1))) - a2)) * (rd (rd_L1 l0_2 t242) t243))) + (wrap64 ((wrap64 (a2 - (rd l0_1 t243))) * (rd (rd_L1 l0_2 t242) (wrap64 (t243 + 1))))))))) + (wrap64 ((wrap64 (a1 - (rd l0_0 t242))) * (wrap64 ((wrap64 ((wrap64 ((rd l0_1 (wrap64 (t243 + 1))) - a2)) * (rd (rd_L1 l0_2 (wrap64 (t242 + 1))) t243))) + (wrap64 ((wrap64 (a2 - (rd l0_1 t243))) * (rd (rd_L1 l0_2 (wrap64 (t242 + 1))) (wrap64 (t243 + 1))))))))))))) + (wrap64 ((wrap64 ((rd l0_0 (wrap64 (t242 + 1))) - (rd l0_0 t242))) * (wrap64 ((rd l0_1 (wrap64 (t243 + 1))) - (rd l0_1 t243))))))) (wrap64 (2 * (wrap64 ((wrap64 ((rd l0_0 (wrap64 (t242 + 1))) - (rd l0_0 t242))) * (wrap64 ((rd l0_1 (wrap64 (t243 + 1))) - (rd l0_1 t243))))))))))) else (none)) else (none)) else (none)) else (none)) else (none)) else (none)) else (none)) else (none)) else (none)) else (none)) else (none)) else (none)) else (none)) else (none)) = some r := H
 have A5 := Aside0.mk A50
 clear A50
 by_cases c6 : 0 ≤ t242
 ·
  rw [if_pos c6] at H
  have c6b0 : decide (0 ≤ t242) = true := decide_eq_true c6
  clear c6
  by_cases c7 : t242 < (l0_0.length : Int)
  ·
   rw [if_pos c7] at H
   have c7b0 : decide (t242 < (l0_0.length : Int)) = true := decide_eq_true c7
   clear c7
   obtain ⟨ji8, hji8⟩ : ∃ j_ : Int, (wrap64 (t242 + 1)) = j_ := ⟨_, rfl⟩
   replace H : (if 0 ≤ (ji8) then (if (ji8) < (l0_0.length : Int) then (if 0 ≤ t243 then (if t243 < (l0_1.length : Int) then (if 0 ≤ (wrap64 (t243 + 1)) then (if (wrap64 (t243 + 1)) < (l0_1.length : Int) then (if t242 < (l0_2.length : Int) then (if t243 < ((rd_L1 l0_2 t242).length : Int) then (if (wrap64 (t243 + 1)) < ((rd_L1 l0_2 t242).length : Int) then (if (ji8) < (l0_2.length : Int) then (if t243 < ((rd_L1 l0_2 (ji8)).length : Int) then (if (wrap64 (t243 + 1)) < ((rd_L1 l0_2 (ji8)).length : Int) then (if (wrap64 (2 * (wrap64 ((wrap64 ((rd l0_0 (ji8)) - (rd l0_0 t242))) * (wrap64 ((rd l0_1 (wrap64 (t243 + 1))) - (rd l0_1 t243))))))) = 0 then (none) else (some (wrap64 (Int.tdiv (wrap64 ((wrap64 (2 * (wrap64 ((wrap64 ((wrap64 ((rd l0_0 (ji8)) - a1)) * (wrap64 ((wrap64 ((wrap64 ((rd l0_1 (wrap64 (t243 + 1))) - a2)) * (rd (rd_L1 l0_2 t242) t243))) + (wrap64 ((wrap64 (a2 - (rd l0_1 t243))) * (rd (rd_L1 l0_2 t242) (wrap64 (t243 + 1))))))))) + (wrap64 ((wrap64 (a1 - (rd l0_0 t242))) * (wrap64 ((wrap64 ((wrap64 ((rd l0_1 (wrap64 (t243 + 1))) - a2)) * (rd (rd_L1 l0_2 (ji8)) t243))) + (wrap64 ((wrap64 (a2 - (rd l0_1 t243))) * (rd (rd_L1 l0_2 (ji8)) (wrap64 (t243 + 1))))))))))))) + (wrap64 ((wrap64 ((rd l0_0 (ji8)) - (rd l0_0 t242))) * (wrap64 ((rd l0_1 (wrap64 (t243 + 1))) - (rd l0_1 t243))))))) (wrap64 (2 * (wrap64 ((wrap64 ((rd l0_0 (ji8)) - (rd l0_0 t242))) * (wrap64 ((rd l0_1 (wrap64 (t243 + 1))) - (rd l0_1 t243))))))))))) else (none)) else (none)) else (none)) else (none)) else (none)) else (none)) else (none)) else (none)) else (none)) else (none)) else (none)) else (none)) = some r := by first | (rw [hji8] at H; exact H) | (simp only [hji8] at H ⊢; exact H)
   (try rw [hji8] at A4)
   (try rw [hji8] at A5)
   have hji8w : (IntKind.i64.wrap (t242 + 1)) = ji8 := (i64_w _).trans hji8
   by_cases c9 : 0 ≤ (ji8)
   ·
    rw [if_pos c9] at H
    have c9b0 : decide (0 ≤ (ji8)) = true := decide_eq_true c9
    clear c9
    by_cases c10 : (ji8) < (l0_0.length : Int)
    ·
     rw [if_pos c10] at H
     have c10b0 : decide ((ji8) < (l0_0.length : Int)) = true := decide_eq_true c10
     clear c10
     by_cases c11 : 0 ≤ t243
     ·
      rw [if_pos c11] at H
      have c11b0 : decide (0 ≤ t243) = true := decide_eq_true c11
      clear c11
      by_cases c12 : t243 < (l0_1.length : Int)
      ·
       rw [if_pos c12] at H
       have c12b0 : decide (t243 < (l0_1.length : Int)) = true := decide_eq_true c12
       clear c12
       obtain ⟨ji13, hji13⟩ : ∃ j_ : Int, (wrap64 (t243 + 1)) = j_ := ⟨_, rfl⟩
       replace H : (if 0 ≤ (ji13) then (if (ji13) < (l0_1.length : Int) then (if t242 < (l0_2.length : Int) then (if t243 < ((rd_L1 l0_2 t242).length : Int) then (if (ji13) < ((rd_L1 l0_2 t242).length : Int) then (if (ji8) < (l0_2.length : Int) then (if t243 < ((rd_L1 l0_2 (ji8)).length : Int) then (if (ji13) < ((rd_L1 l0_2 (ji8)).length : Int) then (if (wrap64 (2 * (wrap64 ((wrap64 ((rd l0_0 (ji8)) - (rd l0_0 t242))) * (wrap64 ((rd l0_1 (ji13)) - (rd l0_1 t243))))))) = 0 then (none) else (some (wrap64 (Int.tdiv (wrap64 ((wrap64 (2 * (wrap64 ((wrap64 ((wrap64 ((rd l0_0 (ji8)) - a1)) * (wrap64 ((wrap64 ((wrap64 ((rd l0_1 (ji13)) - a2)) * (rd (rd_L1 l0_2 t242) t243))) + (wrap64 ((wrap64 (a2 - (rd l0_1 t243))) * (rd (rd_L1 l0_2 t242) (ji13)))))))) + (wrap64 ((wrap64 (a1 - (rd l0_0 t242))) * (wrap64 ((wrap64 ((wrap64 ((rd l0_1 (ji13)) - a2)) * (rd (rd_L1 l0_2 (ji8)) t243))) + (wrap64 ((wrap64 (a2 - (rd l0_1 t243))) * (rd (rd_L1 l0_2 (ji8)) (ji13)))))))))))) + (wrap64 ((wrap64 ((rd l0_0 (ji8)) - (rd l0_0 t242))) * (wrap64 ((rd l0_1 (ji13)) - (rd l0_1 t243))))))) (wrap64 (2 * (wrap64 ((wrap64 ((rd l0_0 (ji8)) - (rd l0_0 t242))) * (wrap64 ((rd l0_1 (ji13)) - (rd l0_1 t243))))))))))) else (none)) else (none)) else (none)) else (none)) else (none)) else (none)) else (none)) else (none)) = some r := by first | (rw [hji13] at H; exact H) | (simp only [hji13] at H ⊢; exact H)
       (try rw [hji13] at A4)
       (try rw [hji13] at A5)
       have hji13w : (IntKind.i64.wrap (t243 + 1)) = ji13 := (i64_w _).trans hji13
       by_cases c14 : 0 ≤ (ji13)
       ·
        rw [if_pos c14] at H
        have c14b0 : decide (0 ≤ (ji13)) = true := decide_eq_true c14
        clear c14
        by_cases c15 : (ji13) < (l0_1.length : Int)
        ·
         rw [if_pos c15] at H
         have c15b0 : decide ((ji13) < (l0_1.length : Int)) = true := decide_eq_true c15
         clear c15
         by_cases c16 : t242 < (l0_2.length : Int)
         ·
          rw [if_pos c16] at H
          have c16b0 : decide (t242 < (l0_2.length : Int)) = true := decide_eq_true c16
          clear c16
          by_cases c17 : t243 < ((rd_L1 l0_2 t242).length : Int)
          ·
           rw [if_pos c17] at H
           have c17b0 : decide (t243 < ((rd_L1 l0_2 t242).length : Int)) = true := decide_eq_true c17
           clear c17
           by_cases c18 : (ji13) < ((rd_L1 l0_2 t242).length : Int)
           ·
            rw [if_pos c18] at H
            have c18b0 : decide ((ji13) < ((rd_L1 l0_2 t242).length : Int)) = true := decide_eq_true c18
            clear c18
            by_cases c19 : (ji8) < (l0_2.length : Int)
            ·
             rw [if_pos c19] at H
             have c19b0 : decide ((ji8) < (l0_2.length : Int)) = true := decide_eq_true c19
             clear c19
             by_cases c20 : t243 < ((rd_L1 l0_2 (ji8)).length : Int)
             ·
              rw [if_pos c20] at H
              have c20b0 : decide (t243 < ((rd_L1 l0_2 (ji8)).length : Int)) = true := decide_eq_true c20
              clear c20
              by_cases c21 : (ji13) < ((rd_L1 l0_2 (ji8)).length : Int)
              ·
               rw [if_pos c21] at H
               have c21b0 : decide ((ji13) < ((rd_L1 l0_2 (ji8)).length : Int)) = true := decide_eq_true c21
               clear c21
               by_cases c22 : (wrap64 (2 * (wrap64 ((wrap64 ((rd l0_0 (ji8)) - (rd l0_0 t242))) * (wrap64 ((rd l0_1 (ji13)) - (rd l0_1 t243))))))) = 0
               ·
                rw [if_pos c22] at H
                exact absurd H (by simp)
               ·
                rw [if_neg c22] at H
                have c22b0 : ((wrap64 (2 * (wrap64 ((wrap64 ((rd l0_0 (ji8)) - (rd l0_0 t242))) * (wrap64 ((rd l0_1 (ji13)) - (rd l0_1 t243))))))) == 0) = false := beq_eq_false_iff_ne.mpr c22
                have c22b1 : ((wrap64 (2 * (wrap64 ((wrap64 ((rd l0_0 (ji8)) - (rd l0_0 t242))) * (wrap64 ((rd l0_1 (ji13)) - (rd l0_1 t243))))))) != 0) = true := bne_iff_ne.mpr c22
                obtain rfl := Option.some.inj H
                go_enter Tryd.func30, Tryd.ntmps30
                go_wp2_with (first | ((with_reducible refine gate_dst (N := 3) rfl ?_); refine box_event ?hg (N := 3) ?hd (cs := #[.slice A0_0 l0_0.length c0_0, .slice A0_1 l0_1.length c0_1, .slice A0_2 l0_2.length c0_2]) (t := 25) ?hr ?_; (case hd => rfl); (case hg => rfl); (case hr => first | (go_simp; done) | (go_simp; rfl)); intro gb241 hg w23 hbox hb; have n0_ := Aside0.mk (below_step (by repeat (first | (with_reducible first | exact HB.out | apply below_alloc | apply pw_below_drewN | apply below_drew1) | exact HB.out)) hb); have n1_ := Aside0.mk (hbox); have n2_ := Aside0.mk ((by rw [hg]; exact (below_size (by repeat (first | (with_reducible first | exact HB.out | apply below_alloc | apply pw_below_drewN | apply below_drew1) | exact HB.out))) : w.heap.size ≤ gb241)); have n3_ := Aside0.mk ((by rw [hg]; exact (below_size (by repeat (first | (with_reducible first | exact HB.out | apply below_alloc | apply pw_below_drewN | apply below_drew1) | exact HB.out))) : w.heap.size ≤ gb241)); clear HB; have HB := n0_; have BK241 := n1_; have GW241 := n2_; have GE241 := n3_; clear n0_ n1_ n2_ n3_; clear hb hbox hg; have hcz24_0 : w23.cell? ⟨gb241, 0, none⟩ = some (.slice A0_0 l0_0.length c0_0) := (blk_cell BK241.out 0).trans rfl; have hcz24_1 : w23.cell? ⟨gb241, 1, none⟩ = some (.slice A0_1 l0_1.length c0_1) := (blk_cell BK241.out 1).trans rfl; have hcz24_2 : w23.cell? ⟨gb241, 2, none⟩ = some (.slice A0_2 l0_2.length c0_2) := (blk_cell BK241.out 2).trans rfl; have hfz24_0 := blk_frozen BK241.out 0; have hfz24_1 := blk_frozen BK241.out 1; have hfz24_2 := blk_frozen BK241.out 2) | (go_at_call 54; (with_reducible refine (spileref19_place.calls k _ _ l0_0 a1 t242 _ ?side1 ?side2 A4.out).mono ?_); (case side1 => repeat (first | exact (Kd.C_below HR0_0.out HB.out) | (with_reducible refine Kd.C_alloc ?_ _) | (with_reducible refine Kd.C_drewN ?_ _) | (with_reducible refine Kd.C_drew ?_))); (case side2 => exact HC0_0.out); rintro e w' ⟨rfl, ⟨nd, rfl⟩⟩; (try first | exact ⟨rfl, _, World.drewN_drewN _ _ _⟩ | exact ⟨rfl, _, Eq.trans (World.drewN_drewN _ _ _) (congrArg (World.drewN _) (Nat.add_assoc _ _ _))⟩)) | (go_at_call 54; (with_reducible refine (spileref19_place.calls k _ _ l0_1 a2 t243 _ ?side1 ?side2 A5.out).mono ?_); (case side1 => repeat (first | exact (Kd.C_below HR0_1.out (by repeat (first | (with_reducible first | exact HB.out | apply below_alloc | apply pw_below_drewN | apply below_drew1 | refine below_set ?_ GE241.out) | exact HB.out))) | (with_reducible refine Kd.C_alloc ?_ _) | (with_reducible refine Kd.C_drewN ?_ _) | (with_reducible refine Kd.C_drew ?_))); (case side2 => exact HC0_1.out); rintro e w' ⟨rfl, ⟨nd, rfl⟩⟩; (try first | exact ⟨rfl, _, World.drewN_drewN _ _ _⟩ | exact ⟨rfl, _, Eq.trans (World.drewN_drewN _ _ _) (congrArg (World.drewN _) (Nat.add_assoc _ _ _))⟩); have p244 : 0 ≤ (t242 : Int) := of_decide_eq_true (by first | (with_reducible assumption) | assumption); have q244 : t242 < (l0_0.length : Int) := of_decide_eq_true (by first | (with_reducible assumption) | assumption); obtain ⟨ad244, e244, hx244_0⟩ := Kd.at_int HR0_0.out t242 p244 q244; cases e244; replace hx244_0 := (HB.out.cell (World.block_lt_of_cell? w _ hx244_0)).trans hx244_0; replace p244 := eq_true p244; replace q244 := eq_true q244; have p245 : 0 ≤ ((ji8) : Int) := of_decide_eq_true (by first | (with_reducible assumption) | assumption); have q245 : (ji8) < (l0_0.length : Int) := of_decide_eq_true (by first | (with_reducible assumption) | assumption); obtain ⟨ad245, e245, hx245_0⟩ := Kd.at_int HR0_0.out (ji8) p245 q245; obtain rfl : ad244 = ad245 := (by injection e245); replace hx245_0 := (HB.out.cell (World.block_lt_of_cell? w _ hx245_0)).trans hx245_0; replace p245 := eq_true p245; replace q245 := eq_true q245; have p246 : 0 ≤ (t243 : Int) := of_decide_eq_true (by first | (with_reducible assumption) | assumption); have q246 : t243 < (l0_1.length : Int) := of_decide_eq_true (by first | (with_reducible assumption) | assumption); obtain ⟨ad246, e246, hx246_0⟩ := Kd.at_int HR0_1.out t243 p246 q246; cases e246; replace hx246_0 := (HB.out.cell (World.block_lt_of_cell? w _ hx246_0)).trans hx246_0; replace p246 := eq_true p246; replace q246 := eq_true q246; have p247 : 0 ≤ ((ji13) : Int) := of_decide_eq_true (by first | (with_reducible assumption) | assumption); have q247 : (ji13) < (l0_1.length : Int) := of_decide_eq_true (by first | (with_reducible assumption) | assumption); obtain ⟨ad247, e247, hx247_0⟩ := Kd.at_int HR0_1.out (ji13) p247 q247; obtain rfl : ad246 = ad247 := (by injection e247); replace hx247_0 := (HB.out.cell (World.block_lt_of_cell? w _ hx247_0)).trans hx247_0; replace p247 := eq_true p247; replace q247 := eq_true q247; have p248 : 0 ≤ (t242 : Int) := of_decide_eq_true (by first | (with_reducible assumption) | assumption); have q248 : t242 < (l0_2.length : Int) := of_decide_eq_true (by first | (with_reducible assumption) | assumption); obtain ⟨ad248, A248_0, c248_0, e248, hx248_0, hl248_0, hi248_0⟩ := at_L1 HR0_2.out t242 p248 q248; cases e248; replace hx248_0 := (HB.out.cell (World.block_lt_of_cell? w _ hx248_0)).trans hx248_0; have HR248_0 := Aside0.mk hi248_0; have HC248_0 := Aside0.mk hl248_0; clear hi248_0 hl248_0; replace p248 := eq_true p248; replace q248 := eq_true q248; have p249 : 0 ≤ (t243 : Int) := of_decide_eq_true (by first | (with_reducible assumption) | assumption); have q249 : t243 < ((rd_L1 l0_2 t242).length : Int) := of_decide_eq_true (by first | (with_reducible assumption) | assumption); obtain ⟨ad249, e249, hx249_0⟩ := Kd.at_int HR248_0.out t243 p249 q249; cases e249; replace hx249_0 := (HB.out.cell (World.block_lt_of_cell? w _ hx249_0)).trans hx249_0; replace p249 := eq_true p249; replace q249 := eq_true q249; have p250 : 0 ≤ (t242 : Int) := of_decide_eq_true (by first | (with_reducible assumption) | assumption); have q250 : t242 < (l0_2.length : Int) := of_decide_eq_true (by first | (with_reducible assumption) | assumption); obtain ⟨ad250, A250_0, c250_0, e250, hx250_0, hl250_0, hi250_0⟩ := at_L1 HR0_2.out t242 p250 q250; obtain rfl : ad248 = ad250 := (by injection e250); replace hx250_0 := (HB.out.cell (World.block_lt_of_cell? w _ hx250_0)).trans hx250_0; have HR250_0 := Aside0.mk hi250_0; have HC250_0 := Aside0.mk hl250_0; clear hi250_0 hl250_0; replace p250 := eq_true p250; replace q250 := eq_true q250; have ea_ := Option.some.inj (hx248_0.symm.trans hx250_0); injection ea_ with ea_ en_ ec_; subst ea_; subst ec_; clear en_; have p251 : 0 ≤ ((ji13) : Int) := of_decide_eq_true (by first | (with_reducible assumption) | assumption); have q251 : (ji13) < ((rd_L1 l0_2 t242).length : Int) := of_decide_eq_true (by first | (with_reducible assumption) | assumption); obtain ⟨ad251, e251, hx251_0⟩ := Kd.at_int HR250_0.out (ji13) p251 q251; obtain rfl : ad249 = ad251 := (by injection e251); replace hx251_0 := (HB.out.cell (World.block_lt_of_cell? w _ hx251_0)).trans hx251_0; replace p251 := eq_true p251; replace q251 := eq_true q251; have p252 : 0 ≤ ((ji8) : Int) := of_decide_eq_true (by first | (with_reducible assumption) | assumption); have q252 : (ji8) < (l0_2.length : Int) := of_decide_eq_true (by first | (with_reducible assumption) | assumption); obtain ⟨ad252, A252_0, c252_0, e252, hx252_0, hl252_0, hi252_0⟩ := at_L1 HR0_2.out (ji8) p252 q252; obtain rfl : ad248 = ad252 := (by injection e252); replace hx252_0 := (HB.out.cell (World.block_lt_of_cell? w _ hx252_0)).trans hx252_0; have HR252_0 := Aside0.mk hi252_0; have HC252_0 := Aside0.mk hl252_0; clear hi252_0 hl252_0; replace p252 := eq_true p252; replace q252 := eq_true q252; have p253 : 0 ≤ (t243 : Int) := of_decide_eq_true (by first | (with_reducible assumption) | assumption); have q253 : t243 < ((rd_L1 l0_2 (ji8)).length : Int) := of_decide_eq_true (by first | (with_reducible assumption) | assumption); obtain ⟨ad253, e253, hx253_0⟩ := Kd.at_int HR252_0.out t243 p253 q253; cases e253; replace hx253_0 := (HB.out.cell (World.block_lt_of_cell? w _ hx253_0)).trans hx253_0; replace p253 := eq_true p253; replace q253 := eq_true q253; have p254 : 0 ≤ ((ji8) : Int) := of_decide_eq_true (by first | (with_reducible assumption) | assumption); have q254 : (ji8) < (l0_2.length : Int) := of_decide_eq_true (by first | (with_reducible assumption) | assumption); obtain ⟨ad254, A254_0, c254_0, e254, hx254_0, hl254_0, hi254_0⟩ := at_L1 HR0_2.out (ji8) p254 q254; obtain rfl : ad248 = ad254 := (by injection e254); replace hx254_0 := (HB.out.cell (World.block_lt_of_cell? w _ hx254_0)).trans hx254_0; have HR254_0 := Aside0.mk hi254_0; have HC254_0 := Aside0.mk hl254_0; clear hi254_0 hl254_0; replace p254 := eq_true p254; replace q254 := eq_true q254; have ea_ := Option.some.inj (hx252_0.symm.trans hx254_0); injection ea_ with ea_ en_ ec_; subst ea_; subst ec_; clear en_; have p255 : 0 ≤ ((ji13) : Int) := of_decide_eq_true (by first | (with_reducible assumption) | assumption); have q255 : (ji13) < ((rd_L1 l0_2 (ji8)).length : Int) := of_decide_eq_true (by first | (with_reducible assumption) | assumption); obtain ⟨ad255, e255, hx255_0⟩ := Kd.at_int HR254_0.out (ji13) p255 q255; obtain rfl : ad253 = ad255 := (by injection e255); replace hx255_0 := (HB.out.cell (World.block_lt_of_cell? w _ hx255_0)).trans hx255_0; replace p255 := eq_true p255; replace q255 := eq_true q255))
                repeat (go_quiet (first | ((with_reducible refine gate_dst (N := 3) rfl ?_); refine box_event ?hg (N := 3) ?hd (cs := #[.slice A0_0 l0_0.length c0_0, .slice A0_1 l0_1.length c0_1, .slice A0_2 l0_2.length c0_2]) (t := 25) ?hr ?_; (case hd => rfl); (case hg => rfl); (case hr => first | (go_simp; done) | (go_simp; rfl)); intro gb241 hg w23 hbox hb; have n0_ := Aside0.mk (below_step (by repeat (first | (with_reducible first | exact HB.out | apply below_alloc | apply pw_below_drewN | apply below_drew1) | exact HB.out)) hb); have n1_ := Aside0.mk (hbox); have n2_ := Aside0.mk ((by rw [hg]; exact (below_size (by repeat (first | (with_reducible first | exact HB.out | apply below_alloc | apply pw_below_drewN | apply below_drew1) | exact HB.out))) : w.heap.size ≤ gb241)); have n3_ := Aside0.mk ((by rw [hg]; exact (below_size (by repeat (first | (with_reducible first | exact HB.out | apply below_alloc | apply pw_below_drewN | apply below_drew1) | exact HB.out))) : w.heap.size ≤ gb241)); clear HB; have HB := n0_; have BK241 := n1_; have GW241 := n2_; have GE241 := n3_; clear n0_ n1_ n2_ n3_; clear hb hbox hg; have hcz24_0 : w23.cell? ⟨gb241, 0, none⟩ = some (.slice A0_0 l0_0.length c0_0) := (blk_cell BK241.out 0).trans rfl; have hcz24_1 : w23.cell? ⟨gb241, 1, none⟩ = some (.slice A0_1 l0_1.length c0_1) := (blk_cell BK241.out 1).trans rfl; have hcz24_2 : w23.cell? ⟨gb241, 2, none⟩ = some (.slice A0_2 l0_2.length c0_2) := (blk_cell BK241.out 2).trans rfl; have hfz24_0 := blk_frozen BK241.out 0; have hfz24_1 := blk_frozen BK241.out 1; have hfz24_2 := blk_frozen BK241.out 2) | (go_at_call 54; (with_reducible refine (spileref19_place.calls k _ _ l0_0 a1 t242 _ ?side1 ?side2 A4.out).mono ?_); (case side1 => repeat (first | exact (Kd.C_below HR0_0.out HB.out) | (with_reducible refine Kd.C_alloc ?_ _) | (with_reducible refine Kd.C_drewN ?_ _) | (with_reducible refine Kd.C_drew ?_))); (case side2 => exact HC0_0.out); rintro e w' ⟨rfl, ⟨nd, rfl⟩⟩; (try first | exact ⟨rfl, _, World.drewN_drewN _ _ _⟩ | exact ⟨rfl, _, Eq.trans (World.drewN_drewN _ _ _) (congrArg (World.drewN _) (Nat.add_assoc _ _ _))⟩)) | (go_at_call 54; (with_reducible refine (spileref19_place.calls k _ _ l0_1 a2 t243 _ ?side1 ?side2 A5.out).mono ?_); (case side1 => repeat (first | exact (Kd.C_below HR0_1.out (by repeat (first | (with_reducible first | exact HB.out | apply below_alloc | apply pw_below_drewN | apply below_drew1 | refine below_set ?_ GE241.out) | exact HB.out))) | (with_reducible refine Kd.C_alloc ?_ _) | (with_reducible refine Kd.C_drewN ?_ _) | (with_reducible refine Kd.C_drew ?_))); (case side2 => exact HC0_1.out); rintro e w' ⟨rfl, ⟨nd, rfl⟩⟩; (try first | exact ⟨rfl, _, World.drewN_drewN _ _ _⟩ | exact ⟨rfl, _, Eq.trans (World.drewN_drewN _ _ _) (congrArg (World.drewN _) (Nat.add_assoc _ _ _))⟩); have p244 : 0 ≤ (t242 : Int) := of_decide_eq_true (by first | (with_reducible assumption) | assumption); have q244 : t242 < (l0_0.length : Int) := of_decide_eq_true (by first | (with_reducible assumption) | assumption); obtain ⟨ad244, e244, hx244_0⟩ := Kd.at_int HR0_0.out t242 p244 q244; cases e244; replace hx244_0 := (HB.out.cell (World.block_lt_of_cell? w _ hx244_0)).trans hx244_0; replace p244 := eq_true p244; replace q244 := eq_true q244; have p245 : 0 ≤ ((ji8) : Int) := of_decide_eq_true (by first | (with_reducible assumption) | assumption); have q245 : (ji8) < (l0_0.length : Int) := of_decide_eq_true (by first | (with_reducible assumption) | assumption); obtain ⟨ad245, e245, hx245_0⟩ := Kd.at_int HR0_0.out (ji8) p245 q245; obtain rfl : ad244 = ad245 := (by injection e245); replace hx245_0 := (HB.out.cell (World.block_lt_of_cell? w _ hx245_0)).trans hx245_0; replace p245 := eq_true p245; replace q245 := eq_true q245; have p246 : 0 ≤ (t243 : Int) := of_decide_eq_true (by first | (with_reducible assumption) | assumption); have q246 : t243 < (l0_1.length : Int) := of_decide_eq_true (by first | (with_reducible assumption) | assumption); obtain ⟨ad246, e246, hx246_0⟩ := Kd.at_int HR0_1.out t243 p246 q246; cases e246; replace hx246_0 := (HB.out.cell (World.block_lt_of_cell? w _ hx246_0)).trans hx246_0; replace p246 := eq_true p246; replace q246 := eq_true q246; have p247 : 0 ≤ ((ji13) : Int) := of_decide_eq_true (by first | (with_reducible assumption) | assumption); have q247 : (ji13) < (l0_1.length : Int) := of_decide_eq_true (by first | (with_reducible assumption) | assumption); obtain ⟨ad247, e247, hx247_0⟩ := Kd.at_int HR0_1.out (ji13) p247 q247; obtain rfl : ad246 = ad247 := (by injection e247); replace hx247_0 := (HB.out.cell (World.block_lt_of_cell? w _ hx247_0)).trans hx247_0; replace p247 := eq_true p247; replace q247 := eq_true q247; have p248 : 0 ≤ (t242 : Int) := of_decide_eq_true (by first | (with_reducible assumption) | assumption); have q248 : t242 < (l0_2.length : Int) := of_decide_eq_true (by first | (with_reducible assumption) | assumption); obtain ⟨ad248, A248_0, c248_0, e248, hx248_0, hl248_0, hi248_0⟩ := at_L1 HR0_2.out t242 p248 q248; cases e248; replace hx248_0 := (HB.out.cell (World.block_lt_of_cell? w _ hx248_0)).trans hx248_0; have HR248_0 := Aside0.mk hi248_0; have HC248_0 := Aside0.mk hl248_0; clear hi248_0 hl248_0; replace p248 := eq_true p248; replace q248 := eq_true q248; have p249 : 0 ≤ (t243 : Int) := of_decide_eq_true (by first | (with_reducible assumption) | assumption); have q249 : t243 < ((rd_L1 l0_2 t242).length : Int) := of_decide_eq_true (by first | (with_reducible assumption) | assumption); obtain ⟨ad249, e249, hx249_0⟩ := Kd.at_int HR248_0.out t243 p249 q249; cases e249; replace hx249_0 := (HB.out.cell (World.block_lt_of_cell? w _ hx249_0)).trans hx249_0; replace p249 := eq_true p249; replace q249 := eq_true q249; have p250 : 0 ≤ (t242 : Int) := of_decide_eq_true (by first | (with_reducible assumption) | assumption); have q250 : t242 < (l0_2.length : Int) := of_decide_eq_true (by first | (with_reducible assumption) | assumption); obtain ⟨ad250, A250_0, c250_0, e250, hx250_0, hl250_0, hi250_0⟩ := at_L1 HR0_2.out t242 p250 q250; obtain rfl : ad248 = ad250 := (by injection e250); replace hx250_0 := (HB.out.cell (World.block_lt_of_cell? w _ hx250_0)).trans hx250_0; have HR250_0 := Aside0.mk hi250_0; have HC250_0 := Aside0.mk hl250_0; clear hi250_0 hl250_0; replace p250 := eq_true p250; replace q250 := eq_true q250; have ea_ := Option.some.inj (hx248_0.symm.trans hx250_0); injection ea_ with ea_ en_ ec_; subst ea_; subst ec_; clear en_; have p251 : 0 ≤ ((ji13) : Int) := of_decide_eq_true (by first | (with_reducible assumption) | assumption); have q251 : (ji13) < ((rd_L1 l0_2 t242).length : Int) := of_decide_eq_true (by first | (with_reducible assumption) | assumption); obtain ⟨ad251, e251, hx251_0⟩ := Kd.at_int HR250_0.out (ji13) p251 q251; obtain rfl : ad249 = ad251 := (by injection e251); replace hx251_0 := (HB.out.cell (World.block_lt_of_cell? w _ hx251_0)).trans hx251_0; replace p251 := eq_true p251; replace q251 := eq_true q251; have p252 : 0 ≤ ((ji8) : Int) := of_decide_eq_true (by first | (with_reducible assumption) | assumption); have q252 : (ji8) < (l0_2.length : Int) := of_decide_eq_true (by first | (with_reducible assumption) | assumption); obtain ⟨ad252, A252_0, c252_0, e252, hx252_0, hl252_0, hi252_0⟩ := at_L1 HR0_2.out (ji8) p252 q252; obtain rfl : ad248 = ad252 := (by injection e252); replace hx252_0 := (HB.out.cell (World.block_lt_of_cell? w _ hx252_0)).trans hx252_0; have HR252_0 := Aside0.mk hi252_0; have HC252_0 := Aside0.mk hl252_0; clear hi252_0 hl252_0; replace p252 := eq_true p252; replace q252 := eq_true q252; have p253 : 0 ≤ (t243 : Int) := of_decide_eq_true (by first | (with_reducible assumption) | assumption); have q253 : t243 < ((rd_L1 l0_2 (ji8)).length : Int) := of_decide_eq_true (by first | (with_reducible assumption) | assumption); obtain ⟨ad253, e253, hx253_0⟩ := Kd.at_int HR252_0.out t243 p253 q253; cases e253; replace hx253_0 := (HB.out.cell (World.block_lt_of_cell? w _ hx253_0)).trans hx253_0; replace p253 := eq_true p253; replace q253 := eq_true q253; have p254 : 0 ≤ ((ji8) : Int) := of_decide_eq_true (by first | (with_reducible assumption) | assumption); have q254 : (ji8) < (l0_2.length : Int) := of_decide_eq_true (by first | (with_reducible assumption) | assumption); obtain ⟨ad254, A254_0, c254_0, e254, hx254_0, hl254_0, hi254_0⟩ := at_L1 HR0_2.out (ji8) p254 q254; obtain rfl : ad248 = ad254 := (by injection e254); replace hx254_0 := (HB.out.cell (World.block_lt_of_cell? w _ hx254_0)).trans hx254_0; have HR254_0 := Aside0.mk hi254_0; have HC254_0 := Aside0.mk hl254_0; clear hi254_0 hl254_0; replace p254 := eq_true p254; replace q254 := eq_true q254; have ea_ := Option.some.inj (hx252_0.symm.trans hx254_0); injection ea_ with ea_ en_ ec_; subst ea_; subst ec_; clear en_; have p255 : 0 ≤ ((ji13) : Int) := of_decide_eq_true (by first | (with_reducible assumption) | assumption); have q255 : (ji13) < ((rd_L1 l0_2 (ji8)).length : Int) := of_decide_eq_true (by first | (with_reducible assumption) | assumption); obtain ⟨ad255, e255, hx255_0⟩ := Kd.at_int HR254_0.out (ji13) p255 q255; obtain rfl : ad253 = ad255 := (by injection e255); replace hx255_0 := (HB.out.cell (World.block_lt_of_cell? w _ hx255_0)).trans hx255_0; replace p255 := eq_true p255; replace q255 := eq_true q255)); try go_wp2_with (first | ((with_reducible refine gate_dst (N := 3) rfl ?_); refine box_event ?hg (N := 3) ?hd (cs := #[.slice A0_0 l0_0.length c0_0, .slice A0_1 l0_1.length c0_1, .slice A0_2 l0_2.length c0_2]) (t := 25) ?hr ?_; (case hd => rfl); (case hg => rfl); (case hr => first | (go_simp; done) | (go_simp; rfl)); intro gb241 hg w23 hbox hb; have n0_ := Aside0.mk (below_step (by repeat (first | (with_reducible first | exact HB.out | apply below_alloc | apply pw_below_drewN | apply below_drew1) | exact HB.out)) hb); have n1_ := Aside0.mk (hbox); have n2_ := Aside0.mk ((by rw [hg]; exact (below_size (by repeat (first | (with_reducible first | exact HB.out | apply below_alloc | apply pw_below_drewN | apply below_drew1) | exact HB.out))) : w.heap.size ≤ gb241)); have n3_ := Aside0.mk ((by rw [hg]; exact (below_size (by repeat (first | (with_reducible first | exact HB.out | apply below_alloc | apply pw_below_drewN | apply below_drew1) | exact HB.out))) : w.heap.size ≤ gb241)); clear HB; have HB := n0_; have BK241 := n1_; have GW241 := n2_; have GE241 := n3_; clear n0_ n1_ n2_ n3_; clear hb hbox hg; have hcz24_0 : w23.cell? ⟨gb241, 0, none⟩ = some (.slice A0_0 l0_0.length c0_0) := (blk_cell BK241.out 0).trans rfl; have hcz24_1 : w23.cell? ⟨gb241, 1, none⟩ = some (.slice A0_1 l0_1.length c0_1) := (blk_cell BK241.out 1).trans rfl; have hcz24_2 : w23.cell? ⟨gb241, 2, none⟩ = some (.slice A0_2 l0_2.length c0_2) := (blk_cell BK241.out 2).trans rfl; have hfz24_0 := blk_frozen BK241.out 0; have hfz24_1 := blk_frozen BK241.out 1; have hfz24_2 := blk_frozen BK241.out 2) | (go_at_call 54; (with_reducible refine (spileref19_place.calls k _ _ l0_0 a1 t242 _ ?side1 ?side2 A4.out).mono ?_); (case side1 => repeat (first | exact (Kd.C_below HR0_0.out HB.out) | (with_reducible refine Kd.C_alloc ?_ _) | (with_reducible refine Kd.C_drewN ?_ _) | (with_reducible refine Kd.C_drew ?_))); (case side2 => exact HC0_0.out); rintro e w' ⟨rfl, ⟨nd, rfl⟩⟩; (try first | exact ⟨rfl, _, World.drewN_drewN _ _ _⟩ | exact ⟨rfl, _, Eq.trans (World.drewN_drewN _ _ _) (congrArg (World.drewN _) (Nat.add_assoc _ _ _))⟩)) | (go_at_call 54; (with_reducible refine (spileref19_place.calls k _ _ l0_1 a2 t243 _ ?side1 ?side2 A5.out).mono ?_); (case side1 => repeat (first | exact (Kd.C_below HR0_1.out (by repeat (first | (with_reducible first | exact HB.out | apply below_alloc | apply pw_below_drewN | apply below_drew1 | refine below_set ?_ GE241.out) | exact HB.out))) | (with_reducible refine Kd.C_alloc ?_ _) | (with_reducible refine Kd.C_drewN ?_ _) | (with_reducible refine Kd.C_drew ?_))); (case side2 => exact HC0_1.out); rintro e w' ⟨rfl, ⟨nd, rfl⟩⟩; (try first | exact ⟨rfl, _, World.drewN_drewN _ _ _⟩ | exact ⟨rfl, _, Eq.trans (World.drewN_drewN _ _ _) (congrArg (World.drewN _) (Nat.add_assoc _ _ _))⟩); have p244 : 0 ≤ (t242 : Int) := of_decide_eq_true (by first | (with_reducible assumption) | assumption); have q244 : t242 < (l0_0.length : Int) := of_decide_eq_true (by first | (with_reducible assumption) | assumption); obtain ⟨ad244, e244, hx244_0⟩ := Kd.at_int HR0_0.out t242 p244 q244; cases e244; replace hx244_0 := (HB.out.cell (World.block_lt_of_cell? w _ hx244_0)).trans hx244_0; replace p244 := eq_true p244; replace q244 := eq_true q244; have p245 : 0 ≤ ((ji8) : Int) := of_decide_eq_true (by first | (with_reducible assumption) | assumption); have q245 : (ji8) < (l0_0.length : Int) := of_decide_eq_true (by first | (with_reducible assumption) | assumption); obtain ⟨ad245, e245, hx245_0⟩ := Kd.at_int HR0_0.out (ji8) p245 q245; obtain rfl : ad244 = ad245 := (by injection e245); replace hx245_0 := (HB.out.cell (World.block_lt_of_cell? w _ hx245_0)).trans hx245_0; replace p245 := eq_true p245; replace q245 := eq_true q245; have p246 : 0 ≤ (t243 : Int) := of_decide_eq_true (by first | (with_reducible assumption) | assumption); have q246 : t243 < (l0_1.length : Int) := of_decide_eq_true (by first | (with_reducible assumption) | assumption); obtain ⟨ad246, e246, hx246_0⟩ := Kd.at_int HR0_1.out t243 p246 q246; cases e246; replace hx246_0 := (HB.out.cell (World.block_lt_of_cell? w _ hx246_0)).trans hx246_0; replace p246 := eq_true p246; replace q246 := eq_true q246; have p247 : 0 ≤ ((ji13) : Int) := of_decide_eq_true (by first | (with_reducible assumption) | assumption); have q247 : (ji13) < (l0_1.length : Int) := of_decide_eq_true (by first | (with_reducible assumption) | assumption); obtain ⟨ad247, e247, hx247_0⟩ := Kd.at_int HR0_1.out (ji13) p247 q247; obtain rfl : ad246 = ad247 := (by injection e247); replace hx247_0 := (HB.out.cell (World.block_lt_of_cell? w _ hx247_0)).trans hx247_0; replace p247 := eq_true p247; replace q247 := eq_true q247; have p248 : 0 ≤ (t242 : Int) := of_decide_eq_true (by first | (with_reducible assumption) | assumption); have q248 : t242 < (l0_2.length : Int) := of_decide_eq_true (by first | (with_reducible assumption) | assumption); obtain ⟨ad248, A248_0, c248_0, e248, hx248_0, hl248_0, hi248_0⟩ := at_L1 HR0_2.out t242 p248 q248; cases e248; replace hx248_0 := (HB.out.cell (World.block_lt_of_cell? w _ hx248_0)).trans hx248_0; have HR248_0 := Aside0.mk hi248_0; have HC248_0 := Aside0.mk hl248_0; clear hi248_0 hl248_0; replace p248 := eq_true p248; replace q248 := eq_true q248; have p249 : 0 ≤ (t243 : Int) := of_decide_eq_true (by first | (with_reducible assumption) | assumption); have q249 : t243 < ((rd_L1 l0_2 t242).length : Int) := of_decide_eq_true (by first | (with_reducible assumption) | assumption); obtain ⟨ad249, e249, hx249_0⟩ := Kd.at_int HR248_0.out t243 p249 q249; cases e249; replace hx249_0 := (HB.out.cell (World.block_lt_of_cell? w _ hx249_0)).trans hx249_0; replace p249 := eq_true p249; replace q249 := eq_true q249; have p250 : 0 ≤ (t242 : Int) := of_decide_eq_true (by first | (with_reducible assumption) | assumption); have q250 : t242 < (l0_2.length : Int) := of_decide_eq_true (by first | (with_reducible assumption) | assumption); obtain ⟨ad250, A250_0, c250_0, e250, hx250_0, hl250_0, hi250_0⟩ := at_L1 HR0_2.out t242 p250 q250; obtain rfl : ad248 = ad250 := (by injection e250); replace hx250_0 := (HB.out.cell (World.block_lt_of_cell? w _ hx250_0)).trans hx250_0; have HR250_0 := Aside0.mk hi250_0; have HC250_0 := Aside0.mk hl250_0; clear hi250_0 hl250_0; replace p250 := eq_true p250; replace q250 := eq_true q250; have ea_ := Option.some.inj (hx248_0.symm.trans hx250_0); injection ea_ with ea_ en_ ec_; subst ea_; subst ec_; clear en_; have p251 : 0 ≤ ((ji13) : Int) := of_decide_eq_true (by first | (with_reducible assumption) | assumption); have q251 : (ji13) < ((rd_L1 l0_2 t242).length : Int) := of_decide_eq_true (by first | (with_reducible assumption) | assumption); obtain ⟨ad251, e251, hx251_0⟩ := Kd.at_int HR250_0.out (ji13) p251 q251; obtain rfl : ad249 = ad251 := (by injection e251); replace hx251_0 := (HB.out.cell (World.block_lt_of_cell? w _ hx251_0)).trans hx251_0; replace p251 := eq_true p251; replace q251 := eq_true q251; have p252 : 0 ≤ ((ji8) : Int) := of_decide_eq_true (by first | (with_reducible assumption) | assumption); have q252 : (ji8) < (l0_2.length : Int) := of_decide_eq_true (by first | (with_reducible assumption) | assumption); obtain ⟨ad252, A252_0, c252_0, e252, hx252_0, hl252_0, hi252_0⟩ := at_L1 HR0_2.out (ji8) p252 q252; obtain rfl : ad248 = ad252 := (by injection e252); replace hx252_0 := (HB.out.cell (World.block_lt_of_cell? w _ hx252_0)).trans hx252_0; have HR252_0 := Aside0.mk hi252_0; have HC252_0 := Aside0.mk hl252_0; clear hi252_0 hl252_0; replace p252 := eq_true p252; replace q252 := eq_true q252; have p253 : 0 ≤ (t243 : Int) := of_decide_eq_true (by first | (with_reducible assumption) | assumption); have q253 : t243 < ((rd_L1 l0_2 (ji8)).length : Int) := of_decide_eq_true (by first | (with_reducible assumption) | assumption); obtain ⟨ad253, e253, hx253_0⟩ := Kd.at_int HR252_0.out t243 p253 q253; cases e253; replace hx253_0 := (HB.out.cell (World.block_lt_of_cell? w _ hx253_0)).trans hx253_0; replace p253 := eq_true p253; replace q253 := eq_true q253; have p254 : 0 ≤ ((ji8) : Int) := of_decide_eq_true (by first | (with_reducible assumption) | assumption); have q254 : (ji8) < (l0_2.length : Int) := of_decide_eq_true (by first | (with_reducible assumption) | assumption); obtain ⟨ad254, A254_0, c254_0, e254, hx254_0, hl254_0, hi254_0⟩ := at_L1 HR0_2.out (ji8) p254 q254; obtain rfl : ad248 = ad254 := (by injection e254); replace hx254_0 := (HB.out.cell (World.block_lt_of_cell? w _ hx254_0)).trans hx254_0; have HR254_0 := Aside0.mk hi254_0; have HC254_0 := Aside0.mk hl254_0; clear hi254_0 hl254_0; replace p254 := eq_true p254; replace q254 := eq_true q254; have ea_ := Option.some.inj (hx252_0.symm.trans hx254_0); injection ea_ with ea_ en_ ec_; subst ea_; subst ec_; clear en_; have p255 : 0 ≤ ((ji13) : Int) := of_decide_eq_true (by first | (with_reducible assumption) | assumption); have q255 : (ji13) < ((rd_L1 l0_2 (ji8)).length : Int) := of_decide_eq_true (by first | (with_reducible assumption) | assumption); obtain ⟨ad255, e255, hx255_0⟩ := Kd.at_int HR254_0.out (ji13) p255 q255; obtain rfl : ad253 = ad255 := (by injection e255); replace hx255_0 := (HB.out.cell (World.block_lt_of_cell? w _ hx255_0)).trans hx255_0; replace p255 := eq_true p255; replace q255 := eq_true q255)))
                go_ret
                exact ⟨by first | rfl | (simp [errW_none, errW_some] <;> rfl) | (simp only [← hji8, ← hji13]; first | rfl | (simp [errW_none, errW_some] <;> rfl)) | (simp [*, errW_none, errW_some] <;> rfl), by repeat (first | (with_reducible first | exact HB.out | apply below_alloc | apply pw_below_drewN | apply below_drew1 | refine below_set ?_ GE241.out) | exact HB.out)⟩
              ·
               rw [if_neg c21] at H
               exact absurd H (by simp)
             ·
              rw [if_neg c20] at H
              exact absurd H (by simp)
            ·
             rw [if_neg c19] at H
             exact absurd H (by simp)
           ·
            rw [if_neg c18] at H
            exact absurd H (by simp)
          ·
           rw [if_neg c17] at H
           exact absurd H (by simp)
         ·
          rw [if_neg c16] at H
          exact absurd H (by simp)
        ·
         rw [if_neg c15] at H
         exact absurd H (by simp)
       ·
        rw [if_neg c14] at H
        exact absurd H (by simp)
      ·
       rw [if_neg c12] at H
       exact absurd H (by simp)
     ·
      rw [if_neg c11] at H
      exact absurd H (by simp)
    ·
     rw [if_neg c10] at H
     exact absurd H (by simp)
   ·
    rw [if_neg c9] at H
    exact absurd H (by simp)
  ·
   rw [if_neg c7] at H
   exact absurd H (by simp)
 ·
  rw [if_neg c6] at H
  exact absurd H (by simp)
end Go.Proofs.YtmdfnambaedllaaDoor.Pr
namespace Go.Proofs.YtmdfnambaedllaaDoor.Pr
open Go.RowKit Go.Proofs.YtmdfnambaedllaaDoorW.PrintWords Go.Proofs.YtmdfnambaedllaaDoorW.PrintLast Go.Proofs.YtmdfnambaedllaaDoorW.PrintMore Go.Proofs.YtmdfnambaedllaaDoor.X
attribute [local go_sem] max2_int min2_int max_two min_two max_three min_three max_four min_four   -- for this text's walks alone
set_option linter.unusedVariables false
set_option linter.unusedSimpArgs false
def spileref19_Around.j0 : Nat → Int → Int → Int → Int → Bool → List Int → List Int → List (List Int) → Option (Int × Int × Int)
 | 0, _, _, _, _, _, _, _, _ => none
 | k + 1, x1, x2, x3, x4, x47, x257000, x257001, x257002 => if x47 = true then (some (0, 0, 2)) else (if 0 < (x257000.length : Int) then (if 0 ≤ (wrap64 ((x257000.length : Int) - 1)) then (if (wrap64 ((x257000.length : Int) - 1)) < (x257000.length : Int) then (if 0 < (x257001.length : Int) then (if 0 ≤ (wrap64 ((x257001.length : Int) - 1)) then (if (wrap64 ((x257001.length : Int) - 1)) < (x257001.length : Int) then ((spileref19_At.f k x257000 x257001 x257002 (mn (wrap64 (x1 + x3)) (rd x257000 (wrap64 ((x257000.length : Int) - 1)))) (mx (wrap64 (x2 - x4)) (rd x257001 0))).bind fun t265 => ((spileref19_At.f k x257000 x257001 x257002 (mx (wrap64 (x1 - x3)) (rd x257000 0)) (mn (wrap64 (x2 + x4)) (rd x257001 (wrap64 ((x257001.length : Int) - 1))))).bind fun t266 => (some (t265, t266, 0)))) else (none)) else (none)) else (none)) else (none)) else (none)) else (none))
def spileref19_Around.f (k : Nat) (l0_0 : List Int) (l0_1 : List Int) (l0_2 : List (List Int)) (a1 : Int) (a2 : Int) (a3 : Int) (a4 : Int) : Option (Int × Int × Int) := (spileref19_Check.f k l0_0 l0_1 l0_2).bind fun t258 => (if t258 = 0 then ((spileref19_inside.f l0_0 a1).bind fun t259 => (if t259 = true then ((spileref19_inside.f l0_1 a2).bind fun t260 => (if t260 = true then (if a3 < 0 then (spileref19_Around.j0 k a1 a2 a3 a4 true l0_0 l0_1 l0_2) else (if a3 > 10000 then (spileref19_Around.j0 k a1 a2 a3 a4 true l0_0 l0_1 l0_2) else (if a4 < 0 then (spileref19_Around.j0 k a1 a2 a3 a4 true l0_0 l0_1 l0_2) else (spileref19_Around.j0 k a1 a2 a3 a4 (decide (a4 > 10000)) l0_0 l0_1 l0_2)))) else (spileref19_Around.j0 k a1 a2 a3 a4 true l0_0 l0_1 l0_2))) else (spileref19_Around.j0 k a1 a2 a3 a4 true l0_0 l0_1 l0_2))) else (some (0, 0, 1)))
theorem spileref19_Around.mono_l : ∀ k, (∀ y0 y1 y2 y3 y4 y5 y6 y7, LeO (spileref19_Around.j0 k y0 y1 y2 y3 y4 y5 y6 y7) (spileref19_Around.j0 (k + 1) y0 y1 y2 y3 y4 y5 y6 y7))
 | 0 => fun _ _ _ _ _ _ _ _ r h => by simp [spileref19_Around.j0] at h
 | k + 1 => by
  have ih0 := spileref19_Around.mono_l k
  ·
   intro y0 y1 y2 y3 y4 y5 y6 y7
   unfold spileref19_Around.j0
   repeat' first
   | (with_reducible exact ih0 _ _ _ _ _ _ _ _)
   | (with_reducible exact spileref19_At.mono _ _ _ _ _ _)
   | (with_reducible exact spileref19_Check.mono _ _ _ _)
   | (with_reducible exact LeO.refl _)
   | (with_reducible exact LeO.none _)
   | (with_reducible refine LeO.ite ?_ ?_)
   | (with_reducible refine LeO.bind ?_ (fun _ => ?_))
   | exact ih0 _ _ _ _ _ _ _ _
   | exact spileref19_At.mono _ _ _ _ _ _
   | exact spileref19_Check.mono _ _ _ _
   | exact LeO.none _
   | refine LeO.ite ?_ ?_
   | refine LeO.bind ?_ (fun _ => ?_)
theorem spileref19_Around.mono : ∀ a0 a1 a2 a3 a4 a5 a6 k, LeO (spileref19_Around.f k a0 a1 a2 a3 a4 a5 a6) (spileref19_Around.f (k + 1) a0 a1 a2 a3 a4 a5 a6) := by
 intro a0 a1 a2 a3 a4 a5 a6 k
 have ih0 := spileref19_Around.mono_l k
 unfold spileref19_Around.f
 repeat' first
   | (with_reducible exact ih0 _ _ _ _ _ _ _ _)
   | (with_reducible exact spileref19_At.mono _ _ _ _ _ _)
   | (with_reducible exact spileref19_Check.mono _ _ _ _)
   | (with_reducible exact LeO.refl _)
   | (with_reducible exact LeO.none _)
   | (with_reducible refine LeO.ite ?_ ?_)
   | (with_reducible refine LeO.bind ?_ (fun _ => ?_))
   | exact ih0 _ _ _ _ _ _ _ _
   | exact spileref19_At.mono _ _ _ _ _ _
   | exact spileref19_Check.mono _ _ _ _
   | exact LeO.none _
   | refine LeO.ite ?_ ?_
   | refine LeO.bind ?_ (fun _ => ?_)
def spileref19_Around.B5 : List Nat := [0, 0, 3, 0, 8, 24, 56, 127, 0, 0, 768, 0, 2048, 0, 8192, 24576, 57344, 129024, 260096, 524032, 255, 2097151]
end Go.Proofs.YtmdfnambaedllaaDoor.Pr
namespace Go.Proofs.YtmdfnambaedllaaDoor.Pr
open Go.RowKit Go.Proofs.YtmdfnambaedllaaDoorW.PrintWords Go.Proofs.YtmdfnambaedllaaDoorW.PrintLast Go.Proofs.YtmdfnambaedllaaDoorW.PrintMore Go.Proofs.YtmdfnambaedllaaDoor.X
attribute [local go_sem] max2_int min2_int max_two min_two max_three min_three max_four min_four   -- for this text's walks alone
set_option linter.unusedVariables false
set_option linter.unusedSimpArgs false
attribute [local go_sem high] eqA29
def spilelaw19_CorrectRanges.f (k : Nat) (l0_0 : List Int) (l0_1 : List Int) (l0_2 : List (List Int)) (a1 : Int) (a2 : Int) (a3 : Int) (a4 : Int) : Option (Bool) := (spilelaw19_awake.f).bind fun t268 => (if t268 = true then ((spileref19_Few.f k l0_0 l0_1 l0_2).bind fun t269 => (if t269 = true then ((correct_Around.f k l0_0 l0_1 l0_2 a1 a2 a3 a4).bind fun bt270 => ((spileref19_Around.f k l0_0 l0_1 l0_2 a1 a2 a3 a4).bind fun bt274 => (if (bt270.1 == bt274.1 && (bt270.2.1 == bt274.2.1)) = true then (some (bt270.2.2 == bt274.2.2)) else (some false)))) else (some true))) else (some false))
theorem spilelaw19_CorrectRanges.mono : ∀ a0 a1 a2 a3 a4 a5 a6 k, LeO (spilelaw19_CorrectRanges.f k a0 a1 a2 a3 a4 a5 a6) (spilelaw19_CorrectRanges.f (k + 1) a0 a1 a2 a3 a4 a5 a6) := by
 intro a0 a1 a2 a3 a4 a5 a6 k
 unfold spilelaw19_CorrectRanges.f
 repeat' first
   | (with_reducible exact correct_Around.mono _ _ _ _ _ _ _ _)
   | (with_reducible exact spileref19_Around.mono _ _ _ _ _ _ _ _)
   | (with_reducible exact spileref19_Few.mono _ _ _ _)
   | (with_reducible exact LeO.refl _)
   | (with_reducible exact LeO.none _)
   | (with_reducible refine LeO.ite ?_ ?_)
   | (with_reducible refine LeO.bind ?_ (fun _ => ?_))
   | exact correct_Around.mono _ _ _ _ _ _ _ _
   | exact spileref19_Around.mono _ _ _ _ _ _ _ _
   | exact spileref19_Few.mono _ _ _ _
   | exact LeO.none _
   | refine LeO.ite ?_ ?_
   | refine LeO.bind ?_ (fun _ => ?_)
end Go.Proofs.YtmdfnambaedllaaDoor.Pr
namespace Go.Proofs.YtmdfnambaedllaaDoor.Pr
open Go.RowKit Go.Proofs.YtmdfnambaedllaaDoorW.PrintWords Go.Proofs.YtmdfnambaedllaaDoorW.PrintLast Go.Proofs.YtmdfnambaedllaaDoorW.PrintMore Go.Proofs.YtmdfnambaedllaaDoor.X
attribute [local go_sem] max2_int min2_int max_two min_two max_three min_three max_four min_four   -- for this text's walks alone
set_option linter.unusedVariables false
set_option linter.unusedSimpArgs false
def spileref19_True.f (k : Nat) (l0_0 : List Int) (l0_1 : List Int) (l0_2 : List (List Int)) (a1 : Int) (a2 : Int) : Option (Int × Int) := (spileref19_Check.f k l0_0 l0_1 l0_2).bind fun t310 => (if t310 = 0 then ((spileref19_inside.f l0_0 a1).bind fun t311 => (if t311 = true then ((spileref19_inside.f l0_1 a2).bind fun t312 => (if t312 = true then ((spileref19_At.f k l0_0 l0_1 l0_2 a1 a2).bind fun t313 => (some (t313, 0))) else (some (0, 2)))) else (some (0, 2)))) else (some (0, 1)))
theorem spileref19_True.mono : ∀ a0 a1 a2 a3 a4 k, LeO (spileref19_True.f k a0 a1 a2 a3 a4) (spileref19_True.f (k + 1) a0 a1 a2 a3 a4) := by
 intro a0 a1 a2 a3 a4 k
 unfold spileref19_True.f
 repeat' first
   | (with_reducible exact spileref19_At.mono _ _ _ _ _ _)
   | (with_reducible exact spileref19_Check.mono _ _ _ _)
   | (with_reducible exact LeO.refl _)
   | (with_reducible exact LeO.none _)
   | (with_reducible refine LeO.ite ?_ ?_)
   | (with_reducible refine LeO.bind ?_ (fun _ => ?_))
   | exact spileref19_At.mono _ _ _ _ _ _
   | exact spileref19_Check.mono _ _ _ _
   | exact LeO.none _
   | refine LeO.ite ?_ ?_
   | refine LeO.bind ?_ (fun _ => ?_)
def correct_Apparent_1.f (k : Nat) (a0 : Int) (l1_0 : List Int) (l1_1 : List Int) (l1_2 : List (List Int)) (a2_0 : Int) (a3_0 : Int) (a4_0 : Int) : Option (Bool) := (correct_at.f k l1_0 l1_1 l1_2 a2_0 (wrap64 (a3_0 + a0))).bind fun bt314 => (some (decide (bt314.1 > a4_0)))
theorem correct_Apparent_1.mono : ∀ a0 a1 a2 a3 a4 a5 a6 k, LeO (correct_Apparent_1.f k a0 a1 a2 a3 a4 a5 a6) (correct_Apparent_1.f (k + 1) a0 a1 a2 a3 a4 a5 a6) := by
 intro a0 a1 a2 a3 a4 a5 a6 k
 unfold correct_Apparent_1.f
 repeat' first
   | (with_reducible exact correct_at.mono _ _ _ _ _ _)
   | (with_reducible exact LeO.refl _)
   | (with_reducible exact LeO.none _)
   | (with_reducible refine LeO.ite ?_ ?_)
   | (with_reducible refine LeO.bind ?_ (fun _ => ?_))
   | exact correct_at.mono _ _ _ _ _ _
   | exact LeO.none _
   | refine LeO.ite ?_ ?_
   | refine LeO.bind ?_ (fun _ => ?_)
set_option maxHeartbeats 8000000 in
set_option maxRecDepth 100000 in
theorem correct_Apparent_1.calls (k : Nat) (a0 : Int) (B1 : Nat) (A1_0 : Option Addr) (c1_0 : Nat) (l1_0 : List Int) (A1_1 : Option Addr) (c1_1 : Nat) (l1_1 : List Int) (A1_2 : Option Addr) (c1_2 : Nat) (l1_2 : List (List Int)) (B2 : Nat) (a2_0 : Int) (B3 : Nat) (a3_0 : Int) (B4 : Nat) (a4_0 : Int) (r : Bool) (w : World) (hr1_0 : Kd.C (Kd.int .i64) w A1_0 l1_0.length l1_0) (hc1_0 : l1_0.length ≤ c1_0) (hr1_1 : Kd.C (Kd.int .i64) w A1_1 l1_1.length l1_1) (hc1_1 : l1_1.length ≤ c1_1) (hr1_2 : Kd.C (Kd.slice 3 (Kd.int .i64)) w A1_2 l1_2.length l1_2) (hc1_2 : l1_2.length ≤ c1_2) (hb1 : w.heap[B1]? = some (.cells #[.slice A1_0 l1_0.length c1_0, .slice A1_1 l1_1.length c1_1, .slice A1_2 l1_2.length c1_2] 25 (0, 0))) (hb2 : w.heap[B2]? = some (.cells #[.int .i64 a2_0] 3 (0, 0))) (hb3 : w.heap[B3]? = some (.cells #[.int .i64 a3_0] 3 (0, 0))) (hb4 : w.heap[B4]? = some (.cells #[.int .i64 a4_0] 3 (0, 0))) (h : correct_Apparent_1.f k a0 l1_0 l1_1 l1_2 a2_0 a3_0 a4_0 = some r) :
  Calls Tryd.prog 33 #[.int .i64 a0, .pointer (some ⟨B1, 0, none⟩), .pointer (some ⟨B2, 0, none⟩), .pointer (some ⟨B3, 0, none⟩), .pointer (some ⟨B4, 0, none⟩)] w fun e w' => e = .returned (.bool r) ∧ Below w.heap.size w w' := by
 have hu25 := Tryd.underlying25
 have HR1_0 := Aside0.mk hr1_0
 have HC1_0 := Aside0.mk hc1_0
 clear hr1_0 hc1_0
 have HR1_1 := Aside0.mk hr1_1
 have HC1_1 := Aside0.mk hc1_1
 clear hr1_1 hc1_1
 have HR1_2 := Aside0.mk hr1_2
 have HC1_2 := Aside0.mk hc1_2
 clear hr1_2 hc1_2
 have BK5001 := Aside0.mk hb1
 clear hb1
 have BK5002 := Aside0.mk hb2
 clear hb2
 have BK5003 := Aside0.mk hb3
 clear hb3
 have BK5004 := Aside0.mk hb4
 clear hb4
 have HB := Aside0.mk (Below.refl w.heap.size w)
 have H : ((correct_at.f k l1_0 l1_1 l1_2 a2_0 (wrap64 (a3_0 + a0))).bind fun bt314 => (some (decide (bt314.1 > a4_0)))) = some r := h
 clear h
 replace H := Option.bind_eq_some_iff.mp H
 obtain ⟨⟨t314, t315⟩, A60, H⟩ := H
 replace H : (some (decide (t314 > a4_0))) = some r := H
 have A6 := Aside0.mk A60
 clear A60
 obtain rfl := Option.some.inj H
 have hcz7_0 : w.cell? ⟨B1, 0, none⟩ = some (.slice A1_0 l1_0.length c1_0) := (blk_cell BK5001.out 0).trans rfl
 have hcz7_1 : w.cell? ⟨B1, 1, none⟩ = some (.slice A1_1 l1_1.length c1_1) := (blk_cell BK5001.out 1).trans rfl
 have hcz7_2 : w.cell? ⟨B1, 2, none⟩ = some (.slice A1_2 l1_2.length c1_2) := (blk_cell BK5001.out 2).trans rfl
 have hfz7_0 := blk_frozen BK5001.out 0
 have hfz7_1 := blk_frozen BK5001.out 1
 have hfz7_2 := blk_frozen BK5001.out 2
 have hcz8_0 : w.cell? ⟨B2, 0, none⟩ = some (.int .i64 a2_0) := (blk_cell BK5002.out 0).trans rfl
 have hfz8_0 := blk_frozen BK5002.out 0
 have hcz9_0 : w.cell? ⟨B3, 0, none⟩ = some (.int .i64 a3_0) := (blk_cell BK5003.out 0).trans rfl
 have hfz9_0 := blk_frozen BK5003.out 0
 go_enter Tryd.func33, Tryd.ntmps33
 go_wp2_with (first | ((with_reducible refine gate_callee (f := 26) rfl ?_); refine goesL_ (some 15) rfl rfl Tryd.func26 (by kernel_rfl) rfl #[.agg #[.slice A1_0 l1_0.length c1_0, .slice A1_1 l1_1.length c1_1, .slice A1_2 l1_2.length c1_2], .int .i64 a2_0, .int .i64 (wrap64 (a3_0 + a0))] rfl (by (try simp only [List.map_toArray, List.map_cons, List.map_nil]); first | done | rfl | (simp only [List.length_drop, List.length_take]; rfl)) ?_; (with_reducible refine (correct_at.calls k _ _ l1_0 _ _ l1_1 _ _ l1_2 a2_0 (wrap64 (a3_0 + a0)) t314 t315 _ ?side1 ?side2 ?side3 ?side4 ?side5 ?side6 A6.out).mono ?_); (case side1 => repeat (first | exact HR1_0.out | (with_reducible refine Kd.C_alloc ?_ _) | (with_reducible refine Kd.C_drewN ?_ _) | (with_reducible refine Kd.C_drew ?_))); (case side2 => exact HC1_0.out); (case side3 => repeat (first | exact HR1_1.out | (with_reducible refine Kd.C_alloc ?_ _) | (with_reducible refine Kd.C_drewN ?_ _) | (with_reducible refine Kd.C_drew ?_))); (case side4 => exact HC1_1.out); (case side5 => repeat (first | exact HR1_2.out | (with_reducible refine Kd.C_alloc ?_ _) | (with_reducible refine Kd.C_drewN ?_ _) | (with_reducible refine Kd.C_drew ?_))); (case side6 => exact HC1_2.out); rintro e w10 ⟨rfl, hb⟩; refine ⟨_, rfl, ?_⟩; have n0_ := Aside0.mk (blk_below (g := B1) (o := .cells #[.slice A1_0 l1_0.length c1_0, .slice A1_1 l1_1.length c1_1, .slice A1_2 l1_2.length c1_2] 25 (0, 0)) (by (with_reducible repeat (first | refine blk_drewN ?_ _ | refine blk_drew ?_ | refine blk_alloc ?_ _)); exact BK5001.out) hb); have n1_ := Aside0.mk (blk_below (g := B2) (o := .cells #[.int .i64 a2_0] 3 (0, 0)) (by (with_reducible repeat (first | refine blk_drewN ?_ _ | refine blk_drew ?_ | refine blk_alloc ?_ _)); exact BK5002.out) hb); have n2_ := Aside0.mk (blk_below (g := B3) (o := .cells #[.int .i64 a3_0] 3 (0, 0)) (by (with_reducible repeat (first | refine blk_drewN ?_ _ | refine blk_drew ?_ | refine blk_alloc ?_ _)); exact BK5003.out) hb); have n3_ := Aside0.mk (blk_below (g := B4) (o := .cells #[.int .i64 a4_0] 3 (0, 0)) (by (with_reducible repeat (first | refine blk_drewN ?_ _ | refine blk_drew ?_ | refine blk_alloc ?_ _)); exact BK5004.out) hb); have n4_ := Aside0.mk (below_step (by repeat (first | (with_reducible first | exact HB.out | apply below_alloc | apply pw_below_drewN | apply below_drew1 | refine below_set ?_ GE5001.out | refine below_set ?_ GE5002.out | refine below_set ?_ GE5003.out | refine below_set ?_ GE5004.out) | exact HB.out)) hb); clear BK5001; clear BK5002; clear BK5003; clear BK5004; clear HB; have BK5001 := n0_; have BK5002 := n1_; have BK5003 := n2_; have BK5004 := n3_; have HB := n4_; clear n0_ n1_ n2_ n3_ n4_; (try clear hb); (try clear hb2); (try clear hk); (try clear hi); have hcz11_0 : w10.cell? ⟨B4, 0, none⟩ = some (.int .i64 a4_0) := (blk_cell BK5004.out 0).trans rfl; have hfz11_0 := blk_frozen BK5004.out 0))
 go_ret
 exact ⟨by first | rfl | (simp [errW_none, errW_some] <;> rfl) | (simp [*, errW_none, errW_some] <;> rfl), by repeat (first | (with_reducible first | exact HB.out | apply below_alloc | apply pw_below_drewN | apply below_drew1 | refine below_set ?_ GE5001.out | refine below_set ?_ GE5002.out | refine below_set ?_ GE5003.out | refine below_set ?_ GE5004.out) | exact HB.out)⟩
def sort_Search_32_at_33.l0 : Nat → Int → Int → List Int → List Int → List (List Int) → Int → Int → Int → Option (Int)
 | 0, _, _, _, _, _, _, _, _ => none
 | k + 1, x5, x6, x5003000, x5003001, x5003002, x5004000, x5005000, x5006000 => if x5 < x6 then ((correct_Apparent_1.f k (wrap64 ((IntKind.u64.wrap (wrap64 (x5 + x6))) / 2)) x5003000 x5003001 x5003002 x5004000 x5005000 x5006000).bind fun t316 => (if t316 = true then (sort_Search_32_at_33.l0 k x5 (wrap64 ((IntKind.u64.wrap (wrap64 (x5 + x6))) / 2)) x5003000 x5003001 x5003002 x5004000 x5005000 x5006000) else (sort_Search_32_at_33.l0 k (wrap64 ((wrap64 ((IntKind.u64.wrap (wrap64 (x5 + x6))) / 2)) + 1)) x6 x5003000 x5003001 x5003002 x5004000 x5005000 x5006000))) else (some x5)
def sort_Search_32_at_33.f (k : Nat) (a0 : Int)  (l2_0 : List Int) (l2_1 : List Int) (l2_2 : List (List Int)) (a3_0 : Int) (a4_0 : Int) (a5_0 : Int) : Option (Int) := sort_Search_32_at_33.l0 k 0 a0 l2_0 l2_1 l2_2 a3_0 a4_0 a5_0
theorem sort_Search_32_at_33.mono_l : ∀ k, (∀ y0 y1 y2 y3 y4 y5 y6 y7, LeO (sort_Search_32_at_33.l0 k y0 y1 y2 y3 y4 y5 y6 y7) (sort_Search_32_at_33.l0 (k + 1) y0 y1 y2 y3 y4 y5 y6 y7))
 | 0 => fun _ _ _ _ _ _ _ _ r h => by simp [sort_Search_32_at_33.l0] at h
 | k + 1 => by
  have ih0 := sort_Search_32_at_33.mono_l k
  ·
   intro y0 y1 y2 y3 y4 y5 y6 y7
   unfold sort_Search_32_at_33.l0
   repeat' first
   | (with_reducible exact ih0 _ _ _ _ _ _ _ _)
   | (with_reducible exact correct_Apparent_1.mono _ _ _ _ _ _ _ _)
   | (with_reducible exact LeO.refl _)
   | (with_reducible exact LeO.none _)
   | (with_reducible refine LeO.ite ?_ ?_)
   | (with_reducible refine LeO.bind ?_ (fun _ => ?_))
   | exact ih0 _ _ _ _ _ _ _ _
   | exact correct_Apparent_1.mono _ _ _ _ _ _ _ _
   | exact LeO.none _
   | refine LeO.ite ?_ ?_
   | refine LeO.bind ?_ (fun _ => ?_)
theorem sort_Search_32_at_33.mono : ∀ a0 a1 a2 a3 a4 a5 a6 k, LeO (sort_Search_32_at_33.f k a0 a1 a2 a3 a4 a5 a6) (sort_Search_32_at_33.f (k + 1) a0 a1 a2 a3 a4 a5 a6) := by
 intro a0 a1 a2 a3 a4 a5 a6 k
 have ih0 := sort_Search_32_at_33.mono_l k
 unfold sort_Search_32_at_33.f
 repeat' first
   | (with_reducible exact ih0 _ _ _ _ _ _ _ _)
   | (with_reducible exact correct_Apparent_1.mono _ _ _ _ _ _ _ _)
   | (with_reducible exact LeO.refl _)
   | (with_reducible exact LeO.none _)
   | (with_reducible refine LeO.ite ?_ ?_)
   | (with_reducible refine LeO.bind ?_ (fun _ => ?_))
   | exact ih0 _ _ _ _ _ _ _ _
   | exact correct_Apparent_1.mono _ _ _ _ _ _ _ _
   | exact LeO.none _
   | refine LeO.ite ?_ ?_
   | refine LeO.bind ?_ (fun _ => ?_)
set_option maxHeartbeats 8000000 in
set_option maxRecDepth 100000 in
theorem sort_Search_32_at_33.calls (k : Nat) (a0 : Int)  (B2 : Nat) (A2_0 : Option Addr) (c2_0 : Nat) (l2_0 : List Int) (A2_1 : Option Addr) (c2_1 : Nat) (l2_1 : List Int) (A2_2 : Option Addr) (c2_2 : Nat) (l2_2 : List (List Int)) (B3 : Nat) (a3_0 : Int) (B4 : Nat) (a4_0 : Int) (B5 : Nat) (a5_0 : Int) (r : Int) (w : World) (hr2_0 : Kd.C (Kd.int .i64) w A2_0 l2_0.length l2_0) (hc2_0 : l2_0.length ≤ c2_0) (hr2_1 : Kd.C (Kd.int .i64) w A2_1 l2_1.length l2_1) (hc2_1 : l2_1.length ≤ c2_1) (hr2_2 : Kd.C (Kd.slice 3 (Kd.int .i64)) w A2_2 l2_2.length l2_2) (hc2_2 : l2_2.length ≤ c2_2) (hb2 : w.heap[B2]? = some (.cells #[.slice A2_0 l2_0.length c2_0, .slice A2_1 l2_1.length c2_1, .slice A2_2 l2_2.length c2_2] 25 (0, 0))) (hb3 : w.heap[B3]? = some (.cells #[.int .i64 a3_0] 3 (0, 0))) (hb4 : w.heap[B4]? = some (.cells #[.int .i64 a4_0] 3 (0, 0))) (hb5 : w.heap[B5]? = some (.cells #[.int .i64 a5_0] 3 (0, 0))) (h : sort_Search_32_at_33.f k a0 l2_0 l2_1 l2_2 a3_0 a4_0 a5_0 = some r) :
  Calls Tryd.prog 32 #[.int .i64 a0, .func (.func 33) #[] #[.pointer (some ⟨B2, 0, none⟩), .pointer (some ⟨B3, 0, none⟩), .pointer (some ⟨B4, 0, none⟩), .pointer (some ⟨B5, 0, none⟩)]] w fun e w' => e = .returned (.int .i64 r) ∧ Below w.heap.size w w' := by
 have HR2_0 := Aside0.mk hr2_0
 have HC2_0 := Aside0.mk hc2_0
 clear hr2_0 hc2_0
 have HR2_1 := Aside0.mk hr2_1
 have HC2_1 := Aside0.mk hc2_1
 clear hr2_1 hc2_1
 have HR2_2 := Aside0.mk hr2_2
 have HC2_2 := Aside0.mk hc2_2
 clear hr2_2 hc2_2
 have BK5002 := Aside0.mk hb2
 clear hb2
 have BK5003 := Aside0.mk hb3
 clear hb3
 have BK5004 := Aside0.mk hb4
 clear hb4
 have BK5005 := Aside0.mk hb5
 clear hb5
 have HB := Aside0.mk (Below.refl w.heap.size w)
 have H : (sort_Search_32_at_33.l0 k 0 a0 l2_0 l2_1 l2_2 a3_0 a4_0 a5_0) = some r := h
 clear h
 have H' := Aside0.mk H
 clear H
 go_enter Tryd.func32, Tryd.ntmps32
 go_wp2
 go_loopg [5, 6] k (fun kq v5 v6 w' => ∃ (x5_1 : Int) (x6_1 : Int), v5 = .int .i64 x5_1 ∧ v6 = .int .i64 x6_1 ∧ Aside0 (sort_Search_32_at_33.l0 kq x5_1 x6_1 l2_0 l2_1 l2_2 a3_0 a4_0 a5_0 = some r) ∧ Aside0 (kq ≤ k) ∧ Aside0 (w'.heap[B2]? = some (.cells #[(.slice A2_0 l2_0.length c2_0), (.slice A2_1 l2_1.length c2_1), (.slice A2_2 l2_2.length c2_2)] 25 (0, 0))) ∧ Aside0 (w'.heap[B3]? = some (.cells #[.int .i64 a3_0] 3 (0, 0))) ∧ Aside0 (w'.heap[B4]? = some (.cells #[.int .i64 a4_0] 3 (0, 0))) ∧ Aside0 (w'.heap[B5]? = some (.cells #[.int .i64 a5_0] 3 (0, 0))) ∧ Aside0 (Below w.heap.size w w'))
 case atStart => exact ⟨(0), (a0), (by first | rfl | (simp; done) | (simp [*]; done)), (by first | rfl | (simp; done) | (simp [*]; done)), H', ⟨Nat.le_refl _⟩, ⟨by (with_reducible repeat (first | refine blk_drewN ?_ _ | refine blk_drew ?_ | refine blk_alloc ?_ _)); exact BK5002.out⟩, ⟨by (with_reducible repeat (first | refine blk_drewN ?_ _ | refine blk_drew ?_ | refine blk_alloc ?_ _)); exact BK5003.out⟩, ⟨by (with_reducible repeat (first | refine blk_drewN ?_ _ | refine blk_drew ?_ | refine blk_alloc ?_ _)); exact BK5004.out⟩, ⟨by (with_reducible repeat (first | refine blk_drewN ?_ _ | refine blk_drew ?_ | refine blk_alloc ?_ _)); exact BK5005.out⟩, ⟨by repeat (first | (with_reducible first | exact HB.out | apply below_alloc | apply pw_below_drewN | apply below_drew1 | refine below_set ?_ GE5002.out | refine below_set ?_ GE5003.out | refine below_set ?_ GE5004.out | refine below_set ?_ GE5005.out) | exact HB.out)⟩⟩
 case round =>
  clear H'
  try clear c2
  try clear p2
  try clear c3
  obtain ⟨x5_1, x6_1, rfl, rfl, HA, HK1, BK5002, BK5003, BK5004, BK5005, HB⟩ := hrel
  cases gk with
  | zero => exact absurd HA.out (by simp [sort_Search_32_at_33.l0])
  | succ k1 =>
   have H := HA.out
   clear HA
   simp only [sort_Search_32_at_33.l0] at H
   by_cases c7 : x5_1 < x6_1
   ·
    rw [if_pos c7] at H
    have c7b0 : decide (x5_1 < x6_1) = true := decide_eq_true c7
    clear c7
    replace H := Option.bind_eq_some_iff.mp H
    obtain ⟨t316, A80, H⟩ := H
    replace H : (if t316 = true then (sort_Search_32_at_33.l0 k1 x5_1 (wrap64 ((IntKind.u64.wrap (wrap64 (x5_1 + x6_1))) / 2)) l2_0 l2_1 l2_2 a3_0 a4_0 a5_0) else (sort_Search_32_at_33.l0 k1 (wrap64 ((wrap64 ((IntKind.u64.wrap (wrap64 (x5_1 + x6_1))) / 2)) + 1)) x6_1 l2_0 l2_1 l2_2 a3_0 a4_0 a5_0)) = some r := H
    have A8 := Aside0.mk A80
    clear A80
    by_cases c9 : t316 = true
    ·
     subst c9
     have H1 : (sort_Search_32_at_33.l0 k1 x5_1 (wrap64 ((IntKind.u64.wrap (wrap64 (x5_1 + x6_1))) / 2)) l2_0 l2_1 l2_2 a3_0 a4_0 a5_0) = some r := by rw [if_pos rfl] at H; exact H
     clear H
     have H := H1
     clear H1
     have H' := Aside0.mk H
     clear H
     go_wp2_with (first | (go_at_call 33; (with_reducible refine (correct_Apparent_1.calls k1 (wrap64 ((IntKind.u64.wrap (wrap64 (x5_1 + x6_1))) / 2))  B2 A2_0 c2_0 l2_0 A2_1 c2_1 l2_1 A2_2 c2_2 l2_2 B3 a3_0 B4 a4_0 B5 a5_0 true _ ?side1 ?side2 ?side3 ?side4 ?side5 ?side6 ?side7 ?side8 ?side9 ?side10 A8.out).mono ?_); (case side1 => repeat (first | exact (Kd.C_below HR2_0.out HB.out) | (with_reducible refine Kd.C_alloc ?_ _) | (with_reducible refine Kd.C_drewN ?_ _) | (with_reducible refine Kd.C_drew ?_))); (case side2 => exact HC2_0.out); (case side3 => repeat (first | exact (Kd.C_below HR2_1.out HB.out) | (with_reducible refine Kd.C_alloc ?_ _) | (with_reducible refine Kd.C_drewN ?_ _) | (with_reducible refine Kd.C_drew ?_))); (case side4 => exact HC2_1.out); (case side5 => repeat (first | exact (Kd.C_below HR2_2.out HB.out) | (with_reducible refine Kd.C_alloc ?_ _) | (with_reducible refine Kd.C_drewN ?_ _) | (with_reducible refine Kd.C_drew ?_))); (case side6 => exact HC2_2.out); (case side7 => (with_reducible repeat (first | refine blk_drewN ?_ _ | refine blk_drew ?_ | refine blk_alloc ?_ _)); exact BK5002.out); (case side8 => (with_reducible repeat (first | refine blk_drewN ?_ _ | refine blk_drew ?_ | refine blk_alloc ?_ _)); exact BK5003.out); (case side9 => (with_reducible repeat (first | refine blk_drewN ?_ _ | refine blk_drew ?_ | refine blk_alloc ?_ _)); exact BK5004.out); (case side10 => (with_reducible repeat (first | refine blk_drewN ?_ _ | refine blk_drew ?_ | refine blk_alloc ?_ _)); exact BK5005.out); rintro e w10 ⟨rfl, hb⟩; have n0_ := Aside0.mk (blk_below (g := B2) (o := .cells #[.slice A2_0 l2_0.length c2_0, .slice A2_1 l2_1.length c2_1, .slice A2_2 l2_2.length c2_2] 25 (0, 0)) (by (with_reducible repeat (first | refine blk_drewN ?_ _ | refine blk_drew ?_ | refine blk_alloc ?_ _)); exact BK5002.out) hb); have n1_ := Aside0.mk (blk_below (g := B3) (o := .cells #[.int .i64 a3_0] 3 (0, 0)) (by (with_reducible repeat (first | refine blk_drewN ?_ _ | refine blk_drew ?_ | refine blk_alloc ?_ _)); exact BK5003.out) hb); have n2_ := Aside0.mk (blk_below (g := B4) (o := .cells #[.int .i64 a4_0] 3 (0, 0)) (by (with_reducible repeat (first | refine blk_drewN ?_ _ | refine blk_drew ?_ | refine blk_alloc ?_ _)); exact BK5004.out) hb); have n3_ := Aside0.mk (blk_below (g := B5) (o := .cells #[.int .i64 a5_0] 3 (0, 0)) (by (with_reducible repeat (first | refine blk_drewN ?_ _ | refine blk_drew ?_ | refine blk_alloc ?_ _)); exact BK5005.out) hb); have n4_ := Aside0.mk (below_step (by repeat (first | (with_reducible first | exact HB.out | apply below_alloc | apply pw_below_drewN | apply below_drew1 | refine below_set ?_ GE5002.out | refine below_set ?_ GE5003.out | refine below_set ?_ GE5004.out | refine below_set ?_ GE5005.out) | exact HB.out)) hb); clear BK5002; clear BK5003; clear BK5004; clear BK5005; clear HB; have BK5002 := n0_; have BK5003 := n1_; have BK5004 := n2_; have BK5005 := n3_; have HB := n4_; clear n0_ n1_ n2_ n3_ n4_; (try clear hb); (try clear hb2); (try clear hk); (try clear hi)))
     go_roundg k1
     case measure => have := HK1.out; omega
     case rel => exact ⟨(x5_1), (wrap64 ((IntKind.u64.wrap (wrap64 (x5_1 + x6_1))) / 2)), (by first | rfl | (simp; done) | (simp [*]; done)), (by first | rfl | (simp; done) | (simp [*]; done)), H', ⟨by have := HK1.out; omega⟩, ⟨by (with_reducible repeat (first | refine blk_drewN ?_ _ | refine blk_drew ?_ | refine blk_alloc ?_ _)); exact BK5002.out⟩, ⟨by (with_reducible repeat (first | refine blk_drewN ?_ _ | refine blk_drew ?_ | refine blk_alloc ?_ _)); exact BK5003.out⟩, ⟨by (with_reducible repeat (first | refine blk_drewN ?_ _ | refine blk_drew ?_ | refine blk_alloc ?_ _)); exact BK5004.out⟩, ⟨by (with_reducible repeat (first | refine blk_drewN ?_ _ | refine blk_drew ?_ | refine blk_alloc ?_ _)); exact BK5005.out⟩, ⟨by repeat (first | (with_reducible first | exact HB.out | apply below_alloc | apply pw_below_drewN | apply below_drew1 | refine below_set ?_ GE5002.out | refine below_set ?_ GE5003.out | refine below_set ?_ GE5004.out | refine below_set ?_ GE5005.out) | exact HB.out)⟩⟩
    ·
     replace c9 := Bool.eq_false_iff.mpr c9
     subst c9
     have H1 : (sort_Search_32_at_33.l0 k1 (wrap64 ((wrap64 ((IntKind.u64.wrap (wrap64 (x5_1 + x6_1))) / 2)) + 1)) x6_1 l2_0 l2_1 l2_2 a3_0 a4_0 a5_0) = some r := by rw [if_neg (show ¬ (false = true) by decide)] at H; exact H
     clear H
     have H := H1
     clear H1
     have H' := Aside0.mk H
     clear H
     go_wp2_with (first | (go_at_call 33; (with_reducible refine (correct_Apparent_1.calls k1 (wrap64 ((IntKind.u64.wrap (wrap64 (x5_1 + x6_1))) / 2))  B2 A2_0 c2_0 l2_0 A2_1 c2_1 l2_1 A2_2 c2_2 l2_2 B3 a3_0 B4 a4_0 B5 a5_0 false _ ?side1 ?side2 ?side3 ?side4 ?side5 ?side6 ?side7 ?side8 ?side9 ?side10 A8.out).mono ?_); (case side1 => repeat (first | exact (Kd.C_below HR2_0.out HB.out) | (with_reducible refine Kd.C_alloc ?_ _) | (with_reducible refine Kd.C_drewN ?_ _) | (with_reducible refine Kd.C_drew ?_))); (case side2 => exact HC2_0.out); (case side3 => repeat (first | exact (Kd.C_below HR2_1.out HB.out) | (with_reducible refine Kd.C_alloc ?_ _) | (with_reducible refine Kd.C_drewN ?_ _) | (with_reducible refine Kd.C_drew ?_))); (case side4 => exact HC2_1.out); (case side5 => repeat (first | exact (Kd.C_below HR2_2.out HB.out) | (with_reducible refine Kd.C_alloc ?_ _) | (with_reducible refine Kd.C_drewN ?_ _) | (with_reducible refine Kd.C_drew ?_))); (case side6 => exact HC2_2.out); (case side7 => (with_reducible repeat (first | refine blk_drewN ?_ _ | refine blk_drew ?_ | refine blk_alloc ?_ _)); exact BK5002.out); (case side8 => (with_reducible repeat (first | refine blk_drewN ?_ _ | refine blk_drew ?_ | refine blk_alloc ?_ _)); exact BK5003.out); (case side9 => (with_reducible repeat (first | refine blk_drewN ?_ _ | refine blk_drew ?_ | refine blk_alloc ?_ _)); exact BK5004.out); (case side10 => (with_reducible repeat (first | refine blk_drewN ?_ _ | refine blk_drew ?_ | refine blk_alloc ?_ _)); exact BK5005.out); rintro e w11 ⟨rfl, hb⟩; have n0_ := Aside0.mk (blk_below (g := B2) (o := .cells #[.slice A2_0 l2_0.length c2_0, .slice A2_1 l2_1.length c2_1, .slice A2_2 l2_2.length c2_2] 25 (0, 0)) (by (with_reducible repeat (first | refine blk_drewN ?_ _ | refine blk_drew ?_ | refine blk_alloc ?_ _)); exact BK5002.out) hb); have n1_ := Aside0.mk (blk_below (g := B3) (o := .cells #[.int .i64 a3_0] 3 (0, 0)) (by (with_reducible repeat (first | refine blk_drewN ?_ _ | refine blk_drew ?_ | refine blk_alloc ?_ _)); exact BK5003.out) hb); have n2_ := Aside0.mk (blk_below (g := B4) (o := .cells #[.int .i64 a4_0] 3 (0, 0)) (by (with_reducible repeat (first | refine blk_drewN ?_ _ | refine blk_drew ?_ | refine blk_alloc ?_ _)); exact BK5004.out) hb); have n3_ := Aside0.mk (blk_below (g := B5) (o := .cells #[.int .i64 a5_0] 3 (0, 0)) (by (with_reducible repeat (first | refine blk_drewN ?_ _ | refine blk_drew ?_ | refine blk_alloc ?_ _)); exact BK5005.out) hb); have n4_ := Aside0.mk (below_step (by repeat (first | (with_reducible first | exact HB.out | apply below_alloc | apply pw_below_drewN | apply below_drew1 | refine below_set ?_ GE5002.out | refine below_set ?_ GE5003.out | refine below_set ?_ GE5004.out | refine below_set ?_ GE5005.out) | exact HB.out)) hb); clear BK5002; clear BK5003; clear BK5004; clear BK5005; clear HB; have BK5002 := n0_; have BK5003 := n1_; have BK5004 := n2_; have BK5005 := n3_; have HB := n4_; clear n0_ n1_ n2_ n3_ n4_; (try clear hb); (try clear hb2); (try clear hk); (try clear hi)))
     go_roundg k1
     case measure => have := HK1.out; omega
     case rel => exact ⟨(wrap64 ((wrap64 ((IntKind.u64.wrap (wrap64 (x5_1 + x6_1))) / 2)) + 1)), (x6_1), (by first | rfl | (simp; done) | (simp [*]; done)), (by first | rfl | (simp; done) | (simp [*]; done)), H', ⟨by have := HK1.out; omega⟩, ⟨by (with_reducible repeat (first | refine blk_drewN ?_ _ | refine blk_drew ?_ | refine blk_alloc ?_ _)); exact BK5002.out⟩, ⟨by (with_reducible repeat (first | refine blk_drewN ?_ _ | refine blk_drew ?_ | refine blk_alloc ?_ _)); exact BK5003.out⟩, ⟨by (with_reducible repeat (first | refine blk_drewN ?_ _ | refine blk_drew ?_ | refine blk_alloc ?_ _)); exact BK5004.out⟩, ⟨by (with_reducible repeat (first | refine blk_drewN ?_ _ | refine blk_drew ?_ | refine blk_alloc ?_ _)); exact BK5005.out⟩, ⟨by repeat (first | (with_reducible first | exact HB.out | apply below_alloc | apply pw_below_drewN | apply below_drew1 | refine below_set ?_ GE5002.out | refine below_set ?_ GE5003.out | refine below_set ?_ GE5004.out | refine below_set ?_ GE5005.out) | exact HB.out)⟩⟩
   ·
    rw [if_neg c7] at H
    have c7b0 : decide (x5_1 < x6_1) = false := decide_eq_false c7
    clear c7
    obtain rfl := Option.some.inj H
    go_wp2
    go_ret
    exact ⟨by first | rfl | (simp [errW_none, errW_some] <;> rfl) | (simp [*, errW_none, errW_some] <;> rfl), by repeat (first | (with_reducible first | exact HB.out | apply below_alloc | apply pw_below_drewN | apply below_drew1 | refine below_set ?_ GE5002.out | refine below_set ?_ GE5003.out | refine below_set ?_ GE5004.out | refine below_set ?_ GE5005.out) | exact HB.out)⟩
end Go.Proofs.YtmdfnambaedllaaDoor.Pr
