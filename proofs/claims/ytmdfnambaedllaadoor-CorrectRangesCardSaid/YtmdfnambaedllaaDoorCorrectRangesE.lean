/-
A part of what the law CorrectRanges rests on: contracts of the functions that it reaches, and plain lemmas.
-/
import Derived.Test.YtmdfnambaedllaaDoorCorrectRangesD
namespace Go.Proofs.YtmdfnambaedllaaDoor.Pr
open Go.RowKit Go.Proofs.YtmdfnambaedllaaDoorW.PrintWords Go.Proofs.YtmdfnambaedllaaDoorW.PrintLast Go.Proofs.YtmdfnambaedllaaDoorW.PrintMore Go.Proofs.YtmdfnambaedllaaDoor.X
attribute [local go_sem] max2_int min2_int max_two min_two max_three min_three max_four min_four   -- for this text's walks alone
set_option linter.unusedVariables false
set_option linter.unusedSimpArgs false
mutual
def spileref19_Check.j0 : Nat → Bool → List Int → List Int → List (List Int) → Option (Int)
 | 0, _, _, _, _ => none
 | k + 1, x21, x219000, x219001, x219002 => if x21 = true then (some 2) else (spileref19_Check.l0 k 0 x219000 x219001 x219002)
def spileref19_Check.l0 : Nat → Int → List Int → List Int → List (List Int) → Option (Int)
 | 0, _, _, _, _ => none
 | k + 1, x4, x219000, x219001, x219002 => if x4 < (x219002.length : Int) then (if 0 ≤ x4 then ((spileref19_within.f k (rd_L1 x219002 x4) 0 10000).bind fun t223 => (if t223 = true then (spileref19_Check.l0 k (wrap64 (x4 + 1)) x219000 x219001 x219002) else (some 2))) else (none)) else ((spileref19_rises.f k x219000).bind fun t224 => (if t224 = true then ((spileref19_rises.f k x219001).bind fun t225 => (spileref19_Check.j2 k (!t225) x219000 x219001 x219002)) else (spileref19_Check.j2 k true x219000 x219001 x219002)))
def spileref19_Check.j2 : Nat → Bool → List Int → List Int → List (List Int) → Option (Int)
 | 0, _, _, _, _ => none
 | k + 1, x45, x219000, x219001, x219002 => if x45 = true then (some 5) else (spileref19_Check.l1 k 0 x219000 x219001 x219002)
def spileref19_Check.l1 : Nat → Int → List Int → List Int → List (List Int) → Option (Int)
 | 0, _, _, _, _ => none
 | k + 1, x5, x219000, x219001, x219002 => if x5 < (x219002.length : Int) then (spileref19_Check.l2 k x5 0 x219000 x219001 x219002) else (some 0)
def spileref19_Check.l2 : Nat → Int → Int → List Int → List Int → List (List Int) → Option (Int)
 | 0, _, _, _, _, _ => none
 | k + 1, x5, x6, x219000, x219001, x219002 => if x6 < (x219001.length : Int) then (if x6 > 0 then (if 0 ≤ x5 then (if x5 < (x219002.length : Int) then (if 0 ≤ x6 then (if x6 < ((rd_L1 x219002 x5).length : Int) then (if 0 ≤ (wrap64 (x6 - 1)) then (if (wrap64 (x6 - 1)) < ((rd_L1 x219002 x5).length : Int) then (if (rd (rd_L1 x219002 x5) x6) < (rd (rd_L1 x219002 x5) (wrap64 (x6 - 1))) then (some 18) else (if x5 > 0 then (if 0 ≤ (wrap64 (x5 - 1)) then (if (wrap64 (x5 - 1)) < (x219002.length : Int) then (if x6 < ((rd_L1 x219002 (wrap64 (x5 - 1))).length : Int) then (if (rd (rd_L1 x219002 x5) x6) > (rd (rd_L1 x219002 (wrap64 (x5 - 1))) x6) then (some 18) else (spileref19_Check.l2 k x5 (wrap64 (x6 + 1)) x219000 x219001 x219002)) else (none)) else (none)) else (none)) else (spileref19_Check.l2 k x5 (wrap64 (x6 + 1)) x219000 x219001 x219002))) else (none)) else (none)) else (none)) else (none)) else (none)) else (none)) else (if x5 > 0 then (if 0 ≤ x5 then (if x5 < (x219002.length : Int) then (if 0 ≤ x6 then (if x6 < ((rd_L1 x219002 x5).length : Int) then (if 0 ≤ (wrap64 (x5 - 1)) then (if (wrap64 (x5 - 1)) < (x219002.length : Int) then (if x6 < ((rd_L1 x219002 (wrap64 (x5 - 1))).length : Int) then (if (rd (rd_L1 x219002 x5) x6) > (rd (rd_L1 x219002 (wrap64 (x5 - 1))) x6) then (some 18) else (spileref19_Check.l2 k x5 (wrap64 (x6 + 1)) x219000 x219001 x219002)) else (none)) else (none)) else (none)) else (none)) else (none)) else (none)) else (none)) else (spileref19_Check.l2 k x5 (wrap64 (x6 + 1)) x219000 x219001 x219002))) else (spileref19_Check.l1 k (wrap64 (x5 + 1)) x219000 x219001 x219002)
end
def spileref19_Check.f (k : Nat) (l0_0 : List Int) (l0_1 : List Int) (l0_2 : List (List Int)) : Option (Int) := (spileref19_shape.f k l0_0 l0_1 l0_2).bind fun t219 => (if t219 = 0 then ((spileref19_within.f k l0_0 (-400) 600).bind fun t220 => (if t220 = true then ((spileref19_within.f k l0_1 0 10000).bind fun t221 => (spileref19_Check.j0 k (!t221) l0_0 l0_1 l0_2)) else (spileref19_Check.j0 k true l0_0 l0_1 l0_2))) else (some t219))
theorem spileref19_Check.mono_l : ∀ k, (∀ y0 y1 y2 y3, LeO (spileref19_Check.j0 k y0 y1 y2 y3) (spileref19_Check.j0 (k + 1) y0 y1 y2 y3)) ∧ (∀ y0 y1 y2 y3, LeO (spileref19_Check.l0 k y0 y1 y2 y3) (spileref19_Check.l0 (k + 1) y0 y1 y2 y3)) ∧ (∀ y0 y1 y2 y3, LeO (spileref19_Check.j2 k y0 y1 y2 y3) (spileref19_Check.j2 (k + 1) y0 y1 y2 y3)) ∧ (∀ y0 y1 y2 y3, LeO (spileref19_Check.l1 k y0 y1 y2 y3) (spileref19_Check.l1 (k + 1) y0 y1 y2 y3)) ∧ (∀ y0 y1 y2 y3 y4, LeO (spileref19_Check.l2 k y0 y1 y2 y3 y4) (spileref19_Check.l2 (k + 1) y0 y1 y2 y3 y4))
 | 0 => ⟨fun _ _ _ _ r h => by simp [spileref19_Check.j0] at h, fun _ _ _ _ r h => by simp [spileref19_Check.l0] at h, fun _ _ _ _ r h => by simp [spileref19_Check.j2] at h, fun _ _ _ _ r h => by simp [spileref19_Check.l1] at h, fun _ _ _ _ _ r h => by simp [spileref19_Check.l2] at h⟩
 | k + 1 => by
  obtain ⟨ih0, ih1, ih2, ih3, ih4⟩ := spileref19_Check.mono_l k
  refine ⟨?_, ?_, ?_, ?_, ?_⟩
  ·
   intro y0 y1 y2 y3
   unfold spileref19_Check.j0
   repeat' first
   | (with_reducible exact ih0 _ _ _ _)
   | (with_reducible exact ih1 _ _ _ _)
   | (with_reducible exact ih2 _ _ _ _)
   | (with_reducible exact ih3 _ _ _ _)
   | (with_reducible exact ih4 _ _ _ _ _)
   | (with_reducible exact spileref19_rises.mono _ _)
   | (with_reducible exact spileref19_shape.mono _ _ _ _)
   | (with_reducible exact spileref19_within.mono _ _ _ _)
   | (with_reducible exact LeO.refl _)
   | (with_reducible exact LeO.none _)
   | (with_reducible refine LeO.ite ?_ ?_)
   | (with_reducible refine LeO.bind ?_ (fun _ => ?_))
   | exact ih0 _ _ _ _
   | exact ih1 _ _ _ _
   | exact ih2 _ _ _ _
   | exact ih3 _ _ _ _
   | exact ih4 _ _ _ _ _
   | exact spileref19_rises.mono _ _
   | exact spileref19_shape.mono _ _ _ _
   | exact spileref19_within.mono _ _ _ _
   | exact LeO.none _
   | refine LeO.ite ?_ ?_
   | refine LeO.bind ?_ (fun _ => ?_)
  ·
   intro y0 y1 y2 y3
   unfold spileref19_Check.l0
   repeat' first
   | (with_reducible exact ih0 _ _ _ _)
   | (with_reducible exact ih1 _ _ _ _)
   | (with_reducible exact ih2 _ _ _ _)
   | (with_reducible exact ih3 _ _ _ _)
   | (with_reducible exact ih4 _ _ _ _ _)
   | (with_reducible exact spileref19_rises.mono _ _)
   | (with_reducible exact spileref19_shape.mono _ _ _ _)
   | (with_reducible exact spileref19_within.mono _ _ _ _)
   | (with_reducible exact LeO.refl _)
   | (with_reducible exact LeO.none _)
   | (with_reducible refine LeO.ite ?_ ?_)
   | (with_reducible refine LeO.bind ?_ (fun _ => ?_))
   | exact ih0 _ _ _ _
   | exact ih1 _ _ _ _
   | exact ih2 _ _ _ _
   | exact ih3 _ _ _ _
   | exact ih4 _ _ _ _ _
   | exact spileref19_rises.mono _ _
   | exact spileref19_shape.mono _ _ _ _
   | exact spileref19_within.mono _ _ _ _
   | exact LeO.none _
   | refine LeO.ite ?_ ?_
   | refine LeO.bind ?_ (fun _ => ?_)
  ·
   intro y0 y1 y2 y3
   unfold spileref19_Check.j2
   repeat' first
   | (with_reducible exact ih0 _ _ _ _)
   | (with_reducible exact ih1 _ _ _ _)
   | (with_reducible exact ih2 _ _ _ _)
   | (with_reducible exact ih3 _ _ _ _)
   | (with_reducible exact ih4 _ _ _ _ _)
   | (with_reducible exact spileref19_rises.mono _ _)
   | (with_reducible exact spileref19_shape.mono _ _ _ _)
   | (with_reducible exact spileref19_within.mono _ _ _ _)
   | (with_reducible exact LeO.refl _)
   | (with_reducible exact LeO.none _)
   | (with_reducible refine LeO.ite ?_ ?_)
   | (with_reducible refine LeO.bind ?_ (fun _ => ?_))
   | exact ih0 _ _ _ _
   | exact ih1 _ _ _ _
   | exact ih2 _ _ _ _
   | exact ih3 _ _ _ _
   | exact ih4 _ _ _ _ _
   | exact spileref19_rises.mono _ _
   | exact spileref19_shape.mono _ _ _ _
   | exact spileref19_within.mono _ _ _ _
   | exact LeO.none _
   | refine LeO.ite ?_ ?_
   | refine LeO.bind ?_ (fun _ => ?_)
  ·
   intro y0 y1 y2 y3
   unfold spileref19_Check.l1
   repeat' first
   | (with_reducible exact ih0 _ _ _ _)
   | (with_reducible exact ih1 _ _ _ _)
   | (with_reducible exact ih2 _ _ _ _)
   | (with_reducible exact ih3 _ _ _ _)
   | (with_reducible exact ih4 _ _ _ _ _)
   | (with_reducible exact spileref19_rises.mono _ _)
   | (with_reducible exact spileref19_shape.mono _ _ _ _)
   | (with_reducible exact spileref19_within.mono _ _ _ _)
   | (with_reducible exact LeO.refl _)
   | (with_reducible exact LeO.none _)
   | (with_reducible refine LeO.ite ?_ ?_)
   | (with_reducible refine LeO.bind ?_ (fun _ => ?_))
   | exact ih0 _ _ _ _
   | exact ih1 _ _ _ _
   | exact ih2 _ _ _ _
   | exact ih3 _ _ _ _
   | exact ih4 _ _ _ _ _
   | exact spileref19_rises.mono _ _
   | exact spileref19_shape.mono _ _ _ _
   | exact spileref19_within.mono _ _ _ _
   | exact LeO.none _
   | refine LeO.ite ?_ ?_
   | refine LeO.bind ?_ (fun _ => ?_)
  ·
   intro y0 y1 y2 y3 y4
   unfold spileref19_Check.l2
   repeat' first
   | (with_reducible exact ih0 _ _ _ _)
   | (with_reducible exact ih1 _ _ _ _)
   | (with_reducible exact ih2 _ _ _ _)
   | (with_reducible exact ih3 _ _ _ _)
   | (with_reducible exact ih4 _ _ _ _ _)
   | (with_reducible exact spileref19_rises.mono _ _)
   | (with_reducible exact spileref19_shape.mono _ _ _ _)
   | (with_reducible exact spileref19_within.mono _ _ _ _)
   | (with_reducible exact LeO.refl _)
   | (with_reducible exact LeO.none _)
   | (with_reducible refine LeO.ite ?_ ?_)
   | (with_reducible refine LeO.bind ?_ (fun _ => ?_))
   | exact ih0 _ _ _ _
   | exact ih1 _ _ _ _
   | exact ih2 _ _ _ _
   | exact ih3 _ _ _ _
   | exact ih4 _ _ _ _ _
   | exact spileref19_rises.mono _ _
   | exact spileref19_shape.mono _ _ _ _
   | exact spileref19_within.mono _ _ _ _
   | exact LeO.none _
   | refine LeO.ite ?_ ?_
   | refine LeO.bind ?_ (fun _ => ?_)
theorem spileref19_Check.mono : ∀ a0 a1 a2 k, LeO (spileref19_Check.f k a0 a1 a2) (spileref19_Check.f (k + 1) a0 a1 a2) := by
 intro a0 a1 a2 k
 obtain ⟨ih0, ih1, ih2, ih3, ih4⟩ := spileref19_Check.mono_l k
 unfold spileref19_Check.f
 repeat' first
   | (with_reducible exact ih0 _ _ _ _)
   | (with_reducible exact ih1 _ _ _ _)
   | (with_reducible exact ih2 _ _ _ _)
   | (with_reducible exact ih3 _ _ _ _)
   | (with_reducible exact ih4 _ _ _ _ _)
   | (with_reducible exact spileref19_rises.mono _ _)
   | (with_reducible exact spileref19_shape.mono _ _ _ _)
   | (with_reducible exact spileref19_within.mono _ _ _ _)
   | (with_reducible exact LeO.refl _)
   | (with_reducible exact LeO.none _)
   | (with_reducible refine LeO.ite ?_ ?_)
   | (with_reducible refine LeO.bind ?_ (fun _ => ?_))
   | exact ih0 _ _ _ _
   | exact ih1 _ _ _ _
   | exact ih2 _ _ _ _
   | exact ih3 _ _ _ _
   | exact ih4 _ _ _ _ _
   | exact spileref19_rises.mono _ _
   | exact spileref19_shape.mono _ _ _ _
   | exact spileref19_within.mono _ _ _ _
   | exact LeO.none _
   | refine LeO.ite ?_ ?_
   | refine LeO.bind ?_ (fun _ => ?_)
set_option maxHeartbeats 8000000 in
set_option maxRecDepth 100000 in
theorem spileref19_Check.calls (k : Nat) (A0_0 : Option Addr) (c0_0 : Nat) (l0_0 : List Int) (A0_1 : Option Addr) (c0_1 : Nat) (l0_1 : List Int) (A0_2 : Option Addr) (c0_2 : Nat) (l0_2 : List (List Int)) (r : Int) (w : World) (hr0_0 : Kd.C (Kd.int .i64) w A0_0 l0_0.length l0_0) (hc0_0 : l0_0.length ≤ c0_0) (hr0_1 : Kd.C (Kd.int .i64) w A0_1 l0_1.length l0_1) (hc0_1 : l0_1.length ≤ c0_1) (hr0_2 : Kd.C (Kd.slice 3 (Kd.int .i64)) w A0_2 l0_2.length l0_2) (hc0_2 : l0_2.length ≤ c0_2) (h : spileref19_Check.f k l0_0 l0_1 l0_2 = some r) :
  Calls Tryd.prog 19 #[.agg #[.slice A0_0 l0_0.length c0_0, .slice A0_1 l0_1.length c0_1, .slice A0_2 l0_2.length c0_2]] w fun e w' => e = .returned (.int .i64 r) ∧ Below w.heap.size w w' := by
 have hu25 := Tryd.underlying25
 have HR0_0 := Aside0.mk hr0_0
 have HC0_0 := Aside0.mk hc0_0
 clear hr0_0 hc0_0
 have HR0_1 := Aside0.mk hr0_1
 have HC0_1 := Aside0.mk hc0_1
 clear hr0_1 hc0_1
 have HR0_2 := Aside0.mk hr0_2
 have HC0_2 := Aside0.mk hc0_2
 clear hr0_2 hc0_2
 have HB := Aside0.mk (Below.refl w.heap.size w)
 have H : ((spileref19_shape.f k l0_0 l0_1 l0_2).bind fun t219 => (if t219 = 0 then ((spileref19_within.f k l0_0 (-400) 600).bind fun t220 => (if t220 = true then ((spileref19_within.f k l0_1 0 10000).bind fun t221 => (spileref19_Check.j0 k (!t221) l0_0 l0_1 l0_2)) else (spileref19_Check.j0 k true l0_0 l0_1 l0_2))) else (some t219))) = some r := h
 clear h
 replace H := Option.bind_eq_some_iff.mp H
 obtain ⟨t219, A20, H⟩ := H
 replace H : (if t219 = 0 then ((spileref19_within.f k l0_0 (-400) 600).bind fun t220 => (if t220 = true then ((spileref19_within.f k l0_1 0 10000).bind fun t221 => (spileref19_Check.j0 k (!t221) l0_0 l0_1 l0_2)) else (spileref19_Check.j0 k true l0_0 l0_1 l0_2))) else (some t219)) = some r := H
 have A2 := Aside0.mk A20
 clear A20
 by_cases c3 : t219 = 0
 ·
  rw [if_pos c3] at H
  have c3b0 : (t219 == 0) = true := beq_iff_eq.mpr c3
  have c3b1 : (t219 != 0) = false := bne_eq_false_iff_eq.mpr c3
  clear c3
  have HC4 := Aside0.mk H
  clear H
  go_enter Tryd.func19, Tryd.ntmps19
  go_upto_region 4 with (first | ((with_reducible refine gate_dst (N := 1) rfl ?_); refine box_event ?hg (N := 1) ?hd (cs := #[.slice A0_0 l0_0.length c0_0, .slice A0_1 l0_1.length c0_1, .slice A0_2 l0_2.length c0_2]) (t := 25) ?hr ?_; (case hd => rfl); (case hg => rfl); (case hr => first | (go_simp; done) | (go_simp; rfl)); intro gb218 hg w5 hbox hb; have n0_ := Aside0.mk (below_step (by repeat (first | (with_reducible first | exact HB.out | apply below_alloc | apply pw_below_drewN | apply below_drew1) | exact HB.out)) hb); have n1_ := Aside0.mk (hbox); have n2_ := Aside0.mk ((by rw [hg]; exact (below_size (by repeat (first | (with_reducible first | exact HB.out | apply below_alloc | apply pw_below_drewN | apply below_drew1) | exact HB.out))) : w.heap.size ≤ gb218)); have n3_ := Aside0.mk ((by rw [hg]; exact (below_size (by repeat (first | (with_reducible first | exact HB.out | apply below_alloc | apply pw_below_drewN | apply below_drew1) | exact HB.out))) : w.heap.size ≤ gb218)); clear HB; have HB := n0_; have BK218 := n1_; have GW218 := n2_; have GE218 := n3_; clear n0_ n1_ n2_ n3_; clear hb hbox hg; have hcz6_0 : w5.cell? ⟨gb218, 0, none⟩ = some (.slice A0_0 l0_0.length c0_0) := (blk_cell BK218.out 0).trans rfl; have hcz6_1 : w5.cell? ⟨gb218, 1, none⟩ = some (.slice A0_1 l0_1.length c0_1) := (blk_cell BK218.out 1).trans rfl; have hcz6_2 : w5.cell? ⟨gb218, 2, none⟩ = some (.slice A0_2 l0_2.length c0_2) := (blk_cell BK218.out 2).trans rfl; have hfz6_0 := blk_frozen BK218.out 0; have hfz6_1 := blk_frozen BK218.out 1; have hfz6_2 := blk_frozen BK218.out 2) | (go_at_call 40; (with_reducible refine (spileref19_shape.calls k _ _ l0_0 _ _ l0_1 _ _ l0_2 t219 _ ?side1 ?side2 ?side3 ?side4 ?side5 ?side6 A2.out).mono ?_); (case side1 => repeat (first | exact (Kd.C_below HR0_0.out HB.out) | (with_reducible refine Kd.C_alloc ?_ _) | (with_reducible refine Kd.C_drewN ?_ _) | (with_reducible refine Kd.C_drew ?_))); (case side2 => exact HC0_0.out); (case side3 => repeat (first | exact (Kd.C_below HR0_1.out HB.out) | (with_reducible refine Kd.C_alloc ?_ _) | (with_reducible refine Kd.C_drewN ?_ _) | (with_reducible refine Kd.C_drew ?_))); (case side4 => exact HC0_1.out); (case side5 => repeat (first | exact (Kd.C_below HR0_2.out HB.out) | (with_reducible refine Kd.C_alloc ?_ _) | (with_reducible refine Kd.C_drewN ?_ _) | (with_reducible refine Kd.C_drew ?_))); (case side6 => exact HC0_2.out); rintro e w7 ⟨rfl, hb⟩; have n0_ := Aside0.mk (blk_below (g := gb218) (o := .cells #[.slice A0_0 l0_0.length c0_0, .slice A0_1 l0_1.length c0_1, .slice A0_2 l0_2.length c0_2] 25 (0, 0)) (by (with_reducible repeat (first | refine blk_drewN ?_ _ | refine blk_drew ?_ | refine blk_alloc ?_ _)); exact BK218.out) hb); have n1_ := Aside0.mk (below_step (by repeat (first | (with_reducible first | exact HB.out | apply below_alloc | apply pw_below_drewN | apply below_drew1 | refine below_set ?_ GE218.out) | exact HB.out)) hb); clear BK218; clear HB; have BK218 := n0_; have HB := n1_; clear n0_ n1_; (try clear hb); (try clear hb2); (try clear hk); (try clear hi)))
  repeat (go_quiet (first | ((with_reducible refine gate_dst (N := 1) rfl ?_); refine box_event ?hg (N := 1) ?hd (cs := #[.slice A0_0 l0_0.length c0_0, .slice A0_1 l0_1.length c0_1, .slice A0_2 l0_2.length c0_2]) (t := 25) ?hr ?_; (case hd => rfl); (case hg => rfl); (case hr => first | (go_simp; done) | (go_simp; rfl)); intro gb218 hg w5 hbox hb; have n0_ := Aside0.mk (below_step (by repeat (first | (with_reducible first | exact HB.out | apply below_alloc | apply pw_below_drewN | apply below_drew1) | exact HB.out)) hb); have n1_ := Aside0.mk (hbox); have n2_ := Aside0.mk ((by rw [hg]; exact (below_size (by repeat (first | (with_reducible first | exact HB.out | apply below_alloc | apply pw_below_drewN | apply below_drew1) | exact HB.out))) : w.heap.size ≤ gb218)); have n3_ := Aside0.mk ((by rw [hg]; exact (below_size (by repeat (first | (with_reducible first | exact HB.out | apply below_alloc | apply pw_below_drewN | apply below_drew1) | exact HB.out))) : w.heap.size ≤ gb218)); clear HB; have HB := n0_; have BK218 := n1_; have GW218 := n2_; have GE218 := n3_; clear n0_ n1_ n2_ n3_; clear hb hbox hg; have hcz6_0 : w5.cell? ⟨gb218, 0, none⟩ = some (.slice A0_0 l0_0.length c0_0) := (blk_cell BK218.out 0).trans rfl; have hcz6_1 : w5.cell? ⟨gb218, 1, none⟩ = some (.slice A0_1 l0_1.length c0_1) := (blk_cell BK218.out 1).trans rfl; have hcz6_2 : w5.cell? ⟨gb218, 2, none⟩ = some (.slice A0_2 l0_2.length c0_2) := (blk_cell BK218.out 2).trans rfl; have hfz6_0 := blk_frozen BK218.out 0; have hfz6_1 := blk_frozen BK218.out 1; have hfz6_2 := blk_frozen BK218.out 2) | (go_at_call 40; (with_reducible refine (spileref19_shape.calls k _ _ l0_0 _ _ l0_1 _ _ l0_2 t219 _ ?side1 ?side2 ?side3 ?side4 ?side5 ?side6 A2.out).mono ?_); (case side1 => repeat (first | exact (Kd.C_below HR0_0.out HB.out) | (with_reducible refine Kd.C_alloc ?_ _) | (with_reducible refine Kd.C_drewN ?_ _) | (with_reducible refine Kd.C_drew ?_))); (case side2 => exact HC0_0.out); (case side3 => repeat (first | exact (Kd.C_below HR0_1.out HB.out) | (with_reducible refine Kd.C_alloc ?_ _) | (with_reducible refine Kd.C_drewN ?_ _) | (with_reducible refine Kd.C_drew ?_))); (case side4 => exact HC0_1.out); (case side5 => repeat (first | exact (Kd.C_below HR0_2.out HB.out) | (with_reducible refine Kd.C_alloc ?_ _) | (with_reducible refine Kd.C_drewN ?_ _) | (with_reducible refine Kd.C_drew ?_))); (case side6 => exact HC0_2.out); rintro e w7 ⟨rfl, hb⟩; have n0_ := Aside0.mk (blk_below (g := gb218) (o := .cells #[.slice A0_0 l0_0.length c0_0, .slice A0_1 l0_1.length c0_1, .slice A0_2 l0_2.length c0_2] 25 (0, 0)) (by (with_reducible repeat (first | refine blk_drewN ?_ _ | refine blk_drew ?_ | refine blk_alloc ?_ _)); exact BK218.out) hb); have n1_ := Aside0.mk (below_step (by repeat (first | (with_reducible first | exact HB.out | apply below_alloc | apply pw_below_drewN | apply below_drew1 | refine below_set ?_ GE218.out) | exact HB.out)) hb); clear BK218; clear HB; have BK218 := n0_; have HB := n1_; clear n0_ n1_; (try clear hb); (try clear hb2); (try clear hk); (try clear hi))); go_upto_region 4 with (first | ((with_reducible refine gate_dst (N := 1) rfl ?_); refine box_event ?hg (N := 1) ?hd (cs := #[.slice A0_0 l0_0.length c0_0, .slice A0_1 l0_1.length c0_1, .slice A0_2 l0_2.length c0_2]) (t := 25) ?hr ?_; (case hd => rfl); (case hg => rfl); (case hr => first | (go_simp; done) | (go_simp; rfl)); intro gb218 hg w5 hbox hb; have n0_ := Aside0.mk (below_step (by repeat (first | (with_reducible first | exact HB.out | apply below_alloc | apply pw_below_drewN | apply below_drew1) | exact HB.out)) hb); have n1_ := Aside0.mk (hbox); have n2_ := Aside0.mk ((by rw [hg]; exact (below_size (by repeat (first | (with_reducible first | exact HB.out | apply below_alloc | apply pw_below_drewN | apply below_drew1) | exact HB.out))) : w.heap.size ≤ gb218)); have n3_ := Aside0.mk ((by rw [hg]; exact (below_size (by repeat (first | (with_reducible first | exact HB.out | apply below_alloc | apply pw_below_drewN | apply below_drew1) | exact HB.out))) : w.heap.size ≤ gb218)); clear HB; have HB := n0_; have BK218 := n1_; have GW218 := n2_; have GE218 := n3_; clear n0_ n1_ n2_ n3_; clear hb hbox hg; have hcz6_0 : w5.cell? ⟨gb218, 0, none⟩ = some (.slice A0_0 l0_0.length c0_0) := (blk_cell BK218.out 0).trans rfl; have hcz6_1 : w5.cell? ⟨gb218, 1, none⟩ = some (.slice A0_1 l0_1.length c0_1) := (blk_cell BK218.out 1).trans rfl; have hcz6_2 : w5.cell? ⟨gb218, 2, none⟩ = some (.slice A0_2 l0_2.length c0_2) := (blk_cell BK218.out 2).trans rfl; have hfz6_0 := blk_frozen BK218.out 0; have hfz6_1 := blk_frozen BK218.out 1; have hfz6_2 := blk_frozen BK218.out 2) | (go_at_call 40; (with_reducible refine (spileref19_shape.calls k _ _ l0_0 _ _ l0_1 _ _ l0_2 t219 _ ?side1 ?side2 ?side3 ?side4 ?side5 ?side6 A2.out).mono ?_); (case side1 => repeat (first | exact (Kd.C_below HR0_0.out HB.out) | (with_reducible refine Kd.C_alloc ?_ _) | (with_reducible refine Kd.C_drewN ?_ _) | (with_reducible refine Kd.C_drew ?_))); (case side2 => exact HC0_0.out); (case side3 => repeat (first | exact (Kd.C_below HR0_1.out HB.out) | (with_reducible refine Kd.C_alloc ?_ _) | (with_reducible refine Kd.C_drewN ?_ _) | (with_reducible refine Kd.C_drew ?_))); (case side4 => exact HC0_1.out); (case side5 => repeat (first | exact (Kd.C_below HR0_2.out HB.out) | (with_reducible refine Kd.C_alloc ?_ _) | (with_reducible refine Kd.C_drewN ?_ _) | (with_reducible refine Kd.C_drew ?_))); (case side6 => exact HC0_2.out); rintro e w7 ⟨rfl, hb⟩; have n0_ := Aside0.mk (blk_below (g := gb218) (o := .cells #[.slice A0_0 l0_0.length c0_0, .slice A0_1 l0_1.length c0_1, .slice A0_2 l0_2.length c0_2] 25 (0, 0)) (by (with_reducible repeat (first | refine blk_drewN ?_ _ | refine blk_drew ?_ | refine blk_alloc ?_ _)); exact BK218.out) hb); have n1_ := Aside0.mk (below_step (by repeat (first | (with_reducible first | exact HB.out | apply below_alloc | apply pw_below_drewN | apply below_drew1 | refine below_set ?_ GE218.out) | exact HB.out)) hb); clear BK218; clear HB; have BK218 := n0_; have HB := n1_; clear n0_ n1_; (try clear hb); (try clear hb2); (try clear hk); (try clear hi))))
  (try simp only [Act.put, List.setIfInBounds_toArray, List.set_cons_zero, List.set_cons_succ])
  go_cut [21] (fun v21 wc => ∃ (kq : Nat) (x21_3 : Bool), v21 = .bool x21_3 ∧ Aside0 (spileref19_Check.j0 kq x21_3 l0_0 l0_1 l0_2 = some r) ∧ Aside0 (kq ≤ k) ∧ Aside0 (wc.heap[gb218]? = some (.cells #[(.slice A0_0 l0_0.length c0_0), (.slice A0_1 l0_1.length c0_1), (.slice A0_2 l0_2.length c0_2)] 25 (0, 0))) ∧ Aside0 (Below w.heap.size w wc))
  case first =>
   have H := HC4.out
   clear HC4
   replace H := Option.bind_eq_some_iff.mp H
   obtain ⟨t220, A80, H⟩ := H
   replace H : (if t220 = true then ((spileref19_within.f k l0_1 0 10000).bind fun t221 => (spileref19_Check.j0 k (!t221) l0_0 l0_1 l0_2)) else (spileref19_Check.j0 k true l0_0 l0_1 l0_2)) = some r := H
   have A8 := Aside0.mk A80
   clear A80
   by_cases c9 : t220 = true
   ·
    subst c9
    have H1 : ((spileref19_within.f k l0_1 0 10000).bind fun t221 => (spileref19_Check.j0 k (!t221) l0_0 l0_1 l0_2)) = some r := by rw [if_pos rfl] at H; exact H
    clear H
    have H := H1
    clear H1
    replace H := Option.bind_eq_some_iff.mp H
    obtain ⟨t221, A100, H⟩ := H
    replace H : (spileref19_Check.j0 k (!t221) l0_0 l0_1 l0_2) = some r := H
    have A10 := Aside0.mk A100
    clear A100
    have H' := Aside0.mk H
    clear H
    have hcz11_0 : w7.cell? ⟨gb218, 0, none⟩ = some (.slice A0_0 l0_0.length c0_0) := (blk_cell BK218.out 0).trans rfl
    have hcz11_1 : w7.cell? ⟨gb218, 1, none⟩ = some (.slice A0_1 l0_1.length c0_1) := (blk_cell BK218.out 1).trans rfl
    have hcz11_2 : w7.cell? ⟨gb218, 2, none⟩ = some (.slice A0_2 l0_2.length c0_2) := (blk_cell BK218.out 2).trans rfl
    have hfz11_0 := blk_frozen BK218.out 0
    have hfz11_1 := blk_frozen BK218.out 1
    have hfz11_2 := blk_frozen BK218.out 2
    go_wp2_with (first | (go_at_call 41; (with_reducible refine (spileref19_within.calls k _ _ l0_0 (-400) 600 true _ ?side1 ?side2 A8.out).mono ?_); (case side1 => repeat (first | exact (Kd.C_below HR0_0.out HB.out) | (with_reducible refine Kd.C_alloc ?_ _) | (with_reducible refine Kd.C_drewN ?_ _) | (with_reducible refine Kd.C_drew ?_))); (case side2 => exact HC0_0.out); rintro e w' ⟨rfl, ⟨nd, rfl⟩⟩; (try first | exact ⟨rfl, _, World.drewN_drewN _ _ _⟩ | exact ⟨rfl, _, Eq.trans (World.drewN_drewN _ _ _) (congrArg (World.drewN _) (Nat.add_assoc _ _ _))⟩)) | (go_at_call 41; (with_reducible refine (spileref19_within.calls k _ _ l0_1 0 10000 t221 _ ?side1 ?side2 A10.out).mono ?_); (case side1 => repeat (first | exact (Kd.C_below HR0_1.out (by repeat (first | (with_reducible first | exact HB.out | apply below_alloc | apply pw_below_drewN | apply below_drew1 | refine below_set ?_ GE218.out) | exact HB.out))) | (with_reducible refine Kd.C_alloc ?_ _) | (with_reducible refine Kd.C_drewN ?_ _) | (with_reducible refine Kd.C_drew ?_))); (case side2 => exact HC0_1.out); rintro e w' ⟨rfl, ⟨nd, rfl⟩⟩; (try first | exact ⟨rfl, _, World.drewN_drewN _ _ _⟩ | exact ⟨rfl, _, Eq.trans (World.drewN_drewN _ _ _) (congrArg (World.drewN _) (Nat.add_assoc _ _ _))⟩)))
    repeat (go_quiet (first | (go_at_call 41; (with_reducible refine (spileref19_within.calls k _ _ l0_0 (-400) 600 true _ ?side1 ?side2 A8.out).mono ?_); (case side1 => repeat (first | exact (Kd.C_below HR0_0.out HB.out) | (with_reducible refine Kd.C_alloc ?_ _) | (with_reducible refine Kd.C_drewN ?_ _) | (with_reducible refine Kd.C_drew ?_))); (case side2 => exact HC0_0.out); rintro e w' ⟨rfl, ⟨nd, rfl⟩⟩; (try first | exact ⟨rfl, _, World.drewN_drewN _ _ _⟩ | exact ⟨rfl, _, Eq.trans (World.drewN_drewN _ _ _) (congrArg (World.drewN _) (Nat.add_assoc _ _ _))⟩)) | (go_at_call 41; (with_reducible refine (spileref19_within.calls k _ _ l0_1 0 10000 t221 _ ?side1 ?side2 A10.out).mono ?_); (case side1 => repeat (first | exact (Kd.C_below HR0_1.out (by repeat (first | (with_reducible first | exact HB.out | apply below_alloc | apply pw_below_drewN | apply below_drew1 | refine below_set ?_ GE218.out) | exact HB.out))) | (with_reducible refine Kd.C_alloc ?_ _) | (with_reducible refine Kd.C_drewN ?_ _) | (with_reducible refine Kd.C_drew ?_))); (case side2 => exact HC0_1.out); rintro e w' ⟨rfl, ⟨nd, rfl⟩⟩; (try first | exact ⟨rfl, _, World.drewN_drewN _ _ _⟩ | exact ⟨rfl, _, Eq.trans (World.drewN_drewN _ _ _) (congrArg (World.drewN _) (Nat.add_assoc _ _ _))⟩))); try go_wp2_with (first | (go_at_call 41; (with_reducible refine (spileref19_within.calls k _ _ l0_0 (-400) 600 true _ ?side1 ?side2 A8.out).mono ?_); (case side1 => repeat (first | exact (Kd.C_below HR0_0.out HB.out) | (with_reducible refine Kd.C_alloc ?_ _) | (with_reducible refine Kd.C_drewN ?_ _) | (with_reducible refine Kd.C_drew ?_))); (case side2 => exact HC0_0.out); rintro e w' ⟨rfl, ⟨nd, rfl⟩⟩; (try first | exact ⟨rfl, _, World.drewN_drewN _ _ _⟩ | exact ⟨rfl, _, Eq.trans (World.drewN_drewN _ _ _) (congrArg (World.drewN _) (Nat.add_assoc _ _ _))⟩)) | (go_at_call 41; (with_reducible refine (spileref19_within.calls k _ _ l0_1 0 10000 t221 _ ?side1 ?side2 A10.out).mono ?_); (case side1 => repeat (first | exact (Kd.C_below HR0_1.out (by repeat (first | (with_reducible first | exact HB.out | apply below_alloc | apply pw_below_drewN | apply below_drew1 | refine below_set ?_ GE218.out) | exact HB.out))) | (with_reducible refine Kd.C_alloc ?_ _) | (with_reducible refine Kd.C_drewN ?_ _) | (with_reducible refine Kd.C_drew ?_))); (case side2 => exact HC0_1.out); rintro e w' ⟨rfl, ⟨nd, rfl⟩⟩; (try first | exact ⟨rfl, _, World.drewN_drewN _ _ _⟩ | exact ⟨rfl, _, Eq.trans (World.drewN_drewN _ _ _) (congrArg (World.drewN _) (Nat.add_assoc _ _ _))⟩))))
    go_meet
    case rel => exact ⟨_, (!t221), (by first | rfl | (simp; done) | (simp [*]; done)), H', ⟨by first | omega | exact Nat.le_refl _⟩, ⟨by (with_reducible repeat (first | refine blk_drewN ?_ _ | refine blk_drew ?_ | refine blk_alloc ?_ _)); exact BK218.out⟩, ⟨by repeat (first | (with_reducible first | exact HB.out | apply below_alloc | apply pw_below_drewN | apply below_drew1 | refine below_set ?_ GE218.out) | exact HB.out)⟩⟩
   ·
    replace c9 := Bool.eq_false_iff.mpr c9
    subst c9
    have H1 : (spileref19_Check.j0 k true l0_0 l0_1 l0_2) = some r := by rw [if_neg (show ¬ (false = true) by decide)] at H; exact H
    clear H
    have H := H1
    clear H1
    have H' := Aside0.mk H
    clear H
    have hcz12_0 : w7.cell? ⟨gb218, 0, none⟩ = some (.slice A0_0 l0_0.length c0_0) := (blk_cell BK218.out 0).trans rfl
    have hcz12_1 : w7.cell? ⟨gb218, 1, none⟩ = some (.slice A0_1 l0_1.length c0_1) := (blk_cell BK218.out 1).trans rfl
    have hcz12_2 : w7.cell? ⟨gb218, 2, none⟩ = some (.slice A0_2 l0_2.length c0_2) := (blk_cell BK218.out 2).trans rfl
    have hfz12_0 := blk_frozen BK218.out 0
    have hfz12_1 := blk_frozen BK218.out 1
    have hfz12_2 := blk_frozen BK218.out 2
    go_wp2_with (first | (go_at_call 41; (with_reducible refine (spileref19_within.calls k _ _ l0_0 (-400) 600 false _ ?side1 ?side2 A8.out).mono ?_); (case side1 => repeat (first | exact (Kd.C_below HR0_0.out HB.out) | (with_reducible refine Kd.C_alloc ?_ _) | (with_reducible refine Kd.C_drewN ?_ _) | (with_reducible refine Kd.C_drew ?_))); (case side2 => exact HC0_0.out); rintro e w' ⟨rfl, ⟨nd, rfl⟩⟩; (try first | exact ⟨rfl, _, World.drewN_drewN _ _ _⟩ | exact ⟨rfl, _, Eq.trans (World.drewN_drewN _ _ _) (congrArg (World.drewN _) (Nat.add_assoc _ _ _))⟩)))
    repeat (go_quiet (first | (go_at_call 41; (with_reducible refine (spileref19_within.calls k _ _ l0_0 (-400) 600 false _ ?side1 ?side2 A8.out).mono ?_); (case side1 => repeat (first | exact (Kd.C_below HR0_0.out HB.out) | (with_reducible refine Kd.C_alloc ?_ _) | (with_reducible refine Kd.C_drewN ?_ _) | (with_reducible refine Kd.C_drew ?_))); (case side2 => exact HC0_0.out); rintro e w' ⟨rfl, ⟨nd, rfl⟩⟩; (try first | exact ⟨rfl, _, World.drewN_drewN _ _ _⟩ | exact ⟨rfl, _, Eq.trans (World.drewN_drewN _ _ _) (congrArg (World.drewN _) (Nat.add_assoc _ _ _))⟩))); try go_wp2_with (first | (go_at_call 41; (with_reducible refine (spileref19_within.calls k _ _ l0_0 (-400) 600 false _ ?side1 ?side2 A8.out).mono ?_); (case side1 => repeat (first | exact (Kd.C_below HR0_0.out HB.out) | (with_reducible refine Kd.C_alloc ?_ _) | (with_reducible refine Kd.C_drewN ?_ _) | (with_reducible refine Kd.C_drew ?_))); (case side2 => exact HC0_0.out); rintro e w' ⟨rfl, ⟨nd, rfl⟩⟩; (try first | exact ⟨rfl, _, World.drewN_drewN _ _ _⟩ | exact ⟨rfl, _, Eq.trans (World.drewN_drewN _ _ _) (congrArg (World.drewN _) (Nat.add_assoc _ _ _))⟩))))
    go_meet
    case rel => exact ⟨_, (true), (by first | rfl | (simp; done) | (simp [*]; done)), H', ⟨by first | omega | exact Nat.le_refl _⟩, ⟨by (with_reducible repeat (first | refine blk_drewN ?_ _ | refine blk_drew ?_ | refine blk_alloc ?_ _)); exact BK218.out⟩, ⟨by repeat (first | (with_reducible first | exact HB.out | apply below_alloc | apply pw_below_drewN | apply below_drew1 | refine below_set ?_ GE218.out) | exact HB.out)⟩⟩
  case rest =>
   clear HC4
   try clear c1
   try clear p2
   try clear c3
   try clear c3b0
   try clear c3b1
   try clear c9
   try clear hcz11_0
   try clear hcz11_1
   try clear hcz11_2
   try clear hcz12_0
   try clear hcz12_1
   try clear hcz12_2
   try clear hcz6_0
   try clear hcz6_1
   try clear hcz6_2
   try clear hfz11_0
   try clear hfz11_1
   try clear hfz11_2
   try clear hfz12_0
   try clear hfz12_1
   try clear hfz12_2
   try clear hfz6_0
   try clear hfz6_1
   try clear hfz6_2
   obtain ⟨kq, x21_3, rfl, HA, HJ3, BK218, HB⟩ := hcut
   cases kq with
   | zero => exact absurd HA.out (by simp [spileref19_Check.j0])
   | succ kj3 =>
    have H := HA.out
    clear HA
    simp only [spileref19_Check.j0] at H
    by_cases c13 : x21_3 = true
    ·
     subst c13
     have H1 : (some 2) = some r := by rw [if_pos rfl] at H; exact H
     clear H
     have H := H1
     clear H1
     obtain rfl := Option.some.inj H
     go_wp2
     repeat (go_quiet (fail); try go_wp2)
     go_ret
     exact ⟨by first | rfl | (simp [errW_none, errW_some] <;> rfl) | (simp [*, errW_none, errW_some] <;> rfl), by repeat (first | (with_reducible first | exact HB.out | apply below_alloc | apply pw_below_drewN | apply below_drew1 | refine below_set ?_ GE218.out) | exact HB.out)⟩
    ·
     replace c13 := Bool.eq_false_iff.mpr c13
     subst c13
     have H1 : (spileref19_Check.l0 kj3 0 l0_0 l0_1 l0_2) = some r := by rw [if_neg (show ¬ (false = true) by decide)] at H; exact H
     clear H
     have H := H1
     clear H1
     have H' := Aside0.mk H
     clear H
     go_wp2
     repeat (go_quiet (fail); try go_wp2)
     go_loopg [4] kj3 (fun kq v4 w' => ∃ (x4_2 : Int), v4 = .int .i64 x4_2 ∧ Aside0 (spileref19_Check.l0 kq x4_2 l0_0 l0_1 l0_2 = some r) ∧ Aside0 (kq ≤ kj3) ∧ Aside0 (w'.heap[gb218]? = some (.cells #[(.slice A0_0 l0_0.length c0_0), (.slice A0_1 l0_1.length c0_1), (.slice A0_2 l0_2.length c0_2)] 25 (0, 0))) ∧ Aside0 (Below w.heap.size w w'))
     case atStart => exact ⟨(0), (by first | rfl | (simp; done) | (simp [*]; done)), H', ⟨Nat.le_refl _⟩, ⟨by (with_reducible repeat (first | refine blk_drewN ?_ _ | refine blk_drew ?_ | refine blk_alloc ?_ _)); exact BK218.out⟩, ⟨by repeat (first | (with_reducible first | exact HB.out | apply below_alloc | apply pw_below_drewN | apply below_drew1 | refine below_set ?_ GE218.out) | exact HB.out)⟩⟩
     case round =>
      clear H'
      try clear c1
      try clear p2
      try clear c3
      try clear c3b0
      try clear c3b1
      try clear c9
      try clear c13
      try clear hcz11_0
      try clear hcz11_1
      try clear hcz11_2
      try clear hcz12_0
      try clear hcz12_1
      try clear hcz12_2
      try clear hcz6_0
      try clear hcz6_1
      try clear hcz6_2
      try clear hfz11_0
      try clear hfz11_1
      try clear hfz11_2
      try clear hfz12_0
      try clear hfz12_1
      try clear hfz12_2
      try clear hfz6_0
      try clear hfz6_1
      try clear hfz6_2
      try clear p2
      obtain ⟨x4_2, rfl, HA, HK2, BK218, HB⟩ := hrel
      cases gk with
      | zero => exact absurd HA.out (by simp [spileref19_Check.l0])
      | succ k2 =>
       have H := HA.out
       clear HA
       simp only [spileref19_Check.l0] at H
       by_cases c14 : x4_2 < (l0_2.length : Int)
       ·
        rw [if_pos c14] at H
        have c14b0 : decide (x4_2 < (l0_2.length : Int)) = true := decide_eq_true c14
        clear c14
        by_cases c15 : 0 ≤ x4_2
        ·
         rw [if_pos c15] at H
         have c15b0 : decide (0 ≤ x4_2) = true := decide_eq_true c15
         clear c15
         replace H := Option.bind_eq_some_iff.mp H
         obtain ⟨t223, A160, H⟩ := H
         replace H : (if t223 = true then (spileref19_Check.l0 k2 (wrap64 (x4_2 + 1)) l0_0 l0_1 l0_2) else (some 2)) = some r := H
         have A16 := Aside0.mk A160
         clear A160
         by_cases c17 : t223 = true
         ·
          subst c17
          have H1 : (spileref19_Check.l0 k2 (wrap64 (x4_2 + 1)) l0_0 l0_1 l0_2) = some r := by rw [if_pos rfl] at H; exact H
          clear H
          have H := H1
          clear H1
          have H' := Aside0.mk H
          clear H
          have hcz18_0 : wr.cell? ⟨gb218, 0, none⟩ = some (.slice A0_0 l0_0.length c0_0) := (blk_cell BK218.out 0).trans rfl
          have hcz18_1 : wr.cell? ⟨gb218, 1, none⟩ = some (.slice A0_1 l0_1.length c0_1) := (blk_cell BK218.out 1).trans rfl
          have hcz18_2 : wr.cell? ⟨gb218, 2, none⟩ = some (.slice A0_2 l0_2.length c0_2) := (blk_cell BK218.out 2).trans rfl
          have hfz18_0 := blk_frozen BK218.out 0
          have hfz18_1 := blk_frozen BK218.out 1
          have hfz18_2 := blk_frozen BK218.out 2
          have p222 : 0 ≤ (x4_2 : Int) := of_decide_eq_true (by first | (with_reducible assumption) | assumption)
          have q222 : x4_2 < (l0_2.length : Int) := of_decide_eq_true (by first | (with_reducible assumption) | assumption)
          obtain ⟨ad222, A222_0, c222_0, e222, hx222_0, hl222_0, hi222_0⟩ := at_L1 HR0_2.out x4_2 p222 q222
          cases e222
          replace hx222_0 := (HB.out.cell (World.block_lt_of_cell? w _ hx222_0)).trans hx222_0
          have HR222_0 := Aside0.mk hi222_0
          have HC222_0 := Aside0.mk hl222_0
          clear hi222_0 hl222_0
          replace p222 := eq_true p222
          replace q222 := eq_true q222
          go_wp2_with (first | (go_at_call 41; (with_reducible refine (spileref19_within.calls k2 _ _ (rd_L1 l0_2 x4_2) 0 10000 true _ ?side1 ?side2 A16.out).mono ?_); (case side1 => repeat (first | exact (Kd.C_below HR222_0.out HB.out) | (with_reducible refine Kd.C_alloc ?_ _) | (with_reducible refine Kd.C_drewN ?_ _) | (with_reducible refine Kd.C_drew ?_))); (case side2 => exact HC222_0.out); rintro e w' ⟨rfl, ⟨nd, rfl⟩⟩; (try first | exact ⟨rfl, _, World.drewN_drewN _ _ _⟩ | exact ⟨rfl, _, Eq.trans (World.drewN_drewN _ _ _) (congrArg (World.drewN _) (Nat.add_assoc _ _ _))⟩)))
          repeat (go_quiet (first | (go_at_call 41; (with_reducible refine (spileref19_within.calls k2 _ _ (rd_L1 l0_2 x4_2) 0 10000 true _ ?side1 ?side2 A16.out).mono ?_); (case side1 => repeat (first | exact (Kd.C_below HR222_0.out HB.out) | (with_reducible refine Kd.C_alloc ?_ _) | (with_reducible refine Kd.C_drewN ?_ _) | (with_reducible refine Kd.C_drew ?_))); (case side2 => exact HC222_0.out); rintro e w' ⟨rfl, ⟨nd, rfl⟩⟩; (try first | exact ⟨rfl, _, World.drewN_drewN _ _ _⟩ | exact ⟨rfl, _, Eq.trans (World.drewN_drewN _ _ _) (congrArg (World.drewN _) (Nat.add_assoc _ _ _))⟩))); try go_wp2_with (first | (go_at_call 41; (with_reducible refine (spileref19_within.calls k2 _ _ (rd_L1 l0_2 x4_2) 0 10000 true _ ?side1 ?side2 A16.out).mono ?_); (case side1 => repeat (first | exact (Kd.C_below HR222_0.out HB.out) | (with_reducible refine Kd.C_alloc ?_ _) | (with_reducible refine Kd.C_drewN ?_ _) | (with_reducible refine Kd.C_drew ?_))); (case side2 => exact HC222_0.out); rintro e w' ⟨rfl, ⟨nd, rfl⟩⟩; (try first | exact ⟨rfl, _, World.drewN_drewN _ _ _⟩ | exact ⟨rfl, _, Eq.trans (World.drewN_drewN _ _ _) (congrArg (World.drewN _) (Nat.add_assoc _ _ _))⟩))))
          go_roundg k2
          case measure => have := HJ3.out; have := HK2.out; omega
          case rel => exact ⟨(wrap64 (x4_2 + 1)), (by first | rfl | (simp; done) | (simp [*]; done)), H', ⟨by have := HJ3.out; have := HK2.out; omega⟩, ⟨by (with_reducible repeat (first | refine blk_drewN ?_ _ | refine blk_drew ?_ | refine blk_alloc ?_ _)); exact BK218.out⟩, ⟨by repeat (first | (with_reducible first | exact HB.out | apply below_alloc | apply pw_below_drewN | apply below_drew1 | refine below_set ?_ GE218.out) | exact HB.out)⟩⟩
         ·
          replace c17 := Bool.eq_false_iff.mpr c17
          subst c17
          have H1 : (some 2) = some r := by rw [if_neg (show ¬ (false = true) by decide)] at H; exact H
          clear H
          have H := H1
          clear H1
          obtain rfl := Option.some.inj H
          have hcz19_0 : wr.cell? ⟨gb218, 0, none⟩ = some (.slice A0_0 l0_0.length c0_0) := (blk_cell BK218.out 0).trans rfl
          have hcz19_1 : wr.cell? ⟨gb218, 1, none⟩ = some (.slice A0_1 l0_1.length c0_1) := (blk_cell BK218.out 1).trans rfl
          have hcz19_2 : wr.cell? ⟨gb218, 2, none⟩ = some (.slice A0_2 l0_2.length c0_2) := (blk_cell BK218.out 2).trans rfl
          have hfz19_0 := blk_frozen BK218.out 0
          have hfz19_1 := blk_frozen BK218.out 1
          have hfz19_2 := blk_frozen BK218.out 2
          have p222 : 0 ≤ (x4_2 : Int) := of_decide_eq_true (by first | (with_reducible assumption) | assumption)
          have q222 : x4_2 < (l0_2.length : Int) := of_decide_eq_true (by first | (with_reducible assumption) | assumption)
          obtain ⟨ad222, A222_0, c222_0, e222, hx222_0, hl222_0, hi222_0⟩ := at_L1 HR0_2.out x4_2 p222 q222
          cases e222
          replace hx222_0 := (HB.out.cell (World.block_lt_of_cell? w _ hx222_0)).trans hx222_0
          have HR222_0 := Aside0.mk hi222_0
          have HC222_0 := Aside0.mk hl222_0
          clear hi222_0 hl222_0
          replace p222 := eq_true p222
          replace q222 := eq_true q222
          go_wp2_with (first | (go_at_call 41; (with_reducible refine (spileref19_within.calls k2 _ _ (rd_L1 l0_2 x4_2) 0 10000 false _ ?side1 ?side2 A16.out).mono ?_); (case side1 => repeat (first | exact (Kd.C_below HR222_0.out HB.out) | (with_reducible refine Kd.C_alloc ?_ _) | (with_reducible refine Kd.C_drewN ?_ _) | (with_reducible refine Kd.C_drew ?_))); (case side2 => exact HC222_0.out); rintro e w' ⟨rfl, ⟨nd, rfl⟩⟩; (try first | exact ⟨rfl, _, World.drewN_drewN _ _ _⟩ | exact ⟨rfl, _, Eq.trans (World.drewN_drewN _ _ _) (congrArg (World.drewN _) (Nat.add_assoc _ _ _))⟩)))
          repeat (go_quiet (first | (go_at_call 41; (with_reducible refine (spileref19_within.calls k2 _ _ (rd_L1 l0_2 x4_2) 0 10000 false _ ?side1 ?side2 A16.out).mono ?_); (case side1 => repeat (first | exact (Kd.C_below HR222_0.out HB.out) | (with_reducible refine Kd.C_alloc ?_ _) | (with_reducible refine Kd.C_drewN ?_ _) | (with_reducible refine Kd.C_drew ?_))); (case side2 => exact HC222_0.out); rintro e w' ⟨rfl, ⟨nd, rfl⟩⟩; (try first | exact ⟨rfl, _, World.drewN_drewN _ _ _⟩ | exact ⟨rfl, _, Eq.trans (World.drewN_drewN _ _ _) (congrArg (World.drewN _) (Nat.add_assoc _ _ _))⟩))); try go_wp2_with (first | (go_at_call 41; (with_reducible refine (spileref19_within.calls k2 _ _ (rd_L1 l0_2 x4_2) 0 10000 false _ ?side1 ?side2 A16.out).mono ?_); (case side1 => repeat (first | exact (Kd.C_below HR222_0.out HB.out) | (with_reducible refine Kd.C_alloc ?_ _) | (with_reducible refine Kd.C_drewN ?_ _) | (with_reducible refine Kd.C_drew ?_))); (case side2 => exact HC222_0.out); rintro e w' ⟨rfl, ⟨nd, rfl⟩⟩; (try first | exact ⟨rfl, _, World.drewN_drewN _ _ _⟩ | exact ⟨rfl, _, Eq.trans (World.drewN_drewN _ _ _) (congrArg (World.drewN _) (Nat.add_assoc _ _ _))⟩))))
          go_ret
          exact ⟨by first | rfl | (simp [errW_none, errW_some] <;> rfl) | (simp [*, errW_none, errW_some] <;> rfl), by repeat (first | (with_reducible first | exact HB.out | apply below_alloc | apply pw_below_drewN | apply below_drew1 | refine below_set ?_ GE218.out) | exact HB.out)⟩
        ·
         rw [if_neg c15] at H
         exact absurd H (by simp)
       ·
        rw [if_neg c14] at H
        have c14b0 : decide (x4_2 < (l0_2.length : Int)) = false := decide_eq_false c14
        clear c14
        have HC20 := Aside0.mk H
        clear H
        have hcz21_0 : wr.cell? ⟨gb218, 0, none⟩ = some (.slice A0_0 l0_0.length c0_0) := (blk_cell BK218.out 0).trans rfl
        have hcz21_1 : wr.cell? ⟨gb218, 1, none⟩ = some (.slice A0_1 l0_1.length c0_1) := (blk_cell BK218.out 1).trans rfl
        have hcz21_2 : wr.cell? ⟨gb218, 2, none⟩ = some (.slice A0_2 l0_2.length c0_2) := (blk_cell BK218.out 2).trans rfl
        have hfz21_0 := blk_frozen BK218.out 0
        have hfz21_1 := blk_frozen BK218.out 1
        have hfz21_2 := blk_frozen BK218.out 2
        go_upto_region 11 with (fail)
        repeat (go_quiet (fail); go_upto_region 11 with (fail))
        go_cut [45] (fun v45 wc => ∃ (kq : Nat) (x45_19 : Bool), v45 = .bool x45_19 ∧ Aside0 (spileref19_Check.j2 kq x45_19 l0_0 l0_1 l0_2 = some r) ∧ Aside0 (kq ≤ k2) ∧ Aside0 (wc.heap[gb218]? = some (.cells #[(.slice A0_0 l0_0.length c0_0), (.slice A0_1 l0_1.length c0_1), (.slice A0_2 l0_2.length c0_2)] 25 (0, 0))) ∧ Aside0 (Below w.heap.size w wc))
        case first =>
         have H := HC20.out
         clear HC20
         replace H := Option.bind_eq_some_iff.mp H
         obtain ⟨t224, A220, H⟩ := H
         replace H : (if t224 = true then ((spileref19_rises.f k2 l0_1).bind fun t225 => (spileref19_Check.j2 k2 (!t225) l0_0 l0_1 l0_2)) else (spileref19_Check.j2 k2 true l0_0 l0_1 l0_2)) = some r := H
         have A22 := Aside0.mk A220
         clear A220
         by_cases c23 : t224 = true
         ·
          subst c23
          have H1 : ((spileref19_rises.f k2 l0_1).bind fun t225 => (spileref19_Check.j2 k2 (!t225) l0_0 l0_1 l0_2)) = some r := by rw [if_pos rfl] at H; exact H
          clear H
          have H := H1
          clear H1
          replace H := Option.bind_eq_some_iff.mp H
          obtain ⟨t225, A240, H⟩ := H
          replace H : (spileref19_Check.j2 k2 (!t225) l0_0 l0_1 l0_2) = some r := H
          have A24 := Aside0.mk A240
          clear A240
          have H' := Aside0.mk H
          clear H
          have hcz25_0 : wr.cell? ⟨gb218, 0, none⟩ = some (.slice A0_0 l0_0.length c0_0) := (blk_cell BK218.out 0).trans rfl
          have hcz25_1 : wr.cell? ⟨gb218, 1, none⟩ = some (.slice A0_1 l0_1.length c0_1) := (blk_cell BK218.out 1).trans rfl
          have hcz25_2 : wr.cell? ⟨gb218, 2, none⟩ = some (.slice A0_2 l0_2.length c0_2) := (blk_cell BK218.out 2).trans rfl
          have hfz25_0 := blk_frozen BK218.out 0
          have hfz25_1 := blk_frozen BK218.out 1
          have hfz25_2 := blk_frozen BK218.out 2
          go_wp2_with (first | (go_at_call 42; (with_reducible refine (spileref19_rises.calls k2 _ _ l0_0 true _ ?side1 ?side2 A22.out).mono ?_); (case side1 => repeat (first | exact (Kd.C_below HR0_0.out HB.out) | (with_reducible refine Kd.C_alloc ?_ _) | (with_reducible refine Kd.C_drewN ?_ _) | (with_reducible refine Kd.C_drew ?_))); (case side2 => exact HC0_0.out); rintro e w' ⟨rfl, ⟨nd, rfl⟩⟩; (try first | exact ⟨rfl, _, World.drewN_drewN _ _ _⟩ | exact ⟨rfl, _, Eq.trans (World.drewN_drewN _ _ _) (congrArg (World.drewN _) (Nat.add_assoc _ _ _))⟩)) | (go_at_call 42; (with_reducible refine (spileref19_rises.calls k2 _ _ l0_1 t225 _ ?side1 ?side2 A24.out).mono ?_); (case side1 => repeat (first | exact (Kd.C_below HR0_1.out (by repeat (first | (with_reducible first | exact HB.out | apply below_alloc | apply pw_below_drewN | apply below_drew1 | refine below_set ?_ GE218.out) | exact HB.out))) | (with_reducible refine Kd.C_alloc ?_ _) | (with_reducible refine Kd.C_drewN ?_ _) | (with_reducible refine Kd.C_drew ?_))); (case side2 => exact HC0_1.out); rintro e w' ⟨rfl, ⟨nd, rfl⟩⟩; (try first | exact ⟨rfl, _, World.drewN_drewN _ _ _⟩ | exact ⟨rfl, _, Eq.trans (World.drewN_drewN _ _ _) (congrArg (World.drewN _) (Nat.add_assoc _ _ _))⟩)))
          repeat (go_quiet (first | (go_at_call 42; (with_reducible refine (spileref19_rises.calls k2 _ _ l0_0 true _ ?side1 ?side2 A22.out).mono ?_); (case side1 => repeat (first | exact (Kd.C_below HR0_0.out HB.out) | (with_reducible refine Kd.C_alloc ?_ _) | (with_reducible refine Kd.C_drewN ?_ _) | (with_reducible refine Kd.C_drew ?_))); (case side2 => exact HC0_0.out); rintro e w' ⟨rfl, ⟨nd, rfl⟩⟩; (try first | exact ⟨rfl, _, World.drewN_drewN _ _ _⟩ | exact ⟨rfl, _, Eq.trans (World.drewN_drewN _ _ _) (congrArg (World.drewN _) (Nat.add_assoc _ _ _))⟩)) | (go_at_call 42; (with_reducible refine (spileref19_rises.calls k2 _ _ l0_1 t225 _ ?side1 ?side2 A24.out).mono ?_); (case side1 => repeat (first | exact (Kd.C_below HR0_1.out (by repeat (first | (with_reducible first | exact HB.out | apply below_alloc | apply pw_below_drewN | apply below_drew1 | refine below_set ?_ GE218.out) | exact HB.out))) | (with_reducible refine Kd.C_alloc ?_ _) | (with_reducible refine Kd.C_drewN ?_ _) | (with_reducible refine Kd.C_drew ?_))); (case side2 => exact HC0_1.out); rintro e w' ⟨rfl, ⟨nd, rfl⟩⟩; (try first | exact ⟨rfl, _, World.drewN_drewN _ _ _⟩ | exact ⟨rfl, _, Eq.trans (World.drewN_drewN _ _ _) (congrArg (World.drewN _) (Nat.add_assoc _ _ _))⟩))); try go_wp2_with (first | (go_at_call 42; (with_reducible refine (spileref19_rises.calls k2 _ _ l0_0 true _ ?side1 ?side2 A22.out).mono ?_); (case side1 => repeat (first | exact (Kd.C_below HR0_0.out HB.out) | (with_reducible refine Kd.C_alloc ?_ _) | (with_reducible refine Kd.C_drewN ?_ _) | (with_reducible refine Kd.C_drew ?_))); (case side2 => exact HC0_0.out); rintro e w' ⟨rfl, ⟨nd, rfl⟩⟩; (try first | exact ⟨rfl, _, World.drewN_drewN _ _ _⟩ | exact ⟨rfl, _, Eq.trans (World.drewN_drewN _ _ _) (congrArg (World.drewN _) (Nat.add_assoc _ _ _))⟩)) | (go_at_call 42; (with_reducible refine (spileref19_rises.calls k2 _ _ l0_1 t225 _ ?side1 ?side2 A24.out).mono ?_); (case side1 => repeat (first | exact (Kd.C_below HR0_1.out (by repeat (first | (with_reducible first | exact HB.out | apply below_alloc | apply pw_below_drewN | apply below_drew1 | refine below_set ?_ GE218.out) | exact HB.out))) | (with_reducible refine Kd.C_alloc ?_ _) | (with_reducible refine Kd.C_drewN ?_ _) | (with_reducible refine Kd.C_drew ?_))); (case side2 => exact HC0_1.out); rintro e w' ⟨rfl, ⟨nd, rfl⟩⟩; (try first | exact ⟨rfl, _, World.drewN_drewN _ _ _⟩ | exact ⟨rfl, _, Eq.trans (World.drewN_drewN _ _ _) (congrArg (World.drewN _) (Nat.add_assoc _ _ _))⟩))))
          go_meet
          case rel => exact ⟨_, (!t225), (by first | rfl | (simp; done) | (simp [*]; done)), H', ⟨by have := HJ3.out; have := HK2.out; first | omega | exact Nat.le_refl _⟩, ⟨by (with_reducible repeat (first | refine blk_drewN ?_ _ | refine blk_drew ?_ | refine blk_alloc ?_ _)); exact BK218.out⟩, ⟨by repeat (first | (with_reducible first | exact HB.out | apply below_alloc | apply pw_below_drewN | apply below_drew1 | refine below_set ?_ GE218.out) | exact HB.out)⟩⟩
         ·
          replace c23 := Bool.eq_false_iff.mpr c23
          subst c23
          have H1 : (spileref19_Check.j2 k2 true l0_0 l0_1 l0_2) = some r := by rw [if_neg (show ¬ (false = true) by decide)] at H; exact H
          clear H
          have H := H1
          clear H1
          have H' := Aside0.mk H
          clear H
          have hcz26_0 : wr.cell? ⟨gb218, 0, none⟩ = some (.slice A0_0 l0_0.length c0_0) := (blk_cell BK218.out 0).trans rfl
          have hcz26_1 : wr.cell? ⟨gb218, 1, none⟩ = some (.slice A0_1 l0_1.length c0_1) := (blk_cell BK218.out 1).trans rfl
          have hcz26_2 : wr.cell? ⟨gb218, 2, none⟩ = some (.slice A0_2 l0_2.length c0_2) := (blk_cell BK218.out 2).trans rfl
          have hfz26_0 := blk_frozen BK218.out 0
          have hfz26_1 := blk_frozen BK218.out 1
          have hfz26_2 := blk_frozen BK218.out 2
          go_wp2_with (first | (go_at_call 42; (with_reducible refine (spileref19_rises.calls k2 _ _ l0_0 false _ ?side1 ?side2 A22.out).mono ?_); (case side1 => repeat (first | exact (Kd.C_below HR0_0.out HB.out) | (with_reducible refine Kd.C_alloc ?_ _) | (with_reducible refine Kd.C_drewN ?_ _) | (with_reducible refine Kd.C_drew ?_))); (case side2 => exact HC0_0.out); rintro e w' ⟨rfl, ⟨nd, rfl⟩⟩; (try first | exact ⟨rfl, _, World.drewN_drewN _ _ _⟩ | exact ⟨rfl, _, Eq.trans (World.drewN_drewN _ _ _) (congrArg (World.drewN _) (Nat.add_assoc _ _ _))⟩)))
          repeat (go_quiet (first | (go_at_call 42; (with_reducible refine (spileref19_rises.calls k2 _ _ l0_0 false _ ?side1 ?side2 A22.out).mono ?_); (case side1 => repeat (first | exact (Kd.C_below HR0_0.out HB.out) | (with_reducible refine Kd.C_alloc ?_ _) | (with_reducible refine Kd.C_drewN ?_ _) | (with_reducible refine Kd.C_drew ?_))); (case side2 => exact HC0_0.out); rintro e w' ⟨rfl, ⟨nd, rfl⟩⟩; (try first | exact ⟨rfl, _, World.drewN_drewN _ _ _⟩ | exact ⟨rfl, _, Eq.trans (World.drewN_drewN _ _ _) (congrArg (World.drewN _) (Nat.add_assoc _ _ _))⟩))); try go_wp2_with (first | (go_at_call 42; (with_reducible refine (spileref19_rises.calls k2 _ _ l0_0 false _ ?side1 ?side2 A22.out).mono ?_); (case side1 => repeat (first | exact (Kd.C_below HR0_0.out HB.out) | (with_reducible refine Kd.C_alloc ?_ _) | (with_reducible refine Kd.C_drewN ?_ _) | (with_reducible refine Kd.C_drew ?_))); (case side2 => exact HC0_0.out); rintro e w' ⟨rfl, ⟨nd, rfl⟩⟩; (try first | exact ⟨rfl, _, World.drewN_drewN _ _ _⟩ | exact ⟨rfl, _, Eq.trans (World.drewN_drewN _ _ _) (congrArg (World.drewN _) (Nat.add_assoc _ _ _))⟩))))
          go_meet
          case rel => exact ⟨_, (true), (by first | rfl | (simp; done) | (simp [*]; done)), H', ⟨by have := HJ3.out; have := HK2.out; first | omega | exact Nat.le_refl _⟩, ⟨by (with_reducible repeat (first | refine blk_drewN ?_ _ | refine blk_drew ?_ | refine blk_alloc ?_ _)); exact BK218.out⟩, ⟨by repeat (first | (with_reducible first | exact HB.out | apply below_alloc | apply pw_below_drewN | apply below_drew1 | refine below_set ?_ GE218.out) | exact HB.out)⟩⟩
        case rest =>
         clear HC20
         try clear c1
         try clear c2
         try clear p2
         try clear q2
         try clear hx2
         try clear c3
         try clear c3b0
         try clear c3b1
         try clear p6
         try clear c9
         try clear c13
         try clear c14
         try clear c14b0
         try clear c15
         try clear c15b0
         try clear c17
         try clear c19
         try clear c22
         try clear p22
         try clear q22
         try clear hx22
         try clear c23
         try clear hcz11_0
         try clear hcz11_1
         try clear hcz11_2
         try clear hcz12_0
         try clear hcz12_1
         try clear hcz12_2
         try clear hcz18_0
         try clear hcz18_1
         try clear hcz18_2
         try clear hcz19_0
         try clear hcz19_1
         try clear hcz19_2
         try clear hcz21_0
         try clear hcz21_1
         try clear hcz21_2
         try clear hcz25_0
         try clear hcz25_1
         try clear hcz25_2
         try clear hcz26_0
         try clear hcz26_1
         try clear hcz26_2
         try clear hcz6_0
         try clear hcz6_1
         try clear hcz6_2
         try clear hfz11_0
         try clear hfz11_1
         try clear hfz11_2
         try clear hfz12_0
         try clear hfz12_1
         try clear hfz12_2
         try clear hfz18_0
         try clear hfz18_1
         try clear hfz18_2
         try clear hfz19_0
         try clear hfz19_1
         try clear hfz19_2
         try clear hfz21_0
         try clear hfz21_1
         try clear hfz21_2
         try clear hfz25_0
         try clear hfz25_1
         try clear hfz25_2
         try clear hfz26_0
         try clear hfz26_1
         try clear hfz26_2
         try clear hfz6_0
         try clear hfz6_1
         try clear hfz6_2
         try clear hx222_0
         try clear p2
         try clear p222
         try clear q222
         obtain ⟨kq, x45_19, rfl, HA, HJ19, BK218, HB⟩ := hcut
         cases kq with
         | zero => exact absurd HA.out (by simp [spileref19_Check.j2])
         | succ kj19 =>
          have H := HA.out
          clear HA
          simp only [spileref19_Check.j2] at H
          by_cases c27 : x45_19 = true
          ·
           subst c27
           have H1 : (some 5) = some r := by rw [if_pos rfl] at H; exact H
           clear H
           have H := H1
           clear H1
           obtain rfl := Option.some.inj H
           go_wp2
           repeat (go_quiet (fail); try go_wp2)
           go_ret
           exact ⟨by first | rfl | (simp [errW_none, errW_some] <;> rfl) | (simp [*, errW_none, errW_some] <;> rfl), by repeat (first | (with_reducible first | exact HB.out | apply below_alloc | apply pw_below_drewN | apply below_drew1 | refine below_set ?_ GE218.out) | exact HB.out)⟩
          ·
           replace c27 := Bool.eq_false_iff.mpr c27
           subst c27
           have H1 : (spileref19_Check.l1 kj19 0 l0_0 l0_1 l0_2) = some r := by rw [if_neg (show ¬ (false = true) by decide)] at H; exact H
           clear H
           have H := H1
           clear H1
           have H' := Aside0.mk H
           clear H
           go_wp2
           repeat (go_quiet (fail); try go_wp2)
           go_loopg [5] kj19 (fun kq v5 w' => ∃ (x5_4 : Int), v5 = .int .i64 x5_4 ∧ Aside0 (spileref19_Check.l1 kq x5_4 l0_0 l0_1 l0_2 = some r) ∧ Aside0 (kq ≤ kj19) ∧ Aside0 (w'.heap[gb218]? = some (.cells #[(.slice A0_0 l0_0.length c0_0), (.slice A0_1 l0_1.length c0_1), (.slice A0_2 l0_2.length c0_2)] 25 (0, 0))) ∧ Aside0 (Below w.heap.size w w'))
           case atStart => exact ⟨(0), (by first | rfl | (simp; done) | (simp [*]; done)), H', ⟨Nat.le_refl _⟩, ⟨by (with_reducible repeat (first | refine blk_drewN ?_ _ | refine blk_drew ?_ | refine blk_alloc ?_ _)); exact BK218.out⟩, ⟨by repeat (first | (with_reducible first | exact HB.out | apply below_alloc | apply pw_below_drewN | apply below_drew1 | refine below_set ?_ GE218.out) | exact HB.out)⟩⟩
           case round =>
            clear H'
            try clear c1
            try clear c2
            try clear p2
            try clear q2
            try clear hx2
            try clear c3
            try clear c3b0
            try clear c3b1
            try clear p6
            try clear c9
            try clear c13
            try clear c14
            try clear c14b0
            try clear c15
            try clear c15b0
            try clear c17
            try clear c19
            try clear c22
            try clear p22
            try clear q22
            try clear hx22
            try clear c23
            try clear c27
            try clear hcz11_0
            try clear hcz11_1
            try clear hcz11_2
            try clear hcz12_0
            try clear hcz12_1
            try clear hcz12_2
            try clear hcz18_0
            try clear hcz18_1
            try clear hcz18_2
            try clear hcz19_0
            try clear hcz19_1
            try clear hcz19_2
            try clear hcz21_0
            try clear hcz21_1
            try clear hcz21_2
            try clear hcz25_0
            try clear hcz25_1
            try clear hcz25_2
            try clear hcz26_0
            try clear hcz26_1
            try clear hcz26_2
            try clear hcz6_0
            try clear hcz6_1
            try clear hcz6_2
            try clear hfz11_0
            try clear hfz11_1
            try clear hfz11_2
            try clear hfz12_0
            try clear hfz12_1
            try clear hfz12_2
            try clear hfz18_0
            try clear hfz18_1
            try clear hfz18_2
            try clear hfz19_0
            try clear hfz19_1
            try clear hfz19_2
            try clear hfz21_0
            try clear hfz21_1
            try clear hfz21_2
            try clear hfz25_0
            try clear hfz25_1
            try clear hfz25_2
            try clear hfz26_0
            try clear hfz26_1
            try clear hfz26_2
            try clear hfz6_0
            try clear hfz6_1
            try clear hfz6_2
            try clear hx222_0
            try clear p2
            try clear p22
            try clear p222
            try clear p6
            try clear q2
            try clear q22
            try clear q222
            obtain ⟨x5_4, rfl, HA, HK4, BK218, HB⟩ := hrel
            cases gk with
            | zero => exact absurd HA.out (by simp [spileref19_Check.l1])
            | succ k4 =>
             have H := HA.out
             clear HA
             simp only [spileref19_Check.l1] at H
             by_cases c28 : x5_4 < (l0_2.length : Int)
             ·
              rw [if_pos c28] at H
              have c28b0 : decide (x5_4 < (l0_2.length : Int)) = true := decide_eq_true c28
              clear c28
              have H' := Aside0.mk H
              clear H
              have hcz29_0 : wr.cell? ⟨gb218, 0, none⟩ = some (.slice A0_0 l0_0.length c0_0) := (blk_cell BK218.out 0).trans rfl
              have hcz29_1 : wr.cell? ⟨gb218, 1, none⟩ = some (.slice A0_1 l0_1.length c0_1) := (blk_cell BK218.out 1).trans rfl
              have hcz29_2 : wr.cell? ⟨gb218, 2, none⟩ = some (.slice A0_2 l0_2.length c0_2) := (blk_cell BK218.out 2).trans rfl
              have hfz29_0 := blk_frozen BK218.out 0
              have hfz29_1 := blk_frozen BK218.out 1
              have hfz29_2 := blk_frozen BK218.out 2
              go_wp2
              repeat (go_quiet (fail); try go_wp2)
              go_loopg [6] k4 (fun kq v6 w' => ∃ (x6_5 : Int), v6 = .int .i64 x6_5 ∧ Aside0 (spileref19_Check.l2 kq x5_4 x6_5 l0_0 l0_1 l0_2 = some r) ∧ Aside0 (kq ≤ k4) ∧ Aside0 (w'.heap[gb218]? = some (.cells #[(.slice A0_0 l0_0.length c0_0), (.slice A0_1 l0_1.length c0_1), (.slice A0_2 l0_2.length c0_2)] 25 (0, 0))) ∧ Aside0 (Below w.heap.size w w'))
              case atStart => exact ⟨(0), (by first | rfl | (simp; done) | (simp [*]; done)), H', ⟨Nat.le_refl _⟩, ⟨by (with_reducible repeat (first | refine blk_drewN ?_ _ | refine blk_drew ?_ | refine blk_alloc ?_ _)); exact BK218.out⟩, ⟨by repeat (first | (with_reducible first | exact HB.out | apply below_alloc | apply pw_below_drewN | apply below_drew1 | refine below_set ?_ GE218.out) | exact HB.out)⟩⟩
              case round =>
               clear H'
               try clear c1
               try clear c2
               try clear p2
               try clear q2
               try clear hx2
               try clear c3
               try clear c3b0
               try clear c3b1
               try clear p6
               try clear c9
               try clear c13
               try clear c14
               try clear c14b0
               try clear c15
               try clear c15b0
               try clear c17
               try clear c19
               try clear c22
               try clear p22
               try clear q22
               try clear hx22
               try clear c23
               try clear c27
               try clear c28
               try clear c28b0
               try clear hcz11_0
               try clear hcz11_1
               try clear hcz11_2
               try clear hcz12_0
               try clear hcz12_1
               try clear hcz12_2
               try clear hcz18_0
               try clear hcz18_1
               try clear hcz18_2
               try clear hcz19_0
               try clear hcz19_1
               try clear hcz19_2
               try clear hcz21_0
               try clear hcz21_1
               try clear hcz21_2
               try clear hcz25_0
               try clear hcz25_1
               try clear hcz25_2
               try clear hcz26_0
               try clear hcz26_1
               try clear hcz26_2
               try clear hcz29_0
               try clear hcz29_1
               try clear hcz29_2
               try clear hcz6_0
               try clear hcz6_1
               try clear hcz6_2
               try clear hfz11_0
               try clear hfz11_1
               try clear hfz11_2
               try clear hfz12_0
               try clear hfz12_1
               try clear hfz12_2
               try clear hfz18_0
               try clear hfz18_1
               try clear hfz18_2
               try clear hfz19_0
               try clear hfz19_1
               try clear hfz19_2
               try clear hfz21_0
               try clear hfz21_1
               try clear hfz21_2
               try clear hfz25_0
               try clear hfz25_1
               try clear hfz25_2
               try clear hfz26_0
               try clear hfz26_1
               try clear hfz26_2
               try clear hfz29_0
               try clear hfz29_1
               try clear hfz29_2
               try clear hfz6_0
               try clear hfz6_1
               try clear hfz6_2
               try clear hx222_0
               try clear p2
               try clear p22
               try clear p222
               try clear p6
               try clear q2
               try clear q22
               try clear q222
               obtain ⟨x6_5, rfl, HA, HK5, BK218, HB⟩ := hrel
               cases gk with
               | zero => exact absurd HA.out (by simp [spileref19_Check.l2])
               | succ k5 =>
                have H := HA.out
                clear HA
                simp only [spileref19_Check.l2] at H
                by_cases c30 : x6_5 < (l0_1.length : Int)
                ·
                 rw [if_pos c30] at H
                 have c30b0 : decide (x6_5 < (l0_1.length : Int)) = true := decide_eq_true c30
                 clear c30
                 by_cases c31 : x6_5 > 0
                 ·
                  rw [if_pos c31] at H
                  have c31b0 : decide (0 < x6_5) = true := decide_eq_true c31
                  clear c31
                  by_cases c32 : 0 ≤ x5_4
                  ·
                   rw [if_pos c32] at H
                   have c32b0 : decide (0 ≤ x5_4) = true := decide_eq_true c32
                   clear c32
                   by_cases c33 : x5_4 < (l0_2.length : Int)
                   ·
                    rw [if_pos c33] at H
                    have c33b0 : decide (x5_4 < (l0_2.length : Int)) = true := decide_eq_true c33
                    clear c33
                    by_cases c34 : 0 ≤ x6_5
                    ·
                     rw [if_pos c34] at H
                     have c34b0 : decide (0 ≤ x6_5) = true := decide_eq_true c34
                     clear c34
                     by_cases c35 : x6_5 < ((rd_L1 l0_2 x5_4).length : Int)
                     ·
                      rw [if_pos c35] at H
                      have c35b0 : decide (x6_5 < ((rd_L1 l0_2 x5_4).length : Int)) = true := decide_eq_true c35
                      clear c35
                      obtain ⟨ji36, hji36⟩ : ∃ j_ : Int, (wrap64 (x6_5 - 1)) = j_ := ⟨_, rfl⟩
                      replace H : (if 0 ≤ (ji36) then (if (ji36) < ((rd_L1 l0_2 x5_4).length : Int) then (if (rd (rd_L1 l0_2 x5_4) x6_5) < (rd (rd_L1 l0_2 x5_4) (ji36)) then (some 18) else (if x5_4 > 0 then (if 0 ≤ (wrap64 (x5_4 - 1)) then (if (wrap64 (x5_4 - 1)) < (l0_2.length : Int) then (if x6_5 < ((rd_L1 l0_2 (wrap64 (x5_4 - 1))).length : Int) then (if (rd (rd_L1 l0_2 x5_4) x6_5) > (rd (rd_L1 l0_2 (wrap64 (x5_4 - 1))) x6_5) then (some 18) else (spileref19_Check.l2 k5 x5_4 (wrap64 (x6_5 + 1)) l0_0 l0_1 l0_2)) else (none)) else (none)) else (none)) else (spileref19_Check.l2 k5 x5_4 (wrap64 (x6_5 + 1)) l0_0 l0_1 l0_2))) else (none)) else (none)) = some r := by first | (rw [hji36] at H; exact H) | (simp only [hji36] at H ⊢; exact H)
                      have hji36w : (IntKind.i64.wrap (x6_5 - 1)) = ji36 := (i64_w _).trans hji36
                      by_cases c37 : 0 ≤ (ji36)
                      ·
                       rw [if_pos c37] at H
                       have c37b0 : decide (0 ≤ (ji36)) = true := decide_eq_true c37
                       clear c37
                       by_cases c38 : (ji36) < ((rd_L1 l0_2 x5_4).length : Int)
                       ·
                        rw [if_pos c38] at H
                        have c38b0 : decide ((ji36) < ((rd_L1 l0_2 x5_4).length : Int)) = true := decide_eq_true c38
                        clear c38
                        by_cases c39 : (rd (rd_L1 l0_2 x5_4) x6_5) < (rd (rd_L1 l0_2 x5_4) (ji36))
                        ·
                         rw [if_pos c39] at H
                         have c39b0 : decide ((rd (rd_L1 l0_2 x5_4) x6_5) < (rd (rd_L1 l0_2 x5_4) (ji36))) = true := decide_eq_true c39
                         clear c39
                         obtain rfl := Option.some.inj H
                         have hcz40_0 : wr.cell? ⟨gb218, 0, none⟩ = some (.slice A0_0 l0_0.length c0_0) := (blk_cell BK218.out 0).trans rfl
                         have hcz40_1 : wr.cell? ⟨gb218, 1, none⟩ = some (.slice A0_1 l0_1.length c0_1) := (blk_cell BK218.out 1).trans rfl
                         have hcz40_2 : wr.cell? ⟨gb218, 2, none⟩ = some (.slice A0_2 l0_2.length c0_2) := (blk_cell BK218.out 2).trans rfl
                         have hfz40_0 := blk_frozen BK218.out 0
                         have hfz40_1 := blk_frozen BK218.out 1
                         have hfz40_2 := blk_frozen BK218.out 2
                         have p226 : 0 ≤ (x5_4 : Int) := of_decide_eq_true (by first | (with_reducible assumption) | assumption)
                         have q226 : x5_4 < (l0_2.length : Int) := of_decide_eq_true (by first | (with_reducible assumption) | assumption)
                         obtain ⟨ad226, A226_0, c226_0, e226, hx226_0, hl226_0, hi226_0⟩ := at_L1 HR0_2.out x5_4 p226 q226
                         cases e226
                         replace hx226_0 := (HB.out.cell (World.block_lt_of_cell? w _ hx226_0)).trans hx226_0
                         have HR226_0 := Aside0.mk hi226_0
                         have HC226_0 := Aside0.mk hl226_0
                         clear hi226_0 hl226_0
                         replace p226 := eq_true p226
                         replace q226 := eq_true q226
                         have p227 : 0 ≤ (x6_5 : Int) := of_decide_eq_true (by first | (with_reducible assumption) | assumption)
                         have q227 : x6_5 < ((rd_L1 l0_2 x5_4).length : Int) := of_decide_eq_true (by first | (with_reducible assumption) | assumption)
                         obtain ⟨ad227, e227, hx227_0⟩ := Kd.at_int HR226_0.out x6_5 p227 q227
                         cases e227
                         replace hx227_0 := (HB.out.cell (World.block_lt_of_cell? w _ hx227_0)).trans hx227_0
                         replace p227 := eq_true p227
                         replace q227 := eq_true q227
                         have p228 : 0 ≤ (x5_4 : Int) := of_decide_eq_true (by first | (with_reducible assumption) | assumption)
                         have q228 : x5_4 < (l0_2.length : Int) := of_decide_eq_true (by first | (with_reducible assumption) | assumption)
                         obtain ⟨ad228, A228_0, c228_0, e228, hx228_0, hl228_0, hi228_0⟩ := at_L1 HR0_2.out x5_4 p228 q228
                         obtain rfl : ad226 = ad228 := (by injection e228)
                         replace hx228_0 := (HB.out.cell (World.block_lt_of_cell? w _ hx228_0)).trans hx228_0
                         have HR228_0 := Aside0.mk hi228_0
                         have HC228_0 := Aside0.mk hl228_0
                         clear hi228_0 hl228_0
                         replace p228 := eq_true p228
                         replace q228 := eq_true q228
                         have ea_ := Option.some.inj (hx226_0.symm.trans hx228_0)
                         injection ea_ with ea_ en_ ec_
                         subst ea_
                         subst ec_
                         clear en_
                         have p229 : 0 ≤ ((ji36) : Int) := of_decide_eq_true (by first | (with_reducible assumption) | assumption)
                         have q229 : (ji36) < ((rd_L1 l0_2 x5_4).length : Int) := of_decide_eq_true (by first | (with_reducible assumption) | assumption)
                         obtain ⟨ad229, e229, hx229_0⟩ := Kd.at_int HR228_0.out (ji36) p229 q229
                         obtain rfl : ad227 = ad229 := (by injection e229)
                         replace hx229_0 := (HB.out.cell (World.block_lt_of_cell? w _ hx229_0)).trans hx229_0
                         replace p229 := eq_true p229
                         replace q229 := eq_true q229
                         go_wp2
                         repeat (go_quiet (fail); try go_wp2)
                         go_ret
                         exact ⟨by first | rfl | (simp [errW_none, errW_some] <;> rfl) | (simp only [← hji36]; first | rfl | (simp [errW_none, errW_some] <;> rfl)) | (simp [*, errW_none, errW_some] <;> rfl), by repeat (first | (with_reducible first | exact HB.out | apply below_alloc | apply pw_below_drewN | apply below_drew1 | refine below_set ?_ GE218.out) | exact HB.out)⟩
                        ·
                         rw [if_neg c39] at H
                         have c39b0 : decide ((rd (rd_L1 l0_2 x5_4) x6_5) < (rd (rd_L1 l0_2 x5_4) (ji36))) = false := decide_eq_false c39
                         clear c39
                         by_cases c41 : x5_4 > 0
                         ·
                          rw [if_pos c41] at H
                          have c41b0 : decide (0 < x5_4) = true := decide_eq_true c41
                          clear c41
                          obtain ⟨ji42, hji42⟩ : ∃ j_ : Int, (wrap64 (x5_4 - 1)) = j_ := ⟨_, rfl⟩
                          replace H : (if 0 ≤ (ji42) then (if (ji42) < (l0_2.length : Int) then (if x6_5 < ((rd_L1 l0_2 (ji42)).length : Int) then (if (rd (rd_L1 l0_2 x5_4) x6_5) > (rd (rd_L1 l0_2 (ji42)) x6_5) then (some 18) else (spileref19_Check.l2 k5 x5_4 (wrap64 (x6_5 + 1)) l0_0 l0_1 l0_2)) else (none)) else (none)) else (none)) = some r := by first | (rw [hji42] at H; exact H) | (simp only [hji42] at H ⊢; exact H)
                          have hji42w : (IntKind.i64.wrap (x5_4 - 1)) = ji42 := (i64_w _).trans hji42
                          by_cases c43 : 0 ≤ (ji42)
                          ·
                           rw [if_pos c43] at H
                           have c43b0 : decide (0 ≤ (ji42)) = true := decide_eq_true c43
                           clear c43
                           by_cases c44 : (ji42) < (l0_2.length : Int)
                           ·
                            rw [if_pos c44] at H
                            have c44b0 : decide ((ji42) < (l0_2.length : Int)) = true := decide_eq_true c44
                            clear c44
                            by_cases c45 : x6_5 < ((rd_L1 l0_2 (ji42)).length : Int)
                            ·
                             rw [if_pos c45] at H
                             have c45b0 : decide (x6_5 < ((rd_L1 l0_2 (ji42)).length : Int)) = true := decide_eq_true c45
                             clear c45
                             by_cases c46 : (rd (rd_L1 l0_2 x5_4) x6_5) > (rd (rd_L1 l0_2 (ji42)) x6_5)
                             ·
                              rw [if_pos c46] at H
                              have c46b0 : decide ((rd (rd_L1 l0_2 (ji42)) x6_5) < (rd (rd_L1 l0_2 x5_4) x6_5)) = true := decide_eq_true c46
                              clear c46
                              obtain rfl := Option.some.inj H
                              have hcz47_0 : wr.cell? ⟨gb218, 0, none⟩ = some (.slice A0_0 l0_0.length c0_0) := (blk_cell BK218.out 0).trans rfl
                              have hcz47_1 : wr.cell? ⟨gb218, 1, none⟩ = some (.slice A0_1 l0_1.length c0_1) := (blk_cell BK218.out 1).trans rfl
                              have hcz47_2 : wr.cell? ⟨gb218, 2, none⟩ = some (.slice A0_2 l0_2.length c0_2) := (blk_cell BK218.out 2).trans rfl
                              have hfz47_0 := blk_frozen BK218.out 0
                              have hfz47_1 := blk_frozen BK218.out 1
                              have hfz47_2 := blk_frozen BK218.out 2
                              have p226 : 0 ≤ (x5_4 : Int) := of_decide_eq_true (by first | (with_reducible assumption) | assumption)
                              have q226 : x5_4 < (l0_2.length : Int) := of_decide_eq_true (by first | (with_reducible assumption) | assumption)
                              obtain ⟨ad226, A226_0, c226_0, e226, hx226_0, hl226_0, hi226_0⟩ := at_L1 HR0_2.out x5_4 p226 q226
                              cases e226
                              replace hx226_0 := (HB.out.cell (World.block_lt_of_cell? w _ hx226_0)).trans hx226_0
                              have HR226_0 := Aside0.mk hi226_0
                              have HC226_0 := Aside0.mk hl226_0
                              clear hi226_0 hl226_0
                              replace p226 := eq_true p226
                              replace q226 := eq_true q226
                              have p227 : 0 ≤ (x6_5 : Int) := of_decide_eq_true (by first | (with_reducible assumption) | assumption)
                              have q227 : x6_5 < ((rd_L1 l0_2 x5_4).length : Int) := of_decide_eq_true (by first | (with_reducible assumption) | assumption)
                              obtain ⟨ad227, e227, hx227_0⟩ := Kd.at_int HR226_0.out x6_5 p227 q227
                              cases e227
                              replace hx227_0 := (HB.out.cell (World.block_lt_of_cell? w _ hx227_0)).trans hx227_0
                              replace p227 := eq_true p227
                              replace q227 := eq_true q227
                              have p228 : 0 ≤ (x5_4 : Int) := of_decide_eq_true (by first | (with_reducible assumption) | assumption)
                              have q228 : x5_4 < (l0_2.length : Int) := of_decide_eq_true (by first | (with_reducible assumption) | assumption)
                              obtain ⟨ad228, A228_0, c228_0, e228, hx228_0, hl228_0, hi228_0⟩ := at_L1 HR0_2.out x5_4 p228 q228
                              obtain rfl : ad226 = ad228 := (by injection e228)
                              replace hx228_0 := (HB.out.cell (World.block_lt_of_cell? w _ hx228_0)).trans hx228_0
                              have HR228_0 := Aside0.mk hi228_0
                              have HC228_0 := Aside0.mk hl228_0
                              clear hi228_0 hl228_0
                              replace p228 := eq_true p228
                              replace q228 := eq_true q228
                              have ea_ := Option.some.inj (hx226_0.symm.trans hx228_0)
                              injection ea_ with ea_ en_ ec_
                              subst ea_
                              subst ec_
                              clear en_
                              have p229 : 0 ≤ ((ji36) : Int) := of_decide_eq_true (by first | (with_reducible assumption) | assumption)
                              have q229 : (ji36) < ((rd_L1 l0_2 x5_4).length : Int) := of_decide_eq_true (by first | (with_reducible assumption) | assumption)
                              obtain ⟨ad229, e229, hx229_0⟩ := Kd.at_int HR228_0.out (ji36) p229 q229
                              obtain rfl : ad227 = ad229 := (by injection e229)
                              replace hx229_0 := (HB.out.cell (World.block_lt_of_cell? w _ hx229_0)).trans hx229_0
                              replace p229 := eq_true p229
                              replace q229 := eq_true q229
                              have p230 : 0 ≤ (x5_4 : Int) := of_decide_eq_true (by first | (with_reducible assumption) | assumption)
                              have q230 : x5_4 < (l0_2.length : Int) := of_decide_eq_true (by first | (with_reducible assumption) | assumption)
                              obtain ⟨ad230, A230_0, c230_0, e230, hx230_0, hl230_0, hi230_0⟩ := at_L1 HR0_2.out x5_4 p230 q230
                              obtain rfl : ad226 = ad230 := (by injection e230)
                              replace hx230_0 := (HB.out.cell (World.block_lt_of_cell? w _ hx230_0)).trans hx230_0
                              have HR230_0 := Aside0.mk hi230_0
                              have HC230_0 := Aside0.mk hl230_0
                              clear hi230_0 hl230_0
                              replace p230 := eq_true p230
                              replace q230 := eq_true q230
                              have ea_ := Option.some.inj (hx226_0.symm.trans hx230_0)
                              injection ea_ with ea_ en_ ec_
                              subst ea_
                              subst ec_
                              clear en_
                              have p231 : 0 ≤ (x6_5 : Int) := of_decide_eq_true (by first | (with_reducible assumption) | assumption)
                              have q231 : x6_5 < ((rd_L1 l0_2 x5_4).length : Int) := of_decide_eq_true (by first | (with_reducible assumption) | assumption)
                              obtain ⟨ad231, e231, hx231_0⟩ := Kd.at_int HR230_0.out x6_5 p231 q231
                              obtain rfl : ad227 = ad231 := (by injection e231)
                              replace hx231_0 := (HB.out.cell (World.block_lt_of_cell? w _ hx231_0)).trans hx231_0
                              replace p231 := eq_true p231
                              replace q231 := eq_true q231
                              have p232 : 0 ≤ ((ji42) : Int) := of_decide_eq_true (by first | (with_reducible assumption) | assumption)
                              have q232 : (ji42) < (l0_2.length : Int) := of_decide_eq_true (by first | (with_reducible assumption) | assumption)
                              obtain ⟨ad232, A232_0, c232_0, e232, hx232_0, hl232_0, hi232_0⟩ := at_L1 HR0_2.out (ji42) p232 q232
                              obtain rfl : ad226 = ad232 := (by injection e232)
                              replace hx232_0 := (HB.out.cell (World.block_lt_of_cell? w _ hx232_0)).trans hx232_0
                              have HR232_0 := Aside0.mk hi232_0
                              have HC232_0 := Aside0.mk hl232_0
                              clear hi232_0 hl232_0
                              replace p232 := eq_true p232
                              replace q232 := eq_true q232
                              have p233 : 0 ≤ (x6_5 : Int) := of_decide_eq_true (by first | (with_reducible assumption) | assumption)
                              have q233 : x6_5 < ((rd_L1 l0_2 (ji42)).length : Int) := of_decide_eq_true (by first | (with_reducible assumption) | assumption)
                              obtain ⟨ad233, e233, hx233_0⟩ := Kd.at_int HR232_0.out x6_5 p233 q233
                              cases e233
                              replace hx233_0 := (HB.out.cell (World.block_lt_of_cell? w _ hx233_0)).trans hx233_0
                              replace p233 := eq_true p233
                              replace q233 := eq_true q233
                              go_wp2
                              repeat (go_quiet (fail); try go_wp2)
                              go_ret
                              exact ⟨by first | rfl | (simp [errW_none, errW_some] <;> rfl) | (simp only [← hji36, ← hji42]; first | rfl | (simp [errW_none, errW_some] <;> rfl)) | (simp [*, errW_none, errW_some] <;> rfl), by repeat (first | (with_reducible first | exact HB.out | apply below_alloc | apply pw_below_drewN | apply below_drew1 | refine below_set ?_ GE218.out) | exact HB.out)⟩
                             ·
                              rw [if_neg c46] at H
                              have c46b0 : decide ((rd (rd_L1 l0_2 (ji42)) x6_5) < (rd (rd_L1 l0_2 x5_4) x6_5)) = false := decide_eq_false c46
                              clear c46
                              have H' := Aside0.mk H
                              clear H
                              have hcz48_0 : wr.cell? ⟨gb218, 0, none⟩ = some (.slice A0_0 l0_0.length c0_0) := (blk_cell BK218.out 0).trans rfl
                              have hcz48_1 : wr.cell? ⟨gb218, 1, none⟩ = some (.slice A0_1 l0_1.length c0_1) := (blk_cell BK218.out 1).trans rfl
                              have hcz48_2 : wr.cell? ⟨gb218, 2, none⟩ = some (.slice A0_2 l0_2.length c0_2) := (blk_cell BK218.out 2).trans rfl
                              have hfz48_0 := blk_frozen BK218.out 0
                              have hfz48_1 := blk_frozen BK218.out 1
                              have hfz48_2 := blk_frozen BK218.out 2
                              have p226 : 0 ≤ (x5_4 : Int) := of_decide_eq_true (by first | (with_reducible assumption) | assumption)
                              have q226 : x5_4 < (l0_2.length : Int) := of_decide_eq_true (by first | (with_reducible assumption) | assumption)
                              obtain ⟨ad226, A226_0, c226_0, e226, hx226_0, hl226_0, hi226_0⟩ := at_L1 HR0_2.out x5_4 p226 q226
                              cases e226
                              replace hx226_0 := (HB.out.cell (World.block_lt_of_cell? w _ hx226_0)).trans hx226_0
                              have HR226_0 := Aside0.mk hi226_0
                              have HC226_0 := Aside0.mk hl226_0
                              clear hi226_0 hl226_0
                              replace p226 := eq_true p226
                              replace q226 := eq_true q226
                              have p227 : 0 ≤ (x6_5 : Int) := of_decide_eq_true (by first | (with_reducible assumption) | assumption)
                              have q227 : x6_5 < ((rd_L1 l0_2 x5_4).length : Int) := of_decide_eq_true (by first | (with_reducible assumption) | assumption)
                              obtain ⟨ad227, e227, hx227_0⟩ := Kd.at_int HR226_0.out x6_5 p227 q227
                              cases e227
                              replace hx227_0 := (HB.out.cell (World.block_lt_of_cell? w _ hx227_0)).trans hx227_0
                              replace p227 := eq_true p227
                              replace q227 := eq_true q227
                              have p228 : 0 ≤ (x5_4 : Int) := of_decide_eq_true (by first | (with_reducible assumption) | assumption)
                              have q228 : x5_4 < (l0_2.length : Int) := of_decide_eq_true (by first | (with_reducible assumption) | assumption)
                              obtain ⟨ad228, A228_0, c228_0, e228, hx228_0, hl228_0, hi228_0⟩ := at_L1 HR0_2.out x5_4 p228 q228
                              obtain rfl : ad226 = ad228 := (by injection e228)
                              replace hx228_0 := (HB.out.cell (World.block_lt_of_cell? w _ hx228_0)).trans hx228_0
                              have HR228_0 := Aside0.mk hi228_0
                              have HC228_0 := Aside0.mk hl228_0
                              clear hi228_0 hl228_0
                              replace p228 := eq_true p228
                              replace q228 := eq_true q228
                              have ea_ := Option.some.inj (hx226_0.symm.trans hx228_0)
                              injection ea_ with ea_ en_ ec_
                              subst ea_
                              subst ec_
                              clear en_
                              have p229 : 0 ≤ ((ji36) : Int) := of_decide_eq_true (by first | (with_reducible assumption) | assumption)
                              have q229 : (ji36) < ((rd_L1 l0_2 x5_4).length : Int) := of_decide_eq_true (by first | (with_reducible assumption) | assumption)
                              obtain ⟨ad229, e229, hx229_0⟩ := Kd.at_int HR228_0.out (ji36) p229 q229
                              obtain rfl : ad227 = ad229 := (by injection e229)
                              replace hx229_0 := (HB.out.cell (World.block_lt_of_cell? w _ hx229_0)).trans hx229_0
                              replace p229 := eq_true p229
                              replace q229 := eq_true q229
                              have p230 : 0 ≤ (x5_4 : Int) := of_decide_eq_true (by first | (with_reducible assumption) | assumption)
                              have q230 : x5_4 < (l0_2.length : Int) := of_decide_eq_true (by first | (with_reducible assumption) | assumption)
                              obtain ⟨ad230, A230_0, c230_0, e230, hx230_0, hl230_0, hi230_0⟩ := at_L1 HR0_2.out x5_4 p230 q230
                              obtain rfl : ad226 = ad230 := (by injection e230)
                              replace hx230_0 := (HB.out.cell (World.block_lt_of_cell? w _ hx230_0)).trans hx230_0
                              have HR230_0 := Aside0.mk hi230_0
                              have HC230_0 := Aside0.mk hl230_0
                              clear hi230_0 hl230_0
                              replace p230 := eq_true p230
                              replace q230 := eq_true q230
                              have ea_ := Option.some.inj (hx226_0.symm.trans hx230_0)
                              injection ea_ with ea_ en_ ec_
                              subst ea_
                              subst ec_
                              clear en_
                              have p231 : 0 ≤ (x6_5 : Int) := of_decide_eq_true (by first | (with_reducible assumption) | assumption)
                              have q231 : x6_5 < ((rd_L1 l0_2 x5_4).length : Int) := of_decide_eq_true (by first | (with_reducible assumption) | assumption)
                              obtain ⟨ad231, e231, hx231_0⟩ := Kd.at_int HR230_0.out x6_5 p231 q231
                              obtain rfl : ad227 = ad231 := (by injection e231)
                              replace hx231_0 := (HB.out.cell (World.block_lt_of_cell? w _ hx231_0)).trans hx231_0
                              replace p231 := eq_true p231
                              replace q231 := eq_true q231
                              have p232 : 0 ≤ ((ji42) : Int) := of_decide_eq_true (by first | (with_reducible assumption) | assumption)
                              have q232 : (ji42) < (l0_2.length : Int) := of_decide_eq_true (by first | (with_reducible assumption) | assumption)
                              obtain ⟨ad232, A232_0, c232_0, e232, hx232_0, hl232_0, hi232_0⟩ := at_L1 HR0_2.out (ji42) p232 q232
                              obtain rfl : ad226 = ad232 := (by injection e232)
                              replace hx232_0 := (HB.out.cell (World.block_lt_of_cell? w _ hx232_0)).trans hx232_0
                              have HR232_0 := Aside0.mk hi232_0
                              have HC232_0 := Aside0.mk hl232_0
                              clear hi232_0 hl232_0
                              replace p232 := eq_true p232
                              replace q232 := eq_true q232
                              have p233 : 0 ≤ (x6_5 : Int) := of_decide_eq_true (by first | (with_reducible assumption) | assumption)
                              have q233 : x6_5 < ((rd_L1 l0_2 (ji42)).length : Int) := of_decide_eq_true (by first | (with_reducible assumption) | assumption)
                              obtain ⟨ad233, e233, hx233_0⟩ := Kd.at_int HR232_0.out x6_5 p233 q233
                              cases e233
                              replace hx233_0 := (HB.out.cell (World.block_lt_of_cell? w _ hx233_0)).trans hx233_0
                              replace p233 := eq_true p233
                              replace q233 := eq_true q233
                              go_wp2
                              repeat (go_quiet (fail); try go_wp2)
                              go_roundg k5
                              case measure => have := HJ3.out; have := HK2.out; have := HJ19.out; have := HK4.out; have := HK5.out; omega
                              case rel => exact ⟨(wrap64 (x6_5 + 1)), (by first | rfl | (simp; done) | (simp [*]; done)), H', ⟨by have := HJ3.out; have := HK2.out; have := HJ19.out; have := HK4.out; have := HK5.out; omega⟩, ⟨by (with_reducible repeat (first | refine blk_drewN ?_ _ | refine blk_drew ?_ | refine blk_alloc ?_ _)); exact BK218.out⟩, ⟨by repeat (first | (with_reducible first | exact HB.out | apply below_alloc | apply pw_below_drewN | apply below_drew1 | refine below_set ?_ GE218.out) | exact HB.out)⟩⟩
                            ·
                             rw [if_neg c45] at H
                             exact absurd H (by simp)
                           ·
                            rw [if_neg c44] at H
                            exact absurd H (by simp)
                          ·
                           rw [if_neg c43] at H
                           exact absurd H (by simp)
                         ·
                          rw [if_neg c41] at H
                          have c41b0 : decide (0 < x5_4) = false := decide_eq_false c41
                          clear c41
                          have H' := Aside0.mk H
                          clear H
                          have hcz49_0 : wr.cell? ⟨gb218, 0, none⟩ = some (.slice A0_0 l0_0.length c0_0) := (blk_cell BK218.out 0).trans rfl
                          have hcz49_1 : wr.cell? ⟨gb218, 1, none⟩ = some (.slice A0_1 l0_1.length c0_1) := (blk_cell BK218.out 1).trans rfl
                          have hcz49_2 : wr.cell? ⟨gb218, 2, none⟩ = some (.slice A0_2 l0_2.length c0_2) := (blk_cell BK218.out 2).trans rfl
                          have hfz49_0 := blk_frozen BK218.out 0
                          have hfz49_1 := blk_frozen BK218.out 1
                          have hfz49_2 := blk_frozen BK218.out 2
                          have p226 : 0 ≤ (x5_4 : Int) := of_decide_eq_true (by first | (with_reducible assumption) | assumption)
                          have q226 : x5_4 < (l0_2.length : Int) := of_decide_eq_true (by first | (with_reducible assumption) | assumption)
                          obtain ⟨ad226, A226_0, c226_0, e226, hx226_0, hl226_0, hi226_0⟩ := at_L1 HR0_2.out x5_4 p226 q226
                          cases e226
                          replace hx226_0 := (HB.out.cell (World.block_lt_of_cell? w _ hx226_0)).trans hx226_0
                          have HR226_0 := Aside0.mk hi226_0
                          have HC226_0 := Aside0.mk hl226_0
                          clear hi226_0 hl226_0
                          replace p226 := eq_true p226
                          replace q226 := eq_true q226
                          have p227 : 0 ≤ (x6_5 : Int) := of_decide_eq_true (by first | (with_reducible assumption) | assumption)
                          have q227 : x6_5 < ((rd_L1 l0_2 x5_4).length : Int) := of_decide_eq_true (by first | (with_reducible assumption) | assumption)
                          obtain ⟨ad227, e227, hx227_0⟩ := Kd.at_int HR226_0.out x6_5 p227 q227
                          cases e227
                          replace hx227_0 := (HB.out.cell (World.block_lt_of_cell? w _ hx227_0)).trans hx227_0
                          replace p227 := eq_true p227
                          replace q227 := eq_true q227
                          have p228 : 0 ≤ (x5_4 : Int) := of_decide_eq_true (by first | (with_reducible assumption) | assumption)
                          have q228 : x5_4 < (l0_2.length : Int) := of_decide_eq_true (by first | (with_reducible assumption) | assumption)
                          obtain ⟨ad228, A228_0, c228_0, e228, hx228_0, hl228_0, hi228_0⟩ := at_L1 HR0_2.out x5_4 p228 q228
                          obtain rfl : ad226 = ad228 := (by injection e228)
                          replace hx228_0 := (HB.out.cell (World.block_lt_of_cell? w _ hx228_0)).trans hx228_0
                          have HR228_0 := Aside0.mk hi228_0
                          have HC228_0 := Aside0.mk hl228_0
                          clear hi228_0 hl228_0
                          replace p228 := eq_true p228
                          replace q228 := eq_true q228
                          have ea_ := Option.some.inj (hx226_0.symm.trans hx228_0)
                          injection ea_ with ea_ en_ ec_
                          subst ea_
                          subst ec_
                          clear en_
                          have p229 : 0 ≤ ((ji36) : Int) := of_decide_eq_true (by first | (with_reducible assumption) | assumption)
                          have q229 : (ji36) < ((rd_L1 l0_2 x5_4).length : Int) := of_decide_eq_true (by first | (with_reducible assumption) | assumption)
                          obtain ⟨ad229, e229, hx229_0⟩ := Kd.at_int HR228_0.out (ji36) p229 q229
                          obtain rfl : ad227 = ad229 := (by injection e229)
                          replace hx229_0 := (HB.out.cell (World.block_lt_of_cell? w _ hx229_0)).trans hx229_0
                          replace p229 := eq_true p229
                          replace q229 := eq_true q229
                          go_wp2
                          repeat (go_quiet (fail); try go_wp2)
                          go_roundg k5
                          case measure => have := HJ3.out; have := HK2.out; have := HJ19.out; have := HK4.out; have := HK5.out; omega
                          case rel => exact ⟨(wrap64 (x6_5 + 1)), (by first | rfl | (simp; done) | (simp [*]; done)), H', ⟨by have := HJ3.out; have := HK2.out; have := HJ19.out; have := HK4.out; have := HK5.out; omega⟩, ⟨by (with_reducible repeat (first | refine blk_drewN ?_ _ | refine blk_drew ?_ | refine blk_alloc ?_ _)); exact BK218.out⟩, ⟨by repeat (first | (with_reducible first | exact HB.out | apply below_alloc | apply pw_below_drewN | apply below_drew1 | refine below_set ?_ GE218.out) | exact HB.out)⟩⟩
                       ·
                        rw [if_neg c38] at H
                        exact absurd H (by simp)
                      ·
                       rw [if_neg c37] at H
                       exact absurd H (by simp)
                     ·
                      rw [if_neg c35] at H
                      exact absurd H (by simp)
                    ·
                     rw [if_neg c34] at H
                     exact absurd H (by simp)
                   ·
                    rw [if_neg c33] at H
                    exact absurd H (by simp)
                  ·
                   rw [if_neg c32] at H
                   exact absurd H (by simp)
                 ·
                  rw [if_neg c31] at H
                  have c31b0 : decide (0 < x6_5) = false := decide_eq_false c31
                  clear c31
                  by_cases c50 : x5_4 > 0
                  ·
                   rw [if_pos c50] at H
                   have c50b0 : decide (0 < x5_4) = true := decide_eq_true c50
                   clear c50
                   by_cases c51 : 0 ≤ x5_4
                   ·
                    rw [if_pos c51] at H
                    have c51b0 : decide (0 ≤ x5_4) = true := decide_eq_true c51
                    clear c51
                    by_cases c52 : x5_4 < (l0_2.length : Int)
                    ·
                     rw [if_pos c52] at H
                     have c52b0 : decide (x5_4 < (l0_2.length : Int)) = true := decide_eq_true c52
                     clear c52
                     by_cases c53 : 0 ≤ x6_5
                     ·
                      rw [if_pos c53] at H
                      have c53b0 : decide (0 ≤ x6_5) = true := decide_eq_true c53
                      clear c53
                      by_cases c54 : x6_5 < ((rd_L1 l0_2 x5_4).length : Int)
                      ·
                       rw [if_pos c54] at H
                       have c54b0 : decide (x6_5 < ((rd_L1 l0_2 x5_4).length : Int)) = true := decide_eq_true c54
                       clear c54
                       obtain ⟨ji55, hji55⟩ : ∃ j_ : Int, (wrap64 (x5_4 - 1)) = j_ := ⟨_, rfl⟩
                       replace H : (if 0 ≤ (ji55) then (if (ji55) < (l0_2.length : Int) then (if x6_5 < ((rd_L1 l0_2 (ji55)).length : Int) then (if (rd (rd_L1 l0_2 x5_4) x6_5) > (rd (rd_L1 l0_2 (ji55)) x6_5) then (some 18) else (spileref19_Check.l2 k5 x5_4 (wrap64 (x6_5 + 1)) l0_0 l0_1 l0_2)) else (none)) else (none)) else (none)) = some r := by first | (rw [hji55] at H; exact H) | (simp only [hji55] at H ⊢; exact H)
                       have hji55w : (IntKind.i64.wrap (x5_4 - 1)) = ji55 := (i64_w _).trans hji55
                       by_cases c56 : 0 ≤ (ji55)
                       ·
                        rw [if_pos c56] at H
                        have c56b0 : decide (0 ≤ (ji55)) = true := decide_eq_true c56
                        clear c56
                        by_cases c57 : (ji55) < (l0_2.length : Int)
                        ·
                         rw [if_pos c57] at H
                         have c57b0 : decide ((ji55) < (l0_2.length : Int)) = true := decide_eq_true c57
                         clear c57
                         by_cases c58 : x6_5 < ((rd_L1 l0_2 (ji55)).length : Int)
                         ·
                          rw [if_pos c58] at H
                          have c58b0 : decide (x6_5 < ((rd_L1 l0_2 (ji55)).length : Int)) = true := decide_eq_true c58
                          clear c58
                          by_cases c59 : (rd (rd_L1 l0_2 x5_4) x6_5) > (rd (rd_L1 l0_2 (ji55)) x6_5)
                          ·
                           rw [if_pos c59] at H
                           have c59b0 : decide ((rd (rd_L1 l0_2 (ji55)) x6_5) < (rd (rd_L1 l0_2 x5_4) x6_5)) = true := decide_eq_true c59
                           clear c59
                           obtain rfl := Option.some.inj H
                           have hcz60_0 : wr.cell? ⟨gb218, 0, none⟩ = some (.slice A0_0 l0_0.length c0_0) := (blk_cell BK218.out 0).trans rfl
                           have hcz60_1 : wr.cell? ⟨gb218, 1, none⟩ = some (.slice A0_1 l0_1.length c0_1) := (blk_cell BK218.out 1).trans rfl
                           have hcz60_2 : wr.cell? ⟨gb218, 2, none⟩ = some (.slice A0_2 l0_2.length c0_2) := (blk_cell BK218.out 2).trans rfl
                           have hfz60_0 := blk_frozen BK218.out 0
                           have hfz60_1 := blk_frozen BK218.out 1
                           have hfz60_2 := blk_frozen BK218.out 2
                           have p234 : 0 ≤ (x5_4 : Int) := of_decide_eq_true (by first | (with_reducible assumption) | assumption)
                           have q234 : x5_4 < (l0_2.length : Int) := of_decide_eq_true (by first | (with_reducible assumption) | assumption)
                           obtain ⟨ad234, A234_0, c234_0, e234, hx234_0, hl234_0, hi234_0⟩ := at_L1 HR0_2.out x5_4 p234 q234
                           cases e234
                           replace hx234_0 := (HB.out.cell (World.block_lt_of_cell? w _ hx234_0)).trans hx234_0
                           have HR234_0 := Aside0.mk hi234_0
                           have HC234_0 := Aside0.mk hl234_0
                           clear hi234_0 hl234_0
                           replace p234 := eq_true p234
                           replace q234 := eq_true q234
                           have p235 : 0 ≤ (x6_5 : Int) := of_decide_eq_true (by first | (with_reducible assumption) | assumption)
                           have q235 : x6_5 < ((rd_L1 l0_2 x5_4).length : Int) := of_decide_eq_true (by first | (with_reducible assumption) | assumption)
                           obtain ⟨ad235, e235, hx235_0⟩ := Kd.at_int HR234_0.out x6_5 p235 q235
                           cases e235
                           replace hx235_0 := (HB.out.cell (World.block_lt_of_cell? w _ hx235_0)).trans hx235_0
                           replace p235 := eq_true p235
                           replace q235 := eq_true q235
                           have p236 : 0 ≤ ((ji55) : Int) := of_decide_eq_true (by first | (with_reducible assumption) | assumption)
                           have q236 : (ji55) < (l0_2.length : Int) := of_decide_eq_true (by first | (with_reducible assumption) | assumption)
                           obtain ⟨ad236, A236_0, c236_0, e236, hx236_0, hl236_0, hi236_0⟩ := at_L1 HR0_2.out (ji55) p236 q236
                           obtain rfl : ad234 = ad236 := (by injection e236)
                           replace hx236_0 := (HB.out.cell (World.block_lt_of_cell? w _ hx236_0)).trans hx236_0
                           have HR236_0 := Aside0.mk hi236_0
                           have HC236_0 := Aside0.mk hl236_0
                           clear hi236_0 hl236_0
                           replace p236 := eq_true p236
                           replace q236 := eq_true q236
                           have p237 : 0 ≤ (x6_5 : Int) := of_decide_eq_true (by first | (with_reducible assumption) | assumption)
                           have q237 : x6_5 < ((rd_L1 l0_2 (ji55)).length : Int) := of_decide_eq_true (by first | (with_reducible assumption) | assumption)
                           obtain ⟨ad237, e237, hx237_0⟩ := Kd.at_int HR236_0.out x6_5 p237 q237
                           cases e237
                           replace hx237_0 := (HB.out.cell (World.block_lt_of_cell? w _ hx237_0)).trans hx237_0
                           replace p237 := eq_true p237
                           replace q237 := eq_true q237
                           go_wp2
                           repeat (go_quiet (fail); try go_wp2)
                           go_ret
                           exact ⟨by first | rfl | (simp [errW_none, errW_some] <;> rfl) | (simp only [← hji55]; first | rfl | (simp [errW_none, errW_some] <;> rfl)) | (simp [*, errW_none, errW_some] <;> rfl), by repeat (first | (with_reducible first | exact HB.out | apply below_alloc | apply pw_below_drewN | apply below_drew1 | refine below_set ?_ GE218.out) | exact HB.out)⟩
                          ·
                           rw [if_neg c59] at H
                           have c59b0 : decide ((rd (rd_L1 l0_2 (ji55)) x6_5) < (rd (rd_L1 l0_2 x5_4) x6_5)) = false := decide_eq_false c59
                           clear c59
                           have H' := Aside0.mk H
                           clear H
                           have hcz61_0 : wr.cell? ⟨gb218, 0, none⟩ = some (.slice A0_0 l0_0.length c0_0) := (blk_cell BK218.out 0).trans rfl
                           have hcz61_1 : wr.cell? ⟨gb218, 1, none⟩ = some (.slice A0_1 l0_1.length c0_1) := (blk_cell BK218.out 1).trans rfl
                           have hcz61_2 : wr.cell? ⟨gb218, 2, none⟩ = some (.slice A0_2 l0_2.length c0_2) := (blk_cell BK218.out 2).trans rfl
                           have hfz61_0 := blk_frozen BK218.out 0
                           have hfz61_1 := blk_frozen BK218.out 1
                           have hfz61_2 := blk_frozen BK218.out 2
                           have p234 : 0 ≤ (x5_4 : Int) := of_decide_eq_true (by first | (with_reducible assumption) | assumption)
                           have q234 : x5_4 < (l0_2.length : Int) := of_decide_eq_true (by first | (with_reducible assumption) | assumption)
                           obtain ⟨ad234, A234_0, c234_0, e234, hx234_0, hl234_0, hi234_0⟩ := at_L1 HR0_2.out x5_4 p234 q234
                           cases e234
                           replace hx234_0 := (HB.out.cell (World.block_lt_of_cell? w _ hx234_0)).trans hx234_0
                           have HR234_0 := Aside0.mk hi234_0
                           have HC234_0 := Aside0.mk hl234_0
                           clear hi234_0 hl234_0
                           replace p234 := eq_true p234
                           replace q234 := eq_true q234
                           have p235 : 0 ≤ (x6_5 : Int) := of_decide_eq_true (by first | (with_reducible assumption) | assumption)
                           have q235 : x6_5 < ((rd_L1 l0_2 x5_4).length : Int) := of_decide_eq_true (by first | (with_reducible assumption) | assumption)
                           obtain ⟨ad235, e235, hx235_0⟩ := Kd.at_int HR234_0.out x6_5 p235 q235
                           cases e235
                           replace hx235_0 := (HB.out.cell (World.block_lt_of_cell? w _ hx235_0)).trans hx235_0
                           replace p235 := eq_true p235
                           replace q235 := eq_true q235
                           have p236 : 0 ≤ ((ji55) : Int) := of_decide_eq_true (by first | (with_reducible assumption) | assumption)
                           have q236 : (ji55) < (l0_2.length : Int) := of_decide_eq_true (by first | (with_reducible assumption) | assumption)
                           obtain ⟨ad236, A236_0, c236_0, e236, hx236_0, hl236_0, hi236_0⟩ := at_L1 HR0_2.out (ji55) p236 q236
                           obtain rfl : ad234 = ad236 := (by injection e236)
                           replace hx236_0 := (HB.out.cell (World.block_lt_of_cell? w _ hx236_0)).trans hx236_0
                           have HR236_0 := Aside0.mk hi236_0
                           have HC236_0 := Aside0.mk hl236_0
                           clear hi236_0 hl236_0
                           replace p236 := eq_true p236
                           replace q236 := eq_true q236
                           have p237 : 0 ≤ (x6_5 : Int) := of_decide_eq_true (by first | (with_reducible assumption) | assumption)
                           have q237 : x6_5 < ((rd_L1 l0_2 (ji55)).length : Int) := of_decide_eq_true (by first | (with_reducible assumption) | assumption)
                           obtain ⟨ad237, e237, hx237_0⟩ := Kd.at_int HR236_0.out x6_5 p237 q237
                           cases e237
                           replace hx237_0 := (HB.out.cell (World.block_lt_of_cell? w _ hx237_0)).trans hx237_0
                           replace p237 := eq_true p237
                           replace q237 := eq_true q237
                           go_wp2
                           repeat (go_quiet (fail); try go_wp2)
                           go_roundg k5
                           case measure => have := HJ3.out; have := HK2.out; have := HJ19.out; have := HK4.out; have := HK5.out; omega
                           case rel => exact ⟨(wrap64 (x6_5 + 1)), (by first | rfl | (simp; done) | (simp [*]; done)), H', ⟨by have := HJ3.out; have := HK2.out; have := HJ19.out; have := HK4.out; have := HK5.out; omega⟩, ⟨by (with_reducible repeat (first | refine blk_drewN ?_ _ | refine blk_drew ?_ | refine blk_alloc ?_ _)); exact BK218.out⟩, ⟨by repeat (first | (with_reducible first | exact HB.out | apply below_alloc | apply pw_below_drewN | apply below_drew1 | refine below_set ?_ GE218.out) | exact HB.out)⟩⟩
                         ·
                          rw [if_neg c58] at H
                          exact absurd H (by simp)
                        ·
                         rw [if_neg c57] at H
                         exact absurd H (by simp)
                       ·
                        rw [if_neg c56] at H
                        exact absurd H (by simp)
                      ·
                       rw [if_neg c54] at H
                       exact absurd H (by simp)
                     ·
                      rw [if_neg c53] at H
                      exact absurd H (by simp)
                    ·
                     rw [if_neg c52] at H
                     exact absurd H (by simp)
                   ·
                    rw [if_neg c51] at H
                    exact absurd H (by simp)
                  ·
                   rw [if_neg c50] at H
                   have c50b0 : decide (0 < x5_4) = false := decide_eq_false c50
                   clear c50
                   have H' := Aside0.mk H
                   clear H
                   have hcz62_0 : wr.cell? ⟨gb218, 0, none⟩ = some (.slice A0_0 l0_0.length c0_0) := (blk_cell BK218.out 0).trans rfl
                   have hcz62_1 : wr.cell? ⟨gb218, 1, none⟩ = some (.slice A0_1 l0_1.length c0_1) := (blk_cell BK218.out 1).trans rfl
                   have hcz62_2 : wr.cell? ⟨gb218, 2, none⟩ = some (.slice A0_2 l0_2.length c0_2) := (blk_cell BK218.out 2).trans rfl
                   have hfz62_0 := blk_frozen BK218.out 0
                   have hfz62_1 := blk_frozen BK218.out 1
                   have hfz62_2 := blk_frozen BK218.out 2
                   go_wp2
                   repeat (go_quiet (fail); try go_wp2)
                   go_roundg k5
                   case measure => have := HJ3.out; have := HK2.out; have := HJ19.out; have := HK4.out; have := HK5.out; omega
                   case rel => exact ⟨(wrap64 (x6_5 + 1)), (by first | rfl | (simp; done) | (simp [*]; done)), H', ⟨by have := HJ3.out; have := HK2.out; have := HJ19.out; have := HK4.out; have := HK5.out; omega⟩, ⟨by (with_reducible repeat (first | refine blk_drewN ?_ _ | refine blk_drew ?_ | refine blk_alloc ?_ _)); exact BK218.out⟩, ⟨by repeat (first | (with_reducible first | exact HB.out | apply below_alloc | apply pw_below_drewN | apply below_drew1 | refine below_set ?_ GE218.out) | exact HB.out)⟩⟩
                ·
                 rw [if_neg c30] at H
                 have c30b0 : decide (x6_5 < (l0_1.length : Int)) = false := decide_eq_false c30
                 clear c30
                 have H' := Aside0.mk H
                 clear H
                 have hcz63_0 : wr.cell? ⟨gb218, 0, none⟩ = some (.slice A0_0 l0_0.length c0_0) := (blk_cell BK218.out 0).trans rfl
                 have hcz63_1 : wr.cell? ⟨gb218, 1, none⟩ = some (.slice A0_1 l0_1.length c0_1) := (blk_cell BK218.out 1).trans rfl
                 have hcz63_2 : wr.cell? ⟨gb218, 2, none⟩ = some (.slice A0_2 l0_2.length c0_2) := (blk_cell BK218.out 2).trans rfl
                 have hfz63_0 := blk_frozen BK218.out 0
                 have hfz63_1 := blk_frozen BK218.out 1
                 have hfz63_2 := blk_frozen BK218.out 2
                 go_wp2
                 repeat (go_quiet (fail); try go_wp2)
                 go_roundg k5
                 case measure => have := HJ3.out; have := HK2.out; have := HJ19.out; have := HK4.out; have := HK5.out; omega
                 case rel => exact ⟨(wrap64 (x5_4 + 1)), (by first | rfl | (simp; done) | (simp [*]; done)), H', ⟨by have := HJ3.out; have := HK2.out; have := HJ19.out; have := HK4.out; have := HK5.out; omega⟩, ⟨by (with_reducible repeat (first | refine blk_drewN ?_ _ | refine blk_drew ?_ | refine blk_alloc ?_ _)); exact BK218.out⟩, ⟨by repeat (first | (with_reducible first | exact HB.out | apply below_alloc | apply pw_below_drewN | apply below_drew1 | refine below_set ?_ GE218.out) | exact HB.out)⟩⟩
             ·
              rw [if_neg c28] at H
              have c28b0 : decide (x5_4 < (l0_2.length : Int)) = false := decide_eq_false c28
              clear c28
              obtain rfl := Option.some.inj H
              have hcz64_0 : wr.cell? ⟨gb218, 0, none⟩ = some (.slice A0_0 l0_0.length c0_0) := (blk_cell BK218.out 0).trans rfl
              have hcz64_1 : wr.cell? ⟨gb218, 1, none⟩ = some (.slice A0_1 l0_1.length c0_1) := (blk_cell BK218.out 1).trans rfl
              have hcz64_2 : wr.cell? ⟨gb218, 2, none⟩ = some (.slice A0_2 l0_2.length c0_2) := (blk_cell BK218.out 2).trans rfl
              have hfz64_0 := blk_frozen BK218.out 0
              have hfz64_1 := blk_frozen BK218.out 1
              have hfz64_2 := blk_frozen BK218.out 2
              go_wp2
              repeat (go_quiet (fail); try go_wp2)
              go_ret
              exact ⟨by first | rfl | (simp [errW_none, errW_some] <;> rfl) | (simp [*, errW_none, errW_some] <;> rfl), by repeat (first | (with_reducible first | exact HB.out | apply below_alloc | apply pw_below_drewN | apply below_drew1 | refine below_set ?_ GE218.out) | exact HB.out)⟩
 ·
  rw [if_neg c3] at H
  have c3b0 : (t219 == 0) = false := beq_eq_false_iff_ne.mpr c3
  have c3b1 : (t219 != 0) = true := bne_iff_ne.mpr c3
  obtain rfl := Option.some.inj H
  go_enter Tryd.func19, Tryd.ntmps19
  go_wp2_with (first | ((with_reducible refine gate_dst (N := 1) rfl ?_); refine box_event ?hg (N := 1) ?hd (cs := #[.slice A0_0 l0_0.length c0_0, .slice A0_1 l0_1.length c0_1, .slice A0_2 l0_2.length c0_2]) (t := 25) ?hr ?_; (case hd => rfl); (case hg => rfl); (case hr => first | (go_simp; done) | (go_simp; rfl)); intro gb218 hg w65 hbox hb; have n0_ := Aside0.mk (below_step (by repeat (first | (with_reducible first | exact HB.out | apply below_alloc | apply pw_below_drewN | apply below_drew1) | exact HB.out)) hb); have n1_ := Aside0.mk (hbox); have n2_ := Aside0.mk ((by rw [hg]; exact (below_size (by repeat (first | (with_reducible first | exact HB.out | apply below_alloc | apply pw_below_drewN | apply below_drew1) | exact HB.out))) : w.heap.size ≤ gb218)); have n3_ := Aside0.mk ((by rw [hg]; exact (below_size (by repeat (first | (with_reducible first | exact HB.out | apply below_alloc | apply pw_below_drewN | apply below_drew1) | exact HB.out))) : w.heap.size ≤ gb218)); clear HB; have HB := n0_; have BK218 := n1_; have GW218 := n2_; have GE218 := n3_; clear n0_ n1_ n2_ n3_; clear hb hbox hg; have hcz66_0 : w65.cell? ⟨gb218, 0, none⟩ = some (.slice A0_0 l0_0.length c0_0) := (blk_cell BK218.out 0).trans rfl; have hcz66_1 : w65.cell? ⟨gb218, 1, none⟩ = some (.slice A0_1 l0_1.length c0_1) := (blk_cell BK218.out 1).trans rfl; have hcz66_2 : w65.cell? ⟨gb218, 2, none⟩ = some (.slice A0_2 l0_2.length c0_2) := (blk_cell BK218.out 2).trans rfl; have hfz66_0 := blk_frozen BK218.out 0; have hfz66_1 := blk_frozen BK218.out 1; have hfz66_2 := blk_frozen BK218.out 2) | (go_at_call 40; (with_reducible refine (spileref19_shape.calls k _ _ l0_0 _ _ l0_1 _ _ l0_2 t219 _ ?side1 ?side2 ?side3 ?side4 ?side5 ?side6 A2.out).mono ?_); (case side1 => repeat (first | exact (Kd.C_below HR0_0.out HB.out) | (with_reducible refine Kd.C_alloc ?_ _) | (with_reducible refine Kd.C_drewN ?_ _) | (with_reducible refine Kd.C_drew ?_))); (case side2 => exact HC0_0.out); (case side3 => repeat (first | exact (Kd.C_below HR0_1.out HB.out) | (with_reducible refine Kd.C_alloc ?_ _) | (with_reducible refine Kd.C_drewN ?_ _) | (with_reducible refine Kd.C_drew ?_))); (case side4 => exact HC0_1.out); (case side5 => repeat (first | exact (Kd.C_below HR0_2.out HB.out) | (with_reducible refine Kd.C_alloc ?_ _) | (with_reducible refine Kd.C_drewN ?_ _) | (with_reducible refine Kd.C_drew ?_))); (case side6 => exact HC0_2.out); rintro e w67 ⟨rfl, hb⟩; have n0_ := Aside0.mk (blk_below (g := gb218) (o := .cells #[.slice A0_0 l0_0.length c0_0, .slice A0_1 l0_1.length c0_1, .slice A0_2 l0_2.length c0_2] 25 (0, 0)) (by (with_reducible repeat (first | refine blk_drewN ?_ _ | refine blk_drew ?_ | refine blk_alloc ?_ _)); exact BK218.out) hb); have n1_ := Aside0.mk (below_step (by repeat (first | (with_reducible first | exact HB.out | apply below_alloc | apply pw_below_drewN | apply below_drew1 | refine below_set ?_ GE218.out) | exact HB.out)) hb); clear BK218; clear HB; have BK218 := n0_; have HB := n1_; clear n0_ n1_; (try clear hb); (try clear hb2); (try clear hk); (try clear hi)))
  repeat (go_quiet (first | ((with_reducible refine gate_dst (N := 1) rfl ?_); refine box_event ?hg (N := 1) ?hd (cs := #[.slice A0_0 l0_0.length c0_0, .slice A0_1 l0_1.length c0_1, .slice A0_2 l0_2.length c0_2]) (t := 25) ?hr ?_; (case hd => rfl); (case hg => rfl); (case hr => first | (go_simp; done) | (go_simp; rfl)); intro gb218 hg w65 hbox hb; have n0_ := Aside0.mk (below_step (by repeat (first | (with_reducible first | exact HB.out | apply below_alloc | apply pw_below_drewN | apply below_drew1) | exact HB.out)) hb); have n1_ := Aside0.mk (hbox); have n2_ := Aside0.mk ((by rw [hg]; exact (below_size (by repeat (first | (with_reducible first | exact HB.out | apply below_alloc | apply pw_below_drewN | apply below_drew1) | exact HB.out))) : w.heap.size ≤ gb218)); have n3_ := Aside0.mk ((by rw [hg]; exact (below_size (by repeat (first | (with_reducible first | exact HB.out | apply below_alloc | apply pw_below_drewN | apply below_drew1) | exact HB.out))) : w.heap.size ≤ gb218)); clear HB; have HB := n0_; have BK218 := n1_; have GW218 := n2_; have GE218 := n3_; clear n0_ n1_ n2_ n3_; clear hb hbox hg; have hcz66_0 : w65.cell? ⟨gb218, 0, none⟩ = some (.slice A0_0 l0_0.length c0_0) := (blk_cell BK218.out 0).trans rfl; have hcz66_1 : w65.cell? ⟨gb218, 1, none⟩ = some (.slice A0_1 l0_1.length c0_1) := (blk_cell BK218.out 1).trans rfl; have hcz66_2 : w65.cell? ⟨gb218, 2, none⟩ = some (.slice A0_2 l0_2.length c0_2) := (blk_cell BK218.out 2).trans rfl; have hfz66_0 := blk_frozen BK218.out 0; have hfz66_1 := blk_frozen BK218.out 1; have hfz66_2 := blk_frozen BK218.out 2) | (go_at_call 40; (with_reducible refine (spileref19_shape.calls k _ _ l0_0 _ _ l0_1 _ _ l0_2 t219 _ ?side1 ?side2 ?side3 ?side4 ?side5 ?side6 A2.out).mono ?_); (case side1 => repeat (first | exact (Kd.C_below HR0_0.out HB.out) | (with_reducible refine Kd.C_alloc ?_ _) | (with_reducible refine Kd.C_drewN ?_ _) | (with_reducible refine Kd.C_drew ?_))); (case side2 => exact HC0_0.out); (case side3 => repeat (first | exact (Kd.C_below HR0_1.out HB.out) | (with_reducible refine Kd.C_alloc ?_ _) | (with_reducible refine Kd.C_drewN ?_ _) | (with_reducible refine Kd.C_drew ?_))); (case side4 => exact HC0_1.out); (case side5 => repeat (first | exact (Kd.C_below HR0_2.out HB.out) | (with_reducible refine Kd.C_alloc ?_ _) | (with_reducible refine Kd.C_drewN ?_ _) | (with_reducible refine Kd.C_drew ?_))); (case side6 => exact HC0_2.out); rintro e w67 ⟨rfl, hb⟩; have n0_ := Aside0.mk (blk_below (g := gb218) (o := .cells #[.slice A0_0 l0_0.length c0_0, .slice A0_1 l0_1.length c0_1, .slice A0_2 l0_2.length c0_2] 25 (0, 0)) (by (with_reducible repeat (first | refine blk_drewN ?_ _ | refine blk_drew ?_ | refine blk_alloc ?_ _)); exact BK218.out) hb); have n1_ := Aside0.mk (below_step (by repeat (first | (with_reducible first | exact HB.out | apply below_alloc | apply pw_below_drewN | apply below_drew1 | refine below_set ?_ GE218.out) | exact HB.out)) hb); clear BK218; clear HB; have BK218 := n0_; have HB := n1_; clear n0_ n1_; (try clear hb); (try clear hb2); (try clear hk); (try clear hi))); try go_wp2_with (first | ((with_reducible refine gate_dst (N := 1) rfl ?_); refine box_event ?hg (N := 1) ?hd (cs := #[.slice A0_0 l0_0.length c0_0, .slice A0_1 l0_1.length c0_1, .slice A0_2 l0_2.length c0_2]) (t := 25) ?hr ?_; (case hd => rfl); (case hg => rfl); (case hr => first | (go_simp; done) | (go_simp; rfl)); intro gb218 hg w65 hbox hb; have n0_ := Aside0.mk (below_step (by repeat (first | (with_reducible first | exact HB.out | apply below_alloc | apply pw_below_drewN | apply below_drew1) | exact HB.out)) hb); have n1_ := Aside0.mk (hbox); have n2_ := Aside0.mk ((by rw [hg]; exact (below_size (by repeat (first | (with_reducible first | exact HB.out | apply below_alloc | apply pw_below_drewN | apply below_drew1) | exact HB.out))) : w.heap.size ≤ gb218)); have n3_ := Aside0.mk ((by rw [hg]; exact (below_size (by repeat (first | (with_reducible first | exact HB.out | apply below_alloc | apply pw_below_drewN | apply below_drew1) | exact HB.out))) : w.heap.size ≤ gb218)); clear HB; have HB := n0_; have BK218 := n1_; have GW218 := n2_; have GE218 := n3_; clear n0_ n1_ n2_ n3_; clear hb hbox hg; have hcz66_0 : w65.cell? ⟨gb218, 0, none⟩ = some (.slice A0_0 l0_0.length c0_0) := (blk_cell BK218.out 0).trans rfl; have hcz66_1 : w65.cell? ⟨gb218, 1, none⟩ = some (.slice A0_1 l0_1.length c0_1) := (blk_cell BK218.out 1).trans rfl; have hcz66_2 : w65.cell? ⟨gb218, 2, none⟩ = some (.slice A0_2 l0_2.length c0_2) := (blk_cell BK218.out 2).trans rfl; have hfz66_0 := blk_frozen BK218.out 0; have hfz66_1 := blk_frozen BK218.out 1; have hfz66_2 := blk_frozen BK218.out 2) | (go_at_call 40; (with_reducible refine (spileref19_shape.calls k _ _ l0_0 _ _ l0_1 _ _ l0_2 t219 _ ?side1 ?side2 ?side3 ?side4 ?side5 ?side6 A2.out).mono ?_); (case side1 => repeat (first | exact (Kd.C_below HR0_0.out HB.out) | (with_reducible refine Kd.C_alloc ?_ _) | (with_reducible refine Kd.C_drewN ?_ _) | (with_reducible refine Kd.C_drew ?_))); (case side2 => exact HC0_0.out); (case side3 => repeat (first | exact (Kd.C_below HR0_1.out HB.out) | (with_reducible refine Kd.C_alloc ?_ _) | (with_reducible refine Kd.C_drewN ?_ _) | (with_reducible refine Kd.C_drew ?_))); (case side4 => exact HC0_1.out); (case side5 => repeat (first | exact (Kd.C_below HR0_2.out HB.out) | (with_reducible refine Kd.C_alloc ?_ _) | (with_reducible refine Kd.C_drewN ?_ _) | (with_reducible refine Kd.C_drew ?_))); (case side6 => exact HC0_2.out); rintro e w67 ⟨rfl, hb⟩; have n0_ := Aside0.mk (blk_below (g := gb218) (o := .cells #[.slice A0_0 l0_0.length c0_0, .slice A0_1 l0_1.length c0_1, .slice A0_2 l0_2.length c0_2] 25 (0, 0)) (by (with_reducible repeat (first | refine blk_drewN ?_ _ | refine blk_drew ?_ | refine blk_alloc ?_ _)); exact BK218.out) hb); have n1_ := Aside0.mk (below_step (by repeat (first | (with_reducible first | exact HB.out | apply below_alloc | apply pw_below_drewN | apply below_drew1 | refine below_set ?_ GE218.out) | exact HB.out)) hb); clear BK218; clear HB; have BK218 := n0_; have HB := n1_; clear n0_ n1_; (try clear hb); (try clear hb2); (try clear hk); (try clear hi))))
  go_ret
  exact ⟨by first | rfl | (simp [errW_none, errW_some] <;> rfl) | (simp [*, errW_none, errW_some] <;> rfl), by repeat (first | (with_reducible first | exact HB.out | apply below_alloc | apply pw_below_drewN | apply below_drew1 | refine below_set ?_ GE218.out) | exact HB.out)⟩
end Go.Proofs.YtmdfnambaedllaaDoor.Pr
namespace Go.Proofs.YtmdfnambaedllaaDoor.Pr
open Go.RowKit Go.Proofs.YtmdfnambaedllaaDoorW.PrintWords Go.Proofs.YtmdfnambaedllaaDoorW.PrintLast Go.Proofs.YtmdfnambaedllaaDoorW.PrintMore Go.Proofs.YtmdfnambaedllaaDoor.X
attribute [local go_sem] max2_int min2_int max_two min_two max_three min_three max_four min_four   -- for this text's walks alone
set_option linter.unusedVariables false
set_option linter.unusedSimpArgs false
def spileref19_inside.f (l0 : List Int) (a1 : Int) : Option (Bool) := if 0 < (l0.length : Int) then (if a1 ≥ (rd l0 0) then (if 0 ≤ (wrap64 ((l0.length : Int) - 1)) then (if (wrap64 ((l0.length : Int) - 1)) < (l0.length : Int) then (some (decide (a1 ≤ (rd l0 (wrap64 ((l0.length : Int) - 1)))))) else (none)) else (none)) else (some false)) else (none)
set_option maxHeartbeats 8000000 in
set_option maxRecDepth 100000 in
theorem spileref19_inside.calls (A0 : Option Addr) (c0 : Nat) (l0 : List Int) (a1 : Int) (r : Bool) (w : World) (hr0 : Kd.C (Kd.int .i64) w A0 l0.length l0) (hc0 : l0.length ≤ c0) (h : spileref19_inside.f l0 a1 = some r) :
  Calls Tryd.prog 29 #[.slice A0 l0.length c0, .int .i64 a1] w fun e w' => e = .returned (.bool r) ∧ Drawn0 w w' := by
 have HR0 := Aside0.mk hr0
 have HC0 := Aside0.mk hc0
 clear hr0 hc0
 have H : (if 0 < (l0.length : Int) then (if a1 ≥ (rd l0 0) then (if 0 ≤ (wrap64 ((l0.length : Int) - 1)) then (if (wrap64 ((l0.length : Int) - 1)) < (l0.length : Int) then (some (decide (a1 ≤ (rd l0 (wrap64 ((l0.length : Int) - 1)))))) else (none)) else (none)) else (some false)) else (none)) = some r := h
 clear h
 by_cases c3 : 0 < (l0.length : Int)
 ·
  rw [if_pos c3] at H
  have c3b0 : decide (0 < (l0.length : Int)) = true := decide_eq_true c3
  have c3b1 : decide (0 < l0.length) = true := decide_eq_true (by omega)
  clear c3
  by_cases c4 : a1 ≥ (rd l0 0)
  ·
   rw [if_pos c4] at H
   have c4b0 : decide ((rd l0 0) ≤ a1) = true := decide_eq_true c4
   clear c4
   obtain ⟨ji5, hji5⟩ : ∃ j_ : Int, (wrap64 ((l0.length : Int) - 1)) = j_ := ⟨_, rfl⟩
   replace H : (if 0 ≤ (ji5) then (if (ji5) < (l0.length : Int) then (some (decide (a1 ≤ (rd l0 (ji5))))) else (none)) else (none)) = some r := by first | (rw [hji5] at H; exact H) | (simp only [hji5] at H ⊢; exact H)
   have hji5w : (IntKind.i64.wrap ((l0.length : Int) - 1)) = ji5 := (i64_w _).trans hji5
   by_cases c6 : 0 ≤ (ji5)
   ·
    rw [if_pos c6] at H
    have c6b0 : decide (0 ≤ (ji5)) = true := decide_eq_true c6
    clear c6
    by_cases c7 : (ji5) < (l0.length : Int)
    ·
     rw [if_pos c7] at H
     have c7b0 : decide ((ji5) < (l0.length : Int)) = true := decide_eq_true c7
     clear c7
     obtain rfl := Option.some.inj H
     have p238 : 0 ≤ (0 : Int) := (by omega)
     have q238 : 0 < (l0.length : Int) := of_decide_eq_true (by first | (with_reducible assumption) | assumption)
     obtain ⟨ad238, e238, hx238_0⟩ := Kd.at_int HR0.out 0 p238 q238
     cases e238
     have qi238 : (0 < l0.length) = True := eq_true (by omega)
     (try rw [show ((0 : Int)).toNat = 0 from rfl] at hx238_0)
     (try rw [Addr.add_zero'] at hx238_0)
     replace p238 := eq_true p238
     replace q238 := eq_true q238
     have p239 : 0 ≤ ((ji5) : Int) := of_decide_eq_true (by first | (with_reducible assumption) | assumption)
     have q239 : (ji5) < (l0.length : Int) := of_decide_eq_true (by first | (with_reducible assumption) | assumption)
     obtain ⟨ad239, e239, hx239_0⟩ := Kd.at_int HR0.out (ji5) p239 q239
     obtain rfl : ad238 = ad239 := (by injection e239)
     replace p239 := eq_true p239
     replace q239 := eq_true q239
     go_enter Tryd.func29, Tryd.ntmps29
     go_wp2
     go_ret
     exact ⟨by first | rfl | (simp; done) | (simp only [← hji5] <;> (first | rfl | simp)) | (simp [*]; done), by repeat (first | exact Drawn0.refl _ | apply Drawn0.step)⟩
    ·
     rw [if_neg c7] at H
     exact absurd H (by simp)
   ·
    rw [if_neg c6] at H
    exact absurd H (by simp)
  ·
   rw [if_neg c4] at H
   have c4b0 : decide ((rd l0 0) ≤ a1) = false := decide_eq_false c4
   clear c4
   obtain rfl := Option.some.inj H
   have p238 : 0 ≤ (0 : Int) := (by omega)
   have q238 : 0 < (l0.length : Int) := of_decide_eq_true (by first | (with_reducible assumption) | assumption)
   obtain ⟨ad238, e238, hx238_0⟩ := Kd.at_int HR0.out 0 p238 q238
   cases e238
   have qi238 : (0 < l0.length) = True := eq_true (by omega)
   (try rw [show ((0 : Int)).toNat = 0 from rfl] at hx238_0)
   (try rw [Addr.add_zero'] at hx238_0)
   replace p238 := eq_true p238
   replace q238 := eq_true q238
   go_enter Tryd.func29, Tryd.ntmps29
   go_wp2
   go_ret
   exact ⟨by first | rfl | (simp; done) | (simp [*]; done), by repeat (first | exact Drawn0.refl _ | apply Drawn0.step)⟩
 ·
  rw [if_neg c3] at H
  exact absurd H (by simp)
def spileref19_place.l0 : Nat → List Int → Int → Int → Int → Option (Int)
 | 0, _, _, _, _ => none
 | k + 1, x0, x1, x5, x6 => if x6 < (wrap64 ((x0.length : Int) - 1)) then (if 0 ≤ x6 then (if x6 < (x0.length : Int) then (if (rd x0 x6) ≤ x1 then (spileref19_place.l0 k x0 x1 x6 (wrap64 (x6 + 1))) else (spileref19_place.l0 k x0 x1 x5 (wrap64 (x6 + 1)))) else (none)) else (none)) else (some x5)
def spileref19_place.f (k : Nat) (l0 : List Int) (a1 : Int) : Option (Int) := spileref19_place.l0 k l0 a1 0 0
theorem spileref19_place.mono_l : ∀ k, (∀ y0 y1 y2 y3, LeO (spileref19_place.l0 k y0 y1 y2 y3) (spileref19_place.l0 (k + 1) y0 y1 y2 y3))
 | 0 => fun _ _ _ _ r h => by simp [spileref19_place.l0] at h
 | k + 1 => by
  have ih0 := spileref19_place.mono_l k
  ·
   intro y0 y1 y2 y3
   unfold spileref19_place.l0
   repeat' first
   | (with_reducible exact ih0 _ _ _ _)
   | (with_reducible exact LeO.refl _)
   | (with_reducible exact LeO.none _)
   | (with_reducible refine LeO.ite ?_ ?_)
   | (with_reducible refine LeO.bind ?_ (fun _ => ?_))
   | exact ih0 _ _ _ _
   | exact LeO.none _
   | refine LeO.ite ?_ ?_
   | refine LeO.bind ?_ (fun _ => ?_)
theorem spileref19_place.mono : ∀ a0 a1 k, LeO (spileref19_place.f k a0 a1) (spileref19_place.f (k + 1) a0 a1) := by
 intro a0 a1 k
 have ih0 := spileref19_place.mono_l k
 unfold spileref19_place.f
 repeat' first
   | (with_reducible exact ih0 _ _ _ _)
   | (with_reducible exact LeO.refl _)
   | (with_reducible exact LeO.none _)
   | (with_reducible refine LeO.ite ?_ ?_)
   | (with_reducible refine LeO.bind ?_ (fun _ => ?_))
   | exact ih0 _ _ _ _
   | exact LeO.none _
   | refine LeO.ite ?_ ?_
   | refine LeO.bind ?_ (fun _ => ?_)
set_option maxHeartbeats 8000000 in
set_option maxRecDepth 100000 in
theorem spileref19_place.calls (k : Nat) (A0 : Option Addr) (c0 : Nat) (l0 : List Int) (a1 : Int) (r : Int) (w : World) (hr0 : Kd.C (Kd.int .i64) w A0 l0.length l0) (hc0 : l0.length ≤ c0) (h : spileref19_place.f k l0 a1 = some r) :
  Calls Tryd.prog 54 #[.slice A0 l0.length c0, .int .i64 a1] w fun e w' => e = .returned (.int .i64 r) ∧ Drawn0 w w' := by
 have HR0 := Aside0.mk hr0
 have HC0 := Aside0.mk hc0
 clear hr0 hc0
 have H : (spileref19_place.l0 k l0 a1 0 0) = some r := h
 clear h
 have H' := Aside0.mk H
 clear H
 go_enter Tryd.func54, Tryd.ntmps54
 go_wp2
 go_loopg [5, 6] k (fun kq v5 v6 w' => ∃ (x5_1 : Int) (x6_1 : Int), v5 = .int .i64 x5_1 ∧ v6 = .int .i64 x6_1 ∧ Aside0 (spileref19_place.l0 kq l0 a1 x5_1 x6_1 = some r) ∧ Aside0 (kq ≤ k) ∧ Drawn0 w w')
 case atStart => exact ⟨(0), (0), (by first | rfl | (simp; done) | (simp [*]; done)), (by first | rfl | (simp; done) | (simp [*]; done)), H', ⟨Nat.le_refl _⟩, by repeat (first | exact Drawn0.refl _ | apply Drawn0.step)⟩
 case round =>
  clear H'
  try clear p2
  obtain ⟨x5_1, x6_1, rfl, rfl, HA, HK1, ⟨m1, rfl⟩⟩ := hrel
  cases gk with
  | zero => exact absurd HA.out (by simp [spileref19_place.l0])
  | succ k1 =>
   have H := HA.out
   clear HA
   simp only [spileref19_place.l0] at H
   by_cases c3 : x6_1 < (wrap64 ((l0.length : Int) - 1))
   ·
    rw [if_pos c3] at H
    have c3b0 : decide (x6_1 < (wrap64 ((l0.length : Int) - 1))) = true := decide_eq_true c3
    clear c3
    by_cases c4 : 0 ≤ x6_1
    ·
     rw [if_pos c4] at H
     have c4b0 : decide (0 ≤ x6_1) = true := decide_eq_true c4
     clear c4
     by_cases c5 : x6_1 < (l0.length : Int)
     ·
      rw [if_pos c5] at H
      have c5b0 : decide (x6_1 < (l0.length : Int)) = true := decide_eq_true c5
      clear c5
      by_cases c6 : (rd l0 x6_1) ≤ a1
      ·
       rw [if_pos c6] at H
       have c6b0 : decide ((rd l0 x6_1) ≤ a1) = true := decide_eq_true c6
       clear c6
       have H' := Aside0.mk H
       clear H
       have p240 : 0 ≤ (x6_1 : Int) := of_decide_eq_true (by first | (with_reducible assumption) | assumption)
       have q240 : x6_1 < (l0.length : Int) := of_decide_eq_true (by first | (with_reducible assumption) | assumption)
       obtain ⟨ad240, e240, hx240_0⟩ := Kd.at_int HR0.out x6_1 p240 q240
       cases e240
       replace p240 := eq_true p240
       replace q240 := eq_true q240
       go_wp2
       go_roundg k1
       case measure => have := HK1.out; omega
       case rel => exact ⟨(x6_1), (wrap64 (x6_1 + 1)), (by first | rfl | (simp; done) | (simp [*]; done)), (by first | rfl | (simp; done) | (simp [*]; done)), H', ⟨by have := HK1.out; omega⟩, by repeat (first | exact Drawn0.refl _ | apply Drawn0.step)⟩
      ·
       rw [if_neg c6] at H
       have c6b0 : decide ((rd l0 x6_1) ≤ a1) = false := decide_eq_false c6
       clear c6
       have H' := Aside0.mk H
       clear H
       have p240 : 0 ≤ (x6_1 : Int) := of_decide_eq_true (by first | (with_reducible assumption) | assumption)
       have q240 : x6_1 < (l0.length : Int) := of_decide_eq_true (by first | (with_reducible assumption) | assumption)
       obtain ⟨ad240, e240, hx240_0⟩ := Kd.at_int HR0.out x6_1 p240 q240
       cases e240
       replace p240 := eq_true p240
       replace q240 := eq_true q240
       go_wp2
       go_roundg k1
       case measure => have := HK1.out; omega
       case rel => exact ⟨(x5_1), (wrap64 (x6_1 + 1)), (by first | rfl | (simp; done) | (simp [*]; done)), (by first | rfl | (simp; done) | (simp [*]; done)), H', ⟨by have := HK1.out; omega⟩, by repeat (first | exact Drawn0.refl _ | apply Drawn0.step)⟩
     ·
      rw [if_neg c5] at H
      exact absurd H (by simp)
    ·
     rw [if_neg c4] at H
     exact absurd H (by simp)
   ·
    rw [if_neg c3] at H
    have c3b0 : decide (x6_1 < (wrap64 ((l0.length : Int) - 1))) = false := decide_eq_false c3
    clear c3
    obtain rfl := Option.some.inj H
    go_wp2
    go_ret
    exact ⟨by first | rfl | (simp; done) | (simp [*]; done), by repeat (first | exact Drawn0.refl _ | apply Drawn0.step)⟩
def spileref19_At.f (k : Nat) (l0_0 : List Int) (l0_1 : List Int) (l0_2 : List (List Int)) (a1 : Int) (a2 : Int) : Option (Int) := (spileref19_place.f k l0_0 a1).bind fun t242 => ((spileref19_place.f k l0_1 a2).bind fun t243 => (if 0 ≤ t242 then (if t242 < (l0_0.length : Int) then (if 0 ≤ (wrap64 (t242 + 1)) then (if (wrap64 (t242 + 1)) < (l0_0.length : Int) then (if 0 ≤ t243 then (if t243 < (l0_1.length : Int) then (if 0 ≤ (wrap64 (t243 + 1)) then (if (wrap64 (t243 + 1)) < (l0_1.length : Int) then (if t242 < (l0_2.length : Int) then (if t243 < ((rd_L1 l0_2 t242).length : Int) then (if (wrap64 (t243 + 1)) < ((rd_L1 l0_2 t242).length : Int) then (if (wrap64 (t242 + 1)) < (l0_2.length : Int) then (if t243 < ((rd_L1 l0_2 (wrap64 (t242 + 1))).length : Int) then (if (wrap64 (t243 + 1)) < ((rd_L1 l0_2 (wrap64 (t242 + 1))).length : Int) then (if (wrap64 (2 * (wrap64 ((wrap64 ((rd l0_0 (wrap64 (t242 + 1))) - (rd l0_0 t242))) * (wrap64 ((rd l0_1 (wrap64 (t243 + 1))) - (rd l0_1 t243))))))) = 0 then (none) else (some (wrap64 (Int.tdiv (wrap64 ((wrap64 (2 * (wrap64 ((wrap64 ((wrap64 ((rd l0_0 (wrap64 (t242 + 1))) - a1)) * (wrap64 ((wrap64 ((wrap64 ((rd l0_1 (wrap64 (t243 + 1))) - a2)) * (rd (rd_L1 l0_2 t242) t243))) + (wrap64 ((wrap64 (a2 - (rd l0_1 t243))) * (rd (rd_L1 l0_2 t242) (wrap64 (t243 + 1))))))))) + (wrap64 ((wrap64 (a1 - (rd l0_0 t242))) * (wrap64 ((wrap64 ((wrap64 ((rd l0_1 (wrap64 (t243 + 1))) - a2)) * (rd (rd_L1 l0_2 (wrap64 (t242 + 1))) t243))) + (wrap64 ((wrap64 (a2 - (rd l0_1 t243))) * (rd (rd_L1 l0_2 (wrap64 (t242 + 1))) (wrap64 (t243 + 1))))))))))))) + (wrap64 ((wrap64 ((rd l0_0 (wrap64 (t242 + 1))) - (rd l0_0 t242))) * (wrap64 ((rd l0_1 (wrap64 (t243 + 1))) - (rd l0_1 t243))))))) (wrap64 (2 * (wrap64 ((wrap64 ((rd l0_0 (wrap64 (t242 + 1))) - (rd l0_0 t242))) * (wrap64 ((rd l0_1 (wrap64 (t243 + 1))) - (rd l0_1 t243))))))))))) else (none)) else (none)) else (none)) else (none)) else (none)) else (none)) else (none)) else (none)) else (none)) else (none)) else (none)) else (none)) else (none)) else (none)))
theorem spileref19_At.mono : ∀ a0 a1 a2 a3 a4 k, LeO (spileref19_At.f k a0 a1 a2 a3 a4) (spileref19_At.f (k + 1) a0 a1 a2 a3 a4) := by
 intro a0 a1 a2 a3 a4 k
 unfold spileref19_At.f
 repeat' first
   | (with_reducible exact spileref19_place.mono _ _ _)
   | (with_reducible exact LeO.refl _)
   | (with_reducible exact LeO.none _)
   | (with_reducible refine LeO.ite ?_ ?_)
   | (with_reducible refine LeO.bind ?_ (fun _ => ?_))
   | exact spileref19_place.mono _ _ _
   | exact LeO.none _
   | refine LeO.ite ?_ ?_
   | refine LeO.bind ?_ (fun _ => ?_)
set_option maxHeartbeats 8000000 in
set_option maxRecDepth 100000 in
theorem spileref19_At.calls (k : Nat) (A0_0 : Option Addr) (c0_0 : Nat) (l0_0 : List Int) (A0_1 : Option Addr) (c0_1 : Nat) (l0_1 : List Int) (A0_2 : Option Addr) (c0_2 : Nat) (l0_2 : List (List Int)) (a1 : Int) (a2 : Int) (r : Int) (w : World) (hr0_0 : Kd.C (Kd.int .i64) w A0_0 l0_0.length l0_0) (hc0_0 : l0_0.length ≤ c0_0) (hr0_1 : Kd.C (Kd.int .i64) w A0_1 l0_1.length l0_1) (hc0_1 : l0_1.length ≤ c0_1) (hr0_2 : Kd.C (Kd.slice 3 (Kd.int .i64)) w A0_2 l0_2.length l0_2) (hc0_2 : l0_2.length ≤ c0_2) (h : spileref19_At.f k l0_0 l0_1 l0_2 a1 a2 = some r) :
  Calls Tryd.prog 30 #[.agg #[.slice A0_0 l0_0.length c0_0, .slice A0_1 l0_1.length c0_1, .slice A0_2 l0_2.length c0_2], .int .i64 a1, .int .i64 a2] w fun e w' => e = .returned (.int .i64 r) ∧ Below w.heap.size w w' := by
 have hu25 := Tryd.underlying25
 have HR0_0 := Aside0.mk hr0_0
 have HC0_0 := Aside0.mk hc0_0
 clear hr0_0 hc0_0
 have HR0_1 := Aside0.mk hr0_1
 have HC0_1 := Aside0.mk hc0_1
 clear hr0_1 hc0_1
 have HR0_2 := Aside0.mk hr0_2
 have HC0_2 := Aside0.mk hc0_2
 clear hr0_2 hc0_2
 have HB := Aside0.mk (Below.refl w.heap.size w)
 have H : ((spileref19_place.f k l0_0 a1).bind fun t242 => ((spileref19_place.f k l0_1 a2).bind fun t243 => (if 0 ≤ t242 then (if t242 < (l0_0.length : Int) then (if 0 ≤ (wrap64 (t242 + 1)) then (if (wrap64 (t242 + 1)) < (l0_0.length : Int) then (if 0 ≤ t243 then (if t243 < (l0_1.length : Int) then (if 0 ≤ (wrap64 (t243 + 1)) then (if (wrap64 (t243 + 1)) < (l0_1.length : Int) then (if t242 < (l0_2.length : Int) then (if t243 < ((rd_L1 l0_2 t242).length : Int) then (if (wrap64 (t243 + 1)) < ((rd_L1 l0_2 t242).length : Int) then (if (wrap64 (t242 + 1)) < (l0_2.length : Int) then (if t243 < ((rd_L1 l0_2 (wrap64 (t242 + 1))).length : Int) then (if (wrap64 (t243 + 1)) < ((rd_L1 l0_2 (wrap64 (t242 + 1))).length : Int) then (if (wrap64 (2 * (wrap64 ((wrap64 ((rd l0_0 (wrap64 (t242 + 1))) - (rd l0_0 t242))) * (wrap64 ((rd l0_1 (wrap64 (t243 + 1))) - (rd l0_1 t243))))))) = 0 then (none) else (some (wrap64 (Int.tdiv (wrap64 ((wrap64 (2 * (wrap64 ((wrap64 ((wrap64 ((rd l0_0 (wrap64 (t242 + 1))) - a1)) * (wrap64 ((wrap64 ((wrap64 ((rd l0_1 (wrap64 (t243 + 1))) - a2)) * (rd (rd_L1 l0_2 t242) t243))) + (wrap64 ((wrap64 (a2 - (rd l0_1 t243))) * (rd (rd_L1 l0_2 t242) (wrap64 (t243 + 1))))))))) + (wrap64 ((wrap64 (a1 - (rd l0_0 t242))) * (wrap64 ((wrap64 ((wrap64 ((rd l0_1 (wrap64 (t243 + 1))) - a2)) * (rd (rd_L1 l0_2 (wrap64 (t242 + 1))) t243))) + (wrap64 ((wrap64 (a2 - (rd l0_1 t243))) * (rd (rd_L1 l0_2 (wrap64 (t242 + 1))) (wrap64 (t243 + 1))))))))))))) + (wrap64 ((wrap64 ((rd l0_0 (wrap64 (t242 + 1))) - (rd l0_0 t242))) * (wrap64 ((rd l0_1 (wrap64 (t243 + 1))) - (rd l0_1 t243))))))) (wrap64 (2 * (wrap64 ((wrap64 ((rd l0_0 (wrap64 (t242 + 1))) - (rd l0_0 t242))) * (wrap64 ((rd l0_1 (wrap64 (t243 + 1))) - (rd l0_1 t243))))))))))) else (none)) else (none)) else (none)) else (none)) else (none)) else (none)) else (none)) else (none)) else (none)) else (none)) else (none)) else (none)) else (none)) else (none)))) = some r := h
 clear h
 replace H := Option.bind_eq_some_iff.mp H
 obtain ⟨t242, A40, H⟩ := H
 replace H : ((spileref19_place.f k l0_1 a2).bind fun t243 => (if 0 ≤ t242 then (if t242 < (l0_0.length : Int) then (if 0 ≤ (wrap64 (t242 + 1)) then (if (wrap64 (t242 + 1)) < (l0_0.length : Int) then (if 0 ≤ t243 then (if t243 < (l0_1.length : Int) then (if 0 ≤ (wrap64 (t243 + 1)) then (if (wrap64 (t243 + 1)) < (l0_1.length : Int) then (if t242 < (l0_2.length : Int) then (if t243 < ((rd_L1 l0_2 t242).length : Int) then (if (wrap64 (t243 + 1)) < ((rd_L1 l0_2 t242).length : Int) then (if (wrap64 (t242 + 1)) < (l0_2.length : Int) then (if t243 < ((rd_L1 l0_2 (wrap64 (t242 + 1))).length : Int) then (if (wrap64 (t243 + 1)) < ((rd_L1 l0_2 (wrap64 (t242 + 1))).length : Int) then (if (wrap64 (2 * (wrap64 ((wrap64 ((rd l0_0 (wrap64 (t242 + 1))) - (rd l0_0 t242))) * (wrap64 ((rd l0_1 (wrap64 (t243 + 1))) - (rd l0_1 t243))))))) = 0 then (none) else (some (wrap64 (Int.tdiv (wrap64 ((wrap64 (2 * (wrap64 ((wrap64 ((wrap64 ((rd l0_0 (wrap64 (t242 + 1))) - a1)) * (wrap64 ((wrap64 ((wrap64 ((rd l0_1 (wrap64 (t243 + 1))) - a2)) * (rd (rd_L1 l0_2 t242) t243))) + (wrap64 ((wrap64 (a2 - (rd l0_1 t243))) * (rd (rd_L1 l0_2 t242) (wrap64 (t243 + 1))))))))) + (wrap64 ((wrap64 (a1 - (rd l0_0 t242))) * (wrap64 ((wrap64 ((wrap64 ((rd l0_1 (wrap64 (t243 + 1))) - a2)) * (rd (rd_L1 l0_2 (wrap64 (t242 + 1))) t243))) + (wrap64 ((wrap64 (a2 - (rd l0_1 t243))) * (rd (rd_L1 l0_2 (wrap64 (t242 + 1))) (wrap64 (t243 + 1))))))))))))) + (wrap64 ((wrap64 ((rd l0_0 (wrap64 (t242 + 1))) - (rd l0_0 t242))) * (wrap64 ((rd l0_1 (wrap64 (t243 + 1))) - (rd l0_1 t243))))))) (wrap64 (2 * (wrap64 ((wrap64 ((rd l0_0 (wrap64 (t242 + 1))) - (rd l0_0 t242))) * (wrap64 ((rd l0_1 (wrap64 (t243 + 1))) - (rd l0_1 t243))))))))))) else (none)) else (none)) else (none)) else (none)) else (none)) else (none)) else (none)) else (none)) else (none)) else (none)) else (none)) else (none)) else (none)) else (none))) = some r := H
 have A4 := Aside0.mk A40
 clear A40
 replace H := Option.bind_eq_some_iff.mp H
 obtain ⟨t243, A50, H⟩ := H
 replace H : (if 0 ≤ t242 then (if t242 < (l0_0.length : Int) then (if 0 ≤ (wrap64 (t242 + 1)) then (if (wrap64 (t242 + 1)) < (l0_0.length : Int) then (if 0 ≤ t243 then (if t243 < (l0_1.length : Int) then (if 0 ≤ (wrap64 (t243 + 1)) then (if (wrap64 (t243 + 1)) < (l0_1.length : Int) then (if t242 < (l0_2.length : Int) then (if t243 < ((rd_L1 l0_2 t242).length : Int) then (if (wrap64 (t243 + 1)) < ((rd_L1 l0_2 t242).length : Int) then (if (wrap64 (t242 + 1)) < (l0_2.length : Int) then (if t243 < ((rd_L1 l0_2 (wrap64 (t242 + 1))).length : Int) then (if (wrap64 (t243 + 1)) < ((rd_L1 l0_2 (wrap64 (t242 + 1))).length : Int) then (if (wrap64 (2 * (wrap64 ((wrap64 ((rd l0_0 (wrap64 (t242 + 1))) - (rd l0_0 t242))) * (wrap64 ((rd l0_1 (wrap64 (t243 + 1))) - (rd l0_1 t243))))))) = 0 then (none) else (some (wrap64 (Int.tdiv (wrap64 ((wrap64 (2 * (wrap64 ((wrap64 ((wrap64 ((rd l0_0 (wrap64 (t242 + 1))) - a1)) * (wrap64 ((wrap64 ((wrap64 ((rd l0_1 (wrap64 (t243 + 1))) - a2)) * (rd (rd_L1 l0_2 t242) t243))) + (wrap64 ((wrap64 (a2 - (rd l0_1 t243))) * (rd (rd_L1 l0_2 t242) (wrap64 (t243 + 1))))))))) + (wrap64 ((wrap64 (a1 - (rd l0_0 t242))) * (wrap64 ((wrap64 ((wrap64 ((rd l0_1 (wrap64 (t243 + 1))) - a2)) * (rd (rd_L1 l0_2 (wrap64 (t242 + 1))) t243))) + (wrap64 ((wrap64 (a2 - (rd l0_1 t243))) * (rd (rd_L1 l0_2 (wrap64 (t242 + 1))) (wrap64 (t243 + 1))))))))))))) + (wrap64 ((wrap64 ((rd l0_0 (wrap64 (t242 + 1))) - (rd l0_0 t242))) * (wrap64 ((rd l0_1 (wrap64 (t243 + 1))) - (rd l0_1 t243))))))) (wrap64 (2 * (wrap64 ((wrap64 ((rd l0_0 (wrap64 (t242 + 1))) - (rd l0_0 t242))) * (wrap64 ((rd l0_1 (wrap64 (t243 + 1))) - (rd l0_1 t243))))))))))) else (none)) else (none)) else (none)) else (none)) else (none)) else (none)) else (none)) else (none)) else (none)) else (none)) else (none)) else (none)) else (none)) else (none)) = some r := H
 have A5 := Aside0.mk A50
 clear A50
 by_cases c6 : 0 ≤ t242
 ·
  rw [if_pos c6] at H
  have c6b0 : decide (0 ≤ t242) = true := decide_eq_true c6
  clear c6
  by_cases c7 : t242 < (l0_0.length : Int)
  ·
   rw [if_pos c7] at H
   have c7b0 : decide (t242 < (l0_0.length : Int)) = true := decide_eq_true c7
   clear c7
   obtain ⟨ji8, hji8⟩ : ∃ j_ : Int, (wrap64 (t242 + 1)) = j_ := ⟨_, rfl⟩
   replace H : (if 0 ≤ (ji8) then (if (ji8) < (l0_0.length : Int) then (if 0 ≤ t243 then (if t243 < (l0_1.length : Int) then (if 0 ≤ (wrap64 (t243 + 1)) then (if (wrap64 (t243 + 1)) < (l0_1.length : Int) then (if t242 < (l0_2.length : Int) then (if t243 < ((rd_L1 l0_2 t242).length : Int) then (if (wrap64 (t243 + 1)) < ((rd_L1 l0_2 t242).length : Int) then (if (ji8) < (l0_2.length : Int) then (if t243 < ((rd_L1 l0_2 (ji8)).length : Int) then (if (wrap64 (t243 + 1)) < ((rd_L1 l0_2 (ji8)).length : Int) then (if (wrap64 (2 * (wrap64 ((wrap64 ((rd l0_0 (ji8)) - (rd l0_0 t242))) * (wrap64 ((rd l0_1 (wrap64 (t243 + 1))) - (rd l0_1 t243))))))) = 0 then (none) else (some (wrap64 (Int.tdiv (wrap64 ((wrap64 (2 * (wrap64 ((wrap64 ((wrap64 ((rd l0_0 (ji8)) - a1)) * (wrap64 ((wrap64 ((wrap64 ((rd l0_1 (wrap64 (t243 + 1))) - a2)) * (rd (rd_L1 l0_2 t242) t243))) + (wrap64 ((wrap64 (a2 - (rd l0_1 t243))) * (rd (rd_L1 l0_2 t242) (wrap64 (t243 + 1))))))))) + (wrap64 ((wrap64 (a1 - (rd l0_0 t242))) * (wrap64 ((wrap64 ((wrap64 ((rd l0_1 (wrap64 (t243 + 1))) - a2)) * (rd (rd_L1 l0_2 (ji8)) t243))) + (wrap64 ((wrap64 (a2 - (rd l0_1 t243))) * (rd (rd_L1 l0_2 (ji8)) (wrap64 (t243 + 1))))))))))))) + (wrap64 ((wrap64 ((rd l0_0 (ji8)) - (rd l0_0 t242))) * (wrap64 ((rd l0_1 (wrap64 (t243 + 1))) - (rd l0_1 t243))))))) (wrap64 (2 * (wrap64 ((wrap64 ((rd l0_0 (ji8)) - (rd l0_0 t242))) * (wrap64 ((rd l0_1 (wrap64 (t243 + 1))) - (rd l0_1 t243))))))))))) else (none)) else (none)) else (none)) else (none)) else (none)) else (none)) else (none)) else (none)) else (none)) else (none)) else (none)) else (none)) = some r := by first | (rw [hji8] at H; exact H) | (simp only [hji8] at H ⊢; exact H)
   (try rw [hji8] at A4)
   (try rw [hji8] at A5)
   have hji8w : (IntKind.i64.wrap (t242 + 1)) = ji8 := (i64_w _).trans hji8
   by_cases c9 : 0 ≤ (ji8)
   ·
    rw [if_pos c9] at H
    have c9b0 : decide (0 ≤ (ji8)) = true := decide_eq_true c9
    clear c9
    by_cases c10 : (ji8) < (l0_0.length : Int)
    ·
     rw [if_pos c10] at H
     have c10b0 : decide ((ji8) < (l0_0.length : Int)) = true := decide_eq_true c10
     clear c10
     by_cases c11 : 0 ≤ t243
     ·
      rw [if_pos c11] at H
      have c11b0 : decide (0 ≤ t243) = true := decide_eq_true c11
      clear c11
      by_cases c12 : t243 < (l0_1.length : Int)
      ·
       rw [if_pos c12] at H
       have c12b0 : decide (t243 < (l0_1.length : Int)) = true := decide_eq_true c12
       clear c12
       obtain ⟨ji13, hji13⟩ : ∃ j_ : Int, (wrap64 (t243 + 1)) = j_ := ⟨_, rfl⟩
       replace H : (if 0 ≤ (ji13) then (if (ji13) < (l0_1.length : Int) then (if t242 < (l0_2.length : Int) then (if t243 < ((rd_L1 l0_2 t242).length : Int) then (if (ji13) < ((rd_L1 l0_2 t242).length : Int) then (if (ji8) < (l0_2.length : Int) then (if t243 < ((rd_L1 l0_2 (ji8)).length : Int) then (if (ji13) < ((rd_L1 l0_2 (ji8)).length : Int) then (if (wrap64 (2 * (wrap64 ((wrap64 ((rd l0_0 (ji8)) - (rd l0_0 t242))) * (wrap64 ((rd l0_1 (ji13)) - (rd l0_1 t243))))))) = 0 then (none) else (some (wrap64 (Int.tdiv (wrap64 ((wrap64 (2 * (wrap64 ((wrap64 ((wrap64 ((rd l0_0 (ji8)) - a1)) * (wrap64 ((wrap64 ((wrap64 ((rd l0_1 (ji13)) - a2)) * (rd (rd_L1 l0_2 t242) t243))) + (wrap64 ((wrap64 (a2 - (rd l0_1 t243))) * (rd (rd_L1 l0_2 t242) (ji13)))))))) + (wrap64 ((wrap64 (a1 - (rd l0_0 t242))) * (wrap64 ((wrap64 ((wrap64 ((rd l0_1 (ji13)) - a2)) * (rd (rd_L1 l0_2 (ji8)) t243))) + (wrap64 ((wrap64 (a2 - (rd l0_1 t243))) * (rd (rd_L1 l0_2 (ji8)) (ji13)))))))))))) + (wrap64 ((wrap64 ((rd l0_0 (ji8)) - (rd l0_0 t242))) * (wrap64 ((rd l0_1 (ji13)) - (rd l0_1 t243))))))) (wrap64 (2 * (wrap64 ((wrap64 ((rd l0_0 (ji8)) - (rd l0_0 t242))) * (wrap64 ((rd l0_1 (ji13)) - (rd l0_1 t243))))))))))) else (none)) else (none)) else (none)) else (none)) else (none)) else (none)) else (none)) else (none)) = some r := by first | (rw [hji13] at H; exact H) | (simp only [hji13] at H ⊢; exact H)
       (try rw [hji13] at A4)
       (try rw [hji13] at A5)
       have hji13w : (IntKind.i64.wrap (t243 + 1)) = ji13 := (i64_w _).trans hji13
       by_cases c14 : 0 ≤ (ji13)
       ·
        rw [if_pos c14] at H
        have c14b0 : decide (0 ≤ (ji13)) = true := decide_eq_true c14
        clear c14
        by_cases c15 : (ji13) < (l0_1.length : Int)
        ·
         rw [if_pos c15] at H
         have c15b0 : decide ((ji13) < (l0_1.length : Int)) = true := decide_eq_true c15
         clear c15
         by_cases c16 : t242 < (l0_2.length : Int)
         ·
          rw [if_pos c16] at H
          have c16b0 : decide (t242 < (l0_2.length : Int)) = true := decide_eq_true c16
          clear c16
          by_cases c17 : t243 < ((rd_L1 l0_2 t242).length : Int)
          ·
           rw [if_pos c17] at H
           have c17b0 : decide (t243 < ((rd_L1 l0_2 t242).length : Int)) = true := decide_eq_true c17
           clear c17
           by_cases c18 : (ji13) < ((rd_L1 l0_2 t242).length : Int)
           ·
            rw [if_pos c18] at H
            have c18b0 : decide ((ji13) < ((rd_L1 l0_2 t242).length : Int)) = true := decide_eq_true c18
            clear c18
            by_cases c19 : (ji8) < (l0_2.length : Int)
            ·
             rw [if_pos c19] at H
             have c19b0 : decide ((ji8) < (l0_2.length : Int)) = true := decide_eq_true c19
             clear c19
             by_cases c20 : t243 < ((rd_L1 l0_2 (ji8)).length : Int)
             ·
              rw [if_pos c20] at H
              have c20b0 : decide (t243 < ((rd_L1 l0_2 (ji8)).length : Int)) = true := decide_eq_true c20
              clear c20
              by_cases c21 : (ji13) < ((rd_L1 l0_2 (ji8)).length : Int)
              ·
               rw [if_pos c21] at H
               have c21b0 : decide ((ji13) < ((rd_L1 l0_2 (ji8)).length : Int)) = true := decide_eq_true c21
               clear c21
               by_cases c22 : (wrap64 (2 * (wrap64 ((wrap64 ((rd l0_0 (ji8)) - (rd l0_0 t242))) * (wrap64 ((rd l0_1 (ji13)) - (rd l0_1 t243))))))) = 0
               ·
                rw [if_pos c22] at H
                exact absurd H (by simp)
               ·
                rw [if_neg c22] at H
                have c22b0 : ((wrap64 (2 * (wrap64 ((wrap64 ((rd l0_0 (ji8)) - (rd l0_0 t242))) * (wrap64 ((rd l0_1 (ji13)) - (rd l0_1 t243))))))) == 0) = false := beq_eq_false_iff_ne.mpr c22
                have c22b1 : ((wrap64 (2 * (wrap64 ((wrap64 ((rd l0_0 (ji8)) - (rd l0_0 t242))) * (wrap64 ((rd l0_1 (ji13)) - (rd l0_1 t243))))))) != 0) = true := bne_iff_ne.mpr c22
                obtain rfl := Option.some.inj H
                go_enter Tryd.func30, Tryd.ntmps30
                go_wp2_with (first | ((with_reducible refine gate_dst (N := 3) rfl ?_); refine box_event ?hg (N := 3) ?hd (cs := #[.slice A0_0 l0_0.length c0_0, .slice A0_1 l0_1.length c0_1, .slice A0_2 l0_2.length c0_2]) (t := 25) ?hr ?_; (case hd => rfl); (case hg => rfl); (case hr => first | (go_simp; done) | (go_simp; rfl)); intro gb241 hg w23 hbox hb; have n0_ := Aside0.mk (below_step (by repeat (first | (with_reducible first | exact HB.out | apply below_alloc | apply pw_below_drewN | apply below_drew1) | exact HB.out)) hb); have n1_ := Aside0.mk (hbox); have n2_ := Aside0.mk ((by rw [hg]; exact (below_size (by repeat (first | (with_reducible first | exact HB.out | apply below_alloc | apply pw_below_drewN | apply below_drew1) | exact HB.out))) : w.heap.size ≤ gb241)); have n3_ := Aside0.mk ((by rw [hg]; exact (below_size (by repeat (first | (with_reducible first | exact HB.out | apply below_alloc | apply pw_below_drewN | apply below_drew1) | exact HB.out))) : w.heap.size ≤ gb241)); clear HB; have HB := n0_; have BK241 := n1_; have GW241 := n2_; have GE241 := n3_; clear n0_ n1_ n2_ n3_; clear hb hbox hg; have hcz24_0 : w23.cell? ⟨gb241, 0, none⟩ = some (.slice A0_0 l0_0.length c0_0) := (blk_cell BK241.out 0).trans rfl; have hcz24_1 : w23.cell? ⟨gb241, 1, none⟩ = some (.slice A0_1 l0_1.length c0_1) := (blk_cell BK241.out 1).trans rfl; have hcz24_2 : w23.cell? ⟨gb241, 2, none⟩ = some (.slice A0_2 l0_2.length c0_2) := (blk_cell BK241.out 2).trans rfl; have hfz24_0 := blk_frozen BK241.out 0; have hfz24_1 := blk_frozen BK241.out 1; have hfz24_2 := blk_frozen BK241.out 2) | (go_at_call 54; (with_reducible refine (spileref19_place.calls k _ _ l0_0 a1 t242 _ ?side1 ?side2 A4.out).mono ?_); (case side1 => repeat (first | exact (Kd.C_below HR0_0.out HB.out) | (with_reducible refine Kd.C_alloc ?_ _) | (with_reducible refine Kd.C_drewN ?_ _) | (with_reducible refine Kd.C_drew ?_))); (case side2 => exact HC0_0.out); rintro e w' ⟨rfl, ⟨nd, rfl⟩⟩; (try first | exact ⟨rfl, _, World.drewN_drewN _ _ _⟩ | exact ⟨rfl, _, Eq.trans (World.drewN_drewN _ _ _) (congrArg (World.drewN _) (Nat.add_assoc _ _ _))⟩)) | (go_at_call 54; (with_reducible refine (spileref19_place.calls k _ _ l0_1 a2 t243 _ ?side1 ?side2 A5.out).mono ?_); (case side1 => repeat (first | exact (Kd.C_below HR0_1.out (by repeat (first | (with_reducible first | exact HB.out | apply below_alloc | apply pw_below_drewN | apply below_drew1 | refine below_set ?_ GE241.out) | exact HB.out))) | (with_reducible refine Kd.C_alloc ?_ _) | (with_reducible refine Kd.C_drewN ?_ _) | (with_reducible refine Kd.C_drew ?_))); (case side2 => exact HC0_1.out); rintro e w' ⟨rfl, ⟨nd, rfl⟩⟩; (try first | exact ⟨rfl, _, World.drewN_drewN _ _ _⟩ | exact ⟨rfl, _, Eq.trans (World.drewN_drewN _ _ _) (congrArg (World.drewN _) (Nat.add_assoc _ _ _))⟩); have p244 : 0 ≤ (t242 : Int) := of_decide_eq_true (by first | (with_reducible assumption) | assumption); have q244 : t242 < (l0_0.length : Int) := of_decide_eq_true (by first | (with_reducible assumption) | assumption); obtain ⟨ad244, e244, hx244_0⟩ := Kd.at_int HR0_0.out t242 p244 q244; cases e244; replace hx244_0 := (HB.out.cell (World.block_lt_of_cell? w _ hx244_0)).trans hx244_0; replace p244 := eq_true p244; replace q244 := eq_true q244; have p245 : 0 ≤ ((ji8) : Int) := of_decide_eq_true (by first | (with_reducible assumption) | assumption); have q245 : (ji8) < (l0_0.length : Int) := of_decide_eq_true (by first | (with_reducible assumption) | assumption); obtain ⟨ad245, e245, hx245_0⟩ := Kd.at_int HR0_0.out (ji8) p245 q245; obtain rfl : ad244 = ad245 := (by injection e245); replace hx245_0 := (HB.out.cell (World.block_lt_of_cell? w _ hx245_0)).trans hx245_0; replace p245 := eq_true p245; replace q245 := eq_true q245; have p246 : 0 ≤ (t243 : Int) := of_decide_eq_true (by first | (with_reducible assumption) | assumption); have q246 : t243 < (l0_1.length : Int) := of_decide_eq_true (by first | (with_reducible assumption) | assumption); obtain ⟨ad246, e246, hx246_0⟩ := Kd.at_int HR0_1.out t243 p246 q246; cases e246; replace hx246_0 := (HB.out.cell (World.block_lt_of_cell? w _ hx246_0)).trans hx246_0; replace p246 := eq_true p246; replace q246 := eq_true q246; have p247 : 0 ≤ ((ji13) : Int) := of_decide_eq_true (by first | (with_reducible assumption) | assumption); have q247 : (ji13) < (l0_1.length : Int) := of_decide_eq_true (by first | (with_reducible assumption) | assumption); obtain ⟨ad247, e247, hx247_0⟩ := Kd.at_int HR0_1.out (ji13) p247 q247; obtain rfl : ad246 = ad247 := (by injection e247); replace hx247_0 := (HB.out.cell (World.block_lt_of_cell? w _ hx247_0)).trans hx247_0; replace p247 := eq_true p247; replace q247 := eq_true q247; have p248 : 0 ≤ (t242 : Int) := of_decide_eq_true (by first | (with_reducible assumption) | assumption); have q248 : t242 < (l0_2.length : Int) := of_decide_eq_true (by first | (with_reducible assumption) | assumption); obtain ⟨ad248, A248_0, c248_0, e248, hx248_0, hl248_0, hi248_0⟩ := at_L1 HR0_2.out t242 p248 q248; cases e248; replace hx248_0 := (HB.out.cell (World.block_lt_of_cell? w _ hx248_0)).trans hx248_0; have HR248_0 := Aside0.mk hi248_0; have HC248_0 := Aside0.mk hl248_0; clear hi248_0 hl248_0; replace p248 := eq_true p248; replace q248 := eq_true q248; have p249 : 0 ≤ (t243 : Int) := of_decide_eq_true (by first | (with_reducible assumption) | assumption); have q249 : t243 < ((rd_L1 l0_2 t242).length : Int) := of_decide_eq_true (by first | (with_reducible assumption) | assumption); obtain ⟨ad249, e249, hx249_0⟩ := Kd.at_int HR248_0.out t243 p249 q249; cases e249; replace hx249_0 := (HB.out.cell (World.block_lt_of_cell? w _ hx249_0)).trans hx249_0; replace p249 := eq_true p249; replace q249 := eq_true q249; have p250 : 0 ≤ (t242 : Int) := of_decide_eq_true (by first | (with_reducible assumption) | assumption); have q250 : t242 < (l0_2.length : Int) := of_decide_eq_true (by first | (with_reducible assumption) | assumption); obtain ⟨ad250, A250_0, c250_0, e250, hx250_0, hl250_0, hi250_0⟩ := at_L1 HR0_2.out t242 p250 q250; obtain rfl : ad248 = ad250 := (by injection e250); replace hx250_0 := (HB.out.cell (World.block_lt_of_cell? w _ hx250_0)).trans hx250_0; have HR250_0 := Aside0.mk hi250_0; have HC250_0 := Aside0.mk hl250_0; clear hi250_0 hl250_0; replace p250 := eq_true p250; replace q250 := eq_true q250; have ea_ := Option.some.inj (hx248_0.symm.trans hx250_0); injection ea_ with ea_ en_ ec_; subst ea_; subst ec_; clear en_; have p251 : 0 ≤ ((ji13) : Int) := of_decide_eq_true (by first | (with_reducible assumption) | assumption); have q251 : (ji13) < ((rd_L1 l0_2 t242).length : Int) := of_decide_eq_true (by first | (with_reducible assumption) | assumption); obtain ⟨ad251, e251, hx251_0⟩ := Kd.at_int HR250_0.out (ji13) p251 q251; obtain rfl : ad249 = ad251 := (by injection e251); replace hx251_0 := (HB.out.cell (World.block_lt_of_cell? w _ hx251_0)).trans hx251_0; replace p251 := eq_true p251; replace q251 := eq_true q251; have p252 : 0 ≤ ((ji8) : Int) := of_decide_eq_true (by first | (with_reducible assumption) | assumption); have q252 : (ji8) < (l0_2.length : Int) := of_decide_eq_true (by first | (with_reducible assumption) | assumption); obtain ⟨ad252, A252_0, c252_0, e252, hx252_0, hl252_0, hi252_0⟩ := at_L1 HR0_2.out (ji8) p252 q252; obtain rfl : ad248 = ad252 := (by injection e252); replace hx252_0 := (HB.out.cell (World.block_lt_of_cell? w _ hx252_0)).trans hx252_0; have HR252_0 := Aside0.mk hi252_0; have HC252_0 := Aside0.mk hl252_0; clear hi252_0 hl252_0; replace p252 := eq_true p252; replace q252 := eq_true q252; have p253 : 0 ≤ (t243 : Int) := of_decide_eq_true (by first | (with_reducible assumption) | assumption); have q253 : t243 < ((rd_L1 l0_2 (ji8)).length : Int) := of_decide_eq_true (by first | (with_reducible assumption) | assumption); obtain ⟨ad253, e253, hx253_0⟩ := Kd.at_int HR252_0.out t243 p253 q253; cases e253; replace hx253_0 := (HB.out.cell (World.block_lt_of_cell? w _ hx253_0)).trans hx253_0; replace p253 := eq_true p253; replace q253 := eq_true q253; have p254 : 0 ≤ ((ji8) : Int) := of_decide_eq_true (by first | (with_reducible assumption) | assumption); have q254 : (ji8) < (l0_2.length : Int) := of_decide_eq_true (by first | (with_reducible assumption) | assumption); obtain ⟨ad254, A254_0, c254_0, e254, hx254_0, hl254_0, hi254_0⟩ := at_L1 HR0_2.out (ji8) p254 q254; obtain rfl : ad248 = ad254 := (by injection e254); replace hx254_0 := (HB.out.cell (World.block_lt_of_cell? w _ hx254_0)).trans hx254_0; have HR254_0 := Aside0.mk hi254_0; have HC254_0 := Aside0.mk hl254_0; clear hi254_0 hl254_0; replace p254 := eq_true p254; replace q254 := eq_true q254; have ea_ := Option.some.inj (hx252_0.symm.trans hx254_0); injection ea_ with ea_ en_ ec_; subst ea_; subst ec_; clear en_; have p255 : 0 ≤ ((ji13) : Int) := of_decide_eq_true (by first | (with_reducible assumption) | assumption); have q255 : (ji13) < ((rd_L1 l0_2 (ji8)).length : Int) := of_decide_eq_true (by first | (with_reducible assumption) | assumption); obtain ⟨ad255, e255, hx255_0⟩ := Kd.at_int HR254_0.out (ji13) p255 q255; obtain rfl : ad253 = ad255 := (by injection e255); replace hx255_0 := (HB.out.cell (World.block_lt_of_cell? w _ hx255_0)).trans hx255_0; replace p255 := eq_true p255; replace q255 := eq_true q255))
                repeat (go_quiet (first | ((with_reducible refine gate_dst (N := 3) rfl ?_); refine box_event ?hg (N := 3) ?hd (cs := #[.slice A0_0 l0_0.length c0_0, .slice A0_1 l0_1.length c0_1, .slice A0_2 l0_2.length c0_2]) (t := 25) ?hr ?_; (case hd => rfl); (case hg => rfl); (case hr => first | (go_simp; done) | (go_simp; rfl)); intro gb241 hg w23 hbox hb; have n0_ := Aside0.mk (below_step (by repeat (first | (with_reducible first | exact HB.out | apply below_alloc | apply pw_below_drewN | apply below_drew1) | exact HB.out)) hb); have n1_ := Aside0.mk (hbox); have n2_ := Aside0.mk ((by rw [hg]; exact (below_size (by repeat (first | (with_reducible first | exact HB.out | apply below_alloc | apply pw_below_drewN | apply below_drew1) | exact HB.out))) : w.heap.size ≤ gb241)); have n3_ := Aside0.mk ((by rw [hg]; exact (below_size (by repeat (first | (with_reducible first | exact HB.out | apply below_alloc | apply pw_below_drewN | apply below_drew1) | exact HB.out))) : w.heap.size ≤ gb241)); clear HB; have HB := n0_; have BK241 := n1_; have GW241 := n2_; have GE241 := n3_; clear n0_ n1_ n2_ n3_; clear hb hbox hg; have hcz24_0 : w23.cell? ⟨gb241, 0, none⟩ = some (.slice A0_0 l0_0.length c0_0) := (blk_cell BK241.out 0).trans rfl; have hcz24_1 : w23.cell? ⟨gb241, 1, none⟩ = some (.slice A0_1 l0_1.length c0_1) := (blk_cell BK241.out 1).trans rfl; have hcz24_2 : w23.cell? ⟨gb241, 2, none⟩ = some (.slice A0_2 l0_2.length c0_2) := (blk_cell BK241.out 2).trans rfl; have hfz24_0 := blk_frozen BK241.out 0; have hfz24_1 := blk_frozen BK241.out 1; have hfz24_2 := blk_frozen BK241.out 2) | (go_at_call 54; (with_reducible refine (spileref19_place.calls k _ _ l0_0 a1 t242 _ ?side1 ?side2 A4.out).mono ?_); (case side1 => repeat (first | exact (Kd.C_below HR0_0.out HB.out) | (with_reducible refine Kd.C_alloc ?_ _) | (with_reducible refine Kd.C_drewN ?_ _) | (with_reducible refine Kd.C_drew ?_))); (case side2 => exact HC0_0.out); rintro e w' ⟨rfl, ⟨nd, rfl⟩⟩; (try first | exact ⟨rfl, _, World.drewN_drewN _ _ _⟩ | exact ⟨rfl, _, Eq.trans (World.drewN_drewN _ _ _) (congrArg (World.drewN _) (Nat.add_assoc _ _ _))⟩)) | (go_at_call 54; (with_reducible refine (spileref19_place.calls k _ _ l0_1 a2 t243 _ ?side1 ?side2 A5.out).mono ?_); (case side1 => repeat (first | exact (Kd.C_below HR0_1.out (by repeat (first | (with_reducible first | exact HB.out | apply below_alloc | apply pw_below_drewN | apply below_drew1 | refine below_set ?_ GE241.out) | exact HB.out))) | (with_reducible refine Kd.C_alloc ?_ _) | (with_reducible refine Kd.C_drewN ?_ _) | (with_reducible refine Kd.C_drew ?_))); (case side2 => exact HC0_1.out); rintro e w' ⟨rfl, ⟨nd, rfl⟩⟩; (try first | exact ⟨rfl, _, World.drewN_drewN _ _ _⟩ | exact ⟨rfl, _, Eq.trans (World.drewN_drewN _ _ _) (congrArg (World.drewN _) (Nat.add_assoc _ _ _))⟩); have p244 : 0 ≤ (t242 : Int) := of_decide_eq_true (by first | (with_reducible assumption) | assumption); have q244 : t242 < (l0_0.length : Int) := of_decide_eq_true (by first | (with_reducible assumption) | assumption); obtain ⟨ad244, e244, hx244_0⟩ := Kd.at_int HR0_0.out t242 p244 q244; cases e244; replace hx244_0 := (HB.out.cell (World.block_lt_of_cell? w _ hx244_0)).trans hx244_0; replace p244 := eq_true p244; replace q244 := eq_true q244; have p245 : 0 ≤ ((ji8) : Int) := of_decide_eq_true (by first | (with_reducible assumption) | assumption); have q245 : (ji8) < (l0_0.length : Int) := of_decide_eq_true (by first | (with_reducible assumption) | assumption); obtain ⟨ad245, e245, hx245_0⟩ := Kd.at_int HR0_0.out (ji8) p245 q245; obtain rfl : ad244 = ad245 := (by injection e245); replace hx245_0 := (HB.out.cell (World.block_lt_of_cell? w _ hx245_0)).trans hx245_0; replace p245 := eq_true p245; replace q245 := eq_true q245; have p246 : 0 ≤ (t243 : Int) := of_decide_eq_true (by first | (with_reducible assumption) | assumption); have q246 : t243 < (l0_1.length : Int) := of_decide_eq_true (by first | (with_reducible assumption) | assumption); obtain ⟨ad246, e246, hx246_0⟩ := Kd.at_int HR0_1.out t243 p246 q246; cases e246; replace hx246_0 := (HB.out.cell (World.block_lt_of_cell? w _ hx246_0)).trans hx246_0; replace p246 := eq_true p246; replace q246 := eq_true q246; have p247 : 0 ≤ ((ji13) : Int) := of_decide_eq_true (by first | (with_reducible assumption) | assumption); have q247 : (ji13) < (l0_1.length : Int) := of_decide_eq_true (by first | (with_reducible assumption) | assumption); obtain ⟨ad247, e247, hx247_0⟩ := Kd.at_int HR0_1.out (ji13) p247 q247; obtain rfl : ad246 = ad247 := (by injection e247); replace hx247_0 := (HB.out.cell (World.block_lt_of_cell? w _ hx247_0)).trans hx247_0; replace p247 := eq_true p247; replace q247 := eq_true q247; have p248 : 0 ≤ (t242 : Int) := of_decide_eq_true (by first | (with_reducible assumption) | assumption); have q248 : t242 < (l0_2.length : Int) := of_decide_eq_true (by first | (with_reducible assumption) | assumption); obtain ⟨ad248, A248_0, c248_0, e248, hx248_0, hl248_0, hi248_0⟩ := at_L1 HR0_2.out t242 p248 q248; cases e248; replace hx248_0 := (HB.out.cell (World.block_lt_of_cell? w _ hx248_0)).trans hx248_0; have HR248_0 := Aside0.mk hi248_0; have HC248_0 := Aside0.mk hl248_0; clear hi248_0 hl248_0; replace p248 := eq_true p248; replace q248 := eq_true q248; have p249 : 0 ≤ (t243 : Int) := of_decide_eq_true (by first | (with_reducible assumption) | assumption); have q249 : t243 < ((rd_L1 l0_2 t242).length : Int) := of_decide_eq_true (by first | (with_reducible assumption) | assumption); obtain ⟨ad249, e249, hx249_0⟩ := Kd.at_int HR248_0.out t243 p249 q249; cases e249; replace hx249_0 := (HB.out.cell (World.block_lt_of_cell? w _ hx249_0)).trans hx249_0; replace p249 := eq_true p249; replace q249 := eq_true q249; have p250 : 0 ≤ (t242 : Int) := of_decide_eq_true (by first | (with_reducible assumption) | assumption); have q250 : t242 < (l0_2.length : Int) := of_decide_eq_true (by first | (with_reducible assumption) | assumption); obtain ⟨ad250, A250_0, c250_0, e250, hx250_0, hl250_0, hi250_0⟩ := at_L1 HR0_2.out t242 p250 q250; obtain rfl : ad248 = ad250 := (by injection e250); replace hx250_0 := (HB.out.cell (World.block_lt_of_cell? w _ hx250_0)).trans hx250_0; have HR250_0 := Aside0.mk hi250_0; have HC250_0 := Aside0.mk hl250_0; clear hi250_0 hl250_0; replace p250 := eq_true p250; replace q250 := eq_true q250; have ea_ := Option.some.inj (hx248_0.symm.trans hx250_0); injection ea_ with ea_ en_ ec_; subst ea_; subst ec_; clear en_; have p251 : 0 ≤ ((ji13) : Int) := of_decide_eq_true (by first | (with_reducible assumption) | assumption); have q251 : (ji13) < ((rd_L1 l0_2 t242).length : Int) := of_decide_eq_true (by first | (with_reducible assumption) | assumption); obtain ⟨ad251, e251, hx251_0⟩ := Kd.at_int HR250_0.out (ji13) p251 q251; obtain rfl : ad249 = ad251 := (by injection e251); replace hx251_0 := (HB.out.cell (World.block_lt_of_cell? w _ hx251_0)).trans hx251_0; replace p251 := eq_true p251; replace q251 := eq_true q251; have p252 : 0 ≤ ((ji8) : Int) := of_decide_eq_true (by first | (with_reducible assumption) | assumption); have q252 : (ji8) < (l0_2.length : Int) := of_decide_eq_true (by first | (with_reducible assumption) | assumption); obtain ⟨ad252, A252_0, c252_0, e252, hx252_0, hl252_0, hi252_0⟩ := at_L1 HR0_2.out (ji8) p252 q252; obtain rfl : ad248 = ad252 := (by injection e252); replace hx252_0 := (HB.out.cell (World.block_lt_of_cell? w _ hx252_0)).trans hx252_0; have HR252_0 := Aside0.mk hi252_0; have HC252_0 := Aside0.mk hl252_0; clear hi252_0 hl252_0; replace p252 := eq_true p252; replace q252 := eq_true q252; have p253 : 0 ≤ (t243 : Int) := of_decide_eq_true (by first | (with_reducible assumption) | assumption); have q253 : t243 < ((rd_L1 l0_2 (ji8)).length : Int) := of_decide_eq_true (by first | (with_reducible assumption) | assumption); obtain ⟨ad253, e253, hx253_0⟩ := Kd.at_int HR252_0.out t243 p253 q253; cases e253; replace hx253_0 := (HB.out.cell (World.block_lt_of_cell? w _ hx253_0)).trans hx253_0; replace p253 := eq_true p253; replace q253 := eq_true q253; have p254 : 0 ≤ ((ji8) : Int) := of_decide_eq_true (by first | (with_reducible assumption) | assumption); have q254 : (ji8) < (l0_2.length : Int) := of_decide_eq_true (by first | (with_reducible assumption) | assumption); obtain ⟨ad254, A254_0, c254_0, e254, hx254_0, hl254_0, hi254_0⟩ := at_L1 HR0_2.out (ji8) p254 q254; obtain rfl : ad248 = ad254 := (by injection e254); replace hx254_0 := (HB.out.cell (World.block_lt_of_cell? w _ hx254_0)).trans hx254_0; have HR254_0 := Aside0.mk hi254_0; have HC254_0 := Aside0.mk hl254_0; clear hi254_0 hl254_0; replace p254 := eq_true p254; replace q254 := eq_true q254; have ea_ := Option.some.inj (hx252_0.symm.trans hx254_0); injection ea_ with ea_ en_ ec_; subst ea_; subst ec_; clear en_; have p255 : 0 ≤ ((ji13) : Int) := of_decide_eq_true (by first | (with_reducible assumption) | assumption); have q255 : (ji13) < ((rd_L1 l0_2 (ji8)).length : Int) := of_decide_eq_true (by first | (with_reducible assumption) | assumption); obtain ⟨ad255, e255, hx255_0⟩ := Kd.at_int HR254_0.out (ji13) p255 q255; obtain rfl : ad253 = ad255 := (by injection e255); replace hx255_0 := (HB.out.cell (World.block_lt_of_cell? w _ hx255_0)).trans hx255_0; replace p255 := eq_true p255; replace q255 := eq_true q255)); try go_wp2_with (first | ((with_reducible refine gate_dst (N := 3) rfl ?_); refine box_event ?hg (N := 3) ?hd (cs := #[.slice A0_0 l0_0.length c0_0, .slice A0_1 l0_1.length c0_1, .slice A0_2 l0_2.length c0_2]) (t := 25) ?hr ?_; (case hd => rfl); (case hg => rfl); (case hr => first | (go_simp; done) | (go_simp; rfl)); intro gb241 hg w23 hbox hb; have n0_ := Aside0.mk (below_step (by repeat (first | (with_reducible first | exact HB.out | apply below_alloc | apply pw_below_drewN | apply below_drew1) | exact HB.out)) hb); have n1_ := Aside0.mk (hbox); have n2_ := Aside0.mk ((by rw [hg]; exact (below_size (by repeat (first | (with_reducible first | exact HB.out | apply below_alloc | apply pw_below_drewN | apply below_drew1) | exact HB.out))) : w.heap.size ≤ gb241)); have n3_ := Aside0.mk ((by rw [hg]; exact (below_size (by repeat (first | (with_reducible first | exact HB.out | apply below_alloc | apply pw_below_drewN | apply below_drew1) | exact HB.out))) : w.heap.size ≤ gb241)); clear HB; have HB := n0_; have BK241 := n1_; have GW241 := n2_; have GE241 := n3_; clear n0_ n1_ n2_ n3_; clear hb hbox hg; have hcz24_0 : w23.cell? ⟨gb241, 0, none⟩ = some (.slice A0_0 l0_0.length c0_0) := (blk_cell BK241.out 0).trans rfl; have hcz24_1 : w23.cell? ⟨gb241, 1, none⟩ = some (.slice A0_1 l0_1.length c0_1) := (blk_cell BK241.out 1).trans rfl; have hcz24_2 : w23.cell? ⟨gb241, 2, none⟩ = some (.slice A0_2 l0_2.length c0_2) := (blk_cell BK241.out 2).trans rfl; have hfz24_0 := blk_frozen BK241.out 0; have hfz24_1 := blk_frozen BK241.out 1; have hfz24_2 := blk_frozen BK241.out 2) | (go_at_call 54; (with_reducible refine (spileref19_place.calls k _ _ l0_0 a1 t242 _ ?side1 ?side2 A4.out).mono ?_); (case side1 => repeat (first | exact (Kd.C_below HR0_0.out HB.out) | (with_reducible refine Kd.C_alloc ?_ _) | (with_reducible refine Kd.C_drewN ?_ _) | (with_reducible refine Kd.C_drew ?_))); (case side2 => exact HC0_0.out); rintro e w' ⟨rfl, ⟨nd, rfl⟩⟩; (try first | exact ⟨rfl, _, World.drewN_drewN _ _ _⟩ | exact ⟨rfl, _, Eq.trans (World.drewN_drewN _ _ _) (congrArg (World.drewN _) (Nat.add_assoc _ _ _))⟩)) | (go_at_call 54; (with_reducible refine (spileref19_place.calls k _ _ l0_1 a2 t243 _ ?side1 ?side2 A5.out).mono ?_); (case side1 => repeat (first | exact (Kd.C_below HR0_1.out (by repeat (first | (with_reducible first | exact HB.out | apply below_alloc | apply pw_below_drewN | apply below_drew1 | refine below_set ?_ GE241.out) | exact HB.out))) | (with_reducible refine Kd.C_alloc ?_ _) | (with_reducible refine Kd.C_drewN ?_ _) | (with_reducible refine Kd.C_drew ?_))); (case side2 => exact HC0_1.out); rintro e w' ⟨rfl, ⟨nd, rfl⟩⟩; (try first | exact ⟨rfl, _, World.drewN_drewN _ _ _⟩ | exact ⟨rfl, _, Eq.trans (World.drewN_drewN _ _ _) (congrArg (World.drewN _) (Nat.add_assoc _ _ _))⟩); have p244 : 0 ≤ (t242 : Int) := of_decide_eq_true (by first | (with_reducible assumption) | assumption); have q244 : t242 < (l0_0.length : Int) := of_decide_eq_true (by first | (with_reducible assumption) | assumption); obtain ⟨ad244, e244, hx244_0⟩ := Kd.at_int HR0_0.out t242 p244 q244; cases e244; replace hx244_0 := (HB.out.cell (World.block_lt_of_cell? w _ hx244_0)).trans hx244_0; replace p244 := eq_true p244; replace q244 := eq_true q244; have p245 : 0 ≤ ((ji8) : Int) := of_decide_eq_true (by first | (with_reducible assumption) | assumption); have q245 : (ji8) < (l0_0.length : Int) := of_decide_eq_true (by first | (with_reducible assumption) | assumption); obtain ⟨ad245, e245, hx245_0⟩ := Kd.at_int HR0_0.out (ji8) p245 q245; obtain rfl : ad244 = ad245 := (by injection e245); replace hx245_0 := (HB.out.cell (World.block_lt_of_cell? w _ hx245_0)).trans hx245_0; replace p245 := eq_true p245; replace q245 := eq_true q245; have p246 : 0 ≤ (t243 : Int) := of_decide_eq_true (by first | (with_reducible assumption) | assumption); have q246 : t243 < (l0_1.length : Int) := of_decide_eq_true (by first | (with_reducible assumption) | assumption); obtain ⟨ad246, e246, hx246_0⟩ := Kd.at_int HR0_1.out t243 p246 q246; cases e246; replace hx246_0 := (HB.out.cell (World.block_lt_of_cell? w _ hx246_0)).trans hx246_0; replace p246 := eq_true p246; replace q246 := eq_true q246; have p247 : 0 ≤ ((ji13) : Int) := of_decide_eq_true (by first | (with_reducible assumption) | assumption); have q247 : (ji13) < (l0_1.length : Int) := of_decide_eq_true (by first | (with_reducible assumption) | assumption); obtain ⟨ad247, e247, hx247_0⟩ := Kd.at_int HR0_1.out (ji13) p247 q247; obtain rfl : ad246 = ad247 := (by injection e247); replace hx247_0 := (HB.out.cell (World.block_lt_of_cell? w _ hx247_0)).trans hx247_0; replace p247 := eq_true p247; replace q247 := eq_true q247; have p248 : 0 ≤ (t242 : Int) := of_decide_eq_true (by first | (with_reducible assumption) | assumption); have q248 : t242 < (l0_2.length : Int) := of_decide_eq_true (by first | (with_reducible assumption) | assumption); obtain ⟨ad248, A248_0, c248_0, e248, hx248_0, hl248_0, hi248_0⟩ := at_L1 HR0_2.out t242 p248 q248; cases e248; replace hx248_0 := (HB.out.cell (World.block_lt_of_cell? w _ hx248_0)).trans hx248_0; have HR248_0 := Aside0.mk hi248_0; have HC248_0 := Aside0.mk hl248_0; clear hi248_0 hl248_0; replace p248 := eq_true p248; replace q248 := eq_true q248; have p249 : 0 ≤ (t243 : Int) := of_decide_eq_true (by first | (with_reducible assumption) | assumption); have q249 : t243 < ((rd_L1 l0_2 t242).length : Int) := of_decide_eq_true (by first | (with_reducible assumption) | assumption); obtain ⟨ad249, e249, hx249_0⟩ := Kd.at_int HR248_0.out t243 p249 q249; cases e249; replace hx249_0 := (HB.out.cell (World.block_lt_of_cell? w _ hx249_0)).trans hx249_0; replace p249 := eq_true p249; replace q249 := eq_true q249; have p250 : 0 ≤ (t242 : Int) := of_decide_eq_true (by first | (with_reducible assumption) | assumption); have q250 : t242 < (l0_2.length : Int) := of_decide_eq_true (by first | (with_reducible assumption) | assumption); obtain ⟨ad250, A250_0, c250_0, e250, hx250_0, hl250_0, hi250_0⟩ := at_L1 HR0_2.out t242 p250 q250; obtain rfl : ad248 = ad250 := (by injection e250); replace hx250_0 := (HB.out.cell (World.block_lt_of_cell? w _ hx250_0)).trans hx250_0; have HR250_0 := Aside0.mk hi250_0; have HC250_0 := Aside0.mk hl250_0; clear hi250_0 hl250_0; replace p250 := eq_true p250; replace q250 := eq_true q250; have ea_ := Option.some.inj (hx248_0.symm.trans hx250_0); injection ea_ with ea_ en_ ec_; subst ea_; subst ec_; clear en_; have p251 : 0 ≤ ((ji13) : Int) := of_decide_eq_true (by first | (with_reducible assumption) | assumption); have q251 : (ji13) < ((rd_L1 l0_2 t242).length : Int) := of_decide_eq_true (by first | (with_reducible assumption) | assumption); obtain ⟨ad251, e251, hx251_0⟩ := Kd.at_int HR250_0.out (ji13) p251 q251; obtain rfl : ad249 = ad251 := (by injection e251); replace hx251_0 := (HB.out.cell (World.block_lt_of_cell? w _ hx251_0)).trans hx251_0; replace p251 := eq_true p251; replace q251 := eq_true q251; have p252 : 0 ≤ ((ji8) : Int) := of_decide_eq_true (by first | (with_reducible assumption) | assumption); have q252 : (ji8) < (l0_2.length : Int) := of_decide_eq_true (by first | (with_reducible assumption) | assumption); obtain ⟨ad252, A252_0, c252_0, e252, hx252_0, hl252_0, hi252_0⟩ := at_L1 HR0_2.out (ji8) p252 q252; obtain rfl : ad248 = ad252 := (by injection e252); replace hx252_0 := (HB.out.cell (World.block_lt_of_cell? w _ hx252_0)).trans hx252_0; have HR252_0 := Aside0.mk hi252_0; have HC252_0 := Aside0.mk hl252_0; clear hi252_0 hl252_0; replace p252 := eq_true p252; replace q252 := eq_true q252; have p253 : 0 ≤ (t243 : Int) := of_decide_eq_true (by first | (with_reducible assumption) | assumption); have q253 : t243 < ((rd_L1 l0_2 (ji8)).length : Int) := of_decide_eq_true (by first | (with_reducible assumption) | assumption); obtain ⟨ad253, e253, hx253_0⟩ := Kd.at_int HR252_0.out t243 p253 q253; cases e253; replace hx253_0 := (HB.out.cell (World.block_lt_of_cell? w _ hx253_0)).trans hx253_0; replace p253 := eq_true p253; replace q253 := eq_true q253; have p254 : 0 ≤ ((ji8) : Int) := of_decide_eq_true (by first | (with_reducible assumption) | assumption); have q254 : (ji8) < (l0_2.length : Int) := of_decide_eq_true (by first | (with_reducible assumption) | assumption); obtain ⟨ad254, A254_0, c254_0, e254, hx254_0, hl254_0, hi254_0⟩ := at_L1 HR0_2.out (ji8) p254 q254; obtain rfl : ad248 = ad254 := (by injection e254); replace hx254_0 := (HB.out.cell (World.block_lt_of_cell? w _ hx254_0)).trans hx254_0; have HR254_0 := Aside0.mk hi254_0; have HC254_0 := Aside0.mk hl254_0; clear hi254_0 hl254_0; replace p254 := eq_true p254; replace q254 := eq_true q254; have ea_ := Option.some.inj (hx252_0.symm.trans hx254_0); injection ea_ with ea_ en_ ec_; subst ea_; subst ec_; clear en_; have p255 : 0 ≤ ((ji13) : Int) := of_decide_eq_true (by first | (with_reducible assumption) | assumption); have q255 : (ji13) < ((rd_L1 l0_2 (ji8)).length : Int) := of_decide_eq_true (by first | (with_reducible assumption) | assumption); obtain ⟨ad255, e255, hx255_0⟩ := Kd.at_int HR254_0.out (ji13) p255 q255; obtain rfl : ad253 = ad255 := (by injection e255); replace hx255_0 := (HB.out.cell (World.block_lt_of_cell? w _ hx255_0)).trans hx255_0; replace p255 := eq_true p255; replace q255 := eq_true q255)))
                go_ret
                exact ⟨by first | rfl | (simp [errW_none, errW_some] <;> rfl) | (simp only [← hji8, ← hji13]; first | rfl | (simp [errW_none, errW_some] <;> rfl)) | (simp [*, errW_none, errW_some] <;> rfl), by repeat (first | (with_reducible first | exact HB.out | apply below_alloc | apply pw_below_drewN | apply below_drew1 | refine below_set ?_ GE241.out) | exact HB.out)⟩
              ·
               rw [if_neg c21] at H
               exact absurd H (by simp)
             ·
              rw [if_neg c20] at H
              exact absurd H (by simp)
            ·
             rw [if_neg c19] at H
             exact absurd H (by simp)
           ·
            rw [if_neg c18] at H
            exact absurd H (by simp)
          ·
           rw [if_neg c17] at H
           exact absurd H (by simp)
         ·
          rw [if_neg c16] at H
          exact absurd H (by simp)
        ·
         rw [if_neg c15] at H
         exact absurd H (by simp)
       ·
        rw [if_neg c14] at H
        exact absurd H (by simp)
      ·
       rw [if_neg c12] at H
       exact absurd H (by simp)
     ·
      rw [if_neg c11] at H
      exact absurd H (by simp)
    ·
     rw [if_neg c10] at H
     exact absurd H (by simp)
   ·
    rw [if_neg c9] at H
    exact absurd H (by simp)
  ·
   rw [if_neg c7] at H
   exact absurd H (by simp)
 ·
  rw [if_neg c6] at H
  exact absurd H (by simp)
end Go.Proofs.YtmdfnambaedllaaDoor.Pr
namespace Go.Proofs.YtmdfnambaedllaaDoor.Pr
open Go.RowKit Go.Proofs.YtmdfnambaedllaaDoorW.PrintWords Go.Proofs.YtmdfnambaedllaaDoorW.PrintLast Go.Proofs.YtmdfnambaedllaaDoorW.PrintMore Go.Proofs.YtmdfnambaedllaaDoor.X
attribute [local go_sem] max2_int min2_int max_two min_two max_three min_three max_four min_four   -- for this text's walks alone
set_option linter.unusedVariables false
set_option linter.unusedSimpArgs false
def spileref19_Around.j0 : Nat → Int → Int → Int → Int → Bool → List Int → List Int → List (List Int) → Option (Int × Int × Int)
 | 0, _, _, _, _, _, _, _, _ => none
 | k + 1, x1, x2, x3, x4, x47, x257000, x257001, x257002 => if x47 = true then (some (0, 0, 2)) else (if 0 < (x257000.length : Int) then (if 0 ≤ (wrap64 ((x257000.length : Int) - 1)) then (if (wrap64 ((x257000.length : Int) - 1)) < (x257000.length : Int) then (if 0 < (x257001.length : Int) then (if 0 ≤ (wrap64 ((x257001.length : Int) - 1)) then (if (wrap64 ((x257001.length : Int) - 1)) < (x257001.length : Int) then ((spileref19_At.f k x257000 x257001 x257002 (mn (wrap64 (x1 + x3)) (rd x257000 (wrap64 ((x257000.length : Int) - 1)))) (mx (wrap64 (x2 - x4)) (rd x257001 0))).bind fun t265 => ((spileref19_At.f k x257000 x257001 x257002 (mx (wrap64 (x1 - x3)) (rd x257000 0)) (mn (wrap64 (x2 + x4)) (rd x257001 (wrap64 ((x257001.length : Int) - 1))))).bind fun t266 => (some (t265, t266, 0)))) else (none)) else (none)) else (none)) else (none)) else (none)) else (none))
def spileref19_Around.f (k : Nat) (l0_0 : List Int) (l0_1 : List Int) (l0_2 : List (List Int)) (a1 : Int) (a2 : Int) (a3 : Int) (a4 : Int) : Option (Int × Int × Int) := (spileref19_Check.f k l0_0 l0_1 l0_2).bind fun t258 => (if t258 = 0 then ((spileref19_inside.f l0_0 a1).bind fun t259 => (if t259 = true then ((spileref19_inside.f l0_1 a2).bind fun t260 => (if t260 = true then (if a3 < 0 then (spileref19_Around.j0 k a1 a2 a3 a4 true l0_0 l0_1 l0_2) else (if a3 > 10000 then (spileref19_Around.j0 k a1 a2 a3 a4 true l0_0 l0_1 l0_2) else (if a4 < 0 then (spileref19_Around.j0 k a1 a2 a3 a4 true l0_0 l0_1 l0_2) else (spileref19_Around.j0 k a1 a2 a3 a4 (decide (a4 > 10000)) l0_0 l0_1 l0_2)))) else (spileref19_Around.j0 k a1 a2 a3 a4 true l0_0 l0_1 l0_2))) else (spileref19_Around.j0 k a1 a2 a3 a4 true l0_0 l0_1 l0_2))) else (some (0, 0, 1)))
theorem spileref19_Around.mono_l : ∀ k, (∀ y0 y1 y2 y3 y4 y5 y6 y7, LeO (spileref19_Around.j0 k y0 y1 y2 y3 y4 y5 y6 y7) (spileref19_Around.j0 (k + 1) y0 y1 y2 y3 y4 y5 y6 y7))
 | 0 => fun _ _ _ _ _ _ _ _ r h => by simp [spileref19_Around.j0] at h
 | k + 1 => by
  have ih0 := spileref19_Around.mono_l k
  ·
   intro y0 y1 y2 y3 y4 y5 y6 y7
   unfold spileref19_Around.j0
   repeat' first
   | (with_reducible exact ih0 _ _ _ _ _ _ _ _)
   | (with_reducible exact spileref19_At.mono _ _ _ _ _ _)
   | (with_reducible exact spileref19_Check.mono _ _ _ _)
   | (with_reducible exact LeO.refl _)
   | (with_reducible exact LeO.none _)
   | (with_reducible refine LeO.ite ?_ ?_)
   | (with_reducible refine LeO.bind ?_ (fun _ => ?_))
   | exact ih0 _ _ _ _ _ _ _ _
   | exact spileref19_At.mono _ _ _ _ _ _
   | exact spileref19_Check.mono _ _ _ _
   | exact LeO.none _
   | refine LeO.ite ?_ ?_
   | refine LeO.bind ?_ (fun _ => ?_)
theorem spileref19_Around.mono : ∀ a0 a1 a2 a3 a4 a5 a6 k, LeO (spileref19_Around.f k a0 a1 a2 a3 a4 a5 a6) (spileref19_Around.f (k + 1) a0 a1 a2 a3 a4 a5 a6) := by
 intro a0 a1 a2 a3 a4 a5 a6 k
 have ih0 := spileref19_Around.mono_l k
 unfold spileref19_Around.f
 repeat' first
   | (with_reducible exact ih0 _ _ _ _ _ _ _ _)
   | (with_reducible exact spileref19_At.mono _ _ _ _ _ _)
   | (with_reducible exact spileref19_Check.mono _ _ _ _)
   | (with_reducible exact LeO.refl _)
   | (with_reducible exact LeO.none _)
   | (with_reducible refine LeO.ite ?_ ?_)
   | (with_reducible refine LeO.bind ?_ (fun _ => ?_))
   | exact ih0 _ _ _ _ _ _ _ _
   | exact spileref19_At.mono _ _ _ _ _ _
   | exact spileref19_Check.mono _ _ _ _
   | exact LeO.none _
   | refine LeO.ite ?_ ?_
   | refine LeO.bind ?_ (fun _ => ?_)
def spileref19_Around.T5 : Bool × List (List Nat × List Nat) := (true, [([], []), ([], []), ([0, 1], [0, 1]), ([], []), ([3], [3]), ([4], [4]), ([5], [5]), ([2, 6], [2, 6]), ([], []), ([], []), ([8, 9], [8, 9]), ([], []), ([11], [11]), ([], []), ([13], [13]), ([14], [14]), ([15], [15]), ([12, 16], [12, 16]), ([17], [17]), ([10, 18], [10, 18]), ([7, 0, 1, 2, 3, 4, 5, 6, 7], [7]), ([19, 20, 0, 1, 2, 3, 4, 5, 6, 7, 8, 9, 10, 11, 12, 13, 14, 15, 16, 17, 18, 19, 20], [19])])
def spileref19_Around.B5 : List Nat := [0, 0, 3, 0, 8, 24, 56, 127, 0, 0, 768, 0, 2048, 0, 8192, 24576, 57344, 129024, 260096, 524032, 255, 2097151]
theorem spileref19_Around.tab5 : rtab .any (opsOf Tryd.f13 5) = spileref19_Around.T5 := by kernel_rfl
theorem spileref19_Around.bits5 : waitsOk spileref19_Around.T5.2 spileref19_Around.B5 = true := by kernel_rfl
def spileref19_Around.T6 : Bool × List (List Nat × List Nat) := (true, [([], []), ([], []), ([0, 1], [0, 1]), ([], []), ([3], [3]), ([4], [4]), ([5], [5]), ([2, 6], [2, 6]), ([], []), ([], []), ([8, 9], [8, 9]), ([], []), ([11], [11]), ([], []), ([13], [13]), ([14], [14]), ([15], [15]), ([12, 16], [12, 16]), ([17], [17]), ([10, 18], [10, 18]), ([7, 0, 1, 2, 3, 4, 5, 6, 7], [7]), ([19, 20, 0, 1, 2, 3, 4, 5, 6, 7, 8, 9, 10, 11, 12, 13, 14, 15, 16, 17, 18, 19, 20], [19])])
def spileref19_Around.B6 : List Nat := [0, 0, 3, 0, 8, 24, 56, 127, 0, 0, 768, 0, 2048, 0, 8192, 24576, 57344, 129024, 260096, 524032, 255, 2097151]
theorem spileref19_Around.tab6 : rtab .any (opsOf Tryd.f13 6) = spileref19_Around.T6 := by kernel_rfl
theorem spileref19_Around.bits6 : waitsOk spileref19_Around.T6.2 spileref19_Around.B6 = true := by kernel_rfl
def spileref19_Around.T7 : Bool × List (List Nat × List Nat) := (true, [([], []), ([], []), ([], []), ([0, 1, 2], [0, 1, 2]), ([], []), ([], []), ([], []), ([4, 5, 6, 3], [4, 5, 6]), ([3, 7], [3, 7]), ([8, 7, 0, 1, 2, 3, 4, 5, 6, 7, 8], [8]), ([9, 0, 1, 2, 3, 4, 5, 6, 7, 8, 9], [])])
def spileref19_Around.B7 : List Nat := [0, 0, 0, 7, 0, 0, 0, 127, 255, 511, 1023]
theorem spileref19_Around.tab7 : rtab .any (opsOf Tryd.f13 7) = spileref19_Around.T7 := by kernel_rfl
theorem spileref19_Around.bits7 : waitsOk spileref19_Around.T7.2 spileref19_Around.B7 = true := by kernel_rfl
set_option maxHeartbeats 8000000 in
set_option maxRecDepth 100000 in
theorem spileref19_Around.calls (k : Nat) (A0_0 : Option Addr) (c0_0 : Nat) (l0_0 : List Int) (A0_1 : Option Addr) (c0_1 : Nat) (l0_1 : List Int) (A0_2 : Option Addr) (c0_2 : Nat) (l0_2 : List (List Int)) (a1 : Int) (a2 : Int) (a3 : Int) (a4 : Int) (r1 : Int) (r2 : Int) (r3 : Int) (w : World) (hr0_0 : Kd.C (Kd.int .i64) w A0_0 l0_0.length l0_0) (hc0_0 : l0_0.length ≤ c0_0) (hr0_1 : Kd.C (Kd.int .i64) w A0_1 l0_1.length l0_1) (hc0_1 : l0_1.length ≤ c0_1) (hr0_2 : Kd.C (Kd.slice 3 (Kd.int .i64)) w A0_2 l0_2.length l0_2) (hc0_2 : l0_2.length ≤ c0_2) (h : spileref19_Around.f k l0_0 l0_1 l0_2 a1 a2 a3 a4 = some (r1, r2, r3)) :
  Calls Tryd.prog 13 #[.agg #[.slice A0_0 l0_0.length c0_0, .slice A0_1 l0_1.length c0_1, .slice A0_2 l0_2.length c0_2], .int .i64 a1, .int .i64 a2, .int .i64 a3, .int .i64 a4] w fun e w' => e = .returned (.tuple #[.agg #[.int .i64 r1, .int .i64 r2], .int .i64 r3]) ∧ Below w.heap.size w w' := by
 have hu25 := Tryd.underlying25
 have hu29 := Tryd.underlying29
 have HR0_0 := Aside0.mk hr0_0
 have HC0_0 := Aside0.mk hc0_0
 clear hr0_0 hc0_0
 have HR0_1 := Aside0.mk hr0_1
 have HC0_1 := Aside0.mk hc0_1
 clear hr0_1 hc0_1
 have HR0_2 := Aside0.mk hr0_2
 have HC0_2 := Aside0.mk hc0_2
 clear hr0_2 hc0_2
 have HB := Aside0.mk (Below.refl w.heap.size w)
 have H : ((spileref19_Check.f k l0_0 l0_1 l0_2).bind fun t258 => (if t258 = 0 then ((spileref19_inside.f l0_0 a1).bind fun t259 => (if t259 = true then ((spileref19_inside.f l0_1 a2).bind fun t260 => (if t260 = true then (if a3 < 0 then (spileref19_Around.j0 k a1 a2 a3 a4 true l0_0 l0_1 l0_2) else (if a3 > 10000 then (spileref19_Around.j0 k a1 a2 a3 a4 true l0_0 l0_1 l0_2) else (if a4 < 0 then (spileref19_Around.j0 k a1 a2 a3 a4 true l0_0 l0_1 l0_2) else (spileref19_Around.j0 k a1 a2 a3 a4 (decide (a4 > 10000)) l0_0 l0_1 l0_2)))) else (spileref19_Around.j0 k a1 a2 a3 a4 true l0_0 l0_1 l0_2))) else (spileref19_Around.j0 k a1 a2 a3 a4 true l0_0 l0_1 l0_2))) else (some (0, 0, 1)))) = some (r1, r2, r3) := h
 clear h
 replace H := Option.bind_eq_some_iff.mp H
 obtain ⟨t258, A60, H⟩ := H
 replace H : (if t258 = 0 then ((spileref19_inside.f l0_0 a1).bind fun t259 => (if t259 = true then ((spileref19_inside.f l0_1 a2).bind fun t260 => (if t260 = true then (if a3 < 0 then (spileref19_Around.j0 k a1 a2 a3 a4 true l0_0 l0_1 l0_2) else (if a3 > 10000 then (spileref19_Around.j0 k a1 a2 a3 a4 true l0_0 l0_1 l0_2) else (if a4 < 0 then (spileref19_Around.j0 k a1 a2 a3 a4 true l0_0 l0_1 l0_2) else (spileref19_Around.j0 k a1 a2 a3 a4 (decide (a4 > 10000)) l0_0 l0_1 l0_2)))) else (spileref19_Around.j0 k a1 a2 a3 a4 true l0_0 l0_1 l0_2))) else (spileref19_Around.j0 k a1 a2 a3 a4 true l0_0 l0_1 l0_2))) else (some (0, 0, 1))) = some (r1, r2, r3) := H
 have A6 := Aside0.mk A60
 clear A60
 by_cases c7 : t258 = 0
 ·
  rw [if_pos c7] at H
  have c7b0 : (t258 == 0) = true := beq_iff_eq.mpr c7
  have c7b1 : (t258 != 0) = false := bne_eq_false_iff_eq.mpr c7
  clear c7
  have HC8 := Aside0.mk H
  clear H
  go_enter Tryd.func13, Tryd.ntmps13
  go_upto_region 3 with (first | ((with_reducible refine gate_dst (N := 5) rfl ?_); refine box_event ?hg (N := 5) ?hd (cs := #[.slice A0_0 l0_0.length c0_0, .slice A0_1 l0_1.length c0_1, .slice A0_2 l0_2.length c0_2]) (t := 25) ?hr ?_; (case hd => rfl); (case hg => rfl); (case hr => first | (go_simp; done) | (go_simp; rfl)); intro gb256 hg w9 hbox hb; have n0_ := Aside0.mk (below_step (by repeat (first | (with_reducible first | exact HB.out | apply below_alloc | apply pw_below_drewN | apply below_drew1) | exact HB.out)) hb); have n1_ := Aside0.mk (hbox); have n2_ := Aside0.mk ((by rw [hg]; exact (below_size (by repeat (first | (with_reducible first | exact HB.out | apply below_alloc | apply pw_below_drewN | apply below_drew1) | exact HB.out))) : w.heap.size ≤ gb256)); have n3_ := Aside0.mk ((by rw [hg]; exact (below_size (by repeat (first | (with_reducible first | exact HB.out | apply below_alloc | apply pw_below_drewN | apply below_drew1) | exact HB.out))) : w.heap.size ≤ gb256)); clear HB; have HB := n0_; have BK256 := n1_; have GW256 := n2_; have GE256 := n3_; clear n0_ n1_ n2_ n3_; clear hb hbox hg) | ((with_reducible refine gate_dst (N := 10) rfl ?_); refine box_event ?hg (N := 10) ?hd (cs := #[.int .i64 0, .int .i64 0]) (t := 29) ?hr ?_; (case hd => rfl); (case hg => rfl); (case hr => first | (go_simp; done) | (go_simp; rfl)); intro gb257 hg w10 hbox hb; have n0_ := Aside0.mk (blk_below (g := gb256) (o := .cells #[.slice A0_0 l0_0.length c0_0, .slice A0_1 l0_1.length c0_1, .slice A0_2 l0_2.length c0_2] 25 (0, 0)) (by (with_reducible repeat (first | refine blk_drewN ?_ _ | refine blk_drew ?_ | refine blk_alloc ?_ _)); exact BK256.out) hb); have n1_ := Aside0.mk (below_step (by repeat (first | (with_reducible first | exact HB.out | apply below_alloc | apply pw_below_drewN | apply below_drew1 | refine below_set ?_ GE256.out) | exact HB.out)) hb); have n2_ := Aside0.mk (hbox); have n3_ := Aside0.mk ((by rw [hg]; exact (below_size (by repeat (first | (with_reducible first | exact HB.out | apply below_alloc | apply pw_below_drewN | apply below_drew1 | refine below_set ?_ GE256.out) | exact HB.out))) : w.heap.size ≤ gb257)); have n4_ := Aside0.mk ((by rw [hg]; exact (below_size (by repeat (first | (with_reducible first | exact HB.out | apply below_alloc | apply pw_below_drewN | apply below_drew1 | refine below_set ?_ GE256.out) | exact HB.out))) : w.heap.size ≤ gb257)); have n5_ := Aside0.mk ((by rw [hg]; exact Nat.ne_of_lt (blk_lt (g := gb256) (o := .cells #[.slice A0_0 l0_0.length c0_0, .slice A0_1 l0_1.length c0_1, .slice A0_2 l0_2.length c0_2] 25 (0, 0)) (by (with_reducible repeat (first | refine blk_drewN ?_ _ | refine blk_drew ?_ | refine blk_alloc ?_ _)); exact BK256.out)) : gb256 ≠ gb257)); have n6_ := Aside0.mk ((by rw [hg]; exact Nat.ne_of_gt (blk_lt (g := gb256) (o := .cells #[.slice A0_0 l0_0.length c0_0, .slice A0_1 l0_1.length c0_1, .slice A0_2 l0_2.length c0_2] 25 (0, 0)) (by (with_reducible repeat (first | refine blk_drewN ?_ _ | refine blk_drew ?_ | refine blk_alloc ?_ _)); exact BK256.out)) : gb257 ≠ gb256)); clear BK256; clear HB; have BK256 := n0_; have HB := n1_; have BK257 := n2_; have GW257 := n3_; have GE257 := n4_; have NB256_257 := n5_; have NB257_256 := n6_; clear n0_ n1_ n2_ n3_ n4_ n5_ n6_; clear hb hbox hg; have hnb11 := NB256_257.out; have hnc11 := NB257_256.out; have hcz12_0 : w10.cell? ⟨gb256, 0, none⟩ = some (.slice A0_0 l0_0.length c0_0) := (blk_cell BK256.out 0).trans rfl; have hcz12_1 : w10.cell? ⟨gb256, 1, none⟩ = some (.slice A0_1 l0_1.length c0_1) := (blk_cell BK256.out 1).trans rfl; have hcz12_2 : w10.cell? ⟨gb256, 2, none⟩ = some (.slice A0_2 l0_2.length c0_2) := (blk_cell BK256.out 2).trans rfl; have hfz12_0 := blk_frozen BK256.out 0; have hfz12_1 := blk_frozen BK256.out 1; have hfz12_2 := blk_frozen BK256.out 2) | ((with_reducible refine gate_callee (f := 19) rfl ?_); refine goesL_ (some 17) rfl rfl Tryd.func19 (by kernel_rfl) rfl #[.agg #[.slice A0_0 l0_0.length c0_0, .slice A0_1 l0_1.length c0_1, .slice A0_2 l0_2.length c0_2]] rfl (by (try simp only [List.map_toArray, List.map_cons, List.map_nil]); first | done | rfl | (simp only [List.length_drop, List.length_take]; rfl)) ?_; (with_reducible refine (spileref19_Check.calls k _ _ l0_0 _ _ l0_1 _ _ l0_2 t258 _ ?side1 ?side2 ?side3 ?side4 ?side5 ?side6 A6.out).mono ?_); (case side1 => repeat (first | exact (Kd.C_below HR0_0.out HB.out) | (with_reducible refine Kd.C_alloc ?_ _) | (with_reducible refine Kd.C_drewN ?_ _) | (with_reducible refine Kd.C_drew ?_))); (case side2 => exact HC0_0.out); (case side3 => repeat (first | exact (Kd.C_below HR0_1.out HB.out) | (with_reducible refine Kd.C_alloc ?_ _) | (with_reducible refine Kd.C_drewN ?_ _) | (with_reducible refine Kd.C_drew ?_))); (case side4 => exact HC0_1.out); (case side5 => repeat (first | exact (Kd.C_below HR0_2.out HB.out) | (with_reducible refine Kd.C_alloc ?_ _) | (with_reducible refine Kd.C_drewN ?_ _) | (with_reducible refine Kd.C_drew ?_))); (case side6 => exact HC0_2.out); rintro e w13 ⟨rfl, hb⟩; refine ⟨_, rfl, ?_⟩; have n0_ := Aside0.mk (blk_below (g := gb256) (o := .cells #[.slice A0_0 l0_0.length c0_0, .slice A0_1 l0_1.length c0_1, .slice A0_2 l0_2.length c0_2] 25 (0, 0)) (by (with_reducible repeat (first | refine blk_drewN ?_ _ | refine blk_drew ?_ | refine blk_alloc ?_ _)); exact BK256.out) hb); have n1_ := Aside0.mk (blk_below (g := gb257) (o := .cells #[.int .i64 0, .int .i64 0] 29 (0, 0)) (by (with_reducible repeat (first | refine blk_drewN ?_ _ | refine blk_drew ?_ | refine blk_alloc ?_ _)); exact BK257.out) hb); have n2_ := Aside0.mk (below_step (by repeat (first | (with_reducible first | exact HB.out | apply below_alloc | apply pw_below_drewN | apply below_drew1 | refine below_set ?_ GE256.out | refine below_set ?_ GE257.out) | exact HB.out)) hb); clear BK256; clear BK257; clear HB; have BK256 := n0_; have BK257 := n1_; have HB := n2_; clear n0_ n1_ n2_; (try clear hb); (try clear hb2); (try clear hk); (try clear hi)))
  (try simp only [Act.put, List.setIfInBounds_toArray, List.set_cons_zero, List.set_cons_succ])
  go_cut [47] (fun v47 wc => ∃ (kq : Nat) (x47_7 : Bool), v47 = .bool x47_7 ∧ Aside0 (spileref19_Around.j0 kq a1 a2 a3 a4 x47_7 l0_0 l0_1 l0_2 = some (r1, r2, r3)) ∧ Aside0 (kq ≤ k) ∧ Aside0 (wc.heap[gb256]? = some (.cells #[(.slice A0_0 l0_0.length c0_0), (.slice A0_1 l0_1.length c0_1), (.slice A0_2 l0_2.length c0_2)] 25 (0, 0))) ∧ Aside0 (wc.heap[gb257]? = some (.cells #[.int .i64 0, .int .i64 0] 29 (0, 0))) ∧ Aside0 (Below w.heap.size w wc))
  case first =>
   have H := HC8.out
   clear HC8
   replace H := Option.bind_eq_some_iff.mp H
   obtain ⟨t259, A140, H⟩ := H
   replace H : (if t259 = true then ((spileref19_inside.f l0_1 a2).bind fun t260 => (if t260 = true then (if a3 < 0 then (spileref19_Around.j0 k a1 a2 a3 a4 true l0_0 l0_1 l0_2) else (if a3 > 10000 then (spileref19_Around.j0 k a1 a2 a3 a4 true l0_0 l0_1 l0_2) else (if a4 < 0 then (spileref19_Around.j0 k a1 a2 a3 a4 true l0_0 l0_1 l0_2) else (spileref19_Around.j0 k a1 a2 a3 a4 (decide (a4 > 10000)) l0_0 l0_1 l0_2)))) else (spileref19_Around.j0 k a1 a2 a3 a4 true l0_0 l0_1 l0_2))) else (spileref19_Around.j0 k a1 a2 a3 a4 true l0_0 l0_1 l0_2)) = some (r1, r2, r3) := H
   have A14 := Aside0.mk A140
   clear A140
   by_cases c15 : t259 = true
   ·
    subst c15
    have H1 : ((spileref19_inside.f l0_1 a2).bind fun t260 => (if t260 = true then (if a3 < 0 then (spileref19_Around.j0 k a1 a2 a3 a4 true l0_0 l0_1 l0_2) else (if a3 > 10000 then (spileref19_Around.j0 k a1 a2 a3 a4 true l0_0 l0_1 l0_2) else (if a4 < 0 then (spileref19_Around.j0 k a1 a2 a3 a4 true l0_0 l0_1 l0_2) else (spileref19_Around.j0 k a1 a2 a3 a4 (decide (a4 > 10000)) l0_0 l0_1 l0_2)))) else (spileref19_Around.j0 k a1 a2 a3 a4 true l0_0 l0_1 l0_2))) = some (r1, r2, r3) := by rw [if_pos rfl] at H; exact H
    clear H
    have H := H1
    clear H1
    replace H := Option.bind_eq_some_iff.mp H
    obtain ⟨t260, A160, H⟩ := H
    replace H : (if t260 = true then (if a3 < 0 then (spileref19_Around.j0 k a1 a2 a3 a4 true l0_0 l0_1 l0_2) else (if a3 > 10000 then (spileref19_Around.j0 k a1 a2 a3 a4 true l0_0 l0_1 l0_2) else (if a4 < 0 then (spileref19_Around.j0 k a1 a2 a3 a4 true l0_0 l0_1 l0_2) else (spileref19_Around.j0 k a1 a2 a3 a4 (decide (a4 > 10000)) l0_0 l0_1 l0_2)))) else (spileref19_Around.j0 k a1 a2 a3 a4 true l0_0 l0_1 l0_2)) = some (r1, r2, r3) := H
    have A16 := Aside0.mk A160
    clear A160
    by_cases c17 : t260 = true
    ·
     subst c17
     have H1 : (if a3 < 0 then (spileref19_Around.j0 k a1 a2 a3 a4 true l0_0 l0_1 l0_2) else (if a3 > 10000 then (spileref19_Around.j0 k a1 a2 a3 a4 true l0_0 l0_1 l0_2) else (if a4 < 0 then (spileref19_Around.j0 k a1 a2 a3 a4 true l0_0 l0_1 l0_2) else (spileref19_Around.j0 k a1 a2 a3 a4 (decide (a4 > 10000)) l0_0 l0_1 l0_2)))) = some (r1, r2, r3) := by rw [if_pos rfl] at H; exact H
     clear H
     have H := H1
     clear H1
     by_cases c18 : a3 < 0
     ·
      rw [if_pos c18] at H
      have c18b0 : decide (a3 < 0) = true := decide_eq_true c18
      clear c18
      (first | rw [c18b0] | (simp only [i64_w, i32_w]; rw [c18b0]) | skip)
      have H' := Aside0.mk H
      clear H
      have hnb19 := NB256_257.out
      have hnc19 := NB257_256.out
      have hcz20_0 : w13.cell? ⟨gb256, 0, none⟩ = some (.slice A0_0 l0_0.length c0_0) := (blk_cell BK256.out 0).trans rfl
      have hcz20_1 : w13.cell? ⟨gb256, 1, none⟩ = some (.slice A0_1 l0_1.length c0_1) := (blk_cell BK256.out 1).trans rfl
      have hcz20_2 : w13.cell? ⟨gb256, 2, none⟩ = some (.slice A0_2 l0_2.length c0_2) := (blk_cell BK256.out 2).trans rfl
      have hfz20_0 := blk_frozen BK256.out 0
      have hfz20_1 := blk_frozen BK256.out 1
      have hfz20_2 := blk_frozen BK256.out 2
      go_wp2_with (first | ((with_reducible refine gate_callee (f := 29) rfl ?_); refine goesL_ (some 23) rfl rfl Tryd.func29 (by kernel_rfl) rfl #[.slice A0_0 l0_0.length c0_0, .int .i64 a1] rfl (by (try simp only [List.map_toArray, List.map_cons, List.map_nil]); first | done | rfl | (simp only [List.length_drop, List.length_take]; rfl)) ?_; (with_reducible refine (spileref19_inside.calls _ _ l0_0 a1 true _ ?side1 ?side2 A14.out).mono ?_); (case side1 => repeat (first | exact (Kd.C_below HR0_0.out HB.out) | (with_reducible refine Kd.C_alloc ?_ _) | (with_reducible refine Kd.C_drewN ?_ _) | (with_reducible refine Kd.C_drew ?_))); (case side2 => exact HC0_0.out); rintro e w' ⟨rfl, ⟨nd, rfl⟩⟩; refine ⟨_, rfl, ?_⟩) | (go_at_call 29; (with_reducible refine (spileref19_inside.calls _ _ l0_1 a2 true _ ?side1 ?side2 A16.out).mono ?_); (case side1 => repeat (first | exact (Kd.C_below HR0_1.out (by repeat (first | (with_reducible first | exact HB.out | apply below_alloc | apply pw_below_drewN | apply below_drew1 | refine below_set ?_ GE256.out | refine below_set ?_ GE257.out) | exact HB.out))) | (with_reducible refine Kd.C_alloc ?_ _) | (with_reducible refine Kd.C_drewN ?_ _) | (with_reducible refine Kd.C_drew ?_))); (case side2 => exact HC0_1.out); rintro e w' ⟨rfl, ⟨nd, rfl⟩⟩))
      go_meet
      case rel => exact ⟨_, (true), (by first | rfl | (simp; done) | (simp [*]; done)), H', ⟨by first | omega | exact Nat.le_refl _⟩, ⟨by (with_reducible repeat (first | refine blk_drewN ?_ _ | refine blk_drew ?_ | refine blk_alloc ?_ _)); exact BK256.out⟩, ⟨by (with_reducible repeat (first | refine blk_drewN ?_ _ | refine blk_drew ?_ | refine blk_alloc ?_ _)); exact BK257.out⟩, ⟨by repeat (first | (with_reducible first | exact HB.out | apply below_alloc | apply pw_below_drewN | apply below_drew1 | refine below_set ?_ GE256.out | refine below_set ?_ GE257.out) | exact HB.out)⟩⟩
     ·
      rw [if_neg c18] at H
      have c18b0 : decide (a3 < 0) = false := decide_eq_false c18
      clear c18
      (first | rw [c18b0] | (simp only [i64_w, i32_w]; rw [c18b0]) | skip)
      by_cases c21 : a3 > 10000
      ·
       rw [if_pos c21] at H
       have c21b0 : decide (10000 < a3) = true := decide_eq_true c21
       clear c21
       have H' := Aside0.mk H
       clear H
       have hnb22 := NB256_257.out
       have hnc22 := NB257_256.out
       have hcz23_0 : w13.cell? ⟨gb256, 0, none⟩ = some (.slice A0_0 l0_0.length c0_0) := (blk_cell BK256.out 0).trans rfl
       have hcz23_1 : w13.cell? ⟨gb256, 1, none⟩ = some (.slice A0_1 l0_1.length c0_1) := (blk_cell BK256.out 1).trans rfl
       have hcz23_2 : w13.cell? ⟨gb256, 2, none⟩ = some (.slice A0_2 l0_2.length c0_2) := (blk_cell BK256.out 2).trans rfl
       have hfz23_0 := blk_frozen BK256.out 0
       have hfz23_1 := blk_frozen BK256.out 1
       have hfz23_2 := blk_frozen BK256.out 2
       go_wp2_with (first | ((with_reducible refine gate_callee (f := 29) rfl ?_); refine goesL_ (some 23) rfl rfl Tryd.func29 (by kernel_rfl) rfl #[.slice A0_0 l0_0.length c0_0, .int .i64 a1] rfl (by (try simp only [List.map_toArray, List.map_cons, List.map_nil]); first | done | rfl | (simp only [List.length_drop, List.length_take]; rfl)) ?_; (with_reducible refine (spileref19_inside.calls _ _ l0_0 a1 true _ ?side1 ?side2 A14.out).mono ?_); (case side1 => repeat (first | exact (Kd.C_below HR0_0.out HB.out) | (with_reducible refine Kd.C_alloc ?_ _) | (with_reducible refine Kd.C_drewN ?_ _) | (with_reducible refine Kd.C_drew ?_))); (case side2 => exact HC0_0.out); rintro e w' ⟨rfl, ⟨nd, rfl⟩⟩; refine ⟨_, rfl, ?_⟩) | (go_at_call 29; (with_reducible refine (spileref19_inside.calls _ _ l0_1 a2 true _ ?side1 ?side2 A16.out).mono ?_); (case side1 => repeat (first | exact (Kd.C_below HR0_1.out (by repeat (first | (with_reducible first | exact HB.out | apply below_alloc | apply pw_below_drewN | apply below_drew1 | refine below_set ?_ GE256.out | refine below_set ?_ GE257.out) | exact HB.out))) | (with_reducible refine Kd.C_alloc ?_ _) | (with_reducible refine Kd.C_drewN ?_ _) | (with_reducible refine Kd.C_drew ?_))); (case side2 => exact HC0_1.out); rintro e w' ⟨rfl, ⟨nd, rfl⟩⟩))
       go_meet
       case rel => exact ⟨_, (true), (by first | rfl | (simp; done) | (simp [*]; done)), H', ⟨by first | omega | exact Nat.le_refl _⟩, ⟨by (with_reducible repeat (first | refine blk_drewN ?_ _ | refine blk_drew ?_ | refine blk_alloc ?_ _)); exact BK256.out⟩, ⟨by (with_reducible repeat (first | refine blk_drewN ?_ _ | refine blk_drew ?_ | refine blk_alloc ?_ _)); exact BK257.out⟩, ⟨by repeat (first | (with_reducible first | exact HB.out | apply below_alloc | apply pw_below_drewN | apply below_drew1 | refine below_set ?_ GE256.out | refine below_set ?_ GE257.out) | exact HB.out)⟩⟩
      ·
       rw [if_neg c21] at H
       have c21b0 : decide (10000 < a3) = false := decide_eq_false c21
       clear c21
       by_cases c24 : a4 < 0
       ·
        rw [if_pos c24] at H
        have c24b0 : decide (a4 < 0) = true := decide_eq_true c24
        clear c24
        have H' := Aside0.mk H
        clear H
        have hnb25 := NB256_257.out
        have hnc25 := NB257_256.out
        have hcz26_0 : w13.cell? ⟨gb256, 0, none⟩ = some (.slice A0_0 l0_0.length c0_0) := (blk_cell BK256.out 0).trans rfl
        have hcz26_1 : w13.cell? ⟨gb256, 1, none⟩ = some (.slice A0_1 l0_1.length c0_1) := (blk_cell BK256.out 1).trans rfl
        have hcz26_2 : w13.cell? ⟨gb256, 2, none⟩ = some (.slice A0_2 l0_2.length c0_2) := (blk_cell BK256.out 2).trans rfl
        have hfz26_0 := blk_frozen BK256.out 0
        have hfz26_1 := blk_frozen BK256.out 1
        have hfz26_2 := blk_frozen BK256.out 2
        go_wp2_with (first | ((with_reducible refine gate_callee (f := 29) rfl ?_); refine goesL_ (some 23) rfl rfl Tryd.func29 (by kernel_rfl) rfl #[.slice A0_0 l0_0.length c0_0, .int .i64 a1] rfl (by (try simp only [List.map_toArray, List.map_cons, List.map_nil]); first | done | rfl | (simp only [List.length_drop, List.length_take]; rfl)) ?_; (with_reducible refine (spileref19_inside.calls _ _ l0_0 a1 true _ ?side1 ?side2 A14.out).mono ?_); (case side1 => repeat (first | exact (Kd.C_below HR0_0.out HB.out) | (with_reducible refine Kd.C_alloc ?_ _) | (with_reducible refine Kd.C_drewN ?_ _) | (with_reducible refine Kd.C_drew ?_))); (case side2 => exact HC0_0.out); rintro e w' ⟨rfl, ⟨nd, rfl⟩⟩; refine ⟨_, rfl, ?_⟩) | (go_at_call 29; (with_reducible refine (spileref19_inside.calls _ _ l0_1 a2 true _ ?side1 ?side2 A16.out).mono ?_); (case side1 => repeat (first | exact (Kd.C_below HR0_1.out (by repeat (first | (with_reducible first | exact HB.out | apply below_alloc | apply pw_below_drewN | apply below_drew1 | refine below_set ?_ GE256.out | refine below_set ?_ GE257.out) | exact HB.out))) | (with_reducible refine Kd.C_alloc ?_ _) | (with_reducible refine Kd.C_drewN ?_ _) | (with_reducible refine Kd.C_drew ?_))); (case side2 => exact HC0_1.out); rintro e w' ⟨rfl, ⟨nd, rfl⟩⟩))
        go_meet
        case rel => exact ⟨_, (true), (by first | rfl | (simp; done) | (simp [*]; done)), H', ⟨by first | omega | exact Nat.le_refl _⟩, ⟨by (with_reducible repeat (first | refine blk_drewN ?_ _ | refine blk_drew ?_ | refine blk_alloc ?_ _)); exact BK256.out⟩, ⟨by (with_reducible repeat (first | refine blk_drewN ?_ _ | refine blk_drew ?_ | refine blk_alloc ?_ _)); exact BK257.out⟩, ⟨by repeat (first | (with_reducible first | exact HB.out | apply below_alloc | apply pw_below_drewN | apply below_drew1 | refine below_set ?_ GE256.out | refine below_set ?_ GE257.out) | exact HB.out)⟩⟩
       ·
        rw [if_neg c24] at H
        have c24b0 : decide (a4 < 0) = false := decide_eq_false c24
        clear c24
        have H' := Aside0.mk H
        clear H
        have hnb27 := NB256_257.out
        have hnc27 := NB257_256.out
        have hcz28_0 : w13.cell? ⟨gb256, 0, none⟩ = some (.slice A0_0 l0_0.length c0_0) := (blk_cell BK256.out 0).trans rfl
        have hcz28_1 : w13.cell? ⟨gb256, 1, none⟩ = some (.slice A0_1 l0_1.length c0_1) := (blk_cell BK256.out 1).trans rfl
        have hcz28_2 : w13.cell? ⟨gb256, 2, none⟩ = some (.slice A0_2 l0_2.length c0_2) := (blk_cell BK256.out 2).trans rfl
        have hfz28_0 := blk_frozen BK256.out 0
        have hfz28_1 := blk_frozen BK256.out 1
        have hfz28_2 := blk_frozen BK256.out 2
        go_wp2_with (first | ((with_reducible refine gate_callee (f := 29) rfl ?_); refine goesL_ (some 23) rfl rfl Tryd.func29 (by kernel_rfl) rfl #[.slice A0_0 l0_0.length c0_0, .int .i64 a1] rfl (by (try simp only [List.map_toArray, List.map_cons, List.map_nil]); first | done | rfl | (simp only [List.length_drop, List.length_take]; rfl)) ?_; (with_reducible refine (spileref19_inside.calls _ _ l0_0 a1 true _ ?side1 ?side2 A14.out).mono ?_); (case side1 => repeat (first | exact (Kd.C_below HR0_0.out HB.out) | (with_reducible refine Kd.C_alloc ?_ _) | (with_reducible refine Kd.C_drewN ?_ _) | (with_reducible refine Kd.C_drew ?_))); (case side2 => exact HC0_0.out); rintro e w' ⟨rfl, ⟨nd, rfl⟩⟩; refine ⟨_, rfl, ?_⟩) | (go_at_call 29; (with_reducible refine (spileref19_inside.calls _ _ l0_1 a2 true _ ?side1 ?side2 A16.out).mono ?_); (case side1 => repeat (first | exact (Kd.C_below HR0_1.out (by repeat (first | (with_reducible first | exact HB.out | apply below_alloc | apply pw_below_drewN | apply below_drew1 | refine below_set ?_ GE256.out | refine below_set ?_ GE257.out) | exact HB.out))) | (with_reducible refine Kd.C_alloc ?_ _) | (with_reducible refine Kd.C_drewN ?_ _) | (with_reducible refine Kd.C_drew ?_))); (case side2 => exact HC0_1.out); rintro e w' ⟨rfl, ⟨nd, rfl⟩⟩))
        go_meet
        case rel => exact ⟨_, (decide (a4 > 10000)), (by first | rfl | (simp; done) | (simp [*]; done)), H', ⟨by first | omega | exact Nat.le_refl _⟩, ⟨by (with_reducible repeat (first | refine blk_drewN ?_ _ | refine blk_drew ?_ | refine blk_alloc ?_ _)); exact BK256.out⟩, ⟨by (with_reducible repeat (first | refine blk_drewN ?_ _ | refine blk_drew ?_ | refine blk_alloc ?_ _)); exact BK257.out⟩, ⟨by repeat (first | (with_reducible first | exact HB.out | apply below_alloc | apply pw_below_drewN | apply below_drew1 | refine below_set ?_ GE256.out | refine below_set ?_ GE257.out) | exact HB.out)⟩⟩
    ·
     replace c17 := Bool.eq_false_iff.mpr c17
     subst c17
     have H1 : (spileref19_Around.j0 k a1 a2 a3 a4 true l0_0 l0_1 l0_2) = some (r1, r2, r3) := by rw [if_neg (show ¬ (false = true) by decide)] at H; exact H
     clear H
     have H := H1
     clear H1
     have H' := Aside0.mk H
     clear H
     have hnb29 := NB256_257.out
     have hnc29 := NB257_256.out
     have hcz30_0 : w13.cell? ⟨gb256, 0, none⟩ = some (.slice A0_0 l0_0.length c0_0) := (blk_cell BK256.out 0).trans rfl
     have hcz30_1 : w13.cell? ⟨gb256, 1, none⟩ = some (.slice A0_1 l0_1.length c0_1) := (blk_cell BK256.out 1).trans rfl
     have hcz30_2 : w13.cell? ⟨gb256, 2, none⟩ = some (.slice A0_2 l0_2.length c0_2) := (blk_cell BK256.out 2).trans rfl
     have hfz30_0 := blk_frozen BK256.out 0
     have hfz30_1 := blk_frozen BK256.out 1
     have hfz30_2 := blk_frozen BK256.out 2
     go_wp2_with (first | ((with_reducible refine gate_callee (f := 29) rfl ?_); refine goesL_ (some 23) rfl rfl Tryd.func29 (by kernel_rfl) rfl #[.slice A0_0 l0_0.length c0_0, .int .i64 a1] rfl (by (try simp only [List.map_toArray, List.map_cons, List.map_nil]); first | done | rfl | (simp only [List.length_drop, List.length_take]; rfl)) ?_; (with_reducible refine (spileref19_inside.calls _ _ l0_0 a1 true _ ?side1 ?side2 A14.out).mono ?_); (case side1 => repeat (first | exact (Kd.C_below HR0_0.out HB.out) | (with_reducible refine Kd.C_alloc ?_ _) | (with_reducible refine Kd.C_drewN ?_ _) | (with_reducible refine Kd.C_drew ?_))); (case side2 => exact HC0_0.out); rintro e w' ⟨rfl, ⟨nd, rfl⟩⟩; refine ⟨_, rfl, ?_⟩) | (go_at_call 29; (with_reducible refine (spileref19_inside.calls _ _ l0_1 a2 false _ ?side1 ?side2 A16.out).mono ?_); (case side1 => repeat (first | exact (Kd.C_below HR0_1.out (by repeat (first | (with_reducible first | exact HB.out | apply below_alloc | apply pw_below_drewN | apply below_drew1 | refine below_set ?_ GE256.out | refine below_set ?_ GE257.out) | exact HB.out))) | (with_reducible refine Kd.C_alloc ?_ _) | (with_reducible refine Kd.C_drewN ?_ _) | (with_reducible refine Kd.C_drew ?_))); (case side2 => exact HC0_1.out); rintro e w' ⟨rfl, ⟨nd, rfl⟩⟩))
     go_meet
     case rel => exact ⟨_, (true), (by first | rfl | (simp; done) | (simp [*]; done)), H', ⟨by first | omega | exact Nat.le_refl _⟩, ⟨by (with_reducible repeat (first | refine blk_drewN ?_ _ | refine blk_drew ?_ | refine blk_alloc ?_ _)); exact BK256.out⟩, ⟨by (with_reducible repeat (first | refine blk_drewN ?_ _ | refine blk_drew ?_ | refine blk_alloc ?_ _)); exact BK257.out⟩, ⟨by repeat (first | (with_reducible first | exact HB.out | apply below_alloc | apply pw_below_drewN | apply below_drew1 | refine below_set ?_ GE256.out | refine below_set ?_ GE257.out) | exact HB.out)⟩⟩
   ·
    replace c15 := Bool.eq_false_iff.mpr c15
    subst c15
    have H1 : (spileref19_Around.j0 k a1 a2 a3 a4 true l0_0 l0_1 l0_2) = some (r1, r2, r3) := by rw [if_neg (show ¬ (false = true) by decide)] at H; exact H
    clear H
    have H := H1
    clear H1
    have H' := Aside0.mk H
    clear H
    have hnb31 := NB256_257.out
    have hnc31 := NB257_256.out
    have hcz32_0 : w13.cell? ⟨gb256, 0, none⟩ = some (.slice A0_0 l0_0.length c0_0) := (blk_cell BK256.out 0).trans rfl
    have hcz32_1 : w13.cell? ⟨gb256, 1, none⟩ = some (.slice A0_1 l0_1.length c0_1) := (blk_cell BK256.out 1).trans rfl
    have hcz32_2 : w13.cell? ⟨gb256, 2, none⟩ = some (.slice A0_2 l0_2.length c0_2) := (blk_cell BK256.out 2).trans rfl
    have hfz32_0 := blk_frozen BK256.out 0
    have hfz32_1 := blk_frozen BK256.out 1
    have hfz32_2 := blk_frozen BK256.out 2
    go_wp2_with (first | ((with_reducible refine gate_callee (f := 29) rfl ?_); refine goesL_ (some 23) rfl rfl Tryd.func29 (by kernel_rfl) rfl #[.slice A0_0 l0_0.length c0_0, .int .i64 a1] rfl (by (try simp only [List.map_toArray, List.map_cons, List.map_nil]); first | done | rfl | (simp only [List.length_drop, List.length_take]; rfl)) ?_; (with_reducible refine (spileref19_inside.calls _ _ l0_0 a1 false _ ?side1 ?side2 A14.out).mono ?_); (case side1 => repeat (first | exact (Kd.C_below HR0_0.out HB.out) | (with_reducible refine Kd.C_alloc ?_ _) | (with_reducible refine Kd.C_drewN ?_ _) | (with_reducible refine Kd.C_drew ?_))); (case side2 => exact HC0_0.out); rintro e w' ⟨rfl, ⟨nd, rfl⟩⟩; refine ⟨_, rfl, ?_⟩))
    go_meet
    case rel => exact ⟨_, (true), (by first | rfl | (simp; done) | (simp [*]; done)), H', ⟨by first | omega | exact Nat.le_refl _⟩, ⟨by (with_reducible repeat (first | refine blk_drewN ?_ _ | refine blk_drew ?_ | refine blk_alloc ?_ _)); exact BK256.out⟩, ⟨by (with_reducible repeat (first | refine blk_drewN ?_ _ | refine blk_drew ?_ | refine blk_alloc ?_ _)); exact BK257.out⟩, ⟨by repeat (first | (with_reducible first | exact HB.out | apply below_alloc | apply pw_below_drewN | apply below_drew1 | refine below_set ?_ GE256.out | refine below_set ?_ GE257.out) | exact HB.out)⟩⟩
  case rest =>
   clear HC8
   try clear c1
   try clear c2
   try clear p2
   try clear c3
   try clear c7
   try clear c7b0
   try clear c7b1
   try clear c11
   try clear c13
   try clear c15
   try clear c17
   try clear c18
   try clear c18b0
   try clear c19
   try clear c21
   try clear c21b0
   try clear c22
   try clear c24
   try clear c24b0
   try clear c25
   try clear c27
   try clear c29
   try clear c31
   try clear hcz12_0
   try clear hcz12_1
   try clear hcz12_2
   try clear hcz20_0
   try clear hcz20_1
   try clear hcz20_2
   try clear hcz23_0
   try clear hcz23_1
   try clear hcz23_2
   try clear hcz26_0
   try clear hcz26_1
   try clear hcz26_2
   try clear hcz28_0
   try clear hcz28_1
   try clear hcz28_2
   try clear hcz30_0
   try clear hcz30_1
   try clear hcz30_2
   try clear hcz32_0
   try clear hcz32_1
   try clear hcz32_2
   try clear hfz12_0
   try clear hfz12_1
   try clear hfz12_2
   try clear hfz20_0
   try clear hfz20_1
   try clear hfz20_2
   try clear hfz23_0
   try clear hfz23_1
   try clear hfz23_2
   try clear hfz26_0
   try clear hfz26_1
   try clear hfz26_2
   try clear hfz28_0
   try clear hfz28_1
   try clear hfz28_2
   try clear hfz30_0
   try clear hfz30_1
   try clear hfz30_2
   try clear hfz32_0
   try clear hfz32_1
   try clear hfz32_2
   obtain ⟨kq, x47_7, rfl, HA, HJ7, BK256, BK257, HB⟩ := hcut
   cases kq with
   | zero => exact absurd HA.out (by simp [spileref19_Around.j0])
   | succ kj7 =>
    have H := HA.out
    clear HA
    simp only [spileref19_Around.j0] at H
    by_cases c33 : x47_7 = true
    ·
     subst c33
     have H1 : (some (0, 0, 2)) = some (r1, r2, r3) := by rw [if_pos rfl] at H; exact H
     clear H
     have H := H1
     clear H1
     simp only [Option.some.injEq, Prod.mk.injEq] at H
     obtain ⟨rfl, rfl, rfl⟩ := H
     have hnb34 := NB257_256.out
     have hnc34 := NB256_257.out
     have hcz35_0 : wc.cell? ⟨gb257, 0, none⟩ = some (.int .i64 0) := (blk_cell BK257.out 0).trans rfl
     have hcz35_1 : wc.cell? ⟨gb257, 1, none⟩ = some (.int .i64 0) := (blk_cell BK257.out 1).trans rfl
     have hfz35_0 := blk_frozen BK257.out 0
     have hfz35_1 := blk_frozen BK257.out 1
     go_wp2
     refine bodyPost_ret (results_ct rfl _ _ gb257 29 #[.int .i64 0, .int .i64 0] (0, 0) _ rfl (by (with_reducible repeat (first | refine blk_drewN ?_ _ | refine blk_drew ?_ | refine blk_alloc ?_ _)); refine blk_put (cs := #[.int .i64 0, .int .i64 0]) ?_ 1 _ rfl; (with_reducible repeat (first | refine blk_drewN ?_ _ | refine blk_drew ?_ | refine blk_alloc ?_ _)); refine blk_put (cs := #[.int .i64 0, .int .i64 0]) ?_ 0 _ rfl; (with_reducible repeat (first | refine blk_drewN ?_ _ | refine blk_drew ?_ | refine blk_alloc ?_ _)); exact BK257.out) Tryd.underlying29 rfl (by kernel_rfl)) rfl ?_
     exact ⟨by first | rfl | (simp [errW_none, errW_some] <;> rfl) | (simp [*, errW_none, errW_some] <;> rfl), by repeat (first | (with_reducible first | exact HB.out | apply below_alloc | apply pw_below_drewN | apply below_drew1 | refine below_set ?_ GE256.out | refine below_set ?_ GE257.out) | exact HB.out)⟩
    ·
     replace c33 := Bool.eq_false_iff.mpr c33
     subst c33
     have H1 : (if 0 < (l0_0.length : Int) then (if 0 ≤ (wrap64 ((l0_0.length : Int) - 1)) then (if (wrap64 ((l0_0.length : Int) - 1)) < (l0_0.length : Int) then (if 0 < (l0_1.length : Int) then (if 0 ≤ (wrap64 ((l0_1.length : Int) - 1)) then (if (wrap64 ((l0_1.length : Int) - 1)) < (l0_1.length : Int) then ((spileref19_At.f kj7 l0_0 l0_1 l0_2 (mn (wrap64 (a1 + a3)) (rd l0_0 (wrap64 ((l0_0.length : Int) - 1)))) (mx (wrap64 (a2 - a4)) (rd l0_1 0))).bind fun t265 => ((spileref19_At.f kj7 l0_0 l0_1 l0_2 (mx (wrap64 (a1 - a3)) (rd l0_0 0)) (mn (wrap64 (a2 + a4)) (rd l0_1 (wrap64 ((l0_1.length : Int) - 1))))).bind fun t266 => (some (t265, t266, 0)))) else (none)) else (none)) else (none)) else (none)) else (none)) else (none)) = some (r1, r2, r3) := by rw [if_neg (show ¬ (false = true) by decide)] at H; exact H
     clear H
     have H := H1
     clear H1
     by_cases c36 : 0 < (l0_0.length : Int)
     ·
      rw [if_pos c36] at H
      have c36b0 : decide (0 < (l0_0.length : Int)) = true := decide_eq_true c36
      have c36b1 : decide (0 < l0_0.length) = true := decide_eq_true (by omega)
      clear c36
      obtain ⟨ji37, hji37⟩ : ∃ j_ : Int, (mx (wrap64 (a1 - a3)) (rd l0_0 0)) = j_ := ⟨_, rfl⟩
      replace H : (if 0 ≤ (wrap64 ((l0_0.length : Int) - 1)) then (if (wrap64 ((l0_0.length : Int) - 1)) < (l0_0.length : Int) then (if 0 < (l0_1.length : Int) then (if 0 ≤ (wrap64 ((l0_1.length : Int) - 1)) then (if (wrap64 ((l0_1.length : Int) - 1)) < (l0_1.length : Int) then ((spileref19_At.f kj7 l0_0 l0_1 l0_2 (mn (wrap64 (a1 + a3)) (rd l0_0 (wrap64 ((l0_0.length : Int) - 1)))) (mx (wrap64 (a2 - a4)) (rd l0_1 0))).bind fun t265 => ((spileref19_At.f kj7 l0_0 l0_1 l0_2 (ji37) (mn (wrap64 (a2 + a4)) (rd l0_1 (wrap64 ((l0_1.length : Int) - 1))))).bind fun t266 => (some (t265, t266, 0)))) else (none)) else (none)) else (none)) else (none)) else (none)) = some (r1, r2, r3) := by first | (rw [hji37] at H; exact H) | (simp only [hji37] at H ⊢; exact H)
      have hji37_ : (if (wrap64 (a1 - a3)) < (rd l0_0 0) then (rd l0_0 0) else (wrap64 (a1 - a3))) = ji37 := hji37
      obtain ⟨ji38, hji38⟩ : ∃ j_ : Int, (wrap64 ((l0_0.length : Int) - 1)) = j_ := ⟨_, rfl⟩
      replace H : (if 0 ≤ (ji38) then (if (ji38) < (l0_0.length : Int) then (if 0 < (l0_1.length : Int) then (if 0 ≤ (wrap64 ((l0_1.length : Int) - 1)) then (if (wrap64 ((l0_1.length : Int) - 1)) < (l0_1.length : Int) then ((spileref19_At.f kj7 l0_0 l0_1 l0_2 (mn (wrap64 (a1 + a3)) (rd l0_0 (ji38))) (mx (wrap64 (a2 - a4)) (rd l0_1 0))).bind fun t265 => ((spileref19_At.f kj7 l0_0 l0_1 l0_2 (ji37) (mn (wrap64 (a2 + a4)) (rd l0_1 (wrap64 ((l0_1.length : Int) - 1))))).bind fun t266 => (some (t265, t266, 0)))) else (none)) else (none)) else (none)) else (none)) else (none)) = some (r1, r2, r3) := by first | (rw [hji38] at H; exact H) | (simp only [hji38] at H ⊢; exact H)
      have hji38w : (IntKind.i64.wrap ((l0_0.length : Int) - 1)) = ji38 := (i64_w _).trans hji38
      by_cases c39 : 0 ≤ (ji38)
      ·
       rw [if_pos c39] at H
       have c39b0 : decide (0 ≤ (ji38)) = true := decide_eq_true c39
       clear c39
       by_cases c40 : (ji38) < (l0_0.length : Int)
       ·
        rw [if_pos c40] at H
        have c40b0 : decide ((ji38) < (l0_0.length : Int)) = true := decide_eq_true c40
        clear c40
        obtain ⟨ji41, hji41⟩ : ∃ j_ : Int, (mn (wrap64 (a1 + a3)) (rd l0_0 (ji38))) = j_ := ⟨_, rfl⟩
        replace H : (if 0 < (l0_1.length : Int) then (if 0 ≤ (wrap64 ((l0_1.length : Int) - 1)) then (if (wrap64 ((l0_1.length : Int) - 1)) < (l0_1.length : Int) then ((spileref19_At.f kj7 l0_0 l0_1 l0_2 (ji41) (mx (wrap64 (a2 - a4)) (rd l0_1 0))).bind fun t265 => ((spileref19_At.f kj7 l0_0 l0_1 l0_2 (ji37) (mn (wrap64 (a2 + a4)) (rd l0_1 (wrap64 ((l0_1.length : Int) - 1))))).bind fun t266 => (some (t265, t266, 0)))) else (none)) else (none)) else (none)) = some (r1, r2, r3) := by first | (rw [hji41] at H; exact H) | (simp only [hji41] at H ⊢; exact H)
        have hji41_ : (if (rd l0_0 (ji38)) < (wrap64 (a1 + a3)) then (rd l0_0 (ji38)) else (wrap64 (a1 + a3))) = ji41 := hji41
        by_cases c42 : 0 < (l0_1.length : Int)
        ·
         rw [if_pos c42] at H
         have c42b0 : decide (0 < (l0_1.length : Int)) = true := decide_eq_true c42
         have c42b1 : decide (0 < l0_1.length) = true := decide_eq_true (by omega)
         clear c42
         obtain ⟨ji43, hji43⟩ : ∃ j_ : Int, (mx (wrap64 (a2 - a4)) (rd l0_1 0)) = j_ := ⟨_, rfl⟩
         replace H : (if 0 ≤ (wrap64 ((l0_1.length : Int) - 1)) then (if (wrap64 ((l0_1.length : Int) - 1)) < (l0_1.length : Int) then ((spileref19_At.f kj7 l0_0 l0_1 l0_2 (ji41) (ji43)).bind fun t265 => ((spileref19_At.f kj7 l0_0 l0_1 l0_2 (ji37) (mn (wrap64 (a2 + a4)) (rd l0_1 (wrap64 ((l0_1.length : Int) - 1))))).bind fun t266 => (some (t265, t266, 0)))) else (none)) else (none)) = some (r1, r2, r3) := by first | (rw [hji43] at H; exact H) | (simp only [hji43] at H ⊢; exact H)
         have hji43_ : (if (wrap64 (a2 - a4)) < (rd l0_1 0) then (rd l0_1 0) else (wrap64 (a2 - a4))) = ji43 := hji43
         obtain ⟨ji44, hji44⟩ : ∃ j_ : Int, (wrap64 ((l0_1.length : Int) - 1)) = j_ := ⟨_, rfl⟩
         replace H : (if 0 ≤ (ji44) then (if (ji44) < (l0_1.length : Int) then ((spileref19_At.f kj7 l0_0 l0_1 l0_2 (ji41) (ji43)).bind fun t265 => ((spileref19_At.f kj7 l0_0 l0_1 l0_2 (ji37) (mn (wrap64 (a2 + a4)) (rd l0_1 (ji44)))).bind fun t266 => (some (t265, t266, 0)))) else (none)) else (none)) = some (r1, r2, r3) := by first | (rw [hji44] at H; exact H) | (simp only [hji44] at H ⊢; exact H)
         have hji44w : (IntKind.i64.wrap ((l0_1.length : Int) - 1)) = ji44 := (i64_w _).trans hji44
         by_cases c45 : 0 ≤ (ji44)
         ·
          rw [if_pos c45] at H
          have c45b0 : decide (0 ≤ (ji44)) = true := decide_eq_true c45
          clear c45
          by_cases c46 : (ji44) < (l0_1.length : Int)
          ·
           rw [if_pos c46] at H
           have c46b0 : decide ((ji44) < (l0_1.length : Int)) = true := decide_eq_true c46
           clear c46
           obtain ⟨ji47, hji47⟩ : ∃ j_ : Int, (mn (wrap64 (a2 + a4)) (rd l0_1 (ji44))) = j_ := ⟨_, rfl⟩
           replace H : ((spileref19_At.f kj7 l0_0 l0_1 l0_2 (ji41) (ji43)).bind fun t265 => ((spileref19_At.f kj7 l0_0 l0_1 l0_2 (ji37) (ji47)).bind fun t266 => (some (t265, t266, 0)))) = some (r1, r2, r3) := by first | (rw [hji47] at H; exact H) | (simp only [hji47] at H ⊢; exact H)
           have hji47_ : (if (rd l0_1 (ji44)) < (wrap64 (a2 + a4)) then (rd l0_1 (ji44)) else (wrap64 (a2 + a4))) = ji47 := hji47
           replace H := Option.bind_eq_some_iff.mp H
           obtain ⟨t265, A480, H⟩ := H
           replace H : ((spileref19_At.f kj7 l0_0 l0_1 l0_2 (ji37) (ji47)).bind fun t266 => (some (t265, t266, 0))) = some (r1, r2, r3) := H
           have A48 := Aside0.mk A480
           clear A480
           replace H := Option.bind_eq_some_iff.mp H
           obtain ⟨t266, A490, H⟩ := H
           replace H : (some (t265, t266, 0)) = some (r1, r2, r3) := H
           have A49 := Aside0.mk A490
           clear A490
           simp only [Option.some.injEq, Prod.mk.injEq] at H
           obtain ⟨rfl, rfl, rfl⟩ := H
           try go_wp2
           have n0_ := Aside0.mk (blk_drew BK256.out)
           have n1_ := Aside0.mk (blk_drew BK257.out)
           have n2_ := Aside0.mk (below_drew1 HB.out)
           clear BK256
           clear BK257
           clear HB
           have BK256 := n0_
           have BK257 := n1_
           have HB := n2_
           clear n0_ n1_ n2_
           have p261 : 0 ≤ (0 : Int) := (by omega)
           have q261 : 0 < (l0_0.length : Int) := of_decide_eq_true (by first | (with_reducible assumption) | assumption)
           obtain ⟨ad261, e261, hx261_0⟩ := Kd.at_int HR0_0.out 0 p261 q261
           have hw261_0 := hx261_0
           (try rw [show ((0 : Int)).toNat = 0 from rfl] at hw261_0)
           (try rw [show 0 * 1 = 0 from rfl] at hw261_0)
           (try rw [Addr.add_zero'] at hw261_0)
           cases e261
           have qi261 : (0 < l0_0.length) = True := eq_true (by omega)
           (try rw [show ((0 : Int)).toNat = 0 from rfl] at hx261_0)
           (try rw [Addr.add_zero'] at hx261_0)
           replace hx261_0 := (HB.out.cell (World.block_lt_of_cell? w _ hx261_0)).trans hx261_0
           replace p261 := eq_true p261
           replace q261 := eq_true q261
           have p262 : 0 ≤ ((ji38) : Int) := of_decide_eq_true (by first | (with_reducible assumption) | assumption)
           have q262 : (ji38) < (l0_0.length : Int) := of_decide_eq_true (by first | (with_reducible assumption) | assumption)
           obtain ⟨ad262, e262, hx262_0⟩ := Kd.at_int HR0_0.out (ji38) p262 q262
           have hw262_0 := hx262_0
           obtain rfl : ad261 = ad262 := (by injection e262)
           replace hx262_0 := (HB.out.cell (World.block_lt_of_cell? w _ hx262_0)).trans hx262_0
           replace p262 := eq_true p262
           replace q262 := eq_true q262
           refine start_ (n := 22) (S := fun w' => w'.cell? ⟨gb256, 0, none⟩ = some (.slice (some ad261) l0_0.length c0_0) ∧ w'.cell? ⟨gb256, 1, none⟩ = some (.slice A0_1 l0_1.length c0_1) ∧ w'.cell? ⟨gb256, 2, none⟩ = some (.slice A0_2 l0_2.length c0_2) ∧ w'.cell? ad261 = some (.int .i64 (rd l0_0 0)) ∧ w'.cell? (ad261.add ((ji38)).toNat) = some (.int .i64 (rd l0_0 (ji38)))) (ds := []) #[false, false, false, false, false, false, false, false, false, false, false, false, false, false, false, false, false, false, false, false, false, false] (by kernel_rfl) rfl rfl ⟨(blk_cell BK256.out 0).trans rfl, (blk_cell BK256.out 1).trans rfl, (blk_cell BK256.out 2).trans rfl, ((HB.out.cell (World.block_lt_of_cell? w _ hw261_0)).trans hw261_0), ((HB.out.cell (World.block_lt_of_cell? w _ hw262_0)).trans hw262_0)⟩ (fun hHeld => ?_); refine with_tabW spileref19_Around.tab5 spileref19_Around.bits5 (fun HT_ HW_ => ?_)
           generalize wc.drew = w50 at BK256 BK257 HB hx261_0 hx262_0 hHeld ⊢
           refine pure_ (i := 0) (N := some 49) (v := ?_) (a' := ?_) #[true, false, false, false, false, false, false, false, false, false, false, false, false, false, false, false, false, false, false, false, false, false] rfl rfl (any_of HT_.out (by kernel_rfl)) (fun _ _ _ h => h) (Or.inl ⟨by rfl, ?_⟩) ?_ ?_
           rotate_left
           ·
            intro w'
            go_simp
            with_reducible rfl
           rotate_left
           ·
            simp only [Act.put, List.setIfInBounds_toArray, List.set_cons_zero, List.set_cons_succ, i64_w, i32_w]
            rfl
           refine pure_ (i := 1) (N := some 50) (v := ?_) (a' := ?_) #[true, true, false, false, false, false, false, false, false, false, false, false, false, false, false, false, false, false, false, false, false, false] rfl rfl (any_of HT_.out (by kernel_rfl)) (fun _ _ _ h => h) (Or.inl ⟨by rfl, ?_⟩) ?_ ?_
           rotate_left
           ·
            intro w'
            go_simp
            with_reducible rfl
           rotate_left
           ·
            simp only [Act.put, List.setIfInBounds_toArray, List.set_cons_zero, List.set_cons_succ, i64_w, i32_w]
            rfl
           refine pure_ (i := 2) (N := some 51) (v := ?_) (a' := ?_) #[true, true, true, false, false, false, false, false, false, false, false, false, false, false, false, false, false, false, false, false, false, false] rfl rfl (any_of HT_.out (by kernel_rfl)) (fun _ _ _ h => h) (Or.inl ⟨by rfl, ?_⟩) ?_ ?_
           rotate_left
           ·
            intro w'
            go_simp
            with_reducible rfl
           rotate_left
           ·
            simp only [Act.put, List.setIfInBounds_toArray, List.set_cons_zero, List.set_cons_succ, i64_w, i32_w]
            rfl
           refine pure_ (i := 3) (N := some 52) (v := ?_) (a' := ?_) #[true, true, true, true, false, false, false, false, false, false, false, false, false, false, false, false, false, false, false, false, false, false] rfl rfl (any_of HT_.out (by kernel_rfl)) (fun _ _ _ h => h) (Or.inl ⟨by rfl, ?_⟩) ?_ ?_
           rotate_left
           ·
            intro w'
            go_simp
            with_reducible rfl
           rotate_left
           ·
            simp only [Act.put, List.setIfInBounds_toArray, List.set_cons_zero, List.set_cons_succ, i64_w, i32_w]
            rfl
           refine pure_ (i := 8) (N := some 57) (v := ?_) (a' := ?_) #[true, true, true, true, false, false, false, false, true, false, false, false, false, false, false, false, false, false, false, false, false, false] rfl rfl (any_of HT_.out (by kernel_rfl)) (fun _ _ _ h => h) (Or.inl ⟨by rfl, ?_⟩) ?_ ?_
           rotate_left
           ·
            intro w'
            go_simp
            with_reducible rfl
           rotate_left
           ·
            simp only [Act.put, List.setIfInBounds_toArray, List.set_cons_zero, List.set_cons_succ, i64_w, i32_w]
            rfl
           refine pure_ (i := 9) (N := some 58) (v := ?_) (a' := ?_) #[true, true, true, true, false, false, false, false, true, true, false, false, false, false, false, false, false, false, false, false, false, false] rfl rfl (any_of HT_.out (by kernel_rfl)) (fun _ _ _ h => h) (Or.inl ⟨by rfl, ?_⟩) ?_ ?_
           rotate_left
           ·
            intro w'
            go_simp
            with_reducible rfl
           rotate_left
           ·
            simp only [Act.put, List.setIfInBounds_toArray, List.set_cons_zero, List.set_cons_succ, i64_w, i32_w]
            rfl
           refine pure_ (i := 10) (N := some 59) (v := ?_) (a' := ?_) #[true, true, true, true, false, false, false, false, true, true, true, false, false, false, false, false, false, false, false, false, false, false] rfl rfl (any_of HT_.out (by kernel_rfl)) (fun _ _ _ h => h) (Or.inl ⟨by rfl, ?_⟩) ?_ ?_
           rotate_left
           ·
            intro w'
            go_simp
            with_reducible rfl
           rotate_left
           ·
            simp only [Act.put, List.setIfInBounds_toArray, List.set_cons_zero, List.set_cons_succ, i64_w, i32_w]
            rfl
           refine pure_ (i := 11) (N := some 60) (v := ?_) (a' := ?_) #[true, true, true, true, false, false, false, false, true, true, true, true, false, false, false, false, false, false, false, false, false, false] rfl rfl (any_of HT_.out (by kernel_rfl)) (fun _ _ _ h => h) (Or.inl ⟨by rfl, ?_⟩) ?_ ?_
           rotate_left
           ·
            intro w'
            go_simp
            with_reducible rfl
           rotate_left
           ·
            simp only [Act.put, List.setIfInBounds_toArray, List.set_cons_zero, List.set_cons_succ, i64_w, i32_w]
            rfl
           refine pure_ (i := 13) (N := some 62) (v := ?_) (a' := ?_) #[true, true, true, true, false, false, false, false, true, true, true, true, false, true, false, false, false, false, false, false, false, false] rfl rfl (any_of HT_.out (by kernel_rfl)) (fun _ _ _ h => h) (Or.inl ⟨by rfl, ?_⟩) ?_ ?_
           rotate_left
           ·
            intro w'
            go_simp
            with_reducible rfl
           rotate_left
           ·
            simp only [Act.put, List.setIfInBounds_toArray, List.set_cons_zero, List.set_cons_succ, i64_w, i32_w]
            rfl
           refine take_ (i := 4) (N := some 53) (v := ?_) (a' := ?_) #[true, true, true, true, true, false, false, false, true, true, true, true, false, true, false, false, false, false, false, false, false, false] rfl rfl (take_ofW HT_.out HW_.out (by kernel_rfl)) (fun _ _ _ h => h) (Or.inl ⟨by rfl, ?_⟩) hHeld ?_ ?_
           rotate_left
           ·
            rintro w' ⟨s0, s1, s2, s3, s4⟩
            go_simp
            with_reducible rfl
           rotate_left
           ·
            simp only [Act.put, List.setIfInBounds_toArray, List.set_cons_zero, List.set_cons_succ, i64_w, i32_w]
            rfl
           refine pure_ (i := 5) (N := some 54) (v := ?_) (a' := ?_) #[true, true, true, true, true, true, false, false, true, true, true, true, false, true, false, false, false, false, false, false, false, false] rfl rfl (any_of HT_.out (by kernel_rfl)) (fun _ _ _ h => h) (Or.inl ⟨by rfl, ?_⟩) ?_ ?_
           rotate_left
           ·
            intro w'
            go_simp
            with_reducible rfl
           rotate_left
           ·
            simp only [Act.put, List.setIfInBounds_toArray, List.set_cons_zero, List.set_cons_succ, i64_w, i32_w]
            rfl
           refine take_ (i := 6) (N := some 55) (v := ?_) (a' := ?_) #[true, true, true, true, true, true, true, false, true, true, true, true, false, true, false, false, false, false, false, false, false, false] rfl rfl (take_ofW HT_.out HW_.out (by kernel_rfl)) (fun _ _ _ h => h) (Or.inl ⟨by rfl, ?_⟩) hHeld ?_ ?_
           rotate_left
           ·
            rintro w' ⟨s0, s1, s2, s3, s4⟩
            go_simp
            with_reducible rfl
           rotate_left
           ·
            simp only [Act.put, List.setIfInBounds_toArray, List.set_cons_zero, List.set_cons_succ, i64_w, i32_w]
            rfl
           refine pure_ (i := 7) (N := some 56) (v := ?_) (a' := ?_) #[true, true, true, true, true, true, true, true, true, true, true, true, false, true, false, false, false, false, false, false, false, false] rfl rfl (any_of HT_.out (by kernel_rfl)) (fun _ _ _ h => h) (Or.inl ⟨by rfl, ?_⟩) ?_ ?_
           rotate_left
           ·
            intro w'
            go_simp
            with_reducible rfl
           rotate_left
           ·
            simp only [Act.put, List.setIfInBounds_toArray, List.set_cons_zero, List.set_cons_succ, i64_w, i32_w]
            rfl
           refine pure_ (i := 20) (N := some 12) (v := ?_) (a' := ?_) #[true, true, true, true, true, true, true, true, true, true, true, true, false, true, false, false, false, false, false, false, true, false] rfl rfl (any_of HT_.out (by kernel_rfl)) (fun _ _ _ h => h) (Or.inl ⟨by rfl, ?_⟩) ?_ ?_
           rotate_left
           ·
            intro w'
            go_simp
            with_reducible rfl
           rotate_left
           ·
            simp only [Act.put, List.setIfInBounds_toArray, List.set_cons_zero, List.set_cons_succ, i64_w, i32_w]
            rfl
           refine take_ (i := 12) (N := some 61) (v := ?_) (a' := ?_) #[true, true, true, true, true, true, true, true, true, true, true, true, true, true, false, false, false, false, false, false, true, false] rfl rfl (take_ofW HT_.out HW_.out (by kernel_rfl)) (fun _ _ _ h => h) (Or.inl ⟨by rfl, ?_⟩) hHeld ?_ ?_
           rotate_left
           ·
            rintro w' ⟨s0, s1, s2, s3, s4⟩
            go_simp
            with_reducible rfl
           rotate_left
           ·
            simp only [Act.put, List.setIfInBounds_toArray, List.set_cons_zero, List.set_cons_succ, i64_w, i32_w]
            rfl
           refine take_ (i := 14) (N := some 63) (v := ?_) (a' := ?_) #[true, true, true, true, true, true, true, true, true, true, true, true, true, true, true, false, false, false, false, false, true, false] rfl rfl (take_ofW HT_.out HW_.out (by kernel_rfl)) (fun _ _ _ h => h) (Or.inl ⟨by rfl, ?_⟩) hHeld ?_ ?_
           rotate_left
           ·
            rintro w' ⟨s0, s1, s2, s3, s4⟩
            go_simp
            with_reducible rfl
           rotate_left
           ·
            simp only [Act.put, List.setIfInBounds_toArray, List.set_cons_zero, List.set_cons_succ, i64_w, i32_w]
            rfl
           refine pure_ (i := 15) (N := some 64) (v := ?_) (a' := ?_) #[true, true, true, true, true, true, true, true, true, true, true, true, true, true, true, true, false, false, false, false, true, false] rfl rfl (any_of HT_.out (by kernel_rfl)) (fun _ _ _ h => h) (Or.inl ⟨by rfl, ?_⟩) ?_ ?_
           rotate_left
           ·
            intro w'
            go_simp
            with_reducible rfl
           rotate_left
           ·
            simp only [Act.put, List.setIfInBounds_toArray, List.set_cons_zero, List.set_cons_succ, i64_w, i32_w]
            rfl
           refine pure_ (i := 16) (N := some 65) (v := ?_) (a' := ?_) #[true, true, true, true, true, true, true, true, true, true, true, true, true, true, true, true, true, false, false, false, true, false] rfl rfl (any_of HT_.out (by kernel_rfl)) (fun _ _ _ h => h) (Or.inl ⟨by rfl, ?_⟩) ?_ ?_
           rotate_left
           ·
            intro w'
            go_simp
            with_reducible rfl
           rotate_left
           ·
            simp only [Act.put, List.setIfInBounds_toArray, List.set_cons_zero, List.set_cons_succ, i64_w, i32_w]
            rfl
           refine pure_ (i := 17) (N := some 66) (v := ?_) (a' := ?_) #[true, true, true, true, true, true, true, true, true, true, true, true, true, true, true, true, true, true, false, false, true, false] rfl rfl (any_of HT_.out (by kernel_rfl)) (fun _ _ _ h => h) (Or.inl ⟨by rfl, ?_⟩) ?_ ?_
           rotate_left
           ·
            intro w'
            go_simp
            with_reducible rfl
           rotate_left
           ·
            simp only [Act.put, List.setIfInBounds_toArray, List.set_cons_zero, List.set_cons_succ, i64_w, i32_w]
            rfl
           refine take_ (i := 18) (N := some 67) (v := ?_) (a' := ?_) #[true, true, true, true, true, true, true, true, true, true, true, true, true, true, true, true, true, true, true, false, true, false] rfl rfl (take_ofW HT_.out HW_.out (by kernel_rfl)) (fun _ _ _ h => h) (Or.inl ⟨by rfl, ?_⟩) hHeld ?_ ?_
           rotate_left
           ·
            rintro w' ⟨s0, s1, s2, s3, s4⟩
            go_simp
            with_reducible rfl
           rotate_left
           ·
            simp only [Act.put, List.setIfInBounds_toArray, List.set_cons_zero, List.set_cons_succ, i64_w, i32_w]
            rfl
           refine pure_ (i := 19) (N := some 68) (v := ?_) (a' := ?_) #[true, true, true, true, true, true, true, true, true, true, true, true, true, true, true, true, true, true, true, true, true, false] rfl rfl (any_of HT_.out (by kernel_rfl)) (fun _ _ _ h => h) (Or.inl ⟨by rfl, ?_⟩) ?_ ?_
           rotate_left
           ·
            intro w'
            go_simp
            with_reducible rfl
           rotate_left
           ·
            simp only [Act.put, List.setIfInBounds_toArray, List.set_cons_zero, List.set_cons_succ, i64_w, i32_w]
            rfl
           refine pure_ (i := 21) (N := some 13) (v := ?_) (a' := ?_) #[true, true, true, true, true, true, true, true, true, true, true, true, true, true, true, true, true, true, true, true, true, true] rfl rfl (any_of HT_.out (by kernel_rfl)) (fun _ _ _ h => h) (Or.inl ⟨by rfl, ?_⟩) ?_ ?_
           rotate_left
           ·
            intro w'
            go_simp
            with_reducible rfl
           rotate_left
           ·
            simp only [Act.put, List.setIfInBounds_toArray, List.set_cons_zero, List.set_cons_succ, i64_w, i32_w]
            rfl
           refine done_ (done_of HT_.out (by kernel_rfl)) ?_
           try go_wp2
           have n0_ := Aside0.mk (blk_drew BK256.out)
           have n1_ := Aside0.mk (blk_drew BK257.out)
           have n2_ := Aside0.mk (below_drew1 HB.out)
           clear BK256
           clear BK257
           clear HB
           have BK256 := n0_
           have BK257 := n1_
           have HB := n2_
           clear n0_ n1_ n2_
           have p263 : 0 ≤ (0 : Int) := (by omega)
           have q263 : 0 < (l0_1.length : Int) := of_decide_eq_true (by first | (with_reducible assumption) | assumption)
           obtain ⟨ad263, e263, hx263_0⟩ := Kd.at_int HR0_1.out 0 p263 q263
           have hw263_0 := hx263_0
           (try rw [show ((0 : Int)).toNat = 0 from rfl] at hw263_0)
           (try rw [show 0 * 1 = 0 from rfl] at hw263_0)
           (try rw [Addr.add_zero'] at hw263_0)
           cases e263
           have qi263 : (0 < l0_1.length) = True := eq_true (by omega)
           (try rw [show ((0 : Int)).toNat = 0 from rfl] at hx263_0)
           (try rw [Addr.add_zero'] at hx263_0)
           replace hx263_0 := (HB.out.cell (World.block_lt_of_cell? w _ hx263_0)).trans hx263_0
           replace p263 := eq_true p263
           replace q263 := eq_true q263
           have p264 : 0 ≤ ((ji44) : Int) := of_decide_eq_true (by first | (with_reducible assumption) | assumption)
           have q264 : (ji44) < (l0_1.length : Int) := of_decide_eq_true (by first | (with_reducible assumption) | assumption)
           obtain ⟨ad264, e264, hx264_0⟩ := Kd.at_int HR0_1.out (ji44) p264 q264
           have hw264_0 := hx264_0
           obtain rfl : ad263 = ad264 := (by injection e264)
           replace hx264_0 := (HB.out.cell (World.block_lt_of_cell? w _ hx264_0)).trans hx264_0
           replace p264 := eq_true p264
           replace q264 := eq_true q264
           refine start_ (n := 22) (S := fun w' => w'.cell? ⟨gb256, 0, none⟩ = some (.slice (some ad261) l0_0.length c0_0) ∧ w'.cell? ⟨gb256, 1, none⟩ = some (.slice (some ad263) l0_1.length c0_1) ∧ w'.cell? ⟨gb256, 2, none⟩ = some (.slice A0_2 l0_2.length c0_2) ∧ w'.cell? ad263 = some (.int .i64 (rd l0_1 0)) ∧ w'.cell? (ad263.add ((ji44)).toNat) = some (.int .i64 (rd l0_1 (ji44)))) (ds := []) #[false, false, false, false, false, false, false, false, false, false, false, false, false, false, false, false, false, false, false, false, false, false] (by kernel_rfl) rfl rfl ⟨(blk_cell BK256.out 0).trans rfl, (blk_cell BK256.out 1).trans rfl, (blk_cell BK256.out 2).trans rfl, ((HB.out.cell (World.block_lt_of_cell? w _ hw263_0)).trans hw263_0), ((HB.out.cell (World.block_lt_of_cell? w _ hw264_0)).trans hw264_0)⟩ (fun hHeld => ?_); refine with_tabW spileref19_Around.tab6 spileref19_Around.bits6 (fun HT_ HW_ => ?_)
           generalize w50.drew = w51 at BK256 BK257 HB hx263_0 hx264_0 hHeld ⊢
           refine pure_ (i := 0) (N := some 69) (v := ?_) (a' := ?_) #[true, false, false, false, false, false, false, false, false, false, false, false, false, false, false, false, false, false, false, false, false, false] rfl rfl (any_of HT_.out (by kernel_rfl)) (fun _ _ _ h => h) (Or.inl ⟨by rfl, ?_⟩) ?_ ?_
           rotate_left
           ·
            intro w'
            go_simp
            with_reducible rfl
           rotate_left
           ·
            simp only [Act.put, List.setIfInBounds_toArray, List.set_cons_zero, List.set_cons_succ, i64_w, i32_w]
            rfl
           refine pure_ (i := 1) (N := some 70) (v := ?_) (a' := ?_) #[true, true, false, false, false, false, false, false, false, false, false, false, false, false, false, false, false, false, false, false, false, false] rfl rfl (any_of HT_.out (by kernel_rfl)) (fun _ _ _ h => h) (Or.inl ⟨by rfl, ?_⟩) ?_ ?_
           rotate_left
           ·
            intro w'
            go_simp
            with_reducible rfl
           rotate_left
           ·
            simp only [Act.put, List.setIfInBounds_toArray, List.set_cons_zero, List.set_cons_succ, i64_w, i32_w]
            rfl
           refine pure_ (i := 2) (N := some 71) (v := ?_) (a' := ?_) #[true, true, true, false, false, false, false, false, false, false, false, false, false, false, false, false, false, false, false, false, false, false] rfl rfl (any_of HT_.out (by kernel_rfl)) (fun _ _ _ h => h) (Or.inl ⟨by rfl, ?_⟩) ?_ ?_
           rotate_left
           ·
            intro w'
            go_simp
            with_reducible rfl
           rotate_left
           ·
            simp only [Act.put, List.setIfInBounds_toArray, List.set_cons_zero, List.set_cons_succ, i64_w, i32_w]
            rfl
           refine pure_ (i := 3) (N := some 72) (v := ?_) (a' := ?_) #[true, true, true, true, false, false, false, false, false, false, false, false, false, false, false, false, false, false, false, false, false, false] rfl rfl (any_of HT_.out (by kernel_rfl)) (fun _ _ _ h => h) (Or.inl ⟨by rfl, ?_⟩) ?_ ?_
           rotate_left
           ·
            intro w'
            go_simp
            with_reducible rfl
           rotate_left
           ·
            simp only [Act.put, List.setIfInBounds_toArray, List.set_cons_zero, List.set_cons_succ, i64_w, i32_w]
            rfl
           refine pure_ (i := 8) (N := some 77) (v := ?_) (a' := ?_) #[true, true, true, true, false, false, false, false, true, false, false, false, false, false, false, false, false, false, false, false, false, false] rfl rfl (any_of HT_.out (by kernel_rfl)) (fun _ _ _ h => h) (Or.inl ⟨by rfl, ?_⟩) ?_ ?_
           rotate_left
           ·
            intro w'
            go_simp
            with_reducible rfl
           rotate_left
           ·
            simp only [Act.put, List.setIfInBounds_toArray, List.set_cons_zero, List.set_cons_succ, i64_w, i32_w]
            rfl
           refine pure_ (i := 9) (N := some 78) (v := ?_) (a' := ?_) #[true, true, true, true, false, false, false, false, true, true, false, false, false, false, false, false, false, false, false, false, false, false] rfl rfl (any_of HT_.out (by kernel_rfl)) (fun _ _ _ h => h) (Or.inl ⟨by rfl, ?_⟩) ?_ ?_
           rotate_left
           ·
            intro w'
            go_simp
            with_reducible rfl
           rotate_left
           ·
            simp only [Act.put, List.setIfInBounds_toArray, List.set_cons_zero, List.set_cons_succ, i64_w, i32_w]
            rfl
           refine pure_ (i := 10) (N := some 79) (v := ?_) (a' := ?_) #[true, true, true, true, false, false, false, false, true, true, true, false, false, false, false, false, false, false, false, false, false, false] rfl rfl (any_of HT_.out (by kernel_rfl)) (fun _ _ _ h => h) (Or.inl ⟨by rfl, ?_⟩) ?_ ?_
           rotate_left
           ·
            intro w'
            go_simp
            with_reducible rfl
           rotate_left
           ·
            simp only [Act.put, List.setIfInBounds_toArray, List.set_cons_zero, List.set_cons_succ, i64_w, i32_w]
            rfl
           refine pure_ (i := 11) (N := some 80) (v := ?_) (a' := ?_) #[true, true, true, true, false, false, false, false, true, true, true, true, false, false, false, false, false, false, false, false, false, false] rfl rfl (any_of HT_.out (by kernel_rfl)) (fun _ _ _ h => h) (Or.inl ⟨by rfl, ?_⟩) ?_ ?_
           rotate_left
           ·
            intro w'
            go_simp
            with_reducible rfl
           rotate_left
           ·
            simp only [Act.put, List.setIfInBounds_toArray, List.set_cons_zero, List.set_cons_succ, i64_w, i32_w]
            rfl
           refine pure_ (i := 13) (N := some 82) (v := ?_) (a' := ?_) #[true, true, true, true, false, false, false, false, true, true, true, true, false, true, false, false, false, false, false, false, false, false] rfl rfl (any_of HT_.out (by kernel_rfl)) (fun _ _ _ h => h) (Or.inl ⟨by rfl, ?_⟩) ?_ ?_
           rotate_left
           ·
            intro w'
            go_simp
            with_reducible rfl
           rotate_left
           ·
            simp only [Act.put, List.setIfInBounds_toArray, List.set_cons_zero, List.set_cons_succ, i64_w, i32_w]
            rfl
           refine take_ (i := 4) (N := some 73) (v := ?_) (a' := ?_) #[true, true, true, true, true, false, false, false, true, true, true, true, false, true, false, false, false, false, false, false, false, false] rfl rfl (take_ofW HT_.out HW_.out (by kernel_rfl)) (fun _ _ _ h => h) (Or.inl ⟨by rfl, ?_⟩) hHeld ?_ ?_
           rotate_left
           ·
            rintro w' ⟨s0, s1, s2, s3, s4⟩
            go_simp
            with_reducible rfl
           rotate_left
           ·
            simp only [Act.put, List.setIfInBounds_toArray, List.set_cons_zero, List.set_cons_succ, i64_w, i32_w]
            rfl
           refine pure_ (i := 5) (N := some 74) (v := ?_) (a' := ?_) #[true, true, true, true, true, true, false, false, true, true, true, true, false, true, false, false, false, false, false, false, false, false] rfl rfl (any_of HT_.out (by kernel_rfl)) (fun _ _ _ h => h) (Or.inl ⟨by rfl, ?_⟩) ?_ ?_
           rotate_left
           ·
            intro w'
            go_simp
            with_reducible rfl
           rotate_left
           ·
            simp only [Act.put, List.setIfInBounds_toArray, List.set_cons_zero, List.set_cons_succ, i64_w, i32_w]
            rfl
           refine take_ (i := 6) (N := some 75) (v := ?_) (a' := ?_) #[true, true, true, true, true, true, true, false, true, true, true, true, false, true, false, false, false, false, false, false, false, false] rfl rfl (take_ofW HT_.out HW_.out (by kernel_rfl)) (fun _ _ _ h => h) (Or.inl ⟨by rfl, ?_⟩) hHeld ?_ ?_
           rotate_left
           ·
            rintro w' ⟨s0, s1, s2, s3, s4⟩
            go_simp
            with_reducible rfl
           rotate_left
           ·
            simp only [Act.put, List.setIfInBounds_toArray, List.set_cons_zero, List.set_cons_succ, i64_w, i32_w]
            rfl
           refine pure_ (i := 7) (N := some 76) (v := ?_) (a' := ?_) #[true, true, true, true, true, true, true, true, true, true, true, true, false, true, false, false, false, false, false, false, false, false] rfl rfl (any_of HT_.out (by kernel_rfl)) (fun _ _ _ h => h) (Or.inl ⟨by rfl, ?_⟩) ?_ ?_
           rotate_left
           ·
            intro w'
            go_simp
            with_reducible rfl
           rotate_left
           ·
            simp only [Act.put, List.setIfInBounds_toArray, List.set_cons_zero, List.set_cons_succ, i64_w, i32_w]
            rfl
           refine pure_ (i := 20) (N := some 14) (v := ?_) (a' := ?_) #[true, true, true, true, true, true, true, true, true, true, true, true, false, true, false, false, false, false, false, false, true, false] rfl rfl (any_of HT_.out (by kernel_rfl)) (fun _ _ _ h => h) (Or.inl ⟨by rfl, ?_⟩) ?_ ?_
           rotate_left
           ·
            intro w'
            go_simp
            with_reducible rfl
           rotate_left
           ·
            simp only [Act.put, List.setIfInBounds_toArray, List.set_cons_zero, List.set_cons_succ, i64_w, i32_w]
            rfl
           refine take_ (i := 12) (N := some 81) (v := ?_) (a' := ?_) #[true, true, true, true, true, true, true, true, true, true, true, true, true, true, false, false, false, false, false, false, true, false] rfl rfl (take_ofW HT_.out HW_.out (by kernel_rfl)) (fun _ _ _ h => h) (Or.inl ⟨by rfl, ?_⟩) hHeld ?_ ?_
           rotate_left
           ·
            rintro w' ⟨s0, s1, s2, s3, s4⟩
            go_simp
            with_reducible rfl
           rotate_left
           ·
            simp only [Act.put, List.setIfInBounds_toArray, List.set_cons_zero, List.set_cons_succ, i64_w, i32_w]
            rfl
           refine take_ (i := 14) (N := some 83) (v := ?_) (a' := ?_) #[true, true, true, true, true, true, true, true, true, true, true, true, true, true, true, false, false, false, false, false, true, false] rfl rfl (take_ofW HT_.out HW_.out (by kernel_rfl)) (fun _ _ _ h => h) (Or.inl ⟨by rfl, ?_⟩) hHeld ?_ ?_
           rotate_left
           ·
            rintro w' ⟨s0, s1, s2, s3, s4⟩
            go_simp
            with_reducible rfl
           rotate_left
           ·
            simp only [Act.put, List.setIfInBounds_toArray, List.set_cons_zero, List.set_cons_succ, i64_w, i32_w]
            rfl
           refine pure_ (i := 15) (N := some 84) (v := ?_) (a' := ?_) #[true, true, true, true, true, true, true, true, true, true, true, true, true, true, true, true, false, false, false, false, true, false] rfl rfl (any_of HT_.out (by kernel_rfl)) (fun _ _ _ h => h) (Or.inl ⟨by rfl, ?_⟩) ?_ ?_
           rotate_left
           ·
            intro w'
            go_simp
            with_reducible rfl
           rotate_left
           ·
            simp only [Act.put, List.setIfInBounds_toArray, List.set_cons_zero, List.set_cons_succ, i64_w, i32_w]
            rfl
           refine pure_ (i := 16) (N := some 85) (v := ?_) (a' := ?_) #[true, true, true, true, true, true, true, true, true, true, true, true, true, true, true, true, true, false, false, false, true, false] rfl rfl (any_of HT_.out (by kernel_rfl)) (fun _ _ _ h => h) (Or.inl ⟨by rfl, ?_⟩) ?_ ?_
           rotate_left
           ·
            intro w'
            go_simp
            with_reducible rfl
           rotate_left
           ·
            simp only [Act.put, List.setIfInBounds_toArray, List.set_cons_zero, List.set_cons_succ, i64_w, i32_w]
            rfl
           refine pure_ (i := 17) (N := some 86) (v := ?_) (a' := ?_) #[true, true, true, true, true, true, true, true, true, true, true, true, true, true, true, true, true, true, false, false, true, false] rfl rfl (any_of HT_.out (by kernel_rfl)) (fun _ _ _ h => h) (Or.inl ⟨by rfl, ?_⟩) ?_ ?_
           rotate_left
           ·
            intro w'
            go_simp
            with_reducible rfl
           rotate_left
           ·
            simp only [Act.put, List.setIfInBounds_toArray, List.set_cons_zero, List.set_cons_succ, i64_w, i32_w]
            rfl
           refine take_ (i := 18) (N := some 87) (v := ?_) (a' := ?_) #[true, true, true, true, true, true, true, true, true, true, true, true, true, true, true, true, true, true, true, false, true, false] rfl rfl (take_ofW HT_.out HW_.out (by kernel_rfl)) (fun _ _ _ h => h) (Or.inl ⟨by rfl, ?_⟩) hHeld ?_ ?_
           rotate_left
           ·
            rintro w' ⟨s0, s1, s2, s3, s4⟩
            go_simp
            with_reducible rfl
           rotate_left
           ·
            simp only [Act.put, List.setIfInBounds_toArray, List.set_cons_zero, List.set_cons_succ, i64_w, i32_w]
            rfl
           refine pure_ (i := 19) (N := some 88) (v := ?_) (a' := ?_) #[true, true, true, true, true, true, true, true, true, true, true, true, true, true, true, true, true, true, true, true, true, false] rfl rfl (any_of HT_.out (by kernel_rfl)) (fun _ _ _ h => h) (Or.inl ⟨by rfl, ?_⟩) ?_ ?_
           rotate_left
           ·
            intro w'
            go_simp
            with_reducible rfl
           rotate_left
           ·
            simp only [Act.put, List.setIfInBounds_toArray, List.set_cons_zero, List.set_cons_succ, i64_w, i32_w]
            rfl
           refine pure_ (i := 21) (N := some 15) (v := ?_) (a' := ?_) #[true, true, true, true, true, true, true, true, true, true, true, true, true, true, true, true, true, true, true, true, true, true] rfl rfl (any_of HT_.out (by kernel_rfl)) (fun _ _ _ h => h) (Or.inl ⟨by rfl, ?_⟩) ?_ ?_
           rotate_left
           ·
            intro w'
            go_simp
            with_reducible rfl
           rotate_left
           ·
            simp only [Act.put, List.setIfInBounds_toArray, List.set_cons_zero, List.set_cons_succ, i64_w, i32_w]
            rfl
           refine done_ (done_of HT_.out (by kernel_rfl)) ?_
           try go_wp2
           have n0_ := Aside0.mk (blk_drew BK256.out)
           have n1_ := Aside0.mk (blk_drew BK257.out)
           have n2_ := Aside0.mk (below_drew1 HB.out)
           clear BK256
           clear BK257
           clear HB
           have BK256 := n0_
           have BK257 := n1_
           have HB := n2_
           clear n0_ n1_ n2_
           refine start_ (n := 11) (S := fun w' => w'.cell? ⟨gb256, 0, none⟩ = some (.slice (some ad261) l0_0.length c0_0) ∧ w'.cell? ⟨gb256, 1, none⟩ = some (.slice (some ad263) l0_1.length c0_1) ∧ w'.cell? ⟨gb256, 2, none⟩ = some (.slice A0_2 l0_2.length c0_2)) (ds := []) #[false, false, false, false, false, false, false, false, false, false, false] (by kernel_rfl) rfl rfl ⟨(blk_cell BK256.out 0).trans rfl, (blk_cell BK256.out 1).trans rfl, (blk_cell BK256.out 2).trans rfl⟩ (fun hHeld => ?_); refine with_tabW spileref19_Around.tab7 spileref19_Around.bits7 (fun HT_ HW_ => ?_)
           generalize w51.drew = w52 at BK256 BK257 HB hHeld ⊢
           refine pure_ (i := 1) (N := some 90) (v := ?_) (a' := ?_) #[false, true, false, false, false, false, false, false, false, false, false] rfl rfl (any_of HT_.out (by kernel_rfl)) (fun _ _ _ h => h) (Or.inl ⟨by rfl, ?_⟩) ?_ ?_
           rotate_left
           ·
            intro w'
            go_simp
            with_reducible rfl
           rotate_left
           ·
            simp only [Act.put, List.setIfInBounds_toArray, List.set_cons_zero, List.set_cons_succ, i64_w, i32_w]
            rfl
           refine pure_ (i := 2) (N := some 91) (v := ?_) (a' := ?_) #[false, true, true, false, false, false, false, false, false, false, false] rfl rfl (any_of HT_.out (by kernel_rfl)) (fun _ _ _ h => h) (Or.inl ⟨by rfl, ?_⟩) ?_ ?_
           rotate_left
           ·
            intro w'
            go_simp
            with_reducible rfl
           rotate_left
           ·
            simp only [Act.put, List.setIfInBounds_toArray, List.set_cons_zero, List.set_cons_succ, i64_w, i32_w]
            rfl
           refine pure_ (i := 5) (N := some 94) (v := ?_) (a' := ?_) #[false, true, true, false, false, true, false, false, false, false, false] rfl rfl (any_of HT_.out (by kernel_rfl)) (fun _ _ _ h => h) (Or.inl ⟨by rfl, ?_⟩) ?_ ?_
           rotate_left
           ·
            intro w'
            go_simp
            with_reducible rfl
           rotate_left
           ·
            simp only [Act.put, List.setIfInBounds_toArray, List.set_cons_zero, List.set_cons_succ, i64_w, i32_w]
            rfl
           refine pure_ (i := 6) (N := some 95) (v := ?_) (a' := ?_) #[false, true, true, false, false, true, true, false, false, false, false] rfl rfl (any_of HT_.out (by kernel_rfl)) (fun _ _ _ h => h) (Or.inl ⟨by rfl, ?_⟩) ?_ ?_
           rotate_left
           ·
            intro w'
            go_simp
            with_reducible rfl
           rotate_left
           ·
            simp only [Act.put, List.setIfInBounds_toArray, List.set_cons_zero, List.set_cons_succ, i64_w, i32_w]
            rfl
           refine take_ (i := 0) (N := some 89) (v := ?_) (a' := ?_) #[true, true, true, false, false, true, true, false, false, false, false] rfl rfl (take_ofW HT_.out HW_.out (by kernel_rfl)) (fun _ _ _ h => h) (Or.inl ⟨by rfl, ?_⟩) hHeld ?_ ?_
           rotate_left
           ·
            rintro w' ⟨s0, s1, s2⟩
            go_simp
            with_reducible rfl
           rotate_left
           ·
            simp only [Act.put, List.setIfInBounds_toArray, List.set_cons_zero, List.set_cons_succ, i64_w, i32_w]
            rfl
           refine take_ (i := 4) (N := some 93) (v := ?_) (a' := ?_) #[true, true, true, false, true, true, true, false, false, false, false] rfl rfl (take_ofW HT_.out HW_.out (by kernel_rfl)) (fun _ _ _ h => h) (Or.inl ⟨by rfl, ?_⟩) hHeld ?_ ?_
           rotate_left
           ·
            rintro w' ⟨s0, s1, s2⟩
            go_simp
            with_reducible rfl
           rotate_left
           ·
            simp only [Act.put, List.setIfInBounds_toArray, List.set_cons_zero, List.set_cons_succ, i64_w, i32_w]
            rfl
           refine one_ (i := 3) (N := some 92) #[true, true, true, true, true, true, true, false, false, false, false] rfl rfl (one_of HT_.out (by kernel_rfl)) (by decide) (fun K hK => ?_)
           refine goes_ Tryd.func30 (by kernel_rfl) rfl #[.agg #[.slice (some ad261) l0_0.length c0_0, .slice (some ad263) l0_1.length c0_1, .slice A0_2 l0_2.length c0_2], .int .i64 ji41, .int .i64 ji43] (by rfl) rfl rfl (by (try simp only [List.map_toArray, List.map_cons, List.map_nil]); first | done | (simp only [hji41, hji43]; rfl) | rfl | (simp only [List.length_drop, List.length_take]; rfl)) ?_
           with_reducible refine (spileref19_At.calls kj7 _ _ l0_0 _ _ l0_1 _ _ l0_2 ji41 ji43 t265 _ ?side1 ?side2 ?side3 ?side4 ?side5 ?side6 A48.out).mono ?_
           (case side1 => repeat (first | exact (Kd.C_below HR0_0.out HB.out) | (with_reducible refine Kd.C_alloc ?_ _) | (with_reducible refine Kd.C_drewN ?_ _) | (with_reducible refine Kd.C_drew ?_)))
           (case side2 => exact HC0_0.out)
           (case side3 => repeat (first | exact (Kd.C_below HR0_1.out HB.out) | (with_reducible refine Kd.C_alloc ?_ _) | (with_reducible refine Kd.C_drewN ?_ _) | (with_reducible refine Kd.C_drew ?_)))
           (case side4 => exact HC0_1.out)
           (case side5 => repeat (first | exact (Kd.C_below HR0_2.out HB.out) | (with_reducible refine Kd.C_alloc ?_ _) | (with_reducible refine Kd.C_drewN ?_ _) | (with_reducible refine Kd.C_drew ?_)))
           (case side6 => exact HC0_2.out)
           rintro e w53 ⟨rfl, hb⟩
           refine ⟨_, rfl, ?_⟩
           have n0_ := Aside0.mk (blk_below (g := gb256) (o := .cells #[.slice (some ad261) l0_0.length c0_0, .slice (some ad263) l0_1.length c0_1, .slice A0_2 l0_2.length c0_2] 25 (0, 0)) (by (with_reducible repeat (first | refine blk_drewN ?_ _ | refine blk_drew ?_ | refine blk_alloc ?_ _)); exact BK256.out) hb)
           have n1_ := Aside0.mk (blk_below (g := gb257) (o := .cells #[.int .i64 0, .int .i64 0] 29 (0, 0)) (by (with_reducible repeat (first | refine blk_drewN ?_ _ | refine blk_drew ?_ | refine blk_alloc ?_ _)); exact BK257.out) hb)
           have n2_ := Aside0.mk (below_step (by repeat (first | (with_reducible first | exact HB.out | apply below_alloc | apply pw_below_drewN | apply below_drew1 | refine below_set ?_ GE256.out | refine below_set ?_ GE257.out) | exact HB.out)) hb)
           clear BK256
           clear BK257
           clear HB
           have BK256 := n0_
           have BK257 := n1_
           have HB := n2_
           clear n0_ n1_ n2_
           (try clear hb)
           (try clear hb2)
           (try clear hk)
           (try clear hi)
           refine hK.out _ _ ⟨(blk_cell BK256.out 0).trans rfl, (blk_cell BK256.out 1).trans rfl, (blk_cell BK256.out 2).trans rfl⟩ (fun hHeld => ?_)
           clear hK K
           refine norm_ (a' := ?_) ?_ ?_
           rotate_left
           ·
            show Act.put _ (some 92) _ = _
            simp only [Act.put, List.setIfInBounds_toArray, List.set_cons_zero, List.set_cons_succ, i64_w, i32_w]
            rfl
           refine one_ (i := 7) (N := some 96) #[true, true, true, true, true, true, true, true, false, false, false] rfl rfl (one_of HT_.out (by kernel_rfl)) (by decide) (fun K hK => ?_)
           refine goes_ Tryd.func30 (by kernel_rfl) rfl #[.agg #[.slice (some ad261) l0_0.length c0_0, .slice (some ad263) l0_1.length c0_1, .slice A0_2 l0_2.length c0_2], .int .i64 ji37, .int .i64 ji47] (by rfl) rfl rfl (by (try simp only [List.map_toArray, List.map_cons, List.map_nil]); first | done | (simp only [hji37, hji47]; rfl) | rfl | (simp only [List.length_drop, List.length_take]; rfl)) ?_
           with_reducible refine (spileref19_At.calls kj7 _ _ l0_0 _ _ l0_1 _ _ l0_2 ji37 ji47 t266 _ ?side1 ?side2 ?side3 ?side4 ?side5 ?side6 A49.out).mono ?_
           (case side1 => repeat (first | exact (Kd.C_below HR0_0.out HB.out) | (with_reducible refine Kd.C_alloc ?_ _) | (with_reducible refine Kd.C_drewN ?_ _) | (with_reducible refine Kd.C_drew ?_)))
           (case side2 => exact HC0_0.out)
           (case side3 => repeat (first | exact (Kd.C_below HR0_1.out HB.out) | (with_reducible refine Kd.C_alloc ?_ _) | (with_reducible refine Kd.C_drewN ?_ _) | (with_reducible refine Kd.C_drew ?_)))
           (case side4 => exact HC0_1.out)
           (case side5 => repeat (first | exact (Kd.C_below HR0_2.out HB.out) | (with_reducible refine Kd.C_alloc ?_ _) | (with_reducible refine Kd.C_drewN ?_ _) | (with_reducible refine Kd.C_drew ?_)))
           (case side6 => exact HC0_2.out)
           rintro e w54 ⟨rfl, hb⟩
           refine ⟨_, rfl, ?_⟩
           have n0_ := Aside0.mk (blk_below (g := gb256) (o := .cells #[.slice (some ad261) l0_0.length c0_0, .slice (some ad263) l0_1.length c0_1, .slice A0_2 l0_2.length c0_2] 25 (0, 0)) (by (with_reducible repeat (first | refine blk_drewN ?_ _ | refine blk_drew ?_ | refine blk_alloc ?_ _)); exact BK256.out) hb)
           have n1_ := Aside0.mk (blk_below (g := gb257) (o := .cells #[.int .i64 0, .int .i64 0] 29 (0, 0)) (by (with_reducible repeat (first | refine blk_drewN ?_ _ | refine blk_drew ?_ | refine blk_alloc ?_ _)); exact BK257.out) hb)
           have n2_ := Aside0.mk (below_step (by repeat (first | (with_reducible first | exact HB.out | apply below_alloc | apply pw_below_drewN | apply below_drew1 | refine below_set ?_ GE256.out | refine below_set ?_ GE257.out) | exact HB.out)) hb)
           clear BK256
           clear BK257
           clear HB
           have BK256 := n0_
           have BK257 := n1_
           have HB := n2_
           clear n0_ n1_ n2_
           (try clear hb)
           (try clear hb2)
           (try clear hk)
           (try clear hi)
           refine hK.out _ _ ⟨(blk_cell BK256.out 0).trans rfl, (blk_cell BK256.out 1).trans rfl, (blk_cell BK256.out 2).trans rfl⟩ (fun hHeld => ?_)
           clear hK K
           refine norm_ (a' := ?_) ?_ ?_
           rotate_left
           ·
            show Act.put _ (some 96) _ = _
            simp only [Act.put, List.setIfInBounds_toArray, List.set_cons_zero, List.set_cons_succ, i64_w, i32_w]
            rfl
           refine pure_ (i := 8) (N := some 97) (v := ?_) (a' := ?_) #[true, true, true, true, true, true, true, true, true, false, false] rfl rfl (any_of HT_.out (by kernel_rfl)) (fun _ _ _ h => h) (Or.inl ⟨by rfl, ?_⟩) ?_ ?_
           rotate_left
           ·
            intro w'
            go_simp
            with_reducible rfl
           rotate_left
           ·
            simp only [Act.put, List.setIfInBounds_toArray, List.set_cons_zero, List.set_cons_succ, i64_w, i32_w]
            rfl
           refine one_ (i := 9) (N := none) #[true, true, true, true, true, true, true, true, true, true, false] rfl rfl (one_of HT_.out (by kernel_rfl)) (by decide) (fun K hK => ?_)
           have hs55 : w54.cell? ⟨gb257, 0, none⟩ = some (.int .i64 0) := (blk_cell BK257.out 0).trans rfl
           have hfs55 := blk_frozen BK257.out 0
           have hns55_0 := NB256_257.out
           have hms55_0 := NB257_256.out
           have hs56 : w54.cell? ⟨gb257, 1, none⟩ = some (.int .i64 0) := (blk_cell BK257.out 1).trans rfl
           have hfs56 := blk_frozen BK257.out 1
           have hns56_0 := NB256_257.out
           have hms56_0 := NB257_256.out
           refine skip_ (w1 := ?_) (by rfl) rfl ?_ ?_
           rotate_left
           ·
            go_simp
            rfl
           refine hK.out _ _ ⟨((cell_far (p := ⟨gb257, _, none⟩) NB256_257.out _).trans (((cell_far (p := ⟨gb257, _, none⟩) NB256_257.out _).trans (hHeld.1)))), ((cell_far (p := ⟨gb257, _, none⟩) NB256_257.out _).trans (((cell_far (p := ⟨gb257, _, none⟩) NB256_257.out _).trans (hHeld.2.1)))), ((cell_far (p := ⟨gb257, _, none⟩) NB256_257.out _).trans (((cell_far (p := ⟨gb257, _, none⟩) NB256_257.out _).trans (hHeld.2.2))))⟩ (fun hHeld => ?_)
           clear hK K
           refine pure_ (i := 10) (N := some 11) (v := ?_) (a' := ?_) #[true, true, true, true, true, true, true, true, true, true, true] rfl rfl (any_of HT_.out (by kernel_rfl)) (fun _ _ _ h => h) (Or.inl ⟨by rfl, ?_⟩) ?_ ?_
           rotate_left
           ·
            intro w'
            go_simp
            with_reducible rfl
           rotate_left
           ·
            simp only [Act.put, List.setIfInBounds_toArray, List.set_cons_zero, List.set_cons_succ, i64_w, i32_w]
            rfl
           refine done_ (done_of HT_.out (by kernel_rfl)) ?_
           try go_wp2
           refine bodyPost_ret (results_ct rfl _ _ gb257 29 #[.int .i64 t265, .int .i64 t266] (0, 0) _ rfl (by (with_reducible repeat (first | refine blk_drewN ?_ _ | refine blk_drew ?_ | refine blk_alloc ?_ _)); refine blk_put (cs := #[.int .i64 t265, .int .i64 0]) ?_ 1 _ rfl; (with_reducible repeat (first | refine blk_drewN ?_ _ | refine blk_drew ?_ | refine blk_alloc ?_ _)); refine blk_put (cs := #[.int .i64 0, .int .i64 0]) ?_ 0 _ rfl; (with_reducible repeat (first | refine blk_drewN ?_ _ | refine blk_drew ?_ | refine blk_alloc ?_ _)); exact BK257.out) Tryd.underlying29 rfl (by kernel_rfl)) rfl ?_
           exact ⟨by first | rfl | (simp [errW_none, errW_some] <;> rfl) | (simp only [← hji37, ← hji38, ← hji41, ← hji43, ← hji44, ← hji47]; first | rfl | (simp [errW_none, errW_some] <;> rfl)) | (simp [*, errW_none, errW_some] <;> rfl), by repeat (first | (with_reducible first | exact HB.out | apply below_alloc | apply pw_below_drewN | apply below_drew1 | refine below_set ?_ GE256.out | refine below_set ?_ GE257.out) | exact HB.out)⟩
          ·
           rw [if_neg c46] at H
           exact absurd H (by simp)
         ·
          rw [if_neg c45] at H
          exact absurd H (by simp)
        ·
         rw [if_neg c42] at H
         exact absurd H (by simp)
       ·
        rw [if_neg c40] at H
        exact absurd H (by simp)
      ·
       rw [if_neg c39] at H
       exact absurd H (by simp)
     ·
      rw [if_neg c36] at H
      exact absurd H (by simp)
 ·
  rw [if_neg c7] at H
  have c7b0 : (t258 == 0) = false := beq_eq_false_iff_ne.mpr c7
  have c7b1 : (t258 != 0) = true := bne_iff_ne.mpr c7
  simp only [Option.some.injEq, Prod.mk.injEq] at H
  obtain ⟨rfl, rfl, rfl⟩ := H
  go_enter Tryd.func13, Tryd.ntmps13
  go_wp2_with (first | ((with_reducible refine gate_dst (N := 5) rfl ?_); refine box_event ?hg (N := 5) ?hd (cs := #[.slice A0_0 l0_0.length c0_0, .slice A0_1 l0_1.length c0_1, .slice A0_2 l0_2.length c0_2]) (t := 25) ?hr ?_; (case hd => rfl); (case hg => rfl); (case hr => first | (go_simp; done) | (go_simp; rfl)); intro gb256 hg w57 hbox hb; have n0_ := Aside0.mk (below_step (by repeat (first | (with_reducible first | exact HB.out | apply below_alloc | apply pw_below_drewN | apply below_drew1) | exact HB.out)) hb); have n1_ := Aside0.mk (hbox); have n2_ := Aside0.mk ((by rw [hg]; exact (below_size (by repeat (first | (with_reducible first | exact HB.out | apply below_alloc | apply pw_below_drewN | apply below_drew1) | exact HB.out))) : w.heap.size ≤ gb256)); have n3_ := Aside0.mk ((by rw [hg]; exact (below_size (by repeat (first | (with_reducible first | exact HB.out | apply below_alloc | apply pw_below_drewN | apply below_drew1) | exact HB.out))) : w.heap.size ≤ gb256)); clear HB; have HB := n0_; have BK256 := n1_; have GW256 := n2_; have GE256 := n3_; clear n0_ n1_ n2_ n3_; clear hb hbox hg) | ((with_reducible refine gate_dst (N := 10) rfl ?_); refine box_event ?hg (N := 10) ?hd (cs := #[.int .i64 0, .int .i64 0]) (t := 29) ?hr ?_; (case hd => rfl); (case hg => rfl); (case hr => first | (go_simp; done) | (go_simp; rfl)); intro gb257 hg w58 hbox hb; have n0_ := Aside0.mk (blk_below (g := gb256) (o := .cells #[.slice A0_0 l0_0.length c0_0, .slice A0_1 l0_1.length c0_1, .slice A0_2 l0_2.length c0_2] 25 (0, 0)) (by (with_reducible repeat (first | refine blk_drewN ?_ _ | refine blk_drew ?_ | refine blk_alloc ?_ _)); exact BK256.out) hb); have n1_ := Aside0.mk (below_step (by repeat (first | (with_reducible first | exact HB.out | apply below_alloc | apply pw_below_drewN | apply below_drew1 | refine below_set ?_ GE256.out) | exact HB.out)) hb); have n2_ := Aside0.mk (hbox); have n3_ := Aside0.mk ((by rw [hg]; exact (below_size (by repeat (first | (with_reducible first | exact HB.out | apply below_alloc | apply pw_below_drewN | apply below_drew1 | refine below_set ?_ GE256.out) | exact HB.out))) : w.heap.size ≤ gb257)); have n4_ := Aside0.mk ((by rw [hg]; exact (below_size (by repeat (first | (with_reducible first | exact HB.out | apply below_alloc | apply pw_below_drewN | apply below_drew1 | refine below_set ?_ GE256.out) | exact HB.out))) : w.heap.size ≤ gb257)); have n5_ := Aside0.mk ((by rw [hg]; exact Nat.ne_of_lt (blk_lt (g := gb256) (o := .cells #[.slice A0_0 l0_0.length c0_0, .slice A0_1 l0_1.length c0_1, .slice A0_2 l0_2.length c0_2] 25 (0, 0)) (by (with_reducible repeat (first | refine blk_drewN ?_ _ | refine blk_drew ?_ | refine blk_alloc ?_ _)); exact BK256.out)) : gb256 ≠ gb257)); have n6_ := Aside0.mk ((by rw [hg]; exact Nat.ne_of_gt (blk_lt (g := gb256) (o := .cells #[.slice A0_0 l0_0.length c0_0, .slice A0_1 l0_1.length c0_1, .slice A0_2 l0_2.length c0_2] 25 (0, 0)) (by (with_reducible repeat (first | refine blk_drewN ?_ _ | refine blk_drew ?_ | refine blk_alloc ?_ _)); exact BK256.out)) : gb257 ≠ gb256)); clear BK256; clear HB; have BK256 := n0_; have HB := n1_; have BK257 := n2_; have GW257 := n3_; have GE257 := n4_; have NB256_257 := n5_; have NB257_256 := n6_; clear n0_ n1_ n2_ n3_ n4_ n5_ n6_; clear hb hbox hg; have hnb59 := NB256_257.out; have hnc59 := NB257_256.out; have hcz60_0 : w58.cell? ⟨gb256, 0, none⟩ = some (.slice A0_0 l0_0.length c0_0) := (blk_cell BK256.out 0).trans rfl; have hcz60_1 : w58.cell? ⟨gb256, 1, none⟩ = some (.slice A0_1 l0_1.length c0_1) := (blk_cell BK256.out 1).trans rfl; have hcz60_2 : w58.cell? ⟨gb256, 2, none⟩ = some (.slice A0_2 l0_2.length c0_2) := (blk_cell BK256.out 2).trans rfl; have hfz60_0 := blk_frozen BK256.out 0; have hfz60_1 := blk_frozen BK256.out 1; have hfz60_2 := blk_frozen BK256.out 2) | ((with_reducible refine gate_callee (f := 19) rfl ?_); refine goesL_ (some 17) rfl rfl Tryd.func19 (by kernel_rfl) rfl #[.agg #[.slice A0_0 l0_0.length c0_0, .slice A0_1 l0_1.length c0_1, .slice A0_2 l0_2.length c0_2]] rfl (by (try simp only [List.map_toArray, List.map_cons, List.map_nil]); first | done | rfl | (simp only [List.length_drop, List.length_take]; rfl)) ?_; (with_reducible refine (spileref19_Check.calls k _ _ l0_0 _ _ l0_1 _ _ l0_2 t258 _ ?side1 ?side2 ?side3 ?side4 ?side5 ?side6 A6.out).mono ?_); (case side1 => repeat (first | exact (Kd.C_below HR0_0.out HB.out) | (with_reducible refine Kd.C_alloc ?_ _) | (with_reducible refine Kd.C_drewN ?_ _) | (with_reducible refine Kd.C_drew ?_))); (case side2 => exact HC0_0.out); (case side3 => repeat (first | exact (Kd.C_below HR0_1.out HB.out) | (with_reducible refine Kd.C_alloc ?_ _) | (with_reducible refine Kd.C_drewN ?_ _) | (with_reducible refine Kd.C_drew ?_))); (case side4 => exact HC0_1.out); (case side5 => repeat (first | exact (Kd.C_below HR0_2.out HB.out) | (with_reducible refine Kd.C_alloc ?_ _) | (with_reducible refine Kd.C_drewN ?_ _) | (with_reducible refine Kd.C_drew ?_))); (case side6 => exact HC0_2.out); rintro e w61 ⟨rfl, hb⟩; refine ⟨_, rfl, ?_⟩; have n0_ := Aside0.mk (blk_below (g := gb256) (o := .cells #[.slice A0_0 l0_0.length c0_0, .slice A0_1 l0_1.length c0_1, .slice A0_2 l0_2.length c0_2] 25 (0, 0)) (by (with_reducible repeat (first | refine blk_drewN ?_ _ | refine blk_drew ?_ | refine blk_alloc ?_ _)); exact BK256.out) hb); have n1_ := Aside0.mk (blk_below (g := gb257) (o := .cells #[.int .i64 0, .int .i64 0] 29 (0, 0)) (by (with_reducible repeat (first | refine blk_drewN ?_ _ | refine blk_drew ?_ | refine blk_alloc ?_ _)); exact BK257.out) hb); have n2_ := Aside0.mk (below_step (by repeat (first | (with_reducible first | exact HB.out | apply below_alloc | apply pw_below_drewN | apply below_drew1 | refine below_set ?_ GE256.out | refine below_set ?_ GE257.out) | exact HB.out)) hb); clear BK256; clear BK257; clear HB; have BK256 := n0_; have BK257 := n1_; have HB := n2_; clear n0_ n1_ n2_; (try clear hb); (try clear hb2); (try clear hk); (try clear hi); have hcz62_0 : w61.cell? ⟨gb257, 0, none⟩ = some (.int .i64 0) := (blk_cell BK257.out 0).trans rfl; have hcz62_1 : w61.cell? ⟨gb257, 1, none⟩ = some (.int .i64 0) := (blk_cell BK257.out 1).trans rfl; have hfz62_0 := blk_frozen BK257.out 0; have hfz62_1 := blk_frozen BK257.out 1))
  refine bodyPost_ret (results_ct rfl _ _ gb257 29 #[.int .i64 0, .int .i64 0] (0, 0) _ rfl (by (with_reducible repeat (first | refine blk_drewN ?_ _ | refine blk_drew ?_ | refine blk_alloc ?_ _)); refine blk_put (cs := #[.int .i64 0, .int .i64 0]) ?_ 1 _ rfl; (with_reducible repeat (first | refine blk_drewN ?_ _ | refine blk_drew ?_ | refine blk_alloc ?_ _)); refine blk_put (cs := #[.int .i64 0, .int .i64 0]) ?_ 0 _ rfl; (with_reducible repeat (first | refine blk_drewN ?_ _ | refine blk_drew ?_ | refine blk_alloc ?_ _)); exact BK257.out) Tryd.underlying29 rfl (by kernel_rfl)) rfl ?_
  exact ⟨by first | rfl | (simp [errW_none, errW_some] <;> rfl) | (simp [*, errW_none, errW_some] <;> rfl), by repeat (first | (with_reducible first | exact HB.out | apply below_alloc | apply pw_below_drewN | apply below_drew1 | refine below_set ?_ GE256.out | refine below_set ?_ GE257.out) | exact HB.out)⟩
end Go.Proofs.YtmdfnambaedllaaDoor.Pr
