/-
A part of what these laws rest on: contracts of the functions that they reach, and plain lemmas.
-/
import Derived.Test.YtgjoenoknknoiaaDoorLotPutsE
set_option linter.unusedVariables false
set_option linter.unusedSimpArgs false
namespace Go.Proofs.YtgjoenoknknoiaaDoor.Pr
open Go.RowKit Go.Proofs.YtgjoenoknknoiaaDoorW.PrintWords Go.Proofs.YtgjoenoknknoiaaDoorW.PrintLast Go.Proofs.YtgjoenoknknoiaaDoorW.PrintMore Go.Proofs.YtgjoenoknknoiaaDoor.X
attribute [local go_sem] max2_int min2_int max_two min_two max_three min_three max_four min_four   -- for this text's walks alone
set_option linter.unusedVariables false
set_option linter.unusedSimpArgs false
attribute [local go_sem high] eqA26
def spileref22_Empty.f (a0_0 : Int) (a0_1 : Int) (a0_2 : Int) (l0_3 : List (S35)) : Option (Bool) := if (a0_1 == 0 && (a0_2 == 0)) = true then (some ((l0_3.length : Int) == 0)) else (some false)
set_option maxHeartbeats 8000000 in
set_option maxRecDepth 100000 in
theorem spileref22_Empty.calls (a0_0 : Int) (a0_1 : Int) (a0_2 : Int) (A0_3 : Option Addr) (c0_3 : Nat) (l0_3 : List (S35)) (r : Bool) (w : World) (hr0_3 : Kd.C k35 w A0_3 l0_3.length l0_3) (hc0_3 : l0_3.length ≤ c0_3) (h : spileref22_Empty.f a0_0 a0_1 a0_2 l0_3 = some r) :
  Calls Tryd.prog 46 #[.agg #[.int .i64 a0_0, .int .i64 a0_1, .int .i64 a0_2, .slice A0_3 l0_3.length c0_3]] w fun e w' => e = .returned (.bool r) ∧ Below w.heap.size w w' := by
 have hu33 := Tryd.underlying33
 have hu26 := Tryd.underlying26
 have HR0_3 := Aside0.mk hr0_3
 have HC0_3 := Aside0.mk hc0_3
 clear hr0_3 hc0_3
 have HB := Aside0.mk (Below.refl w.heap.size w)
 have H : (if (a0_1 == 0 && (a0_2 == 0)) = true then (some ((l0_3.length : Int) == 0)) else (some false)) = some r := h
 clear h
 by_cases c2 : (a0_1 == 0 && (a0_2 == 0)) = true
 ·
  rw [if_pos c2] at H
  have c2b0 : (a0_1 == 0 && (a0_2 == 0)) = true := c2
  (try (have c2b1 : decide (a0_1 = 0 && (a0_2 == 0)) = true := by simpa using c2))
  (try (have c2b2 : (a0_1 == 0 && (a0_2 == 0)) = true := by simpa using c2))
  clear c2
  obtain rfl := Option.some.inj H
  go_enter Tryd.func46, Tryd.ntmps46
  go_wp2_with (first | ((with_reducible refine gate_dst (N := 1) rfl ?_); (try (refine gate_guard (by rfl) ?_; dsimp only)); refine box_event ?hg (N := 1) ?hd (cs := #[.int .i64 a0_0, .int .i64 a0_1, .int .i64 a0_2, .slice A0_3 l0_3.length c0_3]) (t := 33) ?hr ?_; (case hd => rfl); (case hg => rfl); (case hr => first | (go_simp; done) | (go_simp; rfl)); intro gb321 hg w3 hbox hb; have n0_ := Aside0.mk (below_step (by repeat (first | (with_reducible first | exact HB.out | apply below_alloc | apply pw_below_drewN | apply below_drew1) | exact HB.out)) hb); have n1_ := Aside0.mk (hbox); have n2_ := Aside0.mk ((by rw [hg]; exact (below_size (by repeat (first | (with_reducible first | exact HB.out | apply below_alloc | apply pw_below_drewN | apply below_drew1) | exact HB.out))) : w.heap.size ≤ gb321)); have n3_ := Aside0.mk ((by rw [hg]; exact (below_size (by repeat (first | (with_reducible first | exact HB.out | apply below_alloc | apply pw_below_drewN | apply below_drew1) | exact HB.out))) : w.heap.size ≤ gb321)); clear HB; have HB := n0_; have BK321 := n1_; have GW321 := n2_; have GE321 := n3_; clear n0_ n1_ n2_ n3_; clear hb hbox hg; have hcz4_0 : w3.cell? ⟨gb321, 0, none⟩ = some (.int .i64 a0_0) := (blk_cell BK321.out 0).trans rfl; have hcz4_1 : w3.cell? ⟨gb321, 1, none⟩ = some (.int .i64 a0_1) := (blk_cell BK321.out 1).trans rfl; have hcz4_2 : w3.cell? ⟨gb321, 2, none⟩ = some (.int .i64 a0_2) := (blk_cell BK321.out 2).trans rfl; have hcz4_3 : w3.cell? ⟨gb321, 3, none⟩ = some (.slice A0_3 l0_3.length c0_3) := (blk_cell BK321.out 3).trans rfl; have hfz4_0 := blk_frozen BK321.out 0; have hfz4_1 := blk_frozen BK321.out 1; have hfz4_2 := blk_frozen BK321.out 2; have hfz4_3 := blk_frozen BK321.out 3))
  go_ret
  exact ⟨by first | rfl | (simp [errW_none, errW_some] <;> rfl) | (simp [*, errW_none, errW_some] <;> rfl), by repeat (first | (with_reducible first | exact HB.out | apply below_alloc | apply pw_below_drewN | apply below_drew1 | refine below_set ?_ GE321.out) | exact HB.out)⟩
 ·
  rw [if_neg c2] at H
  have c2b0 : (a0_1 == 0 && (a0_2 == 0)) = false := by simpa using c2
  (try (have c2b1 : decide (a0_1 = 0 && (a0_2 == 0)) = false := by simpa using c2))
  (try (have c2b2 : (a0_1 == 0 && (a0_2 == 0)) = false := by simpa using c2))
  (try (have c2b3 : ¬ (a0_1 = 0 && (a0_2 == 0)) := by simpa using c2))
  clear c2
  obtain rfl := Option.some.inj H
  go_enter Tryd.func46, Tryd.ntmps46
  go_wp2_with (first | ((with_reducible refine gate_dst (N := 1) rfl ?_); (try (refine gate_guard (by rfl) ?_; dsimp only)); refine box_event ?hg (N := 1) ?hd (cs := #[.int .i64 a0_0, .int .i64 a0_1, .int .i64 a0_2, .slice A0_3 l0_3.length c0_3]) (t := 33) ?hr ?_; (case hd => rfl); (case hg => rfl); (case hr => first | (go_simp; done) | (go_simp; rfl)); intro gb321 hg w5 hbox hb; have n0_ := Aside0.mk (below_step (by repeat (first | (with_reducible first | exact HB.out | apply below_alloc | apply pw_below_drewN | apply below_drew1) | exact HB.out)) hb); have n1_ := Aside0.mk (hbox); have n2_ := Aside0.mk ((by rw [hg]; exact (below_size (by repeat (first | (with_reducible first | exact HB.out | apply below_alloc | apply pw_below_drewN | apply below_drew1) | exact HB.out))) : w.heap.size ≤ gb321)); have n3_ := Aside0.mk ((by rw [hg]; exact (below_size (by repeat (first | (with_reducible first | exact HB.out | apply below_alloc | apply pw_below_drewN | apply below_drew1) | exact HB.out))) : w.heap.size ≤ gb321)); clear HB; have HB := n0_; have BK321 := n1_; have GW321 := n2_; have GE321 := n3_; clear n0_ n1_ n2_ n3_; clear hb hbox hg; have hcz6_0 : w5.cell? ⟨gb321, 0, none⟩ = some (.int .i64 a0_0) := (blk_cell BK321.out 0).trans rfl; have hcz6_1 : w5.cell? ⟨gb321, 1, none⟩ = some (.int .i64 a0_1) := (blk_cell BK321.out 1).trans rfl; have hcz6_2 : w5.cell? ⟨gb321, 2, none⟩ = some (.int .i64 a0_2) := (blk_cell BK321.out 2).trans rfl; have hcz6_3 : w5.cell? ⟨gb321, 3, none⟩ = some (.slice A0_3 l0_3.length c0_3) := (blk_cell BK321.out 3).trans rfl; have hfz6_0 := blk_frozen BK321.out 0; have hfz6_1 := blk_frozen BK321.out 1; have hfz6_2 := blk_frozen BK321.out 2; have hfz6_3 := blk_frozen BK321.out 3))
  go_ret
  exact ⟨by first | rfl | (simp [errW_none, errW_some] <;> rfl) | (simp [*, errW_none, errW_some] <;> rfl), by repeat (first | (with_reducible first | exact HB.out | apply below_alloc | apply pw_below_drewN | apply below_drew1 | refine below_set ?_ GE321.out) | exact HB.out)⟩
mutual
def spileref22_Set.l0 : Nat → List (S33) → List (S33) → Bool → Int → Int → Int → Int → List (S35) → Option ((List (S33)))
 | 0, _, _, _, _, _, _, _, _ => none
 | k + 1, x0, x5, x6, x7, x323000, x323001, x323002, x323003 => if x7 < (x0.length : Int) then (if x6 = true then (spileref22_Set.j1 k x0 x5 x6 x7 false x323000 x323001 x323002 x323003) else (if 0 ≤ x7 then (spileref22_Set.j1 k x0 x5 x6 x7 (decide (((rd_T33 x0 x7).f0) ≥ x323000)) x323000 x323001 x323002 x323003) else (none))) else (if x6 = true then (some x5) else ((spileref22_Copy.f x323000 x323001 x323002 x323003).bind fun bt327 => (if x5.length < 2932031007402 then (some (x5 ++ [(⟨bt327.1, (⟨bt327.2.1, bt327.2.2.1⟩ : S26), bt327.2.2.2⟩ : S33)])) else (none))))
def spileref22_Set.j1 : Nat → List (S33) → List (S33) → Bool → Int → Bool → Int → Int → Int → List (S35) → Option ((List (S33)))
 | 0, _, _, _, _, _, _, _, _, _ => none
 | k + 1, x0, x5, x6, x7, x28, x323000, x323001, x323002, x323003 => if x28 = true then ((spileref22_Copy.f x323000 x323001 x323002 x323003).bind fun bt337 => (if x5.length < 2932031007402 then ((some (x5 ++ [(⟨bt337.1, (⟨bt337.2.1, bt337.2.2.1⟩ : S26), bt337.2.2.2⟩ : S33)] : List (S33))).bind fun y343 => (if 0 ≤ x7 then (if x7 < (x0.length : Int) then (if ((rd_T33 x0 x7).f0) = x323000 then (spileref22_Set.l0 k x0 y343 true (wrap64 (x7 + 1)) x323000 x323001 x323002 x323003) else ((spileref22_Copy.f ((rd_T33 x0 x7).f0) ((rd_T33 x0 x7).f1.f0) ((rd_T33 x0 x7).f1.f1) ((rd_T33 x0 x7).f2)).bind fun bt348 => (if y343.length < 2932031007402 then (spileref22_Set.l0 k x0 (y343 ++ [(⟨bt348.1, (⟨bt348.2.1, bt348.2.2.1⟩ : S26), bt348.2.2.2⟩ : S33)]) true (wrap64 (x7 + 1)) x323000 x323001 x323002 x323003) else (none)))) else (none)) else (none))) else (none))) else (if 0 ≤ x7 then (if x7 < (x0.length : Int) then (if ((rd_T33 x0 x7).f0) = x323000 then (spileref22_Set.l0 k x0 x5 x6 (wrap64 (x7 + 1)) x323000 x323001 x323002 x323003) else ((spileref22_Copy.f ((rd_T33 x0 x7).f0) ((rd_T33 x0 x7).f1.f0) ((rd_T33 x0 x7).f1.f1) ((rd_T33 x0 x7).f2)).bind fun bt359 => (if x5.length < 2932031007402 then (spileref22_Set.l0 k x0 (x5 ++ [(⟨bt359.1, (⟨bt359.2.1, bt359.2.2.1⟩ : S26), bt359.2.2.2⟩ : S33)]) x6 (wrap64 (x7 + 1)) x323000 x323001 x323002 x323003) else (none)))) else (none)) else (none))
end
def spileref22_Set.f (k : Nat) (l0 : List (S33)) (a1_0 : Int) (a1_1 : Int) (a1_2 : Int) (l1_3 : List (S35)) : Option ((List (S33))) := (spileref22_Empty.f a1_0 a1_1 a1_2 l1_3).bind fun t326 => (spileref22_Set.l0 k l0 (([] : List (S33))) t326 0 a1_0 a1_1 a1_2 l1_3)
theorem spileref22_Set.mono_l : ∀ k, (∀ y0 y1 y2 y3 y4 y5 y6 y7, LeO (spileref22_Set.l0 k y0 y1 y2 y3 y4 y5 y6 y7) (spileref22_Set.l0 (k + 1) y0 y1 y2 y3 y4 y5 y6 y7)) ∧ (∀ y0 y1 y2 y3 y4 y5 y6 y7 y8, LeO (spileref22_Set.j1 k y0 y1 y2 y3 y4 y5 y6 y7 y8) (spileref22_Set.j1 (k + 1) y0 y1 y2 y3 y4 y5 y6 y7 y8))
 | 0 => ⟨fun _ _ _ _ _ _ _ _ r h => by simp [spileref22_Set.l0] at h, fun _ _ _ _ _ _ _ _ _ r h => by simp [spileref22_Set.j1] at h⟩
 | k + 1 => by
  obtain ⟨ih0, ih1⟩ := spileref22_Set.mono_l k
  refine ⟨?_, ?_⟩
  ·
   intro y0 y1 y2 y3 y4 y5 y6 y7
   unfold spileref22_Set.l0
   repeat' first
   | (with_reducible exact ih0 _ _ _ _ _ _ _ _)
   | (with_reducible exact ih1 _ _ _ _ _ _ _ _ _)
   | (with_reducible exact LeO.refl _)
   | (with_reducible exact LeO.none _)
   | (with_reducible refine LeO.ite ?_ ?_)
   | (with_reducible refine LeO.bind ?_ (fun _ => ?_))
   | exact ih0 _ _ _ _ _ _ _ _
   | exact ih1 _ _ _ _ _ _ _ _ _
   | exact LeO.none _
   | refine LeO.ite ?_ ?_
   | refine LeO.bind ?_ (fun _ => ?_)
  ·
   intro y0 y1 y2 y3 y4 y5 y6 y7 y8
   unfold spileref22_Set.j1
   repeat' first
   | (with_reducible exact ih0 _ _ _ _ _ _ _ _)
   | (with_reducible exact ih1 _ _ _ _ _ _ _ _ _)
   | (with_reducible exact LeO.refl _)
   | (with_reducible exact LeO.none _)
   | (with_reducible refine LeO.ite ?_ ?_)
   | (with_reducible refine LeO.bind ?_ (fun _ => ?_))
   | exact ih0 _ _ _ _ _ _ _ _
   | exact ih1 _ _ _ _ _ _ _ _ _
   | exact LeO.none _
   | refine LeO.ite ?_ ?_
   | refine LeO.bind ?_ (fun _ => ?_)
theorem spileref22_Set.mono : ∀ a0 a1 a2 a3 a4 k, LeO (spileref22_Set.f k a0 a1 a2 a3 a4) (spileref22_Set.f (k + 1) a0 a1 a2 a3 a4) := by
 intro a0 a1 a2 a3 a4 k
 obtain ⟨ih0, ih1⟩ := spileref22_Set.mono_l k
 unfold spileref22_Set.f
 repeat' first
   | (with_reducible exact ih0 _ _ _ _ _ _ _ _)
   | (with_reducible exact ih1 _ _ _ _ _ _ _ _ _)
   | (with_reducible exact LeO.refl _)
   | (with_reducible exact LeO.none _)
   | (with_reducible refine LeO.ite ?_ ?_)
   | (with_reducible refine LeO.bind ?_ (fun _ => ?_))
   | exact ih0 _ _ _ _ _ _ _ _
   | exact ih1 _ _ _ _ _ _ _ _ _
   | exact LeO.none _
   | refine LeO.ite ?_ ?_
   | refine LeO.bind ?_ (fun _ => ?_)
set_option maxHeartbeats 8000000 in
set_option maxRecDepth 100000 in
theorem spileref22_Set.calls (k : Nat) (A0 : Option Addr) (c0 : Nat) (l0 : List (S33)) (a1_0 : Int) (a1_1 : Int) (a1_2 : Int) (A1_3 : Option Addr) (c1_3 : Nat) (l1_3 : List (S35)) (r : List (S33)) (w : World) (hr0 : Kd.C k33 w A0 l0.length l0) (hc0 : l0.length ≤ c0) (hr1_3 : Kd.C k35 w A1_3 l1_3.length l1_3) (hc1_3 : l1_3.length ≤ c1_3) (h : spileref22_Set.f k l0 a1_0 a1_1 a1_2 l1_3 = some r) :
  Calls Tryd.prog 47 #[.slice A0 l0.length c0, .agg #[.int .i64 a1_0, .int .i64 a1_1, .int .i64 a1_2, .slice A1_3 l1_3.length c1_3]] w fun e w' => ∃ v0_ : Value, e = .returned (v0_) ∧ Kd.S k33 33 w' w.heap.size (fun _ => True) v0_ r ∧ Below w.heap.size w w' := by
 have hu33 := Tryd.underlying33
 have HR0 := Aside0.mk hr0
 have HC0 := Aside0.mk hc0
 clear hr0 hc0
 have HR1_3 := Aside0.mk hr1_3
 have HC1_3 := Aside0.mk hc1_3
 clear hr1_3 hc1_3
 have HB := Aside0.mk (Below.refl w.heap.size w)
 have H : ((spileref22_Empty.f a1_0 a1_1 a1_2 l1_3).bind fun t326 => (spileref22_Set.l0 k l0 (([] : List (S33))) t326 0 a1_0 a1_1 a1_2 l1_3)) = some r := h
 clear h
 obtain ⟨y323, hy323⟩ : ∃ y_ : List (S33), y_ = (([] : List (S33))) := ⟨_, rfl⟩
 replace H : ((spileref22_Empty.f a1_0 a1_1 a1_2 l1_3).bind fun t326 => (spileref22_Set.l0 k l0 y323 t326 0 a1_0 a1_1 a1_2 l1_3)) = some r := by first | (rw [hy323]; with_reducible exact H) | (have H2_ := (Option.bind_some _ _).symm.trans H; rw [hy323]; with_reducible exact H2_) | (have H2_ := (Option.bind_some _ _).symm.trans H; with_reducible exact H2_) | with_reducible exact H | (rw [hy323]; exact H) | exact H
 have Ny323 := Aside0.mk hy323
 clear hy323
 replace H := Option.bind_eq_some_iff.mp H
 obtain ⟨t326, A30, H⟩ := H
 replace H : (spileref22_Set.l0 k l0 y323 t326 0 a1_0 a1_1 a1_2 l1_3) = some r := H
 have A3 := Aside0.mk A30
 clear A30
 have H' := Aside0.mk H
 clear H
 go_enter Tryd.func47, Tryd.ntmps47
 go_wp2_with (first | ((with_reducible refine gate_dst (N := 3) rfl ?_); refine box_event ?hg (N := 3) ?hd (cs := #[.int .i64 a1_0, .int .i64 a1_1, .int .i64 a1_2, .slice A1_3 l1_3.length c1_3]) (t := 33) ?hr ?_; (case hd => rfl); (case hg => rfl); (case hr => first | (go_simp; done) | (go_simp; rfl)); intro gb322 hg w4 hbox hb; have n0_ := Aside0.mk (below_step (by repeat (first | (with_reducible first | exact HB.out | apply below_alloc | apply pw_below_drewN | apply below_drew1) | exact HB.out)) hb); have n1_ := Aside0.mk (hbox); have n2_ := Aside0.mk ((by rw [hg]; exact (below_size (by repeat (first | (with_reducible first | exact HB.out | apply below_alloc | apply pw_below_drewN | apply below_drew1) | exact HB.out))) : w.heap.size ≤ gb322)); have n3_ := Aside0.mk ((by rw [hg]; exact (below_size (by repeat (first | (with_reducible first | exact HB.out | apply below_alloc | apply pw_below_drewN | apply below_drew1) | exact HB.out))) : w.heap.size ≤ gb322)); clear HB; have HB := n0_; have BK322 := n1_; have GW322 := n2_; have GE322 := n3_; clear n0_ n1_ n2_ n3_; clear hb hbox hg) | ((with_reducible refine gate_dst (N := 8) rfl ?_); refine Kd.S_lit k33 _ 33 ?hg (N := 8) ?hd (xs := ([] : List (S33))) (inner := []) (ok := fun _ => True) (okp := fun _ => True) ?hr ?hp (fun _ hk => hk) trivial (Below.refl _ _) (Nat.le_refl _) (by simp) ?_; (case hd => rfl); (case hg => rfl); (case hr => first | (go_simp; done) | (go_simp; rfl)); (case hp => exact (Reps.none _ _)); intro v324 w5 ho6 hb hg_ hnew_; clear hg_ hnew_; (first | rw [← Ny323.out] at ho6 | (simp only [Int.reduceToNat] at ho6; rw [← Ny323.out] at ho6)); have n0_ := Aside0.mk (Kd.S_lower (Kd.S_newB ho6 (g := gb322) (o := .cells #[.int .i64 a1_0, .int .i64 a1_1, .int .i64 a1_2, .slice A1_3 l1_3.length c1_3] 33 (0, 0)) (by (with_reducible repeat (first | refine blk_drewN ?_ _ | refine blk_drew ?_ | refine blk_alloc ?_ _)); exact BK322.out)) (below_size (by repeat (first | (with_reducible first | exact HB.out | apply below_alloc | apply pw_below_drewN | apply below_drew1 | refine below_set ?_ GE322.out) | exact HB.out)))); have n1_ := Aside0.mk (blk_below (g := gb322) (o := .cells #[.int .i64 a1_0, .int .i64 a1_1, .int .i64 a1_2, .slice A1_3 l1_3.length c1_3] 33 (0, 0)) (by (with_reducible repeat (first | refine blk_drewN ?_ _ | refine blk_drew ?_ | refine blk_alloc ?_ _)); exact BK322.out) hb); have n2_ := Aside0.mk (below_step (by repeat (first | (with_reducible first | exact HB.out | apply below_alloc | apply pw_below_drewN | apply below_drew1 | refine below_set ?_ GE322.out) | exact HB.out)) hb); clear BK322; clear HB; have HO325 := n0_; have BK322 := n1_; have HB := n2_; clear n0_ n1_ n2_; clear hb ho6; have hcz7_0 : w5.cell? ⟨gb322, 0, none⟩ = some (.int .i64 a1_0) := (blk_cell BK322.out 0).trans rfl; have hcz7_1 : w5.cell? ⟨gb322, 1, none⟩ = some (.int .i64 a1_1) := (blk_cell BK322.out 1).trans rfl; have hcz7_2 : w5.cell? ⟨gb322, 2, none⟩ = some (.int .i64 a1_2) := (blk_cell BK322.out 2).trans rfl; have hcz7_3 : w5.cell? ⟨gb322, 3, none⟩ = some (.slice A1_3 l1_3.length c1_3) := (blk_cell BK322.out 3).trans rfl; have hfz7_0 := blk_frozen BK322.out 0; have hfz7_1 := blk_frozen BK322.out 1; have hfz7_2 := blk_frozen BK322.out 2; have hfz7_3 := blk_frozen BK322.out 3) | (go_at_call 46; (with_reducible refine (spileref22_Empty.calls a1_0 a1_1 a1_2 _ _ l1_3 t326 _ ?side1 ?side2 A3.out).mono ?_); (case side1 => repeat (first | exact (Kd.C_below HR1_3.out HB.out) | (with_reducible refine Kd.C_alloc ?_ _) | (with_reducible refine Kd.C_drewN ?_ _) | (with_reducible refine Kd.C_drew ?_))); (case side2 => exact HC1_3.out); rintro e w8 ⟨rfl, hb⟩; have n0_ := Aside0.mk (Kd.S_below (by (with_reducible repeat (first | apply Kd.S_alloc | apply Kd.S_drewN | apply Kd.S_drew)); exact HO325.out) hb); have n1_ := Aside0.mk (blk_below (g := gb322) (o := .cells #[.int .i64 a1_0, .int .i64 a1_1, .int .i64 a1_2, .slice A1_3 l1_3.length c1_3] 33 (0, 0)) (by (with_reducible repeat (first | refine blk_drewN ?_ _ | refine blk_drew ?_ | refine blk_alloc ?_ _)); exact BK322.out) hb); have n2_ := Aside0.mk (below_step (by repeat (first | (with_reducible first | exact HB.out | apply below_alloc | apply pw_below_drewN | apply below_drew1 | refine below_set ?_ GE322.out) | exact HB.out)) hb); clear HO325; clear BK322; clear HB; have HO325 := n0_; have BK322 := n1_; have HB := n2_; clear n0_ n1_ n2_; (try clear hb); (try clear hb2); (try clear hk); (try clear hi)))
 repeat (go_quiet (first | ((with_reducible refine gate_dst (N := 3) rfl ?_); refine box_event ?hg (N := 3) ?hd (cs := #[.int .i64 a1_0, .int .i64 a1_1, .int .i64 a1_2, .slice A1_3 l1_3.length c1_3]) (t := 33) ?hr ?_; (case hd => rfl); (case hg => rfl); (case hr => first | (go_simp; done) | (go_simp; rfl)); intro gb322 hg w4 hbox hb; have n0_ := Aside0.mk (below_step (by repeat (first | (with_reducible first | exact HB.out | apply below_alloc | apply pw_below_drewN | apply below_drew1) | exact HB.out)) hb); have n1_ := Aside0.mk (hbox); have n2_ := Aside0.mk ((by rw [hg]; exact (below_size (by repeat (first | (with_reducible first | exact HB.out | apply below_alloc | apply pw_below_drewN | apply below_drew1) | exact HB.out))) : w.heap.size ≤ gb322)); have n3_ := Aside0.mk ((by rw [hg]; exact (below_size (by repeat (first | (with_reducible first | exact HB.out | apply below_alloc | apply pw_below_drewN | apply below_drew1) | exact HB.out))) : w.heap.size ≤ gb322)); clear HB; have HB := n0_; have BK322 := n1_; have GW322 := n2_; have GE322 := n3_; clear n0_ n1_ n2_ n3_; clear hb hbox hg) | ((with_reducible refine gate_dst (N := 8) rfl ?_); refine Kd.S_lit k33 _ 33 ?hg (N := 8) ?hd (xs := ([] : List (S33))) (inner := []) (ok := fun _ => True) (okp := fun _ => True) ?hr ?hp (fun _ hk => hk) trivial (Below.refl _ _) (Nat.le_refl _) (by simp) ?_; (case hd => rfl); (case hg => rfl); (case hr => first | (go_simp; done) | (go_simp; rfl)); (case hp => exact (Reps.none _ _)); intro v324 w5 ho6 hb hg_ hnew_; clear hg_ hnew_; (first | rw [← Ny323.out] at ho6 | (simp only [Int.reduceToNat] at ho6; rw [← Ny323.out] at ho6)); have n0_ := Aside0.mk (Kd.S_lower (Kd.S_newB ho6 (g := gb322) (o := .cells #[.int .i64 a1_0, .int .i64 a1_1, .int .i64 a1_2, .slice A1_3 l1_3.length c1_3] 33 (0, 0)) (by (with_reducible repeat (first | refine blk_drewN ?_ _ | refine blk_drew ?_ | refine blk_alloc ?_ _)); exact BK322.out)) (below_size (by repeat (first | (with_reducible first | exact HB.out | apply below_alloc | apply pw_below_drewN | apply below_drew1 | refine below_set ?_ GE322.out) | exact HB.out)))); have n1_ := Aside0.mk (blk_below (g := gb322) (o := .cells #[.int .i64 a1_0, .int .i64 a1_1, .int .i64 a1_2, .slice A1_3 l1_3.length c1_3] 33 (0, 0)) (by (with_reducible repeat (first | refine blk_drewN ?_ _ | refine blk_drew ?_ | refine blk_alloc ?_ _)); exact BK322.out) hb); have n2_ := Aside0.mk (below_step (by repeat (first | (with_reducible first | exact HB.out | apply below_alloc | apply pw_below_drewN | apply below_drew1 | refine below_set ?_ GE322.out) | exact HB.out)) hb); clear BK322; clear HB; have HO325 := n0_; have BK322 := n1_; have HB := n2_; clear n0_ n1_ n2_; clear hb ho6; have hcz7_0 : w5.cell? ⟨gb322, 0, none⟩ = some (.int .i64 a1_0) := (blk_cell BK322.out 0).trans rfl; have hcz7_1 : w5.cell? ⟨gb322, 1, none⟩ = some (.int .i64 a1_1) := (blk_cell BK322.out 1).trans rfl; have hcz7_2 : w5.cell? ⟨gb322, 2, none⟩ = some (.int .i64 a1_2) := (blk_cell BK322.out 2).trans rfl; have hcz7_3 : w5.cell? ⟨gb322, 3, none⟩ = some (.slice A1_3 l1_3.length c1_3) := (blk_cell BK322.out 3).trans rfl; have hfz7_0 := blk_frozen BK322.out 0; have hfz7_1 := blk_frozen BK322.out 1; have hfz7_2 := blk_frozen BK322.out 2; have hfz7_3 := blk_frozen BK322.out 3) | (go_at_call 46; (with_reducible refine (spileref22_Empty.calls a1_0 a1_1 a1_2 _ _ l1_3 t326 _ ?side1 ?side2 A3.out).mono ?_); (case side1 => repeat (first | exact (Kd.C_below HR1_3.out HB.out) | (with_reducible refine Kd.C_alloc ?_ _) | (with_reducible refine Kd.C_drewN ?_ _) | (with_reducible refine Kd.C_drew ?_))); (case side2 => exact HC1_3.out); rintro e w8 ⟨rfl, hb⟩; have n0_ := Aside0.mk (Kd.S_below (by (with_reducible repeat (first | apply Kd.S_alloc | apply Kd.S_drewN | apply Kd.S_drew)); exact HO325.out) hb); have n1_ := Aside0.mk (blk_below (g := gb322) (o := .cells #[.int .i64 a1_0, .int .i64 a1_1, .int .i64 a1_2, .slice A1_3 l1_3.length c1_3] 33 (0, 0)) (by (with_reducible repeat (first | refine blk_drewN ?_ _ | refine blk_drew ?_ | refine blk_alloc ?_ _)); exact BK322.out) hb); have n2_ := Aside0.mk (below_step (by repeat (first | (with_reducible first | exact HB.out | apply below_alloc | apply pw_below_drewN | apply below_drew1 | refine below_set ?_ GE322.out) | exact HB.out)) hb); clear HO325; clear BK322; clear HB; have HO325 := n0_; have BK322 := n1_; have HB := n2_; clear n0_ n1_ n2_; (try clear hb); (try clear hb2); (try clear hk); (try clear hi))); try go_wp2_with (first | ((with_reducible refine gate_dst (N := 3) rfl ?_); refine box_event ?hg (N := 3) ?hd (cs := #[.int .i64 a1_0, .int .i64 a1_1, .int .i64 a1_2, .slice A1_3 l1_3.length c1_3]) (t := 33) ?hr ?_; (case hd => rfl); (case hg => rfl); (case hr => first | (go_simp; done) | (go_simp; rfl)); intro gb322 hg w4 hbox hb; have n0_ := Aside0.mk (below_step (by repeat (first | (with_reducible first | exact HB.out | apply below_alloc | apply pw_below_drewN | apply below_drew1) | exact HB.out)) hb); have n1_ := Aside0.mk (hbox); have n2_ := Aside0.mk ((by rw [hg]; exact (below_size (by repeat (first | (with_reducible first | exact HB.out | apply below_alloc | apply pw_below_drewN | apply below_drew1) | exact HB.out))) : w.heap.size ≤ gb322)); have n3_ := Aside0.mk ((by rw [hg]; exact (below_size (by repeat (first | (with_reducible first | exact HB.out | apply below_alloc | apply pw_below_drewN | apply below_drew1) | exact HB.out))) : w.heap.size ≤ gb322)); clear HB; have HB := n0_; have BK322 := n1_; have GW322 := n2_; have GE322 := n3_; clear n0_ n1_ n2_ n3_; clear hb hbox hg) | ((with_reducible refine gate_dst (N := 8) rfl ?_); refine Kd.S_lit k33 _ 33 ?hg (N := 8) ?hd (xs := ([] : List (S33))) (inner := []) (ok := fun _ => True) (okp := fun _ => True) ?hr ?hp (fun _ hk => hk) trivial (Below.refl _ _) (Nat.le_refl _) (by simp) ?_; (case hd => rfl); (case hg => rfl); (case hr => first | (go_simp; done) | (go_simp; rfl)); (case hp => exact (Reps.none _ _)); intro v324 w5 ho6 hb hg_ hnew_; clear hg_ hnew_; (first | rw [← Ny323.out] at ho6 | (simp only [Int.reduceToNat] at ho6; rw [← Ny323.out] at ho6)); have n0_ := Aside0.mk (Kd.S_lower (Kd.S_newB ho6 (g := gb322) (o := .cells #[.int .i64 a1_0, .int .i64 a1_1, .int .i64 a1_2, .slice A1_3 l1_3.length c1_3] 33 (0, 0)) (by (with_reducible repeat (first | refine blk_drewN ?_ _ | refine blk_drew ?_ | refine blk_alloc ?_ _)); exact BK322.out)) (below_size (by repeat (first | (with_reducible first | exact HB.out | apply below_alloc | apply pw_below_drewN | apply below_drew1 | refine below_set ?_ GE322.out) | exact HB.out)))); have n1_ := Aside0.mk (blk_below (g := gb322) (o := .cells #[.int .i64 a1_0, .int .i64 a1_1, .int .i64 a1_2, .slice A1_3 l1_3.length c1_3] 33 (0, 0)) (by (with_reducible repeat (first | refine blk_drewN ?_ _ | refine blk_drew ?_ | refine blk_alloc ?_ _)); exact BK322.out) hb); have n2_ := Aside0.mk (below_step (by repeat (first | (with_reducible first | exact HB.out | apply below_alloc | apply pw_below_drewN | apply below_drew1 | refine below_set ?_ GE322.out) | exact HB.out)) hb); clear BK322; clear HB; have HO325 := n0_; have BK322 := n1_; have HB := n2_; clear n0_ n1_ n2_; clear hb ho6; have hcz7_0 : w5.cell? ⟨gb322, 0, none⟩ = some (.int .i64 a1_0) := (blk_cell BK322.out 0).trans rfl; have hcz7_1 : w5.cell? ⟨gb322, 1, none⟩ = some (.int .i64 a1_1) := (blk_cell BK322.out 1).trans rfl; have hcz7_2 : w5.cell? ⟨gb322, 2, none⟩ = some (.int .i64 a1_2) := (blk_cell BK322.out 2).trans rfl; have hcz7_3 : w5.cell? ⟨gb322, 3, none⟩ = some (.slice A1_3 l1_3.length c1_3) := (blk_cell BK322.out 3).trans rfl; have hfz7_0 := blk_frozen BK322.out 0; have hfz7_1 := blk_frozen BK322.out 1; have hfz7_2 := blk_frozen BK322.out 2; have hfz7_3 := blk_frozen BK322.out 3) | (go_at_call 46; (with_reducible refine (spileref22_Empty.calls a1_0 a1_1 a1_2 _ _ l1_3 t326 _ ?side1 ?side2 A3.out).mono ?_); (case side1 => repeat (first | exact (Kd.C_below HR1_3.out HB.out) | (with_reducible refine Kd.C_alloc ?_ _) | (with_reducible refine Kd.C_drewN ?_ _) | (with_reducible refine Kd.C_drew ?_))); (case side2 => exact HC1_3.out); rintro e w8 ⟨rfl, hb⟩; have n0_ := Aside0.mk (Kd.S_below (by (with_reducible repeat (first | apply Kd.S_alloc | apply Kd.S_drewN | apply Kd.S_drew)); exact HO325.out) hb); have n1_ := Aside0.mk (blk_below (g := gb322) (o := .cells #[.int .i64 a1_0, .int .i64 a1_1, .int .i64 a1_2, .slice A1_3 l1_3.length c1_3] 33 (0, 0)) (by (with_reducible repeat (first | refine blk_drewN ?_ _ | refine blk_drew ?_ | refine blk_alloc ?_ _)); exact BK322.out) hb); have n2_ := Aside0.mk (below_step (by repeat (first | (with_reducible first | exact HB.out | apply below_alloc | apply pw_below_drewN | apply below_drew1 | refine below_set ?_ GE322.out) | exact HB.out)) hb); clear HO325; clear BK322; clear HB; have HO325 := n0_; have BK322 := n1_; have HB := n2_; clear n0_ n1_ n2_; (try clear hb); (try clear hb2); (try clear hk); (try clear hi))))
 go_loopg [5, 6, 7] k (fun kq v5 v6 v7 w' => ∃ (x5_1 : List (S33)) (x6_1 : Bool) (x7_1 : Int), v6 = .bool x6_1 ∧ v7 = .int .i64 x7_1 ∧ Aside0 (spileref22_Set.l0 kq l0 x5_1 x6_1 x7_1 a1_0 a1_1 a1_2 l1_3 = some r) ∧ Aside0 (kq ≤ k) ∧ Aside0 (Kd.S k33 33 w' w.heap.size (fun k_ => k_ ≠ gb322) v5 x5_1) ∧ Aside0 (w'.heap[gb322]? = some (.cells #[.int .i64 a1_0, .int .i64 a1_1, .int .i64 a1_2, (.slice A1_3 l1_3.length c1_3)] 33 (0, 0))) ∧ Aside0 (Below w.heap.size w w'))
 case atStart => exact ⟨(y323), (t326), (0), (by first | rfl | (simp; done) | (simp [*]; done)), (by first | rfl | (simp; done) | (simp [*]; done)), H', ⟨Nat.le_refl _⟩, ⟨by (with_reducible repeat (first | apply Kd.S_alloc | apply Kd.S_drewN | apply Kd.S_drew)); exact Kd.S_mono HO325.out (fun _ hk => hk.2)⟩, ⟨by (with_reducible repeat (first | refine blk_drewN ?_ _ | refine blk_drew ?_ | refine blk_alloc ?_ _)); exact BK322.out⟩, ⟨by repeat (first | (with_reducible first | exact HB.out | apply below_alloc | apply pw_below_drewN | apply below_drew1 | refine below_set ?_ GE322.out) | exact HB.out)⟩⟩
 case round =>
  clear H'
  try clear c1
  try clear p2
  try clear c4
  try clear hcz7_0
  try clear hcz7_1
  try clear hcz7_2
  try clear hcz7_3
  try clear hfz7_0
  try clear hfz7_1
  try clear hfz7_2
  try clear hfz7_3
  obtain ⟨x5_1, x6_1, x7_1, rfl, rfl, HA, HK1, HO_5, BK322, HB⟩ := hrel
  cases gk with
  | zero => exact absurd HA.out (by simp [spileref22_Set.l0])
  | succ k1 =>
   have H := HA.out
   clear HA
   simp only [spileref22_Set.l0] at H
   by_cases c9 : x7_1 < (l0.length : Int)
   ·
    rw [if_pos c9] at H
    have c9b0 : decide (x7_1 < (l0.length : Int)) = true := decide_eq_true c9
    clear c9
    have HC10 := Aside0.mk H
    clear H
    go_upto_region 5 with (fail)
    repeat (go_quiet (fail); go_upto_region 5 with (fail))
    go_cut [28] (fun v28 wc => ∃ (kq : Nat) (x28_9 : Bool), v28 = .bool x28_9 ∧ Aside0 (spileref22_Set.j1 kq l0 x5_1 x6_1 x7_1 x28_9 a1_0 a1_1 a1_2 l1_3 = some r) ∧ Aside0 (kq ≤ k1) ∧ Aside0 (Kd.S k33 33 wc w.heap.size (fun k_ => k_ ≠ gb322) u5 x5_1) ∧ Aside0 (wc.heap[gb322]? = some (.cells #[.int .i64 a1_0, .int .i64 a1_1, .int .i64 a1_2, (.slice A1_3 l1_3.length c1_3)] 33 (0, 0))) ∧ Aside0 (Below w.heap.size w wc))
    case first =>
     have H := HC10.out
     clear HC10
     by_cases c11 : x6_1 = true
     ·
      subst c11
      have H1 : (spileref22_Set.j1 k1 l0 x5_1 true x7_1 false a1_0 a1_1 a1_2 l1_3) = some r := by rw [if_pos rfl] at H; exact H
      clear H
      have H := H1
      clear H1
      have H' := Aside0.mk H
      clear H
      go_wp2
      repeat (go_quiet (fail); try go_wp2)
      go_meet
      case rel => exact ⟨_, (false), (by first | rfl | (simp; done) | (simp [*]; done)), H', ⟨by have := HK1.out; first | omega | exact Nat.le_refl _⟩, ⟨by (with_reducible repeat (first | apply Kd.S_alloc | apply Kd.S_drewN | apply Kd.S_drew)); exact HO_5.out⟩, ⟨by (with_reducible repeat (first | refine blk_drewN ?_ _ | refine blk_drew ?_ | refine blk_alloc ?_ _)); exact BK322.out⟩, ⟨by repeat (first | (with_reducible first | exact HB.out | apply below_alloc | apply pw_below_drewN | apply below_drew1 | refine below_set ?_ GE322.out) | exact HB.out)⟩⟩
     ·
      replace c11 := Bool.eq_false_iff.mpr c11
      subst c11
      have H1 : (if 0 ≤ x7_1 then (spileref22_Set.j1 k1 l0 x5_1 false x7_1 (decide (((rd_T33 l0 x7_1).f0) ≥ a1_0)) a1_0 a1_1 a1_2 l1_3) else (none)) = some r := by rw [if_neg (show ¬ (false = true) by decide)] at H; exact H
      clear H
      have H := H1
      clear H1
      by_cases c12 : 0 ≤ x7_1
      ·
       rw [if_pos c12] at H
       have c12b0 : decide (0 ≤ x7_1) = true := decide_eq_true c12
       clear c12
       (first | rw [c12b0] | (simp only [i64_w, i32_w]; rw [c12b0]) | skip)
       have H' := Aside0.mk H
       clear H
       have p336 : 0 ≤ (x7_1 : Int) := of_decide_eq_true (by first | (with_reducible assumption) | assumption)
       have q336 : x7_1 < (l0.length : Int) := of_decide_eq_true (by first | (with_reducible assumption) | assumption)
       obtain ⟨ad336, A336_3, c336_3, e336, hx336_0, hx336_1, hx336_2, hx336_3, hl336_3, hi336_3⟩ := at_T33 HR0.out x7_1 p336 q336
       cases e336
       replace hx336_0 := (HB.out.cell (World.block_lt_of_cell? w _ hx336_0)).trans hx336_0
       replace hx336_1 := (HB.out.cell (World.block_lt_of_cell? w _ hx336_1)).trans hx336_1
       replace hx336_2 := (HB.out.cell (World.block_lt_of_cell? w _ hx336_2)).trans hx336_2
       replace hx336_3 := (HB.out.cell (World.block_lt_of_cell? w _ hx336_3)).trans hx336_3
       have HR336_3 := Aside0.mk hi336_3
       have HC336_3 := Aside0.mk hl336_3
       clear hi336_3 hl336_3
       replace p336 := eq_true p336
       replace q336 := eq_true q336
       have hcz13_0 : wr.cell? ⟨gb322, 0, none⟩ = some (.int .i64 a1_0) := (blk_cell BK322.out 0).trans rfl
       have hcz13_1 : wr.cell? ⟨gb322, 1, none⟩ = some (.int .i64 a1_1) := (blk_cell BK322.out 1).trans rfl
       have hcz13_2 : wr.cell? ⟨gb322, 2, none⟩ = some (.int .i64 a1_2) := (blk_cell BK322.out 2).trans rfl
       have hcz13_3 : wr.cell? ⟨gb322, 3, none⟩ = some (.slice A1_3 l1_3.length c1_3) := (blk_cell BK322.out 3).trans rfl
       have hfz13_0 := blk_frozen BK322.out 0
       have hfz13_1 := blk_frozen BK322.out 1
       have hfz13_2 := blk_frozen BK322.out 2
       have hfz13_3 := blk_frozen BK322.out 3
       go_wp2
       repeat (go_quiet (fail); try go_wp2)
       go_meet
       case rel => exact ⟨_, (decide (((rd_T33 l0 x7_1).f0) ≥ a1_0)), (by first | rfl | (simp; done) | (simp [*]; done)), H', ⟨by have := HK1.out; first | omega | exact Nat.le_refl _⟩, ⟨by (with_reducible repeat (first | apply Kd.S_alloc | apply Kd.S_drewN | apply Kd.S_drew)); exact HO_5.out⟩, ⟨by (with_reducible repeat (first | refine blk_drewN ?_ _ | refine blk_drew ?_ | refine blk_alloc ?_ _)); exact BK322.out⟩, ⟨by repeat (first | (with_reducible first | exact HB.out | apply below_alloc | apply pw_below_drewN | apply below_drew1 | refine below_set ?_ GE322.out) | exact HB.out)⟩⟩
      ·
       rw [if_neg c12] at H
       exact absurd H (by simp)
    case rest =>
     clear HC10
     try clear c1
     try clear p2
     try clear c3
     try clear p3
     try clear q3
     try clear hx3
     try clear c4
     try clear c9
     try clear c9b0
     try clear c11
     try clear c12
     try clear c12b0
     try clear hcz13_0
     try clear hcz13_1
     try clear hcz13_2
     try clear hcz13_3
     try clear hcz7_0
     try clear hcz7_1
     try clear hcz7_2
     try clear hcz7_3
     try clear hfz13_0
     try clear hfz13_1
     try clear hfz13_2
     try clear hfz13_3
     try clear hfz7_0
     try clear hfz7_1
     try clear hfz7_2
     try clear hfz7_3
     try clear hx336_0
     try clear hx336_1
     try clear hx336_2
     try clear hx336_3
     try clear p2
     try clear p336
     try clear q336
     obtain ⟨kq, x28_9, rfl, HA, HJ9, HO_5, BK322, HB⟩ := hcut
     cases kq with
     | zero => exact absurd HA.out (by simp [spileref22_Set.j1])
     | succ kj9 =>
      have H := HA.out
      clear HA
      simp only [spileref22_Set.j1] at H
      by_cases c14 : x28_9 = true
      ·
       subst c14
       have H1 : ((spileref22_Copy.f a1_0 a1_1 a1_2 l1_3).bind fun bt337 => (if x5_1.length < 2932031007402 then ((some (x5_1 ++ [(⟨bt337.1, (⟨bt337.2.1, bt337.2.2.1⟩ : S26), bt337.2.2.2⟩ : S33)] : List (S33))).bind fun y343 => (if 0 ≤ x7_1 then (if x7_1 < (l0.length : Int) then (if ((rd_T33 l0 x7_1).f0) = a1_0 then (spileref22_Set.l0 kj9 l0 y343 true (wrap64 (x7_1 + 1)) a1_0 a1_1 a1_2 l1_3) else ((spileref22_Copy.f ((rd_T33 l0 x7_1).f0) ((rd_T33 l0 x7_1).f1.f0) ((rd_T33 l0 x7_1).f1.f1) ((rd_T33 l0 x7_1).f2)).bind fun bt348 => (if y343.length < 2932031007402 then (spileref22_Set.l0 kj9 l0 (y343 ++ [(⟨bt348.1, (⟨bt348.2.1, bt348.2.2.1⟩ : S26), bt348.2.2.2⟩ : S33)]) true (wrap64 (x7_1 + 1)) a1_0 a1_1 a1_2 l1_3) else (none)))) else (none)) else (none))) else (none))) = some r := by rw [if_pos rfl] at H; exact H
       clear H
       have H := H1
       clear H1
       replace H := Option.bind_eq_some_iff.mp H
       obtain ⟨⟨t337, t338, t339, t340⟩, A150, H⟩ := H
       replace H : (if x5_1.length < 2932031007402 then ((some (x5_1 ++ [(⟨t337, (⟨t338, t339⟩ : S26), t340⟩ : S33)] : List (S33))).bind fun y343 => (if 0 ≤ x7_1 then (if x7_1 < (l0.length : Int) then (if ((rd_T33 l0 x7_1).f0) = a1_0 then (spileref22_Set.l0 kj9 l0 y343 true (wrap64 (x7_1 + 1)) a1_0 a1_1 a1_2 l1_3) else ((spileref22_Copy.f ((rd_T33 l0 x7_1).f0) ((rd_T33 l0 x7_1).f1.f0) ((rd_T33 l0 x7_1).f1.f1) ((rd_T33 l0 x7_1).f2)).bind fun bt348 => (if y343.length < 2932031007402 then (spileref22_Set.l0 kj9 l0 (y343 ++ [(⟨bt348.1, (⟨bt348.2.1, bt348.2.2.1⟩ : S26), bt348.2.2.2⟩ : S33)]) true (wrap64 (x7_1 + 1)) a1_0 a1_1 a1_2 l1_3) else (none)))) else (none)) else (none))) else (none)) = some r := H
       have A15 := Aside0.mk A150
       clear A150
       by_cases c16 : x5_1.length < 2932031007402
       ·
        rw [if_pos c16] at H
        have LMc16 := Aside0.mk c16
        clear c16
        obtain ⟨y343, hy343⟩ : ∃ y_ : List (S33), y_ = (x5_1 ++ [(⟨t337, (⟨t338, t339⟩ : S26), t340⟩ : S33)]) := ⟨_, rfl⟩
        replace H : (if 0 ≤ x7_1 then (if x7_1 < (l0.length : Int) then (if ((rd_T33 l0 x7_1).f0) = a1_0 then (spileref22_Set.l0 kj9 l0 y343 true (wrap64 (x7_1 + 1)) a1_0 a1_1 a1_2 l1_3) else ((spileref22_Copy.f ((rd_T33 l0 x7_1).f0) ((rd_T33 l0 x7_1).f1.f0) ((rd_T33 l0 x7_1).f1.f1) ((rd_T33 l0 x7_1).f2)).bind fun bt348 => (if y343.length < 2932031007402 then (spileref22_Set.l0 kj9 l0 (y343 ++ [(⟨bt348.1, (⟨bt348.2.1, bt348.2.2.1⟩ : S26), bt348.2.2.2⟩ : S33)]) true (wrap64 (x7_1 + 1)) a1_0 a1_1 a1_2 l1_3) else (none)))) else (none)) else (none)) = some r := by first | (rw [hy343]; with_reducible exact H) | (have H2_ := (Option.bind_some _ _).symm.trans H; rw [hy343]; with_reducible exact H2_) | (have H2_ := (Option.bind_some _ _).symm.trans H; with_reducible exact H2_) | with_reducible exact H | (rw [hy343]; exact H) | exact H
        have Ny343 := Aside0.mk hy343
        clear hy343
        by_cases c17 : 0 ≤ x7_1
        ·
         rw [if_pos c17] at H
         have c17b0 : decide (0 ≤ x7_1) = true := decide_eq_true c17
         clear c17
         by_cases c18 : x7_1 < (l0.length : Int)
         ·
          rw [if_pos c18] at H
          have c18b0 : decide (x7_1 < (l0.length : Int)) = true := decide_eq_true c18
          clear c18
          by_cases c19 : ((rd_T33 l0 x7_1).f0) = a1_0
          ·
           rw [if_pos c19] at H
           have c19b0 : (((rd_T33 l0 x7_1).f0) == a1_0) = true := beq_iff_eq.mpr c19
           have c19b1 : (((rd_T33 l0 x7_1).f0) != a1_0) = false := bne_eq_false_iff_eq.mpr c19
           clear c19
           have H' := Aside0.mk H
           clear H
           have hcz20_0 : wc.cell? ⟨gb322, 0, none⟩ = some (.int .i64 a1_0) := (blk_cell BK322.out 0).trans rfl
           have hcz20_1 : wc.cell? ⟨gb322, 1, none⟩ = some (.int .i64 a1_1) := (blk_cell BK322.out 1).trans rfl
           have hcz20_2 : wc.cell? ⟨gb322, 2, none⟩ = some (.int .i64 a1_2) := (blk_cell BK322.out 2).trans rfl
           have hcz20_3 : wc.cell? ⟨gb322, 3, none⟩ = some (.slice A1_3 l1_3.length c1_3) := (blk_cell BK322.out 3).trans rfl
           have hfz20_0 := blk_frozen BK322.out 0
           have hfz20_1 := blk_frozen BK322.out 1
           have hfz20_2 := blk_frozen BK322.out 2
           have hfz20_3 := blk_frozen BK322.out 3
           go_wp2_with (first | (go_at_call 29; (with_reducible refine (spileref22_Copy.calls a1_0 a1_1 a1_2 _ _ l1_3 t337 t338 t339 t340 _ ?side1 ?side2 A15.out).mono ?_); (case side1 => repeat (first | exact (Kd.C_below HR1_3.out HB.out) | (with_reducible refine Kd.C_alloc ?_ _) | (with_reducible refine Kd.C_drewN ?_ _) | (with_reducible refine Kd.C_drew ?_))); (case side2 => exact HC1_3.out); rintro e w21 ⟨v341, rfl, ho0, hb⟩; have n0_ := Aside0.mk (Kd.S_elder' (by (with_reducible repeat (first | apply Kd.S_alloc | apply Kd.S_drewN | apply Kd.S_drew)); exact HO_5.out) (Kd.R_base ho0) hb); have n1_ := Aside0.mk (Kd.R_lower ho0 (below_size (by repeat (first | (with_reducible first | exact HB.out | apply below_alloc | apply pw_below_drewN | apply below_drew1 | refine below_set ?_ GE322.out) | exact HB.out)))); have n2_ := Aside0.mk (blk_below (g := gb322) (o := .cells #[.int .i64 a1_0, .int .i64 a1_1, .int .i64 a1_2, .slice A1_3 l1_3.length c1_3] 33 (0, 0)) (by (with_reducible repeat (first | refine blk_drewN ?_ _ | refine blk_drew ?_ | refine blk_alloc ?_ _)); exact BK322.out) hb); have n3_ := Aside0.mk (below_step (by repeat (first | (with_reducible first | exact HB.out | apply below_alloc | apply pw_below_drewN | apply below_drew1 | refine below_set ?_ GE322.out) | exact HB.out)) hb); clear HO_5; clear BK322; clear HB; have HO_5 := n0_; have HO342 := n1_; have BK322 := n2_; have HB := n3_; clear n0_ n1_ n2_ n3_; (try clear hb); (try clear hb2); (try clear hk); (try clear hi); (try clear ho0); obtain ⟨Ao23, co23, eo23⟩ := Kd.R_slice HO342.out; subst eo23) | ((with_reducible refine gate_builtin (b := .append) (xs := #[.tmp 29, .tmp 32]) rfl ?_); at_builtin; refine Kd.S_append k33 (w0 := w) w.heap.size rfl (.tmp 29) (.tmp 32) 22 33 (.agg #[(.int .i64 0), (.int .i64 0), (.int .i64 0), (.slice none 0 0)]) 48 rfl Tryd.underlying22 info33 rfl (by decide) (by omega) u5 x5_1 (⟨t337, (⟨t338, t339⟩ : S26), t340⟩ : S33) [.int .i64 t337, .int .i64 t338, .int .i64 t339, .slice Ao23 t340.length co23] (fun k_ => k_ ≠ gb322) (fun k_ => some k_ = (.slice Ao23 t340.length co23 : Value).ownBlock) rfl rfl ?aP (fun k_ hk_ => ((Kd.R_mono (ok' := fun k_ => ((fun k_ => k_ ≠ gb322)) k_ ∧ some k_ ≠ (u5 : Value).ownBlock) (Kd.R_types (Kd.R_apart' (HO342.out) (Kd.S_typed HO_5.out) (by decide)) BK322.out (by decide)) (fun k_ hk => ⟨hk.2, hk.1.2⟩))).1 k_ hk_.symm) ?aF ?aO ?aB ?aS ?aL ?_; (case aP => exact k33_mkM _ _ _ (⟨t337, (⟨t338, t339⟩ : S26), t340⟩ : S33) (Kd.R_mono (Kd.R_tight rfl (Kd.R_mono (ok' := fun k_ => ((fun k_ => k_ ≠ gb322)) k_ ∧ some k_ ≠ (u5 : Value).ownBlock) (Kd.R_types (Kd.R_apart' (HO342.out) (Kd.S_typed HO_5.out) (by decide)) BK322.out (by decide)) (fun k_ hk => ⟨hk.2, hk.1.2⟩))) (fun _ h_ => h_))); (case aB => exact (by repeat (first | (with_reducible first | exact HB.out | apply below_alloc | apply pw_below_drewN | apply below_drew1 | refine below_set ?_ GE322.out) | exact HB.out))); (case aF => exact (fun k_ hk => Kd.freshB (g := gb322) (o := .cells #[.int .i64 a1_0, .int .i64 a1_1, .int .i64 a1_2, .slice A1_3 l1_3.length c1_3] 33 (0, 0)) (by (with_reducible repeat (first | refine blk_drewN ?_ _ | refine blk_drew ?_ | refine blk_alloc ?_ _)); exact BK322.out) k_ hk)); (case aO => exact (by (with_reducible repeat (first | apply Kd.S_alloc | apply Kd.S_drewN | apply Kd.S_drew)); exact Kd.S_mono HO_5.out (fun k_ hk => ⟨hk.1, fun e_ => hk.2 e_⟩))); (case aS => exact (below_size (by repeat (first | (with_reducible first | exact HB.out | apply below_alloc | apply pw_below_drewN | apply below_drew1 | refine below_set ?_ GE322.out) | exact HB.out)))); (case aL => have := LMc16.out; omega); intro v344 w22 ho hb hg hat; rw [← Ny343.out] at ho; have n0_ := Aside0.mk (blk_grown (g := gb322) (o := .cells #[.int .i64 a1_0, .int .i64 a1_1, .int .i64 a1_2, .slice A1_3 l1_3.length c1_3] 33 (0, 0)) (by (with_reducible repeat (first | refine blk_drewN ?_ _ | refine blk_drew ?_ | refine blk_alloc ?_ _)); exact BK322.out) hg (Kd.S_away HO_5.out (fun _ hk => hk.1))); have n1_ := Aside0.mk (hb); have n2_ := Aside0.mk (ho); clear BK322; clear HB; clear HO_5; clear HO342; have BK322 := n0_; have HB := n1_; have HO345 := n2_; clear n0_ n1_ n2_; clear ho hb hg hat; have p346 : 0 ≤ (x7_1 : Int) := of_decide_eq_true (by first | (with_reducible assumption) | assumption); have q346 : x7_1 < (l0.length : Int) := of_decide_eq_true (by first | (with_reducible assumption) | assumption); obtain ⟨ad346, A346_3, c346_3, e346, hx346_0, hx346_1, hx346_2, hx346_3, hl346_3, hi346_3⟩ := at_T33 HR0.out x7_1 p346 q346; cases e346; replace hx346_0 := (HB.out.cell (World.block_lt_of_cell? w _ hx346_0)).trans hx346_0; replace hx346_1 := (HB.out.cell (World.block_lt_of_cell? w _ hx346_1)).trans hx346_1; replace hx346_2 := (HB.out.cell (World.block_lt_of_cell? w _ hx346_2)).trans hx346_2; replace hx346_3 := (HB.out.cell (World.block_lt_of_cell? w _ hx346_3)).trans hx346_3; have HR346_3 := Aside0.mk hi346_3; have HC346_3 := Aside0.mk hl346_3; clear hi346_3 hl346_3; replace p346 := eq_true p346; replace q346 := eq_true q346; have hcz24_0 : w22.cell? ⟨gb322, 0, none⟩ = some (.int .i64 a1_0) := (blk_cell BK322.out 0).trans rfl; have hcz24_1 : w22.cell? ⟨gb322, 1, none⟩ = some (.int .i64 a1_1) := (blk_cell BK322.out 1).trans rfl; have hcz24_2 : w22.cell? ⟨gb322, 2, none⟩ = some (.int .i64 a1_2) := (blk_cell BK322.out 2).trans rfl; have hcz24_3 : w22.cell? ⟨gb322, 3, none⟩ = some (.slice A1_3 l1_3.length c1_3) := (blk_cell BK322.out 3).trans rfl; have hfz24_0 := blk_frozen BK322.out 0; have hfz24_1 := blk_frozen BK322.out 1; have hfz24_2 := blk_frozen BK322.out 2; have hfz24_3 := blk_frozen BK322.out 3))
           repeat (go_quiet (first | (go_at_call 29; (with_reducible refine (spileref22_Copy.calls a1_0 a1_1 a1_2 _ _ l1_3 t337 t338 t339 t340 _ ?side1 ?side2 A15.out).mono ?_); (case side1 => repeat (first | exact (Kd.C_below HR1_3.out HB.out) | (with_reducible refine Kd.C_alloc ?_ _) | (with_reducible refine Kd.C_drewN ?_ _) | (with_reducible refine Kd.C_drew ?_))); (case side2 => exact HC1_3.out); rintro e w21 ⟨v341, rfl, ho0, hb⟩; have n0_ := Aside0.mk (Kd.S_elder' (by (with_reducible repeat (first | apply Kd.S_alloc | apply Kd.S_drewN | apply Kd.S_drew)); exact HO_5.out) (Kd.R_base ho0) hb); have n1_ := Aside0.mk (Kd.R_lower ho0 (below_size (by repeat (first | (with_reducible first | exact HB.out | apply below_alloc | apply pw_below_drewN | apply below_drew1 | refine below_set ?_ GE322.out) | exact HB.out)))); have n2_ := Aside0.mk (blk_below (g := gb322) (o := .cells #[.int .i64 a1_0, .int .i64 a1_1, .int .i64 a1_2, .slice A1_3 l1_3.length c1_3] 33 (0, 0)) (by (with_reducible repeat (first | refine blk_drewN ?_ _ | refine blk_drew ?_ | refine blk_alloc ?_ _)); exact BK322.out) hb); have n3_ := Aside0.mk (below_step (by repeat (first | (with_reducible first | exact HB.out | apply below_alloc | apply pw_below_drewN | apply below_drew1 | refine below_set ?_ GE322.out) | exact HB.out)) hb); clear HO_5; clear BK322; clear HB; have HO_5 := n0_; have HO342 := n1_; have BK322 := n2_; have HB := n3_; clear n0_ n1_ n2_ n3_; (try clear hb); (try clear hb2); (try clear hk); (try clear hi); (try clear ho0); obtain ⟨Ao23, co23, eo23⟩ := Kd.R_slice HO342.out; subst eo23) | ((with_reducible refine gate_builtin (b := .append) (xs := #[.tmp 29, .tmp 32]) rfl ?_); at_builtin; refine Kd.S_append k33 (w0 := w) w.heap.size rfl (.tmp 29) (.tmp 32) 22 33 (.agg #[(.int .i64 0), (.int .i64 0), (.int .i64 0), (.slice none 0 0)]) 48 rfl Tryd.underlying22 info33 rfl (by decide) (by omega) u5 x5_1 (⟨t337, (⟨t338, t339⟩ : S26), t340⟩ : S33) [.int .i64 t337, .int .i64 t338, .int .i64 t339, .slice Ao23 t340.length co23] (fun k_ => k_ ≠ gb322) (fun k_ => some k_ = (.slice Ao23 t340.length co23 : Value).ownBlock) rfl rfl ?aP (fun k_ hk_ => ((Kd.R_mono (ok' := fun k_ => ((fun k_ => k_ ≠ gb322)) k_ ∧ some k_ ≠ (u5 : Value).ownBlock) (Kd.R_types (Kd.R_apart' (HO342.out) (Kd.S_typed HO_5.out) (by decide)) BK322.out (by decide)) (fun k_ hk => ⟨hk.2, hk.1.2⟩))).1 k_ hk_.symm) ?aF ?aO ?aB ?aS ?aL ?_; (case aP => exact k33_mkM _ _ _ (⟨t337, (⟨t338, t339⟩ : S26), t340⟩ : S33) (Kd.R_mono (Kd.R_tight rfl (Kd.R_mono (ok' := fun k_ => ((fun k_ => k_ ≠ gb322)) k_ ∧ some k_ ≠ (u5 : Value).ownBlock) (Kd.R_types (Kd.R_apart' (HO342.out) (Kd.S_typed HO_5.out) (by decide)) BK322.out (by decide)) (fun k_ hk => ⟨hk.2, hk.1.2⟩))) (fun _ h_ => h_))); (case aB => exact (by repeat (first | (with_reducible first | exact HB.out | apply below_alloc | apply pw_below_drewN | apply below_drew1 | refine below_set ?_ GE322.out) | exact HB.out))); (case aF => exact (fun k_ hk => Kd.freshB (g := gb322) (o := .cells #[.int .i64 a1_0, .int .i64 a1_1, .int .i64 a1_2, .slice A1_3 l1_3.length c1_3] 33 (0, 0)) (by (with_reducible repeat (first | refine blk_drewN ?_ _ | refine blk_drew ?_ | refine blk_alloc ?_ _)); exact BK322.out) k_ hk)); (case aO => exact (by (with_reducible repeat (first | apply Kd.S_alloc | apply Kd.S_drewN | apply Kd.S_drew)); exact Kd.S_mono HO_5.out (fun k_ hk => ⟨hk.1, fun e_ => hk.2 e_⟩))); (case aS => exact (below_size (by repeat (first | (with_reducible first | exact HB.out | apply below_alloc | apply pw_below_drewN | apply below_drew1 | refine below_set ?_ GE322.out) | exact HB.out)))); (case aL => have := LMc16.out; omega); intro v344 w22 ho hb hg hat; rw [← Ny343.out] at ho; have n0_ := Aside0.mk (blk_grown (g := gb322) (o := .cells #[.int .i64 a1_0, .int .i64 a1_1, .int .i64 a1_2, .slice A1_3 l1_3.length c1_3] 33 (0, 0)) (by (with_reducible repeat (first | refine blk_drewN ?_ _ | refine blk_drew ?_ | refine blk_alloc ?_ _)); exact BK322.out) hg (Kd.S_away HO_5.out (fun _ hk => hk.1))); have n1_ := Aside0.mk (hb); have n2_ := Aside0.mk (ho); clear BK322; clear HB; clear HO_5; clear HO342; have BK322 := n0_; have HB := n1_; have HO345 := n2_; clear n0_ n1_ n2_; clear ho hb hg hat; have p346 : 0 ≤ (x7_1 : Int) := of_decide_eq_true (by first | (with_reducible assumption) | assumption); have q346 : x7_1 < (l0.length : Int) := of_decide_eq_true (by first | (with_reducible assumption) | assumption); obtain ⟨ad346, A346_3, c346_3, e346, hx346_0, hx346_1, hx346_2, hx346_3, hl346_3, hi346_3⟩ := at_T33 HR0.out x7_1 p346 q346; cases e346; replace hx346_0 := (HB.out.cell (World.block_lt_of_cell? w _ hx346_0)).trans hx346_0; replace hx346_1 := (HB.out.cell (World.block_lt_of_cell? w _ hx346_1)).trans hx346_1; replace hx346_2 := (HB.out.cell (World.block_lt_of_cell? w _ hx346_2)).trans hx346_2; replace hx346_3 := (HB.out.cell (World.block_lt_of_cell? w _ hx346_3)).trans hx346_3; have HR346_3 := Aside0.mk hi346_3; have HC346_3 := Aside0.mk hl346_3; clear hi346_3 hl346_3; replace p346 := eq_true p346; replace q346 := eq_true q346; have hcz24_0 : w22.cell? ⟨gb322, 0, none⟩ = some (.int .i64 a1_0) := (blk_cell BK322.out 0).trans rfl; have hcz24_1 : w22.cell? ⟨gb322, 1, none⟩ = some (.int .i64 a1_1) := (blk_cell BK322.out 1).trans rfl; have hcz24_2 : w22.cell? ⟨gb322, 2, none⟩ = some (.int .i64 a1_2) := (blk_cell BK322.out 2).trans rfl; have hcz24_3 : w22.cell? ⟨gb322, 3, none⟩ = some (.slice A1_3 l1_3.length c1_3) := (blk_cell BK322.out 3).trans rfl; have hfz24_0 := blk_frozen BK322.out 0; have hfz24_1 := blk_frozen BK322.out 1; have hfz24_2 := blk_frozen BK322.out 2; have hfz24_3 := blk_frozen BK322.out 3)); try go_wp2_with (first | (go_at_call 29; (with_reducible refine (spileref22_Copy.calls a1_0 a1_1 a1_2 _ _ l1_3 t337 t338 t339 t340 _ ?side1 ?side2 A15.out).mono ?_); (case side1 => repeat (first | exact (Kd.C_below HR1_3.out HB.out) | (with_reducible refine Kd.C_alloc ?_ _) | (with_reducible refine Kd.C_drewN ?_ _) | (with_reducible refine Kd.C_drew ?_))); (case side2 => exact HC1_3.out); rintro e w21 ⟨v341, rfl, ho0, hb⟩; have n0_ := Aside0.mk (Kd.S_elder' (by (with_reducible repeat (first | apply Kd.S_alloc | apply Kd.S_drewN | apply Kd.S_drew)); exact HO_5.out) (Kd.R_base ho0) hb); have n1_ := Aside0.mk (Kd.R_lower ho0 (below_size (by repeat (first | (with_reducible first | exact HB.out | apply below_alloc | apply pw_below_drewN | apply below_drew1 | refine below_set ?_ GE322.out) | exact HB.out)))); have n2_ := Aside0.mk (blk_below (g := gb322) (o := .cells #[.int .i64 a1_0, .int .i64 a1_1, .int .i64 a1_2, .slice A1_3 l1_3.length c1_3] 33 (0, 0)) (by (with_reducible repeat (first | refine blk_drewN ?_ _ | refine blk_drew ?_ | refine blk_alloc ?_ _)); exact BK322.out) hb); have n3_ := Aside0.mk (below_step (by repeat (first | (with_reducible first | exact HB.out | apply below_alloc | apply pw_below_drewN | apply below_drew1 | refine below_set ?_ GE322.out) | exact HB.out)) hb); clear HO_5; clear BK322; clear HB; have HO_5 := n0_; have HO342 := n1_; have BK322 := n2_; have HB := n3_; clear n0_ n1_ n2_ n3_; (try clear hb); (try clear hb2); (try clear hk); (try clear hi); (try clear ho0); obtain ⟨Ao23, co23, eo23⟩ := Kd.R_slice HO342.out; subst eo23) | ((with_reducible refine gate_builtin (b := .append) (xs := #[.tmp 29, .tmp 32]) rfl ?_); at_builtin; refine Kd.S_append k33 (w0 := w) w.heap.size rfl (.tmp 29) (.tmp 32) 22 33 (.agg #[(.int .i64 0), (.int .i64 0), (.int .i64 0), (.slice none 0 0)]) 48 rfl Tryd.underlying22 info33 rfl (by decide) (by omega) u5 x5_1 (⟨t337, (⟨t338, t339⟩ : S26), t340⟩ : S33) [.int .i64 t337, .int .i64 t338, .int .i64 t339, .slice Ao23 t340.length co23] (fun k_ => k_ ≠ gb322) (fun k_ => some k_ = (.slice Ao23 t340.length co23 : Value).ownBlock) rfl rfl ?aP (fun k_ hk_ => ((Kd.R_mono (ok' := fun k_ => ((fun k_ => k_ ≠ gb322)) k_ ∧ some k_ ≠ (u5 : Value).ownBlock) (Kd.R_types (Kd.R_apart' (HO342.out) (Kd.S_typed HO_5.out) (by decide)) BK322.out (by decide)) (fun k_ hk => ⟨hk.2, hk.1.2⟩))).1 k_ hk_.symm) ?aF ?aO ?aB ?aS ?aL ?_; (case aP => exact k33_mkM _ _ _ (⟨t337, (⟨t338, t339⟩ : S26), t340⟩ : S33) (Kd.R_mono (Kd.R_tight rfl (Kd.R_mono (ok' := fun k_ => ((fun k_ => k_ ≠ gb322)) k_ ∧ some k_ ≠ (u5 : Value).ownBlock) (Kd.R_types (Kd.R_apart' (HO342.out) (Kd.S_typed HO_5.out) (by decide)) BK322.out (by decide)) (fun k_ hk => ⟨hk.2, hk.1.2⟩))) (fun _ h_ => h_))); (case aB => exact (by repeat (first | (with_reducible first | exact HB.out | apply below_alloc | apply pw_below_drewN | apply below_drew1 | refine below_set ?_ GE322.out) | exact HB.out))); (case aF => exact (fun k_ hk => Kd.freshB (g := gb322) (o := .cells #[.int .i64 a1_0, .int .i64 a1_1, .int .i64 a1_2, .slice A1_3 l1_3.length c1_3] 33 (0, 0)) (by (with_reducible repeat (first | refine blk_drewN ?_ _ | refine blk_drew ?_ | refine blk_alloc ?_ _)); exact BK322.out) k_ hk)); (case aO => exact (by (with_reducible repeat (first | apply Kd.S_alloc | apply Kd.S_drewN | apply Kd.S_drew)); exact Kd.S_mono HO_5.out (fun k_ hk => ⟨hk.1, fun e_ => hk.2 e_⟩))); (case aS => exact (below_size (by repeat (first | (with_reducible first | exact HB.out | apply below_alloc | apply pw_below_drewN | apply below_drew1 | refine below_set ?_ GE322.out) | exact HB.out)))); (case aL => have := LMc16.out; omega); intro v344 w22 ho hb hg hat; rw [← Ny343.out] at ho; have n0_ := Aside0.mk (blk_grown (g := gb322) (o := .cells #[.int .i64 a1_0, .int .i64 a1_1, .int .i64 a1_2, .slice A1_3 l1_3.length c1_3] 33 (0, 0)) (by (with_reducible repeat (first | refine blk_drewN ?_ _ | refine blk_drew ?_ | refine blk_alloc ?_ _)); exact BK322.out) hg (Kd.S_away HO_5.out (fun _ hk => hk.1))); have n1_ := Aside0.mk (hb); have n2_ := Aside0.mk (ho); clear BK322; clear HB; clear HO_5; clear HO342; have BK322 := n0_; have HB := n1_; have HO345 := n2_; clear n0_ n1_ n2_; clear ho hb hg hat; have p346 : 0 ≤ (x7_1 : Int) := of_decide_eq_true (by first | (with_reducible assumption) | assumption); have q346 : x7_1 < (l0.length : Int) := of_decide_eq_true (by first | (with_reducible assumption) | assumption); obtain ⟨ad346, A346_3, c346_3, e346, hx346_0, hx346_1, hx346_2, hx346_3, hl346_3, hi346_3⟩ := at_T33 HR0.out x7_1 p346 q346; cases e346; replace hx346_0 := (HB.out.cell (World.block_lt_of_cell? w _ hx346_0)).trans hx346_0; replace hx346_1 := (HB.out.cell (World.block_lt_of_cell? w _ hx346_1)).trans hx346_1; replace hx346_2 := (HB.out.cell (World.block_lt_of_cell? w _ hx346_2)).trans hx346_2; replace hx346_3 := (HB.out.cell (World.block_lt_of_cell? w _ hx346_3)).trans hx346_3; have HR346_3 := Aside0.mk hi346_3; have HC346_3 := Aside0.mk hl346_3; clear hi346_3 hl346_3; replace p346 := eq_true p346; replace q346 := eq_true q346; have hcz24_0 : w22.cell? ⟨gb322, 0, none⟩ = some (.int .i64 a1_0) := (blk_cell BK322.out 0).trans rfl; have hcz24_1 : w22.cell? ⟨gb322, 1, none⟩ = some (.int .i64 a1_1) := (blk_cell BK322.out 1).trans rfl; have hcz24_2 : w22.cell? ⟨gb322, 2, none⟩ = some (.int .i64 a1_2) := (blk_cell BK322.out 2).trans rfl; have hcz24_3 : w22.cell? ⟨gb322, 3, none⟩ = some (.slice A1_3 l1_3.length c1_3) := (blk_cell BK322.out 3).trans rfl; have hfz24_0 := blk_frozen BK322.out 0; have hfz24_1 := blk_frozen BK322.out 1; have hfz24_2 := blk_frozen BK322.out 2; have hfz24_3 := blk_frozen BK322.out 3)))
           go_roundg kj9
           case measure => have := HK1.out; have := HJ9.out; omega
           case rel => exact ⟨(y343), (true), (wrap64 (x7_1 + 1)), (by first | rfl | (simp; done) | (simp [*]; done)), (by first | rfl | (simp; done) | (simp [*]; done)), H', ⟨by have := HK1.out; have := HJ9.out; omega⟩, ⟨by (with_reducible repeat (first | apply Kd.S_alloc | apply Kd.S_drewN | apply Kd.S_drew)); exact HO345.out⟩, ⟨by (with_reducible repeat (first | refine blk_drewN ?_ _ | refine blk_drew ?_ | refine blk_alloc ?_ _)); exact BK322.out⟩, ⟨by repeat (first | (with_reducible first | exact HB.out | apply below_alloc | apply pw_below_drewN | apply below_drew1 | refine below_set ?_ GE322.out) | exact HB.out)⟩⟩
          ·
           rw [if_neg c19] at H
           have c19b0 : (((rd_T33 l0 x7_1).f0) == a1_0) = false := beq_eq_false_iff_ne.mpr c19
           have c19b1 : (((rd_T33 l0 x7_1).f0) != a1_0) = true := bne_iff_ne.mpr c19
           replace H := Option.bind_eq_some_iff.mp H
           obtain ⟨⟨t348, t349, t350, t351⟩, A250, H⟩ := H
           replace H : (if y343.length < 2932031007402 then (spileref22_Set.l0 kj9 l0 (y343 ++ [(⟨t348, (⟨t349, t350⟩ : S26), t351⟩ : S33)]) true (wrap64 (x7_1 + 1)) a1_0 a1_1 a1_2 l1_3) else (none)) = some r := H
           have A25 := Aside0.mk A250
           clear A250
           by_cases c26 : y343.length < 2932031007402
           ·
            rw [if_pos c26] at H
            have LMc26 := Aside0.mk c26
            clear c26
            obtain ⟨y354, hy354⟩ : ∃ y_ : List (S33), y_ = (y343 ++ [(⟨t348, (⟨t349, t350⟩ : S26), t351⟩ : S33)]) := ⟨_, rfl⟩
            replace H : (spileref22_Set.l0 kj9 l0 y354 true (wrap64 (x7_1 + 1)) a1_0 a1_1 a1_2 l1_3) = some r := by first | (rw [hy354]; with_reducible exact H) | (have H2_ := (Option.bind_some _ _).symm.trans H; rw [hy354]; with_reducible exact H2_) | (have H2_ := (Option.bind_some _ _).symm.trans H; with_reducible exact H2_) | with_reducible exact H | (rw [hy354]; exact H) | exact H
            have Ny354 := Aside0.mk hy354
            clear hy354
            have H' := Aside0.mk H
            clear H
            have hcz27_0 : wc.cell? ⟨gb322, 0, none⟩ = some (.int .i64 a1_0) := (blk_cell BK322.out 0).trans rfl
            have hcz27_1 : wc.cell? ⟨gb322, 1, none⟩ = some (.int .i64 a1_1) := (blk_cell BK322.out 1).trans rfl
            have hcz27_2 : wc.cell? ⟨gb322, 2, none⟩ = some (.int .i64 a1_2) := (blk_cell BK322.out 2).trans rfl
            have hcz27_3 : wc.cell? ⟨gb322, 3, none⟩ = some (.slice A1_3 l1_3.length c1_3) := (blk_cell BK322.out 3).trans rfl
            have hfz27_0 := blk_frozen BK322.out 0
            have hfz27_1 := blk_frozen BK322.out 1
            have hfz27_2 := blk_frozen BK322.out 2
            have hfz27_3 := blk_frozen BK322.out 3
            go_wp2_with (first | (go_at_call 29; (with_reducible refine (spileref22_Copy.calls a1_0 a1_1 a1_2 _ _ l1_3 t337 t338 t339 t340 _ ?side1 ?side2 A15.out).mono ?_); (case side1 => repeat (first | exact (Kd.C_below HR1_3.out HB.out) | (with_reducible refine Kd.C_alloc ?_ _) | (with_reducible refine Kd.C_drewN ?_ _) | (with_reducible refine Kd.C_drew ?_))); (case side2 => exact HC1_3.out); rintro e w28 ⟨v341, rfl, ho0, hb⟩; have n0_ := Aside0.mk (Kd.S_elder' (by (with_reducible repeat (first | apply Kd.S_alloc | apply Kd.S_drewN | apply Kd.S_drew)); exact HO_5.out) (Kd.R_base ho0) hb); have n1_ := Aside0.mk (Kd.R_lower ho0 (below_size (by repeat (first | (with_reducible first | exact HB.out | apply below_alloc | apply pw_below_drewN | apply below_drew1 | refine below_set ?_ GE322.out) | exact HB.out)))); have n2_ := Aside0.mk (blk_below (g := gb322) (o := .cells #[.int .i64 a1_0, .int .i64 a1_1, .int .i64 a1_2, .slice A1_3 l1_3.length c1_3] 33 (0, 0)) (by (with_reducible repeat (first | refine blk_drewN ?_ _ | refine blk_drew ?_ | refine blk_alloc ?_ _)); exact BK322.out) hb); have n3_ := Aside0.mk (below_step (by repeat (first | (with_reducible first | exact HB.out | apply below_alloc | apply pw_below_drewN | apply below_drew1 | refine below_set ?_ GE322.out) | exact HB.out)) hb); clear HO_5; clear BK322; clear HB; have HO_5 := n0_; have HO342 := n1_; have BK322 := n2_; have HB := n3_; clear n0_ n1_ n2_ n3_; (try clear hb); (try clear hb2); (try clear hk); (try clear hi); (try clear ho0); obtain ⟨Ao30, co30, eo30⟩ := Kd.R_slice HO342.out; subst eo30) | ((with_reducible refine gate_builtin (b := .append) (xs := #[.tmp 29, .tmp 32]) rfl ?_); at_builtin; refine Kd.S_append k33 (w0 := w) w.heap.size rfl (.tmp 29) (.tmp 32) 22 33 (.agg #[(.int .i64 0), (.int .i64 0), (.int .i64 0), (.slice none 0 0)]) 48 rfl Tryd.underlying22 info33 rfl (by decide) (by omega) u5 x5_1 (⟨t337, (⟨t338, t339⟩ : S26), t340⟩ : S33) [.int .i64 t337, .int .i64 t338, .int .i64 t339, .slice Ao30 t340.length co30] (fun k_ => k_ ≠ gb322) (fun k_ => some k_ = (.slice Ao30 t340.length co30 : Value).ownBlock) rfl rfl ?aP (fun k_ hk_ => ((Kd.R_mono (ok' := fun k_ => ((fun k_ => k_ ≠ gb322)) k_ ∧ some k_ ≠ (u5 : Value).ownBlock) (Kd.R_types (Kd.R_apart' (HO342.out) (Kd.S_typed HO_5.out) (by decide)) BK322.out (by decide)) (fun k_ hk => ⟨hk.2, hk.1.2⟩))).1 k_ hk_.symm) ?aF ?aO ?aB ?aS ?aL ?_; (case aP => exact k33_mkM _ _ _ (⟨t337, (⟨t338, t339⟩ : S26), t340⟩ : S33) (Kd.R_mono (Kd.R_tight rfl (Kd.R_mono (ok' := fun k_ => ((fun k_ => k_ ≠ gb322)) k_ ∧ some k_ ≠ (u5 : Value).ownBlock) (Kd.R_types (Kd.R_apart' (HO342.out) (Kd.S_typed HO_5.out) (by decide)) BK322.out (by decide)) (fun k_ hk => ⟨hk.2, hk.1.2⟩))) (fun _ h_ => h_))); (case aB => exact (by repeat (first | (with_reducible first | exact HB.out | apply below_alloc | apply pw_below_drewN | apply below_drew1 | refine below_set ?_ GE322.out) | exact HB.out))); (case aF => exact (fun k_ hk => Kd.freshB (g := gb322) (o := .cells #[.int .i64 a1_0, .int .i64 a1_1, .int .i64 a1_2, .slice A1_3 l1_3.length c1_3] 33 (0, 0)) (by (with_reducible repeat (first | refine blk_drewN ?_ _ | refine blk_drew ?_ | refine blk_alloc ?_ _)); exact BK322.out) k_ hk)); (case aO => exact (by (with_reducible repeat (first | apply Kd.S_alloc | apply Kd.S_drewN | apply Kd.S_drew)); exact Kd.S_mono HO_5.out (fun k_ hk => ⟨hk.1, fun e_ => hk.2 e_⟩))); (case aS => exact (below_size (by repeat (first | (with_reducible first | exact HB.out | apply below_alloc | apply pw_below_drewN | apply below_drew1 | refine below_set ?_ GE322.out) | exact HB.out)))); (case aL => have := LMc16.out; omega); intro v344 w29 ho hb hg hat; rw [← Ny343.out] at ho; have n0_ := Aside0.mk (blk_grown (g := gb322) (o := .cells #[.int .i64 a1_0, .int .i64 a1_1, .int .i64 a1_2, .slice A1_3 l1_3.length c1_3] 33 (0, 0)) (by (with_reducible repeat (first | refine blk_drewN ?_ _ | refine blk_drew ?_ | refine blk_alloc ?_ _)); exact BK322.out) hg (Kd.S_away HO_5.out (fun _ hk => hk.1))); have n1_ := Aside0.mk (hb); have n2_ := Aside0.mk (ho); clear BK322; clear HB; clear HO_5; clear HO342; have BK322 := n0_; have HB := n1_; have HO345 := n2_; clear n0_ n1_ n2_; clear ho hb hg hat; have p346 : 0 ≤ (x7_1 : Int) := of_decide_eq_true (by first | (with_reducible assumption) | assumption); have q346 : x7_1 < (l0.length : Int) := of_decide_eq_true (by first | (with_reducible assumption) | assumption); obtain ⟨ad346, A346_3, c346_3, e346, hx346_0, hx346_1, hx346_2, hx346_3, hl346_3, hi346_3⟩ := at_T33 HR0.out x7_1 p346 q346; cases e346; replace hx346_0 := (HB.out.cell (World.block_lt_of_cell? w _ hx346_0)).trans hx346_0; replace hx346_1 := (HB.out.cell (World.block_lt_of_cell? w _ hx346_1)).trans hx346_1; replace hx346_2 := (HB.out.cell (World.block_lt_of_cell? w _ hx346_2)).trans hx346_2; replace hx346_3 := (HB.out.cell (World.block_lt_of_cell? w _ hx346_3)).trans hx346_3; have HR346_3 := Aside0.mk hi346_3; have HC346_3 := Aside0.mk hl346_3; clear hi346_3 hl346_3; replace p346 := eq_true p346; replace q346 := eq_true q346; have hcz31_0 : w29.cell? ⟨gb322, 0, none⟩ = some (.int .i64 a1_0) := (blk_cell BK322.out 0).trans rfl; have hcz31_1 : w29.cell? ⟨gb322, 1, none⟩ = some (.int .i64 a1_1) := (blk_cell BK322.out 1).trans rfl; have hcz31_2 : w29.cell? ⟨gb322, 2, none⟩ = some (.int .i64 a1_2) := (blk_cell BK322.out 2).trans rfl; have hcz31_3 : w29.cell? ⟨gb322, 3, none⟩ = some (.slice A1_3 l1_3.length c1_3) := (blk_cell BK322.out 3).trans rfl; have hfz31_0 := blk_frozen BK322.out 0; have hfz31_1 := blk_frozen BK322.out 1; have hfz31_2 := blk_frozen BK322.out 2; have hfz31_3 := blk_frozen BK322.out 3; have p347 : 0 ≤ (x7_1 : Int) := of_decide_eq_true (by first | (with_reducible assumption) | assumption); have q347 : x7_1 < (l0.length : Int) := of_decide_eq_true (by first | (with_reducible assumption) | assumption); obtain ⟨ad347, A347_3, c347_3, e347, hx347_0, hx347_1, hx347_2, hx347_3, hl347_3, hi347_3⟩ := at_T33 HR0.out x7_1 p347 q347; obtain rfl : ad346 = ad347 := (by injection e347); replace hx347_0 := (HB.out.cell (World.block_lt_of_cell? w _ hx347_0)).trans hx347_0; replace hx347_1 := (HB.out.cell (World.block_lt_of_cell? w _ hx347_1)).trans hx347_1; replace hx347_2 := (HB.out.cell (World.block_lt_of_cell? w _ hx347_2)).trans hx347_2; replace hx347_3 := (HB.out.cell (World.block_lt_of_cell? w _ hx347_3)).trans hx347_3; have HR347_3 := Aside0.mk hi347_3; have HC347_3 := Aside0.mk hl347_3; clear hi347_3 hl347_3; replace p347 := eq_true p347; replace q347 := eq_true q347; have ea_ := Option.some.inj (hx346_3.symm.trans hx347_3); injection ea_ with ea_ en_ ec_; subst ea_; subst ec_; clear en_) | (go_at_call 29; (with_reducible refine (spileref22_Copy.calls ((rd_T33 l0 x7_1).f0) ((rd_T33 l0 x7_1).f1.f0) ((rd_T33 l0 x7_1).f1.f1) _ _ ((rd_T33 l0 x7_1).f2) t348 t349 t350 t351 _ ?side1 ?side2 A25.out).mono ?_); (case side1 => repeat (first | exact (Kd.C_below HR347_3.out HB.out) | (with_reducible refine Kd.C_alloc ?_ _) | (with_reducible refine Kd.C_drewN ?_ _) | (with_reducible refine Kd.C_drew ?_))); (case side2 => exact HC347_3.out); rintro e w32 ⟨v352, rfl, ho0, hb⟩; have n0_ := Aside0.mk (Kd.S_elder' (by (with_reducible repeat (first | apply Kd.S_alloc | apply Kd.S_drewN | apply Kd.S_drew)); exact HO345.out) (Kd.R_base ho0) hb); have n1_ := Aside0.mk (Kd.R_lower ho0 (below_size (by repeat (first | (with_reducible first | exact HB.out | apply below_alloc | apply pw_below_drewN | apply below_drew1 | refine below_set ?_ GE322.out) | exact HB.out)))); have n2_ := Aside0.mk (blk_below (g := gb322) (o := .cells #[.int .i64 a1_0, .int .i64 a1_1, .int .i64 a1_2, .slice A1_3 l1_3.length c1_3] 33 (0, 0)) (by (with_reducible repeat (first | refine blk_drewN ?_ _ | refine blk_drew ?_ | refine blk_alloc ?_ _)); exact BK322.out) hb); have n3_ := Aside0.mk (below_step (by repeat (first | (with_reducible first | exact HB.out | apply below_alloc | apply pw_below_drewN | apply below_drew1 | refine below_set ?_ GE322.out) | exact HB.out)) hb); clear HO345; clear BK322; clear HB; have HO345 := n0_; have HO353 := n1_; have BK322 := n2_; have HB := n3_; clear n0_ n1_ n2_ n3_; (try clear hb); (try clear hb2); (try clear hk); (try clear hi); (try clear ho0); obtain ⟨Ao34, co34, eo34⟩ := Kd.R_slice HO353.out; subst eo34) | ((with_reducible refine gate_builtin (b := .append) (xs := #[.tmp 42, .tmp 48]) rfl ?_); at_builtin; refine Kd.S_append k33 (w0 := w) w.heap.size rfl (.tmp 42) (.tmp 48) 22 33 (.agg #[(.int .i64 0), (.int .i64 0), (.int .i64 0), (.slice none 0 0)]) 48 rfl Tryd.underlying22 info33 rfl (by decide) (by omega) v344 y343 (⟨t348, (⟨t349, t350⟩ : S26), t351⟩ : S33) [.int .i64 t348, .int .i64 t349, .int .i64 t350, .slice Ao34 t351.length co34] (fun k_ => k_ ≠ gb322) (fun k_ => some k_ = (.slice Ao34 t351.length co34 : Value).ownBlock) rfl rfl ?aP (fun k_ hk_ => ((Kd.R_mono (ok' := fun k_ => ((fun k_ => k_ ≠ gb322)) k_ ∧ some k_ ≠ (v344 : Value).ownBlock) (Kd.R_types (Kd.R_apart' (HO353.out) (Kd.S_typed HO345.out) (by decide)) BK322.out (by decide)) (fun k_ hk => ⟨hk.2, hk.1.2⟩))).1 k_ hk_.symm) ?aF ?aO ?aB ?aS ?aL ?_; (case aP => exact k33_mkM _ _ _ (⟨t348, (⟨t349, t350⟩ : S26), t351⟩ : S33) (Kd.R_mono (Kd.R_tight rfl (Kd.R_mono (ok' := fun k_ => ((fun k_ => k_ ≠ gb322)) k_ ∧ some k_ ≠ (v344 : Value).ownBlock) (Kd.R_types (Kd.R_apart' (HO353.out) (Kd.S_typed HO345.out) (by decide)) BK322.out (by decide)) (fun k_ hk => ⟨hk.2, hk.1.2⟩))) (fun _ h_ => h_))); (case aB => exact (by repeat (first | (with_reducible first | exact HB.out | apply below_alloc | apply pw_below_drewN | apply below_drew1 | refine below_set ?_ GE322.out) | exact HB.out))); (case aF => exact (fun k_ hk => Kd.freshB (g := gb322) (o := .cells #[.int .i64 a1_0, .int .i64 a1_1, .int .i64 a1_2, .slice A1_3 l1_3.length c1_3] 33 (0, 0)) (by (with_reducible repeat (first | refine blk_drewN ?_ _ | refine blk_drew ?_ | refine blk_alloc ?_ _)); exact BK322.out) k_ hk)); (case aO => exact (by (with_reducible repeat (first | apply Kd.S_alloc | apply Kd.S_drewN | apply Kd.S_drew)); exact Kd.S_mono HO345.out (fun k_ hk => ⟨hk.1, fun e_ => hk.2 e_⟩))); (case aS => exact (below_size (by repeat (first | (with_reducible first | exact HB.out | apply below_alloc | apply pw_below_drewN | apply below_drew1 | refine below_set ?_ GE322.out) | exact HB.out)))); (case aL => have := LMc26.out; omega); intro v355 w33 ho hb hg hat; rw [← Ny354.out] at ho; have n0_ := Aside0.mk (blk_grown (g := gb322) (o := .cells #[.int .i64 a1_0, .int .i64 a1_1, .int .i64 a1_2, .slice A1_3 l1_3.length c1_3] 33 (0, 0)) (by (with_reducible repeat (first | refine blk_drewN ?_ _ | refine blk_drew ?_ | refine blk_alloc ?_ _)); exact BK322.out) hg (Kd.S_away HO345.out (fun _ hk => hk.1))); have n1_ := Aside0.mk (hb); have n2_ := Aside0.mk (ho); clear BK322; clear HB; clear HO345; clear HO353; have BK322 := n0_; have HB := n1_; have HO356 := n2_; clear n0_ n1_ n2_; clear ho hb hg hat))
            repeat (go_quiet (first | (go_at_call 29; (with_reducible refine (spileref22_Copy.calls a1_0 a1_1 a1_2 _ _ l1_3 t337 t338 t339 t340 _ ?side1 ?side2 A15.out).mono ?_); (case side1 => repeat (first | exact (Kd.C_below HR1_3.out HB.out) | (with_reducible refine Kd.C_alloc ?_ _) | (with_reducible refine Kd.C_drewN ?_ _) | (with_reducible refine Kd.C_drew ?_))); (case side2 => exact HC1_3.out); rintro e w28 ⟨v341, rfl, ho0, hb⟩; have n0_ := Aside0.mk (Kd.S_elder' (by (with_reducible repeat (first | apply Kd.S_alloc | apply Kd.S_drewN | apply Kd.S_drew)); exact HO_5.out) (Kd.R_base ho0) hb); have n1_ := Aside0.mk (Kd.R_lower ho0 (below_size (by repeat (first | (with_reducible first | exact HB.out | apply below_alloc | apply pw_below_drewN | apply below_drew1 | refine below_set ?_ GE322.out) | exact HB.out)))); have n2_ := Aside0.mk (blk_below (g := gb322) (o := .cells #[.int .i64 a1_0, .int .i64 a1_1, .int .i64 a1_2, .slice A1_3 l1_3.length c1_3] 33 (0, 0)) (by (with_reducible repeat (first | refine blk_drewN ?_ _ | refine blk_drew ?_ | refine blk_alloc ?_ _)); exact BK322.out) hb); have n3_ := Aside0.mk (below_step (by repeat (first | (with_reducible first | exact HB.out | apply below_alloc | apply pw_below_drewN | apply below_drew1 | refine below_set ?_ GE322.out) | exact HB.out)) hb); clear HO_5; clear BK322; clear HB; have HO_5 := n0_; have HO342 := n1_; have BK322 := n2_; have HB := n3_; clear n0_ n1_ n2_ n3_; (try clear hb); (try clear hb2); (try clear hk); (try clear hi); (try clear ho0); obtain ⟨Ao30, co30, eo30⟩ := Kd.R_slice HO342.out; subst eo30) | ((with_reducible refine gate_builtin (b := .append) (xs := #[.tmp 29, .tmp 32]) rfl ?_); at_builtin; refine Kd.S_append k33 (w0 := w) w.heap.size rfl (.tmp 29) (.tmp 32) 22 33 (.agg #[(.int .i64 0), (.int .i64 0), (.int .i64 0), (.slice none 0 0)]) 48 rfl Tryd.underlying22 info33 rfl (by decide) (by omega) u5 x5_1 (⟨t337, (⟨t338, t339⟩ : S26), t340⟩ : S33) [.int .i64 t337, .int .i64 t338, .int .i64 t339, .slice Ao30 t340.length co30] (fun k_ => k_ ≠ gb322) (fun k_ => some k_ = (.slice Ao30 t340.length co30 : Value).ownBlock) rfl rfl ?aP (fun k_ hk_ => ((Kd.R_mono (ok' := fun k_ => ((fun k_ => k_ ≠ gb322)) k_ ∧ some k_ ≠ (u5 : Value).ownBlock) (Kd.R_types (Kd.R_apart' (HO342.out) (Kd.S_typed HO_5.out) (by decide)) BK322.out (by decide)) (fun k_ hk => ⟨hk.2, hk.1.2⟩))).1 k_ hk_.symm) ?aF ?aO ?aB ?aS ?aL ?_; (case aP => exact k33_mkM _ _ _ (⟨t337, (⟨t338, t339⟩ : S26), t340⟩ : S33) (Kd.R_mono (Kd.R_tight rfl (Kd.R_mono (ok' := fun k_ => ((fun k_ => k_ ≠ gb322)) k_ ∧ some k_ ≠ (u5 : Value).ownBlock) (Kd.R_types (Kd.R_apart' (HO342.out) (Kd.S_typed HO_5.out) (by decide)) BK322.out (by decide)) (fun k_ hk => ⟨hk.2, hk.1.2⟩))) (fun _ h_ => h_))); (case aB => exact (by repeat (first | (with_reducible first | exact HB.out | apply below_alloc | apply pw_below_drewN | apply below_drew1 | refine below_set ?_ GE322.out) | exact HB.out))); (case aF => exact (fun k_ hk => Kd.freshB (g := gb322) (o := .cells #[.int .i64 a1_0, .int .i64 a1_1, .int .i64 a1_2, .slice A1_3 l1_3.length c1_3] 33 (0, 0)) (by (with_reducible repeat (first | refine blk_drewN ?_ _ | refine blk_drew ?_ | refine blk_alloc ?_ _)); exact BK322.out) k_ hk)); (case aO => exact (by (with_reducible repeat (first | apply Kd.S_alloc | apply Kd.S_drewN | apply Kd.S_drew)); exact Kd.S_mono HO_5.out (fun k_ hk => ⟨hk.1, fun e_ => hk.2 e_⟩))); (case aS => exact (below_size (by repeat (first | (with_reducible first | exact HB.out | apply below_alloc | apply pw_below_drewN | apply below_drew1 | refine below_set ?_ GE322.out) | exact HB.out)))); (case aL => have := LMc16.out; omega); intro v344 w29 ho hb hg hat; rw [← Ny343.out] at ho; have n0_ := Aside0.mk (blk_grown (g := gb322) (o := .cells #[.int .i64 a1_0, .int .i64 a1_1, .int .i64 a1_2, .slice A1_3 l1_3.length c1_3] 33 (0, 0)) (by (with_reducible repeat (first | refine blk_drewN ?_ _ | refine blk_drew ?_ | refine blk_alloc ?_ _)); exact BK322.out) hg (Kd.S_away HO_5.out (fun _ hk => hk.1))); have n1_ := Aside0.mk (hb); have n2_ := Aside0.mk (ho); clear BK322; clear HB; clear HO_5; clear HO342; have BK322 := n0_; have HB := n1_; have HO345 := n2_; clear n0_ n1_ n2_; clear ho hb hg hat; have p346 : 0 ≤ (x7_1 : Int) := of_decide_eq_true (by first | (with_reducible assumption) | assumption); have q346 : x7_1 < (l0.length : Int) := of_decide_eq_true (by first | (with_reducible assumption) | assumption); obtain ⟨ad346, A346_3, c346_3, e346, hx346_0, hx346_1, hx346_2, hx346_3, hl346_3, hi346_3⟩ := at_T33 HR0.out x7_1 p346 q346; cases e346; replace hx346_0 := (HB.out.cell (World.block_lt_of_cell? w _ hx346_0)).trans hx346_0; replace hx346_1 := (HB.out.cell (World.block_lt_of_cell? w _ hx346_1)).trans hx346_1; replace hx346_2 := (HB.out.cell (World.block_lt_of_cell? w _ hx346_2)).trans hx346_2; replace hx346_3 := (HB.out.cell (World.block_lt_of_cell? w _ hx346_3)).trans hx346_3; have HR346_3 := Aside0.mk hi346_3; have HC346_3 := Aside0.mk hl346_3; clear hi346_3 hl346_3; replace p346 := eq_true p346; replace q346 := eq_true q346; have hcz31_0 : w29.cell? ⟨gb322, 0, none⟩ = some (.int .i64 a1_0) := (blk_cell BK322.out 0).trans rfl; have hcz31_1 : w29.cell? ⟨gb322, 1, none⟩ = some (.int .i64 a1_1) := (blk_cell BK322.out 1).trans rfl; have hcz31_2 : w29.cell? ⟨gb322, 2, none⟩ = some (.int .i64 a1_2) := (blk_cell BK322.out 2).trans rfl; have hcz31_3 : w29.cell? ⟨gb322, 3, none⟩ = some (.slice A1_3 l1_3.length c1_3) := (blk_cell BK322.out 3).trans rfl; have hfz31_0 := blk_frozen BK322.out 0; have hfz31_1 := blk_frozen BK322.out 1; have hfz31_2 := blk_frozen BK322.out 2; have hfz31_3 := blk_frozen BK322.out 3; have p347 : 0 ≤ (x7_1 : Int) := of_decide_eq_true (by first | (with_reducible assumption) | assumption); have q347 : x7_1 < (l0.length : Int) := of_decide_eq_true (by first | (with_reducible assumption) | assumption); obtain ⟨ad347, A347_3, c347_3, e347, hx347_0, hx347_1, hx347_2, hx347_3, hl347_3, hi347_3⟩ := at_T33 HR0.out x7_1 p347 q347; obtain rfl : ad346 = ad347 := (by injection e347); replace hx347_0 := (HB.out.cell (World.block_lt_of_cell? w _ hx347_0)).trans hx347_0; replace hx347_1 := (HB.out.cell (World.block_lt_of_cell? w _ hx347_1)).trans hx347_1; replace hx347_2 := (HB.out.cell (World.block_lt_of_cell? w _ hx347_2)).trans hx347_2; replace hx347_3 := (HB.out.cell (World.block_lt_of_cell? w _ hx347_3)).trans hx347_3; have HR347_3 := Aside0.mk hi347_3; have HC347_3 := Aside0.mk hl347_3; clear hi347_3 hl347_3; replace p347 := eq_true p347; replace q347 := eq_true q347; have ea_ := Option.some.inj (hx346_3.symm.trans hx347_3); injection ea_ with ea_ en_ ec_; subst ea_; subst ec_; clear en_) | (go_at_call 29; (with_reducible refine (spileref22_Copy.calls ((rd_T33 l0 x7_1).f0) ((rd_T33 l0 x7_1).f1.f0) ((rd_T33 l0 x7_1).f1.f1) _ _ ((rd_T33 l0 x7_1).f2) t348 t349 t350 t351 _ ?side1 ?side2 A25.out).mono ?_); (case side1 => repeat (first | exact (Kd.C_below HR347_3.out HB.out) | (with_reducible refine Kd.C_alloc ?_ _) | (with_reducible refine Kd.C_drewN ?_ _) | (with_reducible refine Kd.C_drew ?_))); (case side2 => exact HC347_3.out); rintro e w32 ⟨v352, rfl, ho0, hb⟩; have n0_ := Aside0.mk (Kd.S_elder' (by (with_reducible repeat (first | apply Kd.S_alloc | apply Kd.S_drewN | apply Kd.S_drew)); exact HO345.out) (Kd.R_base ho0) hb); have n1_ := Aside0.mk (Kd.R_lower ho0 (below_size (by repeat (first | (with_reducible first | exact HB.out | apply below_alloc | apply pw_below_drewN | apply below_drew1 | refine below_set ?_ GE322.out) | exact HB.out)))); have n2_ := Aside0.mk (blk_below (g := gb322) (o := .cells #[.int .i64 a1_0, .int .i64 a1_1, .int .i64 a1_2, .slice A1_3 l1_3.length c1_3] 33 (0, 0)) (by (with_reducible repeat (first | refine blk_drewN ?_ _ | refine blk_drew ?_ | refine blk_alloc ?_ _)); exact BK322.out) hb); have n3_ := Aside0.mk (below_step (by repeat (first | (with_reducible first | exact HB.out | apply below_alloc | apply pw_below_drewN | apply below_drew1 | refine below_set ?_ GE322.out) | exact HB.out)) hb); clear HO345; clear BK322; clear HB; have HO345 := n0_; have HO353 := n1_; have BK322 := n2_; have HB := n3_; clear n0_ n1_ n2_ n3_; (try clear hb); (try clear hb2); (try clear hk); (try clear hi); (try clear ho0); obtain ⟨Ao34, co34, eo34⟩ := Kd.R_slice HO353.out; subst eo34) | ((with_reducible refine gate_builtin (b := .append) (xs := #[.tmp 42, .tmp 48]) rfl ?_); at_builtin; refine Kd.S_append k33 (w0 := w) w.heap.size rfl (.tmp 42) (.tmp 48) 22 33 (.agg #[(.int .i64 0), (.int .i64 0), (.int .i64 0), (.slice none 0 0)]) 48 rfl Tryd.underlying22 info33 rfl (by decide) (by omega) v344 y343 (⟨t348, (⟨t349, t350⟩ : S26), t351⟩ : S33) [.int .i64 t348, .int .i64 t349, .int .i64 t350, .slice Ao34 t351.length co34] (fun k_ => k_ ≠ gb322) (fun k_ => some k_ = (.slice Ao34 t351.length co34 : Value).ownBlock) rfl rfl ?aP (fun k_ hk_ => ((Kd.R_mono (ok' := fun k_ => ((fun k_ => k_ ≠ gb322)) k_ ∧ some k_ ≠ (v344 : Value).ownBlock) (Kd.R_types (Kd.R_apart' (HO353.out) (Kd.S_typed HO345.out) (by decide)) BK322.out (by decide)) (fun k_ hk => ⟨hk.2, hk.1.2⟩))).1 k_ hk_.symm) ?aF ?aO ?aB ?aS ?aL ?_; (case aP => exact k33_mkM _ _ _ (⟨t348, (⟨t349, t350⟩ : S26), t351⟩ : S33) (Kd.R_mono (Kd.R_tight rfl (Kd.R_mono (ok' := fun k_ => ((fun k_ => k_ ≠ gb322)) k_ ∧ some k_ ≠ (v344 : Value).ownBlock) (Kd.R_types (Kd.R_apart' (HO353.out) (Kd.S_typed HO345.out) (by decide)) BK322.out (by decide)) (fun k_ hk => ⟨hk.2, hk.1.2⟩))) (fun _ h_ => h_))); (case aB => exact (by repeat (first | (with_reducible first | exact HB.out | apply below_alloc | apply pw_below_drewN | apply below_drew1 | refine below_set ?_ GE322.out) | exact HB.out))); (case aF => exact (fun k_ hk => Kd.freshB (g := gb322) (o := .cells #[.int .i64 a1_0, .int .i64 a1_1, .int .i64 a1_2, .slice A1_3 l1_3.length c1_3] 33 (0, 0)) (by (with_reducible repeat (first | refine blk_drewN ?_ _ | refine blk_drew ?_ | refine blk_alloc ?_ _)); exact BK322.out) k_ hk)); (case aO => exact (by (with_reducible repeat (first | apply Kd.S_alloc | apply Kd.S_drewN | apply Kd.S_drew)); exact Kd.S_mono HO345.out (fun k_ hk => ⟨hk.1, fun e_ => hk.2 e_⟩))); (case aS => exact (below_size (by repeat (first | (with_reducible first | exact HB.out | apply below_alloc | apply pw_below_drewN | apply below_drew1 | refine below_set ?_ GE322.out) | exact HB.out)))); (case aL => have := LMc26.out; omega); intro v355 w33 ho hb hg hat; rw [← Ny354.out] at ho; have n0_ := Aside0.mk (blk_grown (g := gb322) (o := .cells #[.int .i64 a1_0, .int .i64 a1_1, .int .i64 a1_2, .slice A1_3 l1_3.length c1_3] 33 (0, 0)) (by (with_reducible repeat (first | refine blk_drewN ?_ _ | refine blk_drew ?_ | refine blk_alloc ?_ _)); exact BK322.out) hg (Kd.S_away HO345.out (fun _ hk => hk.1))); have n1_ := Aside0.mk (hb); have n2_ := Aside0.mk (ho); clear BK322; clear HB; clear HO345; clear HO353; have BK322 := n0_; have HB := n1_; have HO356 := n2_; clear n0_ n1_ n2_; clear ho hb hg hat)); try go_wp2_with (first | (go_at_call 29; (with_reducible refine (spileref22_Copy.calls a1_0 a1_1 a1_2 _ _ l1_3 t337 t338 t339 t340 _ ?side1 ?side2 A15.out).mono ?_); (case side1 => repeat (first | exact (Kd.C_below HR1_3.out HB.out) | (with_reducible refine Kd.C_alloc ?_ _) | (with_reducible refine Kd.C_drewN ?_ _) | (with_reducible refine Kd.C_drew ?_))); (case side2 => exact HC1_3.out); rintro e w28 ⟨v341, rfl, ho0, hb⟩; have n0_ := Aside0.mk (Kd.S_elder' (by (with_reducible repeat (first | apply Kd.S_alloc | apply Kd.S_drewN | apply Kd.S_drew)); exact HO_5.out) (Kd.R_base ho0) hb); have n1_ := Aside0.mk (Kd.R_lower ho0 (below_size (by repeat (first | (with_reducible first | exact HB.out | apply below_alloc | apply pw_below_drewN | apply below_drew1 | refine below_set ?_ GE322.out) | exact HB.out)))); have n2_ := Aside0.mk (blk_below (g := gb322) (o := .cells #[.int .i64 a1_0, .int .i64 a1_1, .int .i64 a1_2, .slice A1_3 l1_3.length c1_3] 33 (0, 0)) (by (with_reducible repeat (first | refine blk_drewN ?_ _ | refine blk_drew ?_ | refine blk_alloc ?_ _)); exact BK322.out) hb); have n3_ := Aside0.mk (below_step (by repeat (first | (with_reducible first | exact HB.out | apply below_alloc | apply pw_below_drewN | apply below_drew1 | refine below_set ?_ GE322.out) | exact HB.out)) hb); clear HO_5; clear BK322; clear HB; have HO_5 := n0_; have HO342 := n1_; have BK322 := n2_; have HB := n3_; clear n0_ n1_ n2_ n3_; (try clear hb); (try clear hb2); (try clear hk); (try clear hi); (try clear ho0); obtain ⟨Ao30, co30, eo30⟩ := Kd.R_slice HO342.out; subst eo30) | ((with_reducible refine gate_builtin (b := .append) (xs := #[.tmp 29, .tmp 32]) rfl ?_); at_builtin; refine Kd.S_append k33 (w0 := w) w.heap.size rfl (.tmp 29) (.tmp 32) 22 33 (.agg #[(.int .i64 0), (.int .i64 0), (.int .i64 0), (.slice none 0 0)]) 48 rfl Tryd.underlying22 info33 rfl (by decide) (by omega) u5 x5_1 (⟨t337, (⟨t338, t339⟩ : S26), t340⟩ : S33) [.int .i64 t337, .int .i64 t338, .int .i64 t339, .slice Ao30 t340.length co30] (fun k_ => k_ ≠ gb322) (fun k_ => some k_ = (.slice Ao30 t340.length co30 : Value).ownBlock) rfl rfl ?aP (fun k_ hk_ => ((Kd.R_mono (ok' := fun k_ => ((fun k_ => k_ ≠ gb322)) k_ ∧ some k_ ≠ (u5 : Value).ownBlock) (Kd.R_types (Kd.R_apart' (HO342.out) (Kd.S_typed HO_5.out) (by decide)) BK322.out (by decide)) (fun k_ hk => ⟨hk.2, hk.1.2⟩))).1 k_ hk_.symm) ?aF ?aO ?aB ?aS ?aL ?_; (case aP => exact k33_mkM _ _ _ (⟨t337, (⟨t338, t339⟩ : S26), t340⟩ : S33) (Kd.R_mono (Kd.R_tight rfl (Kd.R_mono (ok' := fun k_ => ((fun k_ => k_ ≠ gb322)) k_ ∧ some k_ ≠ (u5 : Value).ownBlock) (Kd.R_types (Kd.R_apart' (HO342.out) (Kd.S_typed HO_5.out) (by decide)) BK322.out (by decide)) (fun k_ hk => ⟨hk.2, hk.1.2⟩))) (fun _ h_ => h_))); (case aB => exact (by repeat (first | (with_reducible first | exact HB.out | apply below_alloc | apply pw_below_drewN | apply below_drew1 | refine below_set ?_ GE322.out) | exact HB.out))); (case aF => exact (fun k_ hk => Kd.freshB (g := gb322) (o := .cells #[.int .i64 a1_0, .int .i64 a1_1, .int .i64 a1_2, .slice A1_3 l1_3.length c1_3] 33 (0, 0)) (by (with_reducible repeat (first | refine blk_drewN ?_ _ | refine blk_drew ?_ | refine blk_alloc ?_ _)); exact BK322.out) k_ hk)); (case aO => exact (by (with_reducible repeat (first | apply Kd.S_alloc | apply Kd.S_drewN | apply Kd.S_drew)); exact Kd.S_mono HO_5.out (fun k_ hk => ⟨hk.1, fun e_ => hk.2 e_⟩))); (case aS => exact (below_size (by repeat (first | (with_reducible first | exact HB.out | apply below_alloc | apply pw_below_drewN | apply below_drew1 | refine below_set ?_ GE322.out) | exact HB.out)))); (case aL => have := LMc16.out; omega); intro v344 w29 ho hb hg hat; rw [← Ny343.out] at ho; have n0_ := Aside0.mk (blk_grown (g := gb322) (o := .cells #[.int .i64 a1_0, .int .i64 a1_1, .int .i64 a1_2, .slice A1_3 l1_3.length c1_3] 33 (0, 0)) (by (with_reducible repeat (first | refine blk_drewN ?_ _ | refine blk_drew ?_ | refine blk_alloc ?_ _)); exact BK322.out) hg (Kd.S_away HO_5.out (fun _ hk => hk.1))); have n1_ := Aside0.mk (hb); have n2_ := Aside0.mk (ho); clear BK322; clear HB; clear HO_5; clear HO342; have BK322 := n0_; have HB := n1_; have HO345 := n2_; clear n0_ n1_ n2_; clear ho hb hg hat; have p346 : 0 ≤ (x7_1 : Int) := of_decide_eq_true (by first | (with_reducible assumption) | assumption); have q346 : x7_1 < (l0.length : Int) := of_decide_eq_true (by first | (with_reducible assumption) | assumption); obtain ⟨ad346, A346_3, c346_3, e346, hx346_0, hx346_1, hx346_2, hx346_3, hl346_3, hi346_3⟩ := at_T33 HR0.out x7_1 p346 q346; cases e346; replace hx346_0 := (HB.out.cell (World.block_lt_of_cell? w _ hx346_0)).trans hx346_0; replace hx346_1 := (HB.out.cell (World.block_lt_of_cell? w _ hx346_1)).trans hx346_1; replace hx346_2 := (HB.out.cell (World.block_lt_of_cell? w _ hx346_2)).trans hx346_2; replace hx346_3 := (HB.out.cell (World.block_lt_of_cell? w _ hx346_3)).trans hx346_3; have HR346_3 := Aside0.mk hi346_3; have HC346_3 := Aside0.mk hl346_3; clear hi346_3 hl346_3; replace p346 := eq_true p346; replace q346 := eq_true q346; have hcz31_0 : w29.cell? ⟨gb322, 0, none⟩ = some (.int .i64 a1_0) := (blk_cell BK322.out 0).trans rfl; have hcz31_1 : w29.cell? ⟨gb322, 1, none⟩ = some (.int .i64 a1_1) := (blk_cell BK322.out 1).trans rfl; have hcz31_2 : w29.cell? ⟨gb322, 2, none⟩ = some (.int .i64 a1_2) := (blk_cell BK322.out 2).trans rfl; have hcz31_3 : w29.cell? ⟨gb322, 3, none⟩ = some (.slice A1_3 l1_3.length c1_3) := (blk_cell BK322.out 3).trans rfl; have hfz31_0 := blk_frozen BK322.out 0; have hfz31_1 := blk_frozen BK322.out 1; have hfz31_2 := blk_frozen BK322.out 2; have hfz31_3 := blk_frozen BK322.out 3; have p347 : 0 ≤ (x7_1 : Int) := of_decide_eq_true (by first | (with_reducible assumption) | assumption); have q347 : x7_1 < (l0.length : Int) := of_decide_eq_true (by first | (with_reducible assumption) | assumption); obtain ⟨ad347, A347_3, c347_3, e347, hx347_0, hx347_1, hx347_2, hx347_3, hl347_3, hi347_3⟩ := at_T33 HR0.out x7_1 p347 q347; obtain rfl : ad346 = ad347 := (by injection e347); replace hx347_0 := (HB.out.cell (World.block_lt_of_cell? w _ hx347_0)).trans hx347_0; replace hx347_1 := (HB.out.cell (World.block_lt_of_cell? w _ hx347_1)).trans hx347_1; replace hx347_2 := (HB.out.cell (World.block_lt_of_cell? w _ hx347_2)).trans hx347_2; replace hx347_3 := (HB.out.cell (World.block_lt_of_cell? w _ hx347_3)).trans hx347_3; have HR347_3 := Aside0.mk hi347_3; have HC347_3 := Aside0.mk hl347_3; clear hi347_3 hl347_3; replace p347 := eq_true p347; replace q347 := eq_true q347; have ea_ := Option.some.inj (hx346_3.symm.trans hx347_3); injection ea_ with ea_ en_ ec_; subst ea_; subst ec_; clear en_) | (go_at_call 29; (with_reducible refine (spileref22_Copy.calls ((rd_T33 l0 x7_1).f0) ((rd_T33 l0 x7_1).f1.f0) ((rd_T33 l0 x7_1).f1.f1) _ _ ((rd_T33 l0 x7_1).f2) t348 t349 t350 t351 _ ?side1 ?side2 A25.out).mono ?_); (case side1 => repeat (first | exact (Kd.C_below HR347_3.out HB.out) | (with_reducible refine Kd.C_alloc ?_ _) | (with_reducible refine Kd.C_drewN ?_ _) | (with_reducible refine Kd.C_drew ?_))); (case side2 => exact HC347_3.out); rintro e w32 ⟨v352, rfl, ho0, hb⟩; have n0_ := Aside0.mk (Kd.S_elder' (by (with_reducible repeat (first | apply Kd.S_alloc | apply Kd.S_drewN | apply Kd.S_drew)); exact HO345.out) (Kd.R_base ho0) hb); have n1_ := Aside0.mk (Kd.R_lower ho0 (below_size (by repeat (first | (with_reducible first | exact HB.out | apply below_alloc | apply pw_below_drewN | apply below_drew1 | refine below_set ?_ GE322.out) | exact HB.out)))); have n2_ := Aside0.mk (blk_below (g := gb322) (o := .cells #[.int .i64 a1_0, .int .i64 a1_1, .int .i64 a1_2, .slice A1_3 l1_3.length c1_3] 33 (0, 0)) (by (with_reducible repeat (first | refine blk_drewN ?_ _ | refine blk_drew ?_ | refine blk_alloc ?_ _)); exact BK322.out) hb); have n3_ := Aside0.mk (below_step (by repeat (first | (with_reducible first | exact HB.out | apply below_alloc | apply pw_below_drewN | apply below_drew1 | refine below_set ?_ GE322.out) | exact HB.out)) hb); clear HO345; clear BK322; clear HB; have HO345 := n0_; have HO353 := n1_; have BK322 := n2_; have HB := n3_; clear n0_ n1_ n2_ n3_; (try clear hb); (try clear hb2); (try clear hk); (try clear hi); (try clear ho0); obtain ⟨Ao34, co34, eo34⟩ := Kd.R_slice HO353.out; subst eo34) | ((with_reducible refine gate_builtin (b := .append) (xs := #[.tmp 42, .tmp 48]) rfl ?_); at_builtin; refine Kd.S_append k33 (w0 := w) w.heap.size rfl (.tmp 42) (.tmp 48) 22 33 (.agg #[(.int .i64 0), (.int .i64 0), (.int .i64 0), (.slice none 0 0)]) 48 rfl Tryd.underlying22 info33 rfl (by decide) (by omega) v344 y343 (⟨t348, (⟨t349, t350⟩ : S26), t351⟩ : S33) [.int .i64 t348, .int .i64 t349, .int .i64 t350, .slice Ao34 t351.length co34] (fun k_ => k_ ≠ gb322) (fun k_ => some k_ = (.slice Ao34 t351.length co34 : Value).ownBlock) rfl rfl ?aP (fun k_ hk_ => ((Kd.R_mono (ok' := fun k_ => ((fun k_ => k_ ≠ gb322)) k_ ∧ some k_ ≠ (v344 : Value).ownBlock) (Kd.R_types (Kd.R_apart' (HO353.out) (Kd.S_typed HO345.out) (by decide)) BK322.out (by decide)) (fun k_ hk => ⟨hk.2, hk.1.2⟩))).1 k_ hk_.symm) ?aF ?aO ?aB ?aS ?aL ?_; (case aP => exact k33_mkM _ _ _ (⟨t348, (⟨t349, t350⟩ : S26), t351⟩ : S33) (Kd.R_mono (Kd.R_tight rfl (Kd.R_mono (ok' := fun k_ => ((fun k_ => k_ ≠ gb322)) k_ ∧ some k_ ≠ (v344 : Value).ownBlock) (Kd.R_types (Kd.R_apart' (HO353.out) (Kd.S_typed HO345.out) (by decide)) BK322.out (by decide)) (fun k_ hk => ⟨hk.2, hk.1.2⟩))) (fun _ h_ => h_))); (case aB => exact (by repeat (first | (with_reducible first | exact HB.out | apply below_alloc | apply pw_below_drewN | apply below_drew1 | refine below_set ?_ GE322.out) | exact HB.out))); (case aF => exact (fun k_ hk => Kd.freshB (g := gb322) (o := .cells #[.int .i64 a1_0, .int .i64 a1_1, .int .i64 a1_2, .slice A1_3 l1_3.length c1_3] 33 (0, 0)) (by (with_reducible repeat (first | refine blk_drewN ?_ _ | refine blk_drew ?_ | refine blk_alloc ?_ _)); exact BK322.out) k_ hk)); (case aO => exact (by (with_reducible repeat (first | apply Kd.S_alloc | apply Kd.S_drewN | apply Kd.S_drew)); exact Kd.S_mono HO345.out (fun k_ hk => ⟨hk.1, fun e_ => hk.2 e_⟩))); (case aS => exact (below_size (by repeat (first | (with_reducible first | exact HB.out | apply below_alloc | apply pw_below_drewN | apply below_drew1 | refine below_set ?_ GE322.out) | exact HB.out)))); (case aL => have := LMc26.out; omega); intro v355 w33 ho hb hg hat; rw [← Ny354.out] at ho; have n0_ := Aside0.mk (blk_grown (g := gb322) (o := .cells #[.int .i64 a1_0, .int .i64 a1_1, .int .i64 a1_2, .slice A1_3 l1_3.length c1_3] 33 (0, 0)) (by (with_reducible repeat (first | refine blk_drewN ?_ _ | refine blk_drew ?_ | refine blk_alloc ?_ _)); exact BK322.out) hg (Kd.S_away HO345.out (fun _ hk => hk.1))); have n1_ := Aside0.mk (hb); have n2_ := Aside0.mk (ho); clear BK322; clear HB; clear HO345; clear HO353; have BK322 := n0_; have HB := n1_; have HO356 := n2_; clear n0_ n1_ n2_; clear ho hb hg hat)))
            go_roundg kj9
            case measure => have := HK1.out; have := HJ9.out; omega
            case rel => exact ⟨(y354), (true), (wrap64 (x7_1 + 1)), (by first | rfl | (simp; done) | (simp [*]; done)), (by first | rfl | (simp; done) | (simp [*]; done)), H', ⟨by have := HK1.out; have := HJ9.out; omega⟩, ⟨by (with_reducible repeat (first | apply Kd.S_alloc | apply Kd.S_drewN | apply Kd.S_drew)); exact HO356.out⟩, ⟨by (with_reducible repeat (first | refine blk_drewN ?_ _ | refine blk_drew ?_ | refine blk_alloc ?_ _)); exact BK322.out⟩, ⟨by repeat (first | (with_reducible first | exact HB.out | apply below_alloc | apply pw_below_drewN | apply below_drew1 | refine below_set ?_ GE322.out) | exact HB.out)⟩⟩
           ·
            rw [if_neg c26] at H
            exact absurd H (by simp)
         ·
          rw [if_neg c18] at H
          exact absurd H (by simp)
        ·
         rw [if_neg c17] at H
         exact absurd H (by simp)
       ·
        rw [if_neg c16] at H
        exact absurd H (by simp)
      ·
       replace c14 := Bool.eq_false_iff.mpr c14
       subst c14
       have H1 : (if 0 ≤ x7_1 then (if x7_1 < (l0.length : Int) then (if ((rd_T33 l0 x7_1).f0) = a1_0 then (spileref22_Set.l0 kj9 l0 x5_1 x6_1 (wrap64 (x7_1 + 1)) a1_0 a1_1 a1_2 l1_3) else ((spileref22_Copy.f ((rd_T33 l0 x7_1).f0) ((rd_T33 l0 x7_1).f1.f0) ((rd_T33 l0 x7_1).f1.f1) ((rd_T33 l0 x7_1).f2)).bind fun bt359 => (if x5_1.length < 2932031007402 then (spileref22_Set.l0 kj9 l0 (x5_1 ++ [(⟨bt359.1, (⟨bt359.2.1, bt359.2.2.1⟩ : S26), bt359.2.2.2⟩ : S33)]) x6_1 (wrap64 (x7_1 + 1)) a1_0 a1_1 a1_2 l1_3) else (none)))) else (none)) else (none)) = some r := by rw [if_neg (show ¬ (false = true) by decide)] at H; exact H
       clear H
       have H := H1
       clear H1
       by_cases c35 : 0 ≤ x7_1
       ·
        rw [if_pos c35] at H
        have c35b0 : decide (0 ≤ x7_1) = true := decide_eq_true c35
        clear c35
        by_cases c36 : x7_1 < (l0.length : Int)
        ·
         rw [if_pos c36] at H
         have c36b0 : decide (x7_1 < (l0.length : Int)) = true := decide_eq_true c36
         clear c36
         by_cases c37 : ((rd_T33 l0 x7_1).f0) = a1_0
         ·
          rw [if_pos c37] at H
          have c37b0 : (((rd_T33 l0 x7_1).f0) == a1_0) = true := beq_iff_eq.mpr c37
          have c37b1 : (((rd_T33 l0 x7_1).f0) != a1_0) = false := bne_eq_false_iff_eq.mpr c37
          clear c37
          have H' := Aside0.mk H
          clear H
          have p357 : 0 ≤ (x7_1 : Int) := of_decide_eq_true (by first | (with_reducible assumption) | assumption)
          have q357 : x7_1 < (l0.length : Int) := of_decide_eq_true (by first | (with_reducible assumption) | assumption)
          obtain ⟨ad357, A357_3, c357_3, e357, hx357_0, hx357_1, hx357_2, hx357_3, hl357_3, hi357_3⟩ := at_T33 HR0.out x7_1 p357 q357
          cases e357
          replace hx357_0 := (HB.out.cell (World.block_lt_of_cell? w _ hx357_0)).trans hx357_0
          replace hx357_1 := (HB.out.cell (World.block_lt_of_cell? w _ hx357_1)).trans hx357_1
          replace hx357_2 := (HB.out.cell (World.block_lt_of_cell? w _ hx357_2)).trans hx357_2
          replace hx357_3 := (HB.out.cell (World.block_lt_of_cell? w _ hx357_3)).trans hx357_3
          have HR357_3 := Aside0.mk hi357_3
          have HC357_3 := Aside0.mk hl357_3
          clear hi357_3 hl357_3
          replace p357 := eq_true p357
          replace q357 := eq_true q357
          have hcz38_0 : wc.cell? ⟨gb322, 0, none⟩ = some (.int .i64 a1_0) := (blk_cell BK322.out 0).trans rfl
          have hcz38_1 : wc.cell? ⟨gb322, 1, none⟩ = some (.int .i64 a1_1) := (blk_cell BK322.out 1).trans rfl
          have hcz38_2 : wc.cell? ⟨gb322, 2, none⟩ = some (.int .i64 a1_2) := (blk_cell BK322.out 2).trans rfl
          have hcz38_3 : wc.cell? ⟨gb322, 3, none⟩ = some (.slice A1_3 l1_3.length c1_3) := (blk_cell BK322.out 3).trans rfl
          have hfz38_0 := blk_frozen BK322.out 0
          have hfz38_1 := blk_frozen BK322.out 1
          have hfz38_2 := blk_frozen BK322.out 2
          have hfz38_3 := blk_frozen BK322.out 3
          go_wp2
          repeat (go_quiet (fail); try go_wp2)
          go_roundg kj9
          case measure => have := HK1.out; have := HJ9.out; omega
          case rel => exact ⟨(x5_1), (x6_1), (wrap64 (x7_1 + 1)), (by first | rfl | (simp; done) | (simp [*]; done)), (by first | rfl | (simp; done) | (simp [*]; done)), H', ⟨by have := HK1.out; have := HJ9.out; omega⟩, ⟨by (with_reducible repeat (first | apply Kd.S_alloc | apply Kd.S_drewN | apply Kd.S_drew)); exact HO_5.out⟩, ⟨by (with_reducible repeat (first | refine blk_drewN ?_ _ | refine blk_drew ?_ | refine blk_alloc ?_ _)); exact BK322.out⟩, ⟨by repeat (first | (with_reducible first | exact HB.out | apply below_alloc | apply pw_below_drewN | apply below_drew1 | refine below_set ?_ GE322.out) | exact HB.out)⟩⟩
         ·
          rw [if_neg c37] at H
          have c37b0 : (((rd_T33 l0 x7_1).f0) == a1_0) = false := beq_eq_false_iff_ne.mpr c37
          have c37b1 : (((rd_T33 l0 x7_1).f0) != a1_0) = true := bne_iff_ne.mpr c37
          replace H := Option.bind_eq_some_iff.mp H
          obtain ⟨⟨t359, t360, t361, t362⟩, A390, H⟩ := H
          replace H : (if x5_1.length < 2932031007402 then (spileref22_Set.l0 kj9 l0 (x5_1 ++ [(⟨t359, (⟨t360, t361⟩ : S26), t362⟩ : S33)]) x6_1 (wrap64 (x7_1 + 1)) a1_0 a1_1 a1_2 l1_3) else (none)) = some r := H
          have A39 := Aside0.mk A390
          clear A390
          by_cases c40 : x5_1.length < 2932031007402
          ·
           rw [if_pos c40] at H
           have LMc40 := Aside0.mk c40
           clear c40
           obtain ⟨y365, hy365⟩ : ∃ y_ : List (S33), y_ = (x5_1 ++ [(⟨t359, (⟨t360, t361⟩ : S26), t362⟩ : S33)]) := ⟨_, rfl⟩
           replace H : (spileref22_Set.l0 kj9 l0 y365 x6_1 (wrap64 (x7_1 + 1)) a1_0 a1_1 a1_2 l1_3) = some r := by first | (rw [hy365]; with_reducible exact H) | (have H2_ := (Option.bind_some _ _).symm.trans H; rw [hy365]; with_reducible exact H2_) | (have H2_ := (Option.bind_some _ _).symm.trans H; with_reducible exact H2_) | with_reducible exact H | (rw [hy365]; exact H) | exact H
           have Ny365 := Aside0.mk hy365
           clear hy365
           have H' := Aside0.mk H
           clear H
           have p357 : 0 ≤ (x7_1 : Int) := of_decide_eq_true (by first | (with_reducible assumption) | assumption)
           have q357 : x7_1 < (l0.length : Int) := of_decide_eq_true (by first | (with_reducible assumption) | assumption)
           obtain ⟨ad357, A357_3, c357_3, e357, hx357_0, hx357_1, hx357_2, hx357_3, hl357_3, hi357_3⟩ := at_T33 HR0.out x7_1 p357 q357
           cases e357
           replace hx357_0 := (HB.out.cell (World.block_lt_of_cell? w _ hx357_0)).trans hx357_0
           replace hx357_1 := (HB.out.cell (World.block_lt_of_cell? w _ hx357_1)).trans hx357_1
           replace hx357_2 := (HB.out.cell (World.block_lt_of_cell? w _ hx357_2)).trans hx357_2
           replace hx357_3 := (HB.out.cell (World.block_lt_of_cell? w _ hx357_3)).trans hx357_3
           have HR357_3 := Aside0.mk hi357_3
           have HC357_3 := Aside0.mk hl357_3
           clear hi357_3 hl357_3
           replace p357 := eq_true p357
           replace q357 := eq_true q357
           have hcz41_0 : wc.cell? ⟨gb322, 0, none⟩ = some (.int .i64 a1_0) := (blk_cell BK322.out 0).trans rfl
           have hcz41_1 : wc.cell? ⟨gb322, 1, none⟩ = some (.int .i64 a1_1) := (blk_cell BK322.out 1).trans rfl
           have hcz41_2 : wc.cell? ⟨gb322, 2, none⟩ = some (.int .i64 a1_2) := (blk_cell BK322.out 2).trans rfl
           have hcz41_3 : wc.cell? ⟨gb322, 3, none⟩ = some (.slice A1_3 l1_3.length c1_3) := (blk_cell BK322.out 3).trans rfl
           have hfz41_0 := blk_frozen BK322.out 0
           have hfz41_1 := blk_frozen BK322.out 1
           have hfz41_2 := blk_frozen BK322.out 2
           have hfz41_3 := blk_frozen BK322.out 3
           have p358 : 0 ≤ (x7_1 : Int) := of_decide_eq_true (by first | (with_reducible assumption) | assumption)
           have q358 : x7_1 < (l0.length : Int) := of_decide_eq_true (by first | (with_reducible assumption) | assumption)
           obtain ⟨ad358, A358_3, c358_3, e358, hx358_0, hx358_1, hx358_2, hx358_3, hl358_3, hi358_3⟩ := at_T33 HR0.out x7_1 p358 q358
           obtain rfl : ad357 = ad358 := (by injection e358)
           replace hx358_0 := (HB.out.cell (World.block_lt_of_cell? w _ hx358_0)).trans hx358_0
           replace hx358_1 := (HB.out.cell (World.block_lt_of_cell? w _ hx358_1)).trans hx358_1
           replace hx358_2 := (HB.out.cell (World.block_lt_of_cell? w _ hx358_2)).trans hx358_2
           replace hx358_3 := (HB.out.cell (World.block_lt_of_cell? w _ hx358_3)).trans hx358_3
           have HR358_3 := Aside0.mk hi358_3
           have HC358_3 := Aside0.mk hl358_3
           clear hi358_3 hl358_3
           replace p358 := eq_true p358
           replace q358 := eq_true q358
           have ea_ := Option.some.inj (hx357_3.symm.trans hx358_3)
           injection ea_ with ea_ en_ ec_
           subst ea_
           subst ec_
           clear en_
           go_wp2_with (first | (go_at_call 29; (with_reducible refine (spileref22_Copy.calls ((rd_T33 l0 x7_1).f0) ((rd_T33 l0 x7_1).f1.f0) ((rd_T33 l0 x7_1).f1.f1) _ _ ((rd_T33 l0 x7_1).f2) t359 t360 t361 t362 _ ?side1 ?side2 A39.out).mono ?_); (case side1 => repeat (first | exact (Kd.C_below HR358_3.out HB.out) | (with_reducible refine Kd.C_alloc ?_ _) | (with_reducible refine Kd.C_drewN ?_ _) | (with_reducible refine Kd.C_drew ?_))); (case side2 => exact HC358_3.out); rintro e w42 ⟨v363, rfl, ho0, hb⟩; have n0_ := Aside0.mk (Kd.S_elder' (by (with_reducible repeat (first | apply Kd.S_alloc | apply Kd.S_drewN | apply Kd.S_drew)); exact HO_5.out) (Kd.R_base ho0) hb); have n1_ := Aside0.mk (Kd.R_lower ho0 (below_size (by repeat (first | (with_reducible first | exact HB.out | apply below_alloc | apply pw_below_drewN | apply below_drew1 | refine below_set ?_ GE322.out) | exact HB.out)))); have n2_ := Aside0.mk (blk_below (g := gb322) (o := .cells #[.int .i64 a1_0, .int .i64 a1_1, .int .i64 a1_2, .slice A1_3 l1_3.length c1_3] 33 (0, 0)) (by (with_reducible repeat (first | refine blk_drewN ?_ _ | refine blk_drew ?_ | refine blk_alloc ?_ _)); exact BK322.out) hb); have n3_ := Aside0.mk (below_step (by repeat (first | (with_reducible first | exact HB.out | apply below_alloc | apply pw_below_drewN | apply below_drew1 | refine below_set ?_ GE322.out) | exact HB.out)) hb); clear HO_5; clear BK322; clear HB; have HO_5 := n0_; have HO364 := n1_; have BK322 := n2_; have HB := n3_; clear n0_ n1_ n2_ n3_; (try clear hb); (try clear hb2); (try clear hk); (try clear hi); (try clear ho0); obtain ⟨Ao44, co44, eo44⟩ := Kd.R_slice HO364.out; subst eo44) | ((with_reducible refine gate_builtin (b := .append) (xs := #[.tmp 42, .tmp 48]) rfl ?_); at_builtin; refine Kd.S_append k33 (w0 := w) w.heap.size rfl (.tmp 42) (.tmp 48) 22 33 (.agg #[(.int .i64 0), (.int .i64 0), (.int .i64 0), (.slice none 0 0)]) 48 rfl Tryd.underlying22 info33 rfl (by decide) (by omega) u5 x5_1 (⟨t359, (⟨t360, t361⟩ : S26), t362⟩ : S33) [.int .i64 t359, .int .i64 t360, .int .i64 t361, .slice Ao44 t362.length co44] (fun k_ => k_ ≠ gb322) (fun k_ => some k_ = (.slice Ao44 t362.length co44 : Value).ownBlock) rfl rfl ?aP (fun k_ hk_ => ((Kd.R_mono (ok' := fun k_ => ((fun k_ => k_ ≠ gb322)) k_ ∧ some k_ ≠ (u5 : Value).ownBlock) (Kd.R_types (Kd.R_apart' (HO364.out) (Kd.S_typed HO_5.out) (by decide)) BK322.out (by decide)) (fun k_ hk => ⟨hk.2, hk.1.2⟩))).1 k_ hk_.symm) ?aF ?aO ?aB ?aS ?aL ?_; (case aP => exact k33_mkM _ _ _ (⟨t359, (⟨t360, t361⟩ : S26), t362⟩ : S33) (Kd.R_mono (Kd.R_tight rfl (Kd.R_mono (ok' := fun k_ => ((fun k_ => k_ ≠ gb322)) k_ ∧ some k_ ≠ (u5 : Value).ownBlock) (Kd.R_types (Kd.R_apart' (HO364.out) (Kd.S_typed HO_5.out) (by decide)) BK322.out (by decide)) (fun k_ hk => ⟨hk.2, hk.1.2⟩))) (fun _ h_ => h_))); (case aB => exact (by repeat (first | (with_reducible first | exact HB.out | apply below_alloc | apply pw_below_drewN | apply below_drew1 | refine below_set ?_ GE322.out) | exact HB.out))); (case aF => exact (fun k_ hk => Kd.freshB (g := gb322) (o := .cells #[.int .i64 a1_0, .int .i64 a1_1, .int .i64 a1_2, .slice A1_3 l1_3.length c1_3] 33 (0, 0)) (by (with_reducible repeat (first | refine blk_drewN ?_ _ | refine blk_drew ?_ | refine blk_alloc ?_ _)); exact BK322.out) k_ hk)); (case aO => exact (by (with_reducible repeat (first | apply Kd.S_alloc | apply Kd.S_drewN | apply Kd.S_drew)); exact Kd.S_mono HO_5.out (fun k_ hk => ⟨hk.1, fun e_ => hk.2 e_⟩))); (case aS => exact (below_size (by repeat (first | (with_reducible first | exact HB.out | apply below_alloc | apply pw_below_drewN | apply below_drew1 | refine below_set ?_ GE322.out) | exact HB.out)))); (case aL => have := LMc40.out; omega); intro v366 w43 ho hb hg hat; rw [← Ny365.out] at ho; have n0_ := Aside0.mk (blk_grown (g := gb322) (o := .cells #[.int .i64 a1_0, .int .i64 a1_1, .int .i64 a1_2, .slice A1_3 l1_3.length c1_3] 33 (0, 0)) (by (with_reducible repeat (first | refine blk_drewN ?_ _ | refine blk_drew ?_ | refine blk_alloc ?_ _)); exact BK322.out) hg (Kd.S_away HO_5.out (fun _ hk => hk.1))); have n1_ := Aside0.mk (hb); have n2_ := Aside0.mk (ho); clear BK322; clear HB; clear HO_5; clear HO364; have BK322 := n0_; have HB := n1_; have HO367 := n2_; clear n0_ n1_ n2_; clear ho hb hg hat))
           repeat (go_quiet (first | (go_at_call 29; (with_reducible refine (spileref22_Copy.calls ((rd_T33 l0 x7_1).f0) ((rd_T33 l0 x7_1).f1.f0) ((rd_T33 l0 x7_1).f1.f1) _ _ ((rd_T33 l0 x7_1).f2) t359 t360 t361 t362 _ ?side1 ?side2 A39.out).mono ?_); (case side1 => repeat (first | exact (Kd.C_below HR358_3.out HB.out) | (with_reducible refine Kd.C_alloc ?_ _) | (with_reducible refine Kd.C_drewN ?_ _) | (with_reducible refine Kd.C_drew ?_))); (case side2 => exact HC358_3.out); rintro e w42 ⟨v363, rfl, ho0, hb⟩; have n0_ := Aside0.mk (Kd.S_elder' (by (with_reducible repeat (first | apply Kd.S_alloc | apply Kd.S_drewN | apply Kd.S_drew)); exact HO_5.out) (Kd.R_base ho0) hb); have n1_ := Aside0.mk (Kd.R_lower ho0 (below_size (by repeat (first | (with_reducible first | exact HB.out | apply below_alloc | apply pw_below_drewN | apply below_drew1 | refine below_set ?_ GE322.out) | exact HB.out)))); have n2_ := Aside0.mk (blk_below (g := gb322) (o := .cells #[.int .i64 a1_0, .int .i64 a1_1, .int .i64 a1_2, .slice A1_3 l1_3.length c1_3] 33 (0, 0)) (by (with_reducible repeat (first | refine blk_drewN ?_ _ | refine blk_drew ?_ | refine blk_alloc ?_ _)); exact BK322.out) hb); have n3_ := Aside0.mk (below_step (by repeat (first | (with_reducible first | exact HB.out | apply below_alloc | apply pw_below_drewN | apply below_drew1 | refine below_set ?_ GE322.out) | exact HB.out)) hb); clear HO_5; clear BK322; clear HB; have HO_5 := n0_; have HO364 := n1_; have BK322 := n2_; have HB := n3_; clear n0_ n1_ n2_ n3_; (try clear hb); (try clear hb2); (try clear hk); (try clear hi); (try clear ho0); obtain ⟨Ao44, co44, eo44⟩ := Kd.R_slice HO364.out; subst eo44) | ((with_reducible refine gate_builtin (b := .append) (xs := #[.tmp 42, .tmp 48]) rfl ?_); at_builtin; refine Kd.S_append k33 (w0 := w) w.heap.size rfl (.tmp 42) (.tmp 48) 22 33 (.agg #[(.int .i64 0), (.int .i64 0), (.int .i64 0), (.slice none 0 0)]) 48 rfl Tryd.underlying22 info33 rfl (by decide) (by omega) u5 x5_1 (⟨t359, (⟨t360, t361⟩ : S26), t362⟩ : S33) [.int .i64 t359, .int .i64 t360, .int .i64 t361, .slice Ao44 t362.length co44] (fun k_ => k_ ≠ gb322) (fun k_ => some k_ = (.slice Ao44 t362.length co44 : Value).ownBlock) rfl rfl ?aP (fun k_ hk_ => ((Kd.R_mono (ok' := fun k_ => ((fun k_ => k_ ≠ gb322)) k_ ∧ some k_ ≠ (u5 : Value).ownBlock) (Kd.R_types (Kd.R_apart' (HO364.out) (Kd.S_typed HO_5.out) (by decide)) BK322.out (by decide)) (fun k_ hk => ⟨hk.2, hk.1.2⟩))).1 k_ hk_.symm) ?aF ?aO ?aB ?aS ?aL ?_; (case aP => exact k33_mkM _ _ _ (⟨t359, (⟨t360, t361⟩ : S26), t362⟩ : S33) (Kd.R_mono (Kd.R_tight rfl (Kd.R_mono (ok' := fun k_ => ((fun k_ => k_ ≠ gb322)) k_ ∧ some k_ ≠ (u5 : Value).ownBlock) (Kd.R_types (Kd.R_apart' (HO364.out) (Kd.S_typed HO_5.out) (by decide)) BK322.out (by decide)) (fun k_ hk => ⟨hk.2, hk.1.2⟩))) (fun _ h_ => h_))); (case aB => exact (by repeat (first | (with_reducible first | exact HB.out | apply below_alloc | apply pw_below_drewN | apply below_drew1 | refine below_set ?_ GE322.out) | exact HB.out))); (case aF => exact (fun k_ hk => Kd.freshB (g := gb322) (o := .cells #[.int .i64 a1_0, .int .i64 a1_1, .int .i64 a1_2, .slice A1_3 l1_3.length c1_3] 33 (0, 0)) (by (with_reducible repeat (first | refine blk_drewN ?_ _ | refine blk_drew ?_ | refine blk_alloc ?_ _)); exact BK322.out) k_ hk)); (case aO => exact (by (with_reducible repeat (first | apply Kd.S_alloc | apply Kd.S_drewN | apply Kd.S_drew)); exact Kd.S_mono HO_5.out (fun k_ hk => ⟨hk.1, fun e_ => hk.2 e_⟩))); (case aS => exact (below_size (by repeat (first | (with_reducible first | exact HB.out | apply below_alloc | apply pw_below_drewN | apply below_drew1 | refine below_set ?_ GE322.out) | exact HB.out)))); (case aL => have := LMc40.out; omega); intro v366 w43 ho hb hg hat; rw [← Ny365.out] at ho; have n0_ := Aside0.mk (blk_grown (g := gb322) (o := .cells #[.int .i64 a1_0, .int .i64 a1_1, .int .i64 a1_2, .slice A1_3 l1_3.length c1_3] 33 (0, 0)) (by (with_reducible repeat (first | refine blk_drewN ?_ _ | refine blk_drew ?_ | refine blk_alloc ?_ _)); exact BK322.out) hg (Kd.S_away HO_5.out (fun _ hk => hk.1))); have n1_ := Aside0.mk (hb); have n2_ := Aside0.mk (ho); clear BK322; clear HB; clear HO_5; clear HO364; have BK322 := n0_; have HB := n1_; have HO367 := n2_; clear n0_ n1_ n2_; clear ho hb hg hat)); try go_wp2_with (first | (go_at_call 29; (with_reducible refine (spileref22_Copy.calls ((rd_T33 l0 x7_1).f0) ((rd_T33 l0 x7_1).f1.f0) ((rd_T33 l0 x7_1).f1.f1) _ _ ((rd_T33 l0 x7_1).f2) t359 t360 t361 t362 _ ?side1 ?side2 A39.out).mono ?_); (case side1 => repeat (first | exact (Kd.C_below HR358_3.out HB.out) | (with_reducible refine Kd.C_alloc ?_ _) | (with_reducible refine Kd.C_drewN ?_ _) | (with_reducible refine Kd.C_drew ?_))); (case side2 => exact HC358_3.out); rintro e w42 ⟨v363, rfl, ho0, hb⟩; have n0_ := Aside0.mk (Kd.S_elder' (by (with_reducible repeat (first | apply Kd.S_alloc | apply Kd.S_drewN | apply Kd.S_drew)); exact HO_5.out) (Kd.R_base ho0) hb); have n1_ := Aside0.mk (Kd.R_lower ho0 (below_size (by repeat (first | (with_reducible first | exact HB.out | apply below_alloc | apply pw_below_drewN | apply below_drew1 | refine below_set ?_ GE322.out) | exact HB.out)))); have n2_ := Aside0.mk (blk_below (g := gb322) (o := .cells #[.int .i64 a1_0, .int .i64 a1_1, .int .i64 a1_2, .slice A1_3 l1_3.length c1_3] 33 (0, 0)) (by (with_reducible repeat (first | refine blk_drewN ?_ _ | refine blk_drew ?_ | refine blk_alloc ?_ _)); exact BK322.out) hb); have n3_ := Aside0.mk (below_step (by repeat (first | (with_reducible first | exact HB.out | apply below_alloc | apply pw_below_drewN | apply below_drew1 | refine below_set ?_ GE322.out) | exact HB.out)) hb); clear HO_5; clear BK322; clear HB; have HO_5 := n0_; have HO364 := n1_; have BK322 := n2_; have HB := n3_; clear n0_ n1_ n2_ n3_; (try clear hb); (try clear hb2); (try clear hk); (try clear hi); (try clear ho0); obtain ⟨Ao44, co44, eo44⟩ := Kd.R_slice HO364.out; subst eo44) | ((with_reducible refine gate_builtin (b := .append) (xs := #[.tmp 42, .tmp 48]) rfl ?_); at_builtin; refine Kd.S_append k33 (w0 := w) w.heap.size rfl (.tmp 42) (.tmp 48) 22 33 (.agg #[(.int .i64 0), (.int .i64 0), (.int .i64 0), (.slice none 0 0)]) 48 rfl Tryd.underlying22 info33 rfl (by decide) (by omega) u5 x5_1 (⟨t359, (⟨t360, t361⟩ : S26), t362⟩ : S33) [.int .i64 t359, .int .i64 t360, .int .i64 t361, .slice Ao44 t362.length co44] (fun k_ => k_ ≠ gb322) (fun k_ => some k_ = (.slice Ao44 t362.length co44 : Value).ownBlock) rfl rfl ?aP (fun k_ hk_ => ((Kd.R_mono (ok' := fun k_ => ((fun k_ => k_ ≠ gb322)) k_ ∧ some k_ ≠ (u5 : Value).ownBlock) (Kd.R_types (Kd.R_apart' (HO364.out) (Kd.S_typed HO_5.out) (by decide)) BK322.out (by decide)) (fun k_ hk => ⟨hk.2, hk.1.2⟩))).1 k_ hk_.symm) ?aF ?aO ?aB ?aS ?aL ?_; (case aP => exact k33_mkM _ _ _ (⟨t359, (⟨t360, t361⟩ : S26), t362⟩ : S33) (Kd.R_mono (Kd.R_tight rfl (Kd.R_mono (ok' := fun k_ => ((fun k_ => k_ ≠ gb322)) k_ ∧ some k_ ≠ (u5 : Value).ownBlock) (Kd.R_types (Kd.R_apart' (HO364.out) (Kd.S_typed HO_5.out) (by decide)) BK322.out (by decide)) (fun k_ hk => ⟨hk.2, hk.1.2⟩))) (fun _ h_ => h_))); (case aB => exact (by repeat (first | (with_reducible first | exact HB.out | apply below_alloc | apply pw_below_drewN | apply below_drew1 | refine below_set ?_ GE322.out) | exact HB.out))); (case aF => exact (fun k_ hk => Kd.freshB (g := gb322) (o := .cells #[.int .i64 a1_0, .int .i64 a1_1, .int .i64 a1_2, .slice A1_3 l1_3.length c1_3] 33 (0, 0)) (by (with_reducible repeat (first | refine blk_drewN ?_ _ | refine blk_drew ?_ | refine blk_alloc ?_ _)); exact BK322.out) k_ hk)); (case aO => exact (by (with_reducible repeat (first | apply Kd.S_alloc | apply Kd.S_drewN | apply Kd.S_drew)); exact Kd.S_mono HO_5.out (fun k_ hk => ⟨hk.1, fun e_ => hk.2 e_⟩))); (case aS => exact (below_size (by repeat (first | (with_reducible first | exact HB.out | apply below_alloc | apply pw_below_drewN | apply below_drew1 | refine below_set ?_ GE322.out) | exact HB.out)))); (case aL => have := LMc40.out; omega); intro v366 w43 ho hb hg hat; rw [← Ny365.out] at ho; have n0_ := Aside0.mk (blk_grown (g := gb322) (o := .cells #[.int .i64 a1_0, .int .i64 a1_1, .int .i64 a1_2, .slice A1_3 l1_3.length c1_3] 33 (0, 0)) (by (with_reducible repeat (first | refine blk_drewN ?_ _ | refine blk_drew ?_ | refine blk_alloc ?_ _)); exact BK322.out) hg (Kd.S_away HO_5.out (fun _ hk => hk.1))); have n1_ := Aside0.mk (hb); have n2_ := Aside0.mk (ho); clear BK322; clear HB; clear HO_5; clear HO364; have BK322 := n0_; have HB := n1_; have HO367 := n2_; clear n0_ n1_ n2_; clear ho hb hg hat)))
           go_roundg kj9
           case measure => have := HK1.out; have := HJ9.out; omega
           case rel => exact ⟨(y365), (x6_1), (wrap64 (x7_1 + 1)), (by first | rfl | (simp; done) | (simp [*]; done)), (by first | rfl | (simp; done) | (simp [*]; done)), H', ⟨by have := HK1.out; have := HJ9.out; omega⟩, ⟨by (with_reducible repeat (first | apply Kd.S_alloc | apply Kd.S_drewN | apply Kd.S_drew)); exact HO367.out⟩, ⟨by (with_reducible repeat (first | refine blk_drewN ?_ _ | refine blk_drew ?_ | refine blk_alloc ?_ _)); exact BK322.out⟩, ⟨by repeat (first | (with_reducible first | exact HB.out | apply below_alloc | apply pw_below_drewN | apply below_drew1 | refine below_set ?_ GE322.out) | exact HB.out)⟩⟩
          ·
           rw [if_neg c40] at H
           exact absurd H (by simp)
        ·
         rw [if_neg c36] at H
         exact absurd H (by simp)
       ·
        rw [if_neg c35] at H
        exact absurd H (by simp)
   ·
    rw [if_neg c9] at H
    have c9b0 : decide (x7_1 < (l0.length : Int)) = false := decide_eq_false c9
    clear c9
    by_cases c45 : x6_1 = true
    ·
     subst c45
     have H1 : (some x5_1) = some r := by rw [if_pos rfl] at H; exact H
     clear H
     have H := H1
     clear H1
     obtain rfl := Option.some.inj H
     go_wp2
     repeat (go_quiet (fail); try go_wp2)
     go_ret
     exact ⟨_, by first | rfl | (simp [errW_none, errW_some] <;> rfl) | (simp [*, errW_none, errW_some] <;> rfl), by (with_reducible repeat (first | apply Kd.S_alloc | apply Kd.S_drewN | apply Kd.S_drew)); exact Kd.S_mono HO_5.out (fun _ hk => trivial), by repeat (first | (with_reducible first | exact HB.out | apply below_alloc | apply pw_below_drewN | apply below_drew1 | refine below_set ?_ GE322.out) | exact HB.out)⟩
    ·
     replace c45 := Bool.eq_false_iff.mpr c45
     subst c45
     have H1 : ((spileref22_Copy.f a1_0 a1_1 a1_2 l1_3).bind fun bt327 => (if x5_1.length < 2932031007402 then (some (x5_1 ++ [(⟨bt327.1, (⟨bt327.2.1, bt327.2.2.1⟩ : S26), bt327.2.2.2⟩ : S33)])) else (none))) = some r := by rw [if_neg (show ¬ (false = true) by decide)] at H; exact H
     clear H
     have H := H1
     clear H1
     replace H := Option.bind_eq_some_iff.mp H
     obtain ⟨⟨t327, t328, t329, t330⟩, A460, H⟩ := H
     replace H : (if x5_1.length < 2932031007402 then (some (x5_1 ++ [(⟨t327, (⟨t328, t329⟩ : S26), t330⟩ : S33)])) else (none)) = some r := H
     have A46 := Aside0.mk A460
     clear A460
     by_cases c47 : x5_1.length < 2932031007402
     ·
      rw [if_pos c47] at H
      have LMc47 := Aside0.mk c47
      clear c47
      obtain ⟨y333, hy333⟩ : ∃ y_ : List (S33), y_ = (x5_1 ++ [(⟨t327, (⟨t328, t329⟩ : S26), t330⟩ : S33)]) := ⟨_, rfl⟩
      replace H : (some y333) = some r := by first | (rw [hy333]; with_reducible exact H) | (have H2_ := (Option.bind_some _ _).symm.trans H; rw [hy333]; with_reducible exact H2_) | (have H2_ := (Option.bind_some _ _).symm.trans H; with_reducible exact H2_) | with_reducible exact H | (rw [hy333]; exact H) | exact H
      have Ny333 := Aside0.mk hy333
      clear hy333
      obtain rfl := Option.some.inj H
      have hcz48_0 : wr.cell? ⟨gb322, 0, none⟩ = some (.int .i64 a1_0) := (blk_cell BK322.out 0).trans rfl
      have hcz48_1 : wr.cell? ⟨gb322, 1, none⟩ = some (.int .i64 a1_1) := (blk_cell BK322.out 1).trans rfl
      have hcz48_2 : wr.cell? ⟨gb322, 2, none⟩ = some (.int .i64 a1_2) := (blk_cell BK322.out 2).trans rfl
      have hcz48_3 : wr.cell? ⟨gb322, 3, none⟩ = some (.slice A1_3 l1_3.length c1_3) := (blk_cell BK322.out 3).trans rfl
      have hfz48_0 := blk_frozen BK322.out 0
      have hfz48_1 := blk_frozen BK322.out 1
      have hfz48_2 := blk_frozen BK322.out 2
      have hfz48_3 := blk_frozen BK322.out 3
      go_wp2_with (first | (go_at_call 29; (with_reducible refine (spileref22_Copy.calls a1_0 a1_1 a1_2 _ _ l1_3 t327 t328 t329 t330 _ ?side1 ?side2 A46.out).mono ?_); (case side1 => repeat (first | exact (Kd.C_below HR1_3.out HB.out) | (with_reducible refine Kd.C_alloc ?_ _) | (with_reducible refine Kd.C_drewN ?_ _) | (with_reducible refine Kd.C_drew ?_))); (case side2 => exact HC1_3.out); rintro e w49 ⟨v331, rfl, ho0, hb⟩; have n0_ := Aside0.mk (Kd.S_elder' (by (with_reducible repeat (first | apply Kd.S_alloc | apply Kd.S_drewN | apply Kd.S_drew)); exact HO_5.out) (Kd.R_base ho0) hb); have n1_ := Aside0.mk (Kd.R_lower ho0 (below_size (by repeat (first | (with_reducible first | exact HB.out | apply below_alloc | apply pw_below_drewN | apply below_drew1 | refine below_set ?_ GE322.out) | exact HB.out)))); have n2_ := Aside0.mk (blk_below (g := gb322) (o := .cells #[.int .i64 a1_0, .int .i64 a1_1, .int .i64 a1_2, .slice A1_3 l1_3.length c1_3] 33 (0, 0)) (by (with_reducible repeat (first | refine blk_drewN ?_ _ | refine blk_drew ?_ | refine blk_alloc ?_ _)); exact BK322.out) hb); have n3_ := Aside0.mk (below_step (by repeat (first | (with_reducible first | exact HB.out | apply below_alloc | apply pw_below_drewN | apply below_drew1 | refine below_set ?_ GE322.out) | exact HB.out)) hb); clear HO_5; clear BK322; clear HB; have HO_5 := n0_; have HO332 := n1_; have BK322 := n2_; have HB := n3_; clear n0_ n1_ n2_ n3_; (try clear hb); (try clear hb2); (try clear hk); (try clear hi); (try clear ho0); obtain ⟨Ao51, co51, eo51⟩ := Kd.R_slice HO332.out; subst eo51) | ((with_reducible refine gate_builtin (b := .append) (xs := #[.tmp 52, .tmp 55]) rfl ?_); at_builtin; refine Kd.S_append k33 (w0 := w) w.heap.size rfl (.tmp 52) (.tmp 55) 22 33 (.agg #[(.int .i64 0), (.int .i64 0), (.int .i64 0), (.slice none 0 0)]) 48 rfl Tryd.underlying22 info33 rfl (by decide) (by omega) u5 x5_1 (⟨t327, (⟨t328, t329⟩ : S26), t330⟩ : S33) [.int .i64 t327, .int .i64 t328, .int .i64 t329, .slice Ao51 t330.length co51] (fun k_ => k_ ≠ gb322) (fun k_ => some k_ = (.slice Ao51 t330.length co51 : Value).ownBlock) rfl rfl ?aP (fun k_ hk_ => ((Kd.R_mono (ok' := fun k_ => ((fun k_ => k_ ≠ gb322)) k_ ∧ some k_ ≠ (u5 : Value).ownBlock) (Kd.R_types (Kd.R_apart' (HO332.out) (Kd.S_typed HO_5.out) (by decide)) BK322.out (by decide)) (fun k_ hk => ⟨hk.2, hk.1.2⟩))).1 k_ hk_.symm) ?aF ?aO ?aB ?aS ?aL ?_; (case aP => exact k33_mkM _ _ _ (⟨t327, (⟨t328, t329⟩ : S26), t330⟩ : S33) (Kd.R_mono (Kd.R_tight rfl (Kd.R_mono (ok' := fun k_ => ((fun k_ => k_ ≠ gb322)) k_ ∧ some k_ ≠ (u5 : Value).ownBlock) (Kd.R_types (Kd.R_apart' (HO332.out) (Kd.S_typed HO_5.out) (by decide)) BK322.out (by decide)) (fun k_ hk => ⟨hk.2, hk.1.2⟩))) (fun _ h_ => h_))); (case aB => exact (by repeat (first | (with_reducible first | exact HB.out | apply below_alloc | apply pw_below_drewN | apply below_drew1 | refine below_set ?_ GE322.out) | exact HB.out))); (case aF => exact (fun k_ hk => Kd.freshB (g := gb322) (o := .cells #[.int .i64 a1_0, .int .i64 a1_1, .int .i64 a1_2, .slice A1_3 l1_3.length c1_3] 33 (0, 0)) (by (with_reducible repeat (first | refine blk_drewN ?_ _ | refine blk_drew ?_ | refine blk_alloc ?_ _)); exact BK322.out) k_ hk)); (case aO => exact (by (with_reducible repeat (first | apply Kd.S_alloc | apply Kd.S_drewN | apply Kd.S_drew)); exact Kd.S_mono HO_5.out (fun k_ hk => ⟨hk.1, fun e_ => hk.2 e_⟩))); (case aS => exact (below_size (by repeat (first | (with_reducible first | exact HB.out | apply below_alloc | apply pw_below_drewN | apply below_drew1 | refine below_set ?_ GE322.out) | exact HB.out)))); (case aL => have := LMc47.out; omega); intro v334 w50 ho hb hg hat; rw [← Ny333.out] at ho; have n0_ := Aside0.mk (blk_grown (g := gb322) (o := .cells #[.int .i64 a1_0, .int .i64 a1_1, .int .i64 a1_2, .slice A1_3 l1_3.length c1_3] 33 (0, 0)) (by (with_reducible repeat (first | refine blk_drewN ?_ _ | refine blk_drew ?_ | refine blk_alloc ?_ _)); exact BK322.out) hg (Kd.S_away HO_5.out (fun _ hk => hk.1))); have n1_ := Aside0.mk (hb); have n2_ := Aside0.mk (ho); clear BK322; clear HB; clear HO_5; clear HO332; have BK322 := n0_; have HB := n1_; have HO335 := n2_; clear n0_ n1_ n2_; clear ho hb hg hat))
      repeat (go_quiet (first | (go_at_call 29; (with_reducible refine (spileref22_Copy.calls a1_0 a1_1 a1_2 _ _ l1_3 t327 t328 t329 t330 _ ?side1 ?side2 A46.out).mono ?_); (case side1 => repeat (first | exact (Kd.C_below HR1_3.out HB.out) | (with_reducible refine Kd.C_alloc ?_ _) | (with_reducible refine Kd.C_drewN ?_ _) | (with_reducible refine Kd.C_drew ?_))); (case side2 => exact HC1_3.out); rintro e w49 ⟨v331, rfl, ho0, hb⟩; have n0_ := Aside0.mk (Kd.S_elder' (by (with_reducible repeat (first | apply Kd.S_alloc | apply Kd.S_drewN | apply Kd.S_drew)); exact HO_5.out) (Kd.R_base ho0) hb); have n1_ := Aside0.mk (Kd.R_lower ho0 (below_size (by repeat (first | (with_reducible first | exact HB.out | apply below_alloc | apply pw_below_drewN | apply below_drew1 | refine below_set ?_ GE322.out) | exact HB.out)))); have n2_ := Aside0.mk (blk_below (g := gb322) (o := .cells #[.int .i64 a1_0, .int .i64 a1_1, .int .i64 a1_2, .slice A1_3 l1_3.length c1_3] 33 (0, 0)) (by (with_reducible repeat (first | refine blk_drewN ?_ _ | refine blk_drew ?_ | refine blk_alloc ?_ _)); exact BK322.out) hb); have n3_ := Aside0.mk (below_step (by repeat (first | (with_reducible first | exact HB.out | apply below_alloc | apply pw_below_drewN | apply below_drew1 | refine below_set ?_ GE322.out) | exact HB.out)) hb); clear HO_5; clear BK322; clear HB; have HO_5 := n0_; have HO332 := n1_; have BK322 := n2_; have HB := n3_; clear n0_ n1_ n2_ n3_; (try clear hb); (try clear hb2); (try clear hk); (try clear hi); (try clear ho0); obtain ⟨Ao51, co51, eo51⟩ := Kd.R_slice HO332.out; subst eo51) | ((with_reducible refine gate_builtin (b := .append) (xs := #[.tmp 52, .tmp 55]) rfl ?_); at_builtin; refine Kd.S_append k33 (w0 := w) w.heap.size rfl (.tmp 52) (.tmp 55) 22 33 (.agg #[(.int .i64 0), (.int .i64 0), (.int .i64 0), (.slice none 0 0)]) 48 rfl Tryd.underlying22 info33 rfl (by decide) (by omega) u5 x5_1 (⟨t327, (⟨t328, t329⟩ : S26), t330⟩ : S33) [.int .i64 t327, .int .i64 t328, .int .i64 t329, .slice Ao51 t330.length co51] (fun k_ => k_ ≠ gb322) (fun k_ => some k_ = (.slice Ao51 t330.length co51 : Value).ownBlock) rfl rfl ?aP (fun k_ hk_ => ((Kd.R_mono (ok' := fun k_ => ((fun k_ => k_ ≠ gb322)) k_ ∧ some k_ ≠ (u5 : Value).ownBlock) (Kd.R_types (Kd.R_apart' (HO332.out) (Kd.S_typed HO_5.out) (by decide)) BK322.out (by decide)) (fun k_ hk => ⟨hk.2, hk.1.2⟩))).1 k_ hk_.symm) ?aF ?aO ?aB ?aS ?aL ?_; (case aP => exact k33_mkM _ _ _ (⟨t327, (⟨t328, t329⟩ : S26), t330⟩ : S33) (Kd.R_mono (Kd.R_tight rfl (Kd.R_mono (ok' := fun k_ => ((fun k_ => k_ ≠ gb322)) k_ ∧ some k_ ≠ (u5 : Value).ownBlock) (Kd.R_types (Kd.R_apart' (HO332.out) (Kd.S_typed HO_5.out) (by decide)) BK322.out (by decide)) (fun k_ hk => ⟨hk.2, hk.1.2⟩))) (fun _ h_ => h_))); (case aB => exact (by repeat (first | (with_reducible first | exact HB.out | apply below_alloc | apply pw_below_drewN | apply below_drew1 | refine below_set ?_ GE322.out) | exact HB.out))); (case aF => exact (fun k_ hk => Kd.freshB (g := gb322) (o := .cells #[.int .i64 a1_0, .int .i64 a1_1, .int .i64 a1_2, .slice A1_3 l1_3.length c1_3] 33 (0, 0)) (by (with_reducible repeat (first | refine blk_drewN ?_ _ | refine blk_drew ?_ | refine blk_alloc ?_ _)); exact BK322.out) k_ hk)); (case aO => exact (by (with_reducible repeat (first | apply Kd.S_alloc | apply Kd.S_drewN | apply Kd.S_drew)); exact Kd.S_mono HO_5.out (fun k_ hk => ⟨hk.1, fun e_ => hk.2 e_⟩))); (case aS => exact (below_size (by repeat (first | (with_reducible first | exact HB.out | apply below_alloc | apply pw_below_drewN | apply below_drew1 | refine below_set ?_ GE322.out) | exact HB.out)))); (case aL => have := LMc47.out; omega); intro v334 w50 ho hb hg hat; rw [← Ny333.out] at ho; have n0_ := Aside0.mk (blk_grown (g := gb322) (o := .cells #[.int .i64 a1_0, .int .i64 a1_1, .int .i64 a1_2, .slice A1_3 l1_3.length c1_3] 33 (0, 0)) (by (with_reducible repeat (first | refine blk_drewN ?_ _ | refine blk_drew ?_ | refine blk_alloc ?_ _)); exact BK322.out) hg (Kd.S_away HO_5.out (fun _ hk => hk.1))); have n1_ := Aside0.mk (hb); have n2_ := Aside0.mk (ho); clear BK322; clear HB; clear HO_5; clear HO332; have BK322 := n0_; have HB := n1_; have HO335 := n2_; clear n0_ n1_ n2_; clear ho hb hg hat)); try go_wp2_with (first | (go_at_call 29; (with_reducible refine (spileref22_Copy.calls a1_0 a1_1 a1_2 _ _ l1_3 t327 t328 t329 t330 _ ?side1 ?side2 A46.out).mono ?_); (case side1 => repeat (first | exact (Kd.C_below HR1_3.out HB.out) | (with_reducible refine Kd.C_alloc ?_ _) | (with_reducible refine Kd.C_drewN ?_ _) | (with_reducible refine Kd.C_drew ?_))); (case side2 => exact HC1_3.out); rintro e w49 ⟨v331, rfl, ho0, hb⟩; have n0_ := Aside0.mk (Kd.S_elder' (by (with_reducible repeat (first | apply Kd.S_alloc | apply Kd.S_drewN | apply Kd.S_drew)); exact HO_5.out) (Kd.R_base ho0) hb); have n1_ := Aside0.mk (Kd.R_lower ho0 (below_size (by repeat (first | (with_reducible first | exact HB.out | apply below_alloc | apply pw_below_drewN | apply below_drew1 | refine below_set ?_ GE322.out) | exact HB.out)))); have n2_ := Aside0.mk (blk_below (g := gb322) (o := .cells #[.int .i64 a1_0, .int .i64 a1_1, .int .i64 a1_2, .slice A1_3 l1_3.length c1_3] 33 (0, 0)) (by (with_reducible repeat (first | refine blk_drewN ?_ _ | refine blk_drew ?_ | refine blk_alloc ?_ _)); exact BK322.out) hb); have n3_ := Aside0.mk (below_step (by repeat (first | (with_reducible first | exact HB.out | apply below_alloc | apply pw_below_drewN | apply below_drew1 | refine below_set ?_ GE322.out) | exact HB.out)) hb); clear HO_5; clear BK322; clear HB; have HO_5 := n0_; have HO332 := n1_; have BK322 := n2_; have HB := n3_; clear n0_ n1_ n2_ n3_; (try clear hb); (try clear hb2); (try clear hk); (try clear hi); (try clear ho0); obtain ⟨Ao51, co51, eo51⟩ := Kd.R_slice HO332.out; subst eo51) | ((with_reducible refine gate_builtin (b := .append) (xs := #[.tmp 52, .tmp 55]) rfl ?_); at_builtin; refine Kd.S_append k33 (w0 := w) w.heap.size rfl (.tmp 52) (.tmp 55) 22 33 (.agg #[(.int .i64 0), (.int .i64 0), (.int .i64 0), (.slice none 0 0)]) 48 rfl Tryd.underlying22 info33 rfl (by decide) (by omega) u5 x5_1 (⟨t327, (⟨t328, t329⟩ : S26), t330⟩ : S33) [.int .i64 t327, .int .i64 t328, .int .i64 t329, .slice Ao51 t330.length co51] (fun k_ => k_ ≠ gb322) (fun k_ => some k_ = (.slice Ao51 t330.length co51 : Value).ownBlock) rfl rfl ?aP (fun k_ hk_ => ((Kd.R_mono (ok' := fun k_ => ((fun k_ => k_ ≠ gb322)) k_ ∧ some k_ ≠ (u5 : Value).ownBlock) (Kd.R_types (Kd.R_apart' (HO332.out) (Kd.S_typed HO_5.out) (by decide)) BK322.out (by decide)) (fun k_ hk => ⟨hk.2, hk.1.2⟩))).1 k_ hk_.symm) ?aF ?aO ?aB ?aS ?aL ?_; (case aP => exact k33_mkM _ _ _ (⟨t327, (⟨t328, t329⟩ : S26), t330⟩ : S33) (Kd.R_mono (Kd.R_tight rfl (Kd.R_mono (ok' := fun k_ => ((fun k_ => k_ ≠ gb322)) k_ ∧ some k_ ≠ (u5 : Value).ownBlock) (Kd.R_types (Kd.R_apart' (HO332.out) (Kd.S_typed HO_5.out) (by decide)) BK322.out (by decide)) (fun k_ hk => ⟨hk.2, hk.1.2⟩))) (fun _ h_ => h_))); (case aB => exact (by repeat (first | (with_reducible first | exact HB.out | apply below_alloc | apply pw_below_drewN | apply below_drew1 | refine below_set ?_ GE322.out) | exact HB.out))); (case aF => exact (fun k_ hk => Kd.freshB (g := gb322) (o := .cells #[.int .i64 a1_0, .int .i64 a1_1, .int .i64 a1_2, .slice A1_3 l1_3.length c1_3] 33 (0, 0)) (by (with_reducible repeat (first | refine blk_drewN ?_ _ | refine blk_drew ?_ | refine blk_alloc ?_ _)); exact BK322.out) k_ hk)); (case aO => exact (by (with_reducible repeat (first | apply Kd.S_alloc | apply Kd.S_drewN | apply Kd.S_drew)); exact Kd.S_mono HO_5.out (fun k_ hk => ⟨hk.1, fun e_ => hk.2 e_⟩))); (case aS => exact (below_size (by repeat (first | (with_reducible first | exact HB.out | apply below_alloc | apply pw_below_drewN | apply below_drew1 | refine below_set ?_ GE322.out) | exact HB.out)))); (case aL => have := LMc47.out; omega); intro v334 w50 ho hb hg hat; rw [← Ny333.out] at ho; have n0_ := Aside0.mk (blk_grown (g := gb322) (o := .cells #[.int .i64 a1_0, .int .i64 a1_1, .int .i64 a1_2, .slice A1_3 l1_3.length c1_3] 33 (0, 0)) (by (with_reducible repeat (first | refine blk_drewN ?_ _ | refine blk_drew ?_ | refine blk_alloc ?_ _)); exact BK322.out) hg (Kd.S_away HO_5.out (fun _ hk => hk.1))); have n1_ := Aside0.mk (hb); have n2_ := Aside0.mk (ho); clear BK322; clear HB; clear HO_5; clear HO332; have BK322 := n0_; have HB := n1_; have HO335 := n2_; clear n0_ n1_ n2_; clear ho hb hg hat)))
      go_ret
      exact ⟨_, by first | rfl | (simp [errW_none, errW_some] <;> rfl) | (simp [*, errW_none, errW_some] <;> rfl), by (with_reducible repeat (first | apply Kd.S_alloc | apply Kd.S_drewN | apply Kd.S_drew)); exact Kd.S_mono HO335.out (fun _ hk => trivial), by repeat (first | (with_reducible first | exact HB.out | apply below_alloc | apply pw_below_drewN | apply below_drew1 | refine below_set ?_ GE322.out) | exact HB.out)⟩
     ·
      rw [if_neg c47] at H
      exact absurd H (by simp)
def spileref22_Put.j0 : Nat → List (S33) → Int → Bool → Int → Int → Int → List (S35) → Option ((List (S33)) × Int)
 | 0, _, _, _, _, _, _, _ => none
 | k + 1, x0, x6, x23, x369000, x369001, x369002, x369003 => if x23 = true then (some (([] : List (S33)), x6)) else ((spileref22_Set.f k x0 x369000 x369001 x369002 x369003).bind fun t373 => (if (t373.length : Int) > 32 then (some (([] : List (S33)), 8)) else (some (t373, 0))))
def spileref22_Put.f (k : Nat) (l0 : List (S33)) (a1_0 : Int) (a1_1 : Int) (a1_2 : Int) (l1_3 : List (S35)) : Option ((List (S33)) × Int) := (spileref22_Right.f k l0).bind fun t369 => (if t369 = true then ((spileref22_ID.f a1_0).bind fun t370 => (if t370 = true then ((spileref22_One.f k a1_0 a1_1 a1_2 l1_3).bind fun t371 => (if t371 = 0 then (spileref22_Put.j0 k l0 t371 false a1_0 a1_1 a1_2 l1_3) else ((spileref22_Empty.f a1_0 a1_1 a1_2 l1_3).bind fun t372 => (spileref22_Put.j0 k l0 t371 (!t372) a1_0 a1_1 a1_2 l1_3)))) else (some (([] : List (S33)), 2)))) else (some (([] : List (S33)), 1)))
theorem spileref22_Put.mono_l : ∀ k, (∀ y0 y1 y2 y3 y4 y5 y6, LeO (spileref22_Put.j0 k y0 y1 y2 y3 y4 y5 y6) (spileref22_Put.j0 (k + 1) y0 y1 y2 y3 y4 y5 y6))
 | 0 => fun _ _ _ _ _ _ _ r h => by simp [spileref22_Put.j0] at h
 | k + 1 => by
  have ih0 := spileref22_Put.mono_l k
  ·
   intro y0 y1 y2 y3 y4 y5 y6
   unfold spileref22_Put.j0
   repeat' first
   | (with_reducible exact ih0 _ _ _ _ _ _ _)
   | (with_reducible exact spileref22_One.mono _ _ _ _ _)
   | (with_reducible exact spileref22_Right.mono _ _)
   | (with_reducible exact spileref22_Set.mono _ _ _ _ _ _)
   | (with_reducible exact LeO.refl _)
   | (with_reducible exact LeO.none _)
   | (with_reducible refine LeO.ite ?_ ?_)
   | (with_reducible refine LeO.bind ?_ (fun _ => ?_))
   | exact ih0 _ _ _ _ _ _ _
   | exact spileref22_One.mono _ _ _ _ _
   | exact spileref22_Right.mono _ _
   | exact spileref22_Set.mono _ _ _ _ _ _
   | exact LeO.none _
   | refine LeO.ite ?_ ?_
   | refine LeO.bind ?_ (fun _ => ?_)
theorem spileref22_Put.mono : ∀ a0 a1 a2 a3 a4 k, LeO (spileref22_Put.f k a0 a1 a2 a3 a4) (spileref22_Put.f (k + 1) a0 a1 a2 a3 a4) := by
 intro a0 a1 a2 a3 a4 k
 have ih0 := spileref22_Put.mono_l k
 unfold spileref22_Put.f
 repeat' first
   | (with_reducible exact ih0 _ _ _ _ _ _ _)
   | (with_reducible exact spileref22_One.mono _ _ _ _ _)
   | (with_reducible exact spileref22_Right.mono _ _)
   | (with_reducible exact spileref22_Set.mono _ _ _ _ _ _)
   | (with_reducible exact LeO.refl _)
   | (with_reducible exact LeO.none _)
   | (with_reducible refine LeO.ite ?_ ?_)
   | (with_reducible refine LeO.bind ?_ (fun _ => ?_))
   | exact ih0 _ _ _ _ _ _ _
   | exact spileref22_One.mono _ _ _ _ _
   | exact spileref22_Right.mono _ _
   | exact spileref22_Set.mono _ _ _ _ _ _
   | exact LeO.none _
   | refine LeO.ite ?_ ?_
   | refine LeO.bind ?_ (fun _ => ?_)
set_option maxHeartbeats 8000000 in
set_option maxRecDepth 100000 in
theorem spileref22_Put.calls (k : Nat) (A0 : Option Addr) (c0 : Nat) (l0 : List (S33)) (a1_0 : Int) (a1_1 : Int) (a1_2 : Int) (A1_3 : Option Addr) (c1_3 : Nat) (l1_3 : List (S35)) (r1 : List (S33)) (r2 : Int) (w : World) (hr0 : Kd.C k33 w A0 l0.length l0) (hc0 : l0.length ≤ c0) (hr1_3 : Kd.C k35 w A1_3 l1_3.length l1_3) (hc1_3 : l1_3.length ≤ c1_3) (h : spileref22_Put.f k l0 a1_0 a1_1 a1_2 l1_3 = some (r1, r2)) :
  Calls Tryd.prog 23 #[.slice A0 l0.length c0, .agg #[.int .i64 a1_0, .int .i64 a1_1, .int .i64 a1_2, .slice A1_3 l1_3.length c1_3]] w fun e w' => ∃ v0_ : Value, e = .returned (.tuple #[v0_, .int .i64 r2]) ∧ Kd.S k33 33 w' w.heap.size (fun _ => True) v0_ r1 ∧ Below w.heap.size w w' := by
 have hu33 := Tryd.underlying33
 have HR0 := Aside0.mk hr0
 have HC0 := Aside0.mk hc0
 clear hr0 hc0
 have HR1_3 := Aside0.mk hr1_3
 have HC1_3 := Aside0.mk hc1_3
 clear hr1_3 hc1_3
 have HB := Aside0.mk (Below.refl w.heap.size w)
 have H : ((spileref22_Right.f k l0).bind fun t369 => (if t369 = true then ((spileref22_ID.f a1_0).bind fun t370 => (if t370 = true then ((spileref22_One.f k a1_0 a1_1 a1_2 l1_3).bind fun t371 => (if t371 = 0 then (spileref22_Put.j0 k l0 t371 false a1_0 a1_1 a1_2 l1_3) else ((spileref22_Empty.f a1_0 a1_1 a1_2 l1_3).bind fun t372 => (spileref22_Put.j0 k l0 t371 (!t372) a1_0 a1_1 a1_2 l1_3)))) else (some (([] : List (S33)), 2)))) else (some (([] : List (S33)), 1)))) = some (r1, r2) := h
 clear h
 replace H := Option.bind_eq_some_iff.mp H
 obtain ⟨t369, A30, H⟩ := H
 replace H : (if t369 = true then ((spileref22_ID.f a1_0).bind fun t370 => (if t370 = true then ((spileref22_One.f k a1_0 a1_1 a1_2 l1_3).bind fun t371 => (if t371 = 0 then (spileref22_Put.j0 k l0 t371 false a1_0 a1_1 a1_2 l1_3) else ((spileref22_Empty.f a1_0 a1_1 a1_2 l1_3).bind fun t372 => (spileref22_Put.j0 k l0 t371 (!t372) a1_0 a1_1 a1_2 l1_3)))) else (some (([] : List (S33)), 2)))) else (some (([] : List (S33)), 1))) = some (r1, r2) := H
 have A3 := Aside0.mk A30
 clear A30
 by_cases c4 : t369 = true
 ·
  subst c4
  have H1 : ((spileref22_ID.f a1_0).bind fun t370 => (if t370 = true then ((spileref22_One.f k a1_0 a1_1 a1_2 l1_3).bind fun t371 => (if t371 = 0 then (spileref22_Put.j0 k l0 t371 false a1_0 a1_1 a1_2 l1_3) else ((spileref22_Empty.f a1_0 a1_1 a1_2 l1_3).bind fun t372 => (spileref22_Put.j0 k l0 t371 (!t372) a1_0 a1_1 a1_2 l1_3)))) else (some (([] : List (S33)), 2)))) = some (r1, r2) := by rw [if_pos rfl] at H; exact H
  clear H
  have H := H1
  clear H1
  replace H := Option.bind_eq_some_iff.mp H
  obtain ⟨t370, A50, H⟩ := H
  replace H : (if t370 = true then ((spileref22_One.f k a1_0 a1_1 a1_2 l1_3).bind fun t371 => (if t371 = 0 then (spileref22_Put.j0 k l0 t371 false a1_0 a1_1 a1_2 l1_3) else ((spileref22_Empty.f a1_0 a1_1 a1_2 l1_3).bind fun t372 => (spileref22_Put.j0 k l0 t371 (!t372) a1_0 a1_1 a1_2 l1_3)))) else (some (([] : List (S33)), 2))) = some (r1, r2) := H
  have A5 := Aside0.mk A50
  clear A50
  by_cases c6 : t370 = true
  ·
   subst c6
   have H1 : ((spileref22_One.f k a1_0 a1_1 a1_2 l1_3).bind fun t371 => (if t371 = 0 then (spileref22_Put.j0 k l0 t371 false a1_0 a1_1 a1_2 l1_3) else ((spileref22_Empty.f a1_0 a1_1 a1_2 l1_3).bind fun t372 => (spileref22_Put.j0 k l0 t371 (!t372) a1_0 a1_1 a1_2 l1_3)))) = some (r1, r2) := by rw [if_pos rfl] at H; exact H
   clear H
   have H := H1
   clear H1
   replace H := Option.bind_eq_some_iff.mp H
   obtain ⟨t371, A70, H⟩ := H
   replace H : (if t371 = 0 then (spileref22_Put.j0 k l0 t371 false a1_0 a1_1 a1_2 l1_3) else ((spileref22_Empty.f a1_0 a1_1 a1_2 l1_3).bind fun t372 => (spileref22_Put.j0 k l0 t371 (!t372) a1_0 a1_1 a1_2 l1_3))) = some (r1, r2) := H
   have A7 := Aside0.mk A70
   clear A70
   have HC8 := Aside0.mk H
   clear H
   go_enter Tryd.func23, Tryd.ntmps23
   go_upto_region 6 with (first | ((with_reducible refine gate_dst (N := 3) rfl ?_); refine box_event ?hg (N := 3) ?hd (cs := #[.int .i64 a1_0, .int .i64 a1_1, .int .i64 a1_2, .slice A1_3 l1_3.length c1_3]) (t := 33) ?hr ?_; (case hd => rfl); (case hg => rfl); (case hr => first | (go_simp; done) | (go_simp; rfl)); intro gb368 hg w9 hbox hb; have n0_ := Aside0.mk (below_step (by repeat (first | (with_reducible first | exact HB.out | apply below_alloc | apply pw_below_drewN | apply below_drew1) | exact HB.out)) hb); have n1_ := Aside0.mk (hbox); have n2_ := Aside0.mk ((by rw [hg]; exact (below_size (by repeat (first | (with_reducible first | exact HB.out | apply below_alloc | apply pw_below_drewN | apply below_drew1) | exact HB.out))) : w.heap.size ≤ gb368)); have n3_ := Aside0.mk ((by rw [hg]; exact (below_size (by repeat (first | (with_reducible first | exact HB.out | apply below_alloc | apply pw_below_drewN | apply below_drew1) | exact HB.out))) : w.heap.size ≤ gb368)); clear HB; have HB := n0_; have BK368 := n1_; have GW368 := n2_; have GE368 := n3_; clear n0_ n1_ n2_ n3_; clear hb hbox hg) | ((with_reducible refine gate_callee (f := 40) rfl ?_); refine goesL_ (some 9) rfl rfl Tryd.func40 (by kernel_rfl) rfl #[.slice A0 l0.length c0] rfl (by (try simp only [List.map_toArray, List.map_cons, List.map_nil]); first | done | rfl | (simp only [List.length_drop, List.length_take]; rfl)) ?_; (with_reducible refine (spileref22_Right.calls k _ _ l0 true _ ?side1 ?side2 A3.out).mono ?_); (case side1 => repeat (first | exact (Kd.C_below HR0.out HB.out) | (with_reducible refine Kd.C_alloc ?_ _) | (with_reducible refine Kd.C_drewN ?_ _) | (with_reducible refine Kd.C_drew ?_))); (case side2 => exact HC0.out); rintro e w10 ⟨rfl, hb⟩; refine ⟨_, rfl, ?_⟩; have n0_ := Aside0.mk (blk_below (g := gb368) (o := .cells #[.int .i64 a1_0, .int .i64 a1_1, .int .i64 a1_2, .slice A1_3 l1_3.length c1_3] 33 (0, 0)) (by (with_reducible repeat (first | refine blk_drewN ?_ _ | refine blk_drew ?_ | refine blk_alloc ?_ _)); exact BK368.out) hb); have n1_ := Aside0.mk (below_step (by repeat (first | (with_reducible first | exact HB.out | apply below_alloc | apply pw_below_drewN | apply below_drew1 | refine below_set ?_ GE368.out) | exact HB.out)) hb); clear BK368; clear HB; have BK368 := n0_; have HB := n1_; clear n0_ n1_; (try clear hb); (try clear hb2); (try clear hk); (try clear hi); have hcz11_0 : w10.cell? ⟨gb368, 0, none⟩ = some (.int .i64 a1_0) := (blk_cell BK368.out 0).trans rfl; have hcz11_1 : w10.cell? ⟨gb368, 1, none⟩ = some (.int .i64 a1_1) := (blk_cell BK368.out 1).trans rfl; have hcz11_2 : w10.cell? ⟨gb368, 2, none⟩ = some (.int .i64 a1_2) := (blk_cell BK368.out 2).trans rfl; have hcz11_3 : w10.cell? ⟨gb368, 3, none⟩ = some (.slice A1_3 l1_3.length c1_3) := (blk_cell BK368.out 3).trans rfl; have hfz11_0 := blk_frozen BK368.out 0; have hfz11_1 := blk_frozen BK368.out 1; have hfz11_2 := blk_frozen BK368.out 2; have hfz11_3 := blk_frozen BK368.out 3) | ((with_reducible refine gate_callee (f := 37) rfl ?_); refine goesL_ (some 13) rfl rfl Tryd.func37 (by kernel_rfl) rfl #[.int .i64 a1_0] rfl (by (try simp only [List.map_toArray, List.map_cons, List.map_nil]); first | done | rfl | (simp only [List.length_drop, List.length_take]; rfl)) ?_; (with_reducible refine (spileref22_ID.calls a1_0 true _ A5.out).mono ?_); rintro e w' ⟨rfl, ⟨nd, rfl⟩⟩; refine ⟨_, rfl, ?_⟩) | ((with_reducible refine gate_callee (f := 38) rfl ?_); refine goesL_ (some 16) rfl rfl Tryd.func38 (by kernel_rfl) rfl #[.agg #[.int .i64 a1_0, .int .i64 a1_1, .int .i64 a1_2, .slice A1_3 l1_3.length c1_3]] rfl (by (try simp only [List.map_toArray, List.map_cons, List.map_nil]); first | done | rfl | (simp only [List.length_drop, List.length_take]; rfl)) ?_; (with_reducible refine (spileref22_One.calls k a1_0 a1_1 a1_2 _ _ l1_3 t371 _ ?side1 ?side2 A7.out).mono ?_); (case side1 => repeat (first | exact (Kd.C_below HR1_3.out (by repeat (first | (with_reducible first | exact HB.out | apply below_alloc | apply pw_below_drewN | apply below_drew1 | refine below_set ?_ GE368.out) | exact HB.out))) | (with_reducible refine Kd.C_alloc ?_ _) | (with_reducible refine Kd.C_drewN ?_ _) | (with_reducible refine Kd.C_drew ?_))); (case side2 => exact HC1_3.out); rintro e w12 ⟨rfl, hb⟩; refine ⟨_, rfl, ?_⟩; have n0_ := Aside0.mk (blk_below (g := gb368) (o := .cells #[.int .i64 a1_0, .int .i64 a1_1, .int .i64 a1_2, .slice A1_3 l1_3.length c1_3] 33 (0, 0)) (by (with_reducible repeat (first | refine blk_drewN ?_ _ | refine blk_drew ?_ | refine blk_alloc ?_ _)); exact BK368.out) hb); have n1_ := Aside0.mk (below_step (by repeat (first | (with_reducible first | exact HB.out | apply below_alloc | apply pw_below_drewN | apply below_drew1 | refine below_set ?_ GE368.out) | exact HB.out)) hb); clear BK368; clear HB; have BK368 := n0_; have HB := n1_; clear n0_ n1_; (try clear hb); (try clear hb2); (try clear hk); (try clear hi)))
   (try simp only [Act.put, List.setIfInBounds_toArray, List.set_cons_zero, List.set_cons_succ])
   go_cut [23] (fun v23 wc => ∃ (kq : Nat) (x23_7 : Bool), v23 = .bool x23_7 ∧ Aside0 (spileref22_Put.j0 kq l0 t371 x23_7 a1_0 a1_1 a1_2 l1_3 = some (r1, r2)) ∧ Aside0 (kq ≤ k) ∧ Aside0 (wc.heap[gb368]? = some (.cells #[.int .i64 a1_0, .int .i64 a1_1, .int .i64 a1_2, (.slice A1_3 l1_3.length c1_3)] 33 (0, 0))) ∧ Aside0 (Below w.heap.size w wc))
   case first =>
    have H := HC8.out
    clear HC8
    by_cases c13 : t371 = 0
    ·
     rw [if_pos c13] at H
     have c13b0 : (t371 == 0) = true := beq_iff_eq.mpr c13
     have c13b1 : (t371 != 0) = false := bne_eq_false_iff_eq.mpr c13
     clear c13
     (first | rw [c13b0] | (simp only [i64_w, i32_w]; rw [c13b0]) | skip)
     have H' := Aside0.mk H
     clear H
     go_wp2
     go_meet
     case rel => exact ⟨_, (false), (by first | rfl | (simp; done) | (simp [*]; done)), H', ⟨by first | omega | exact Nat.le_refl _⟩, ⟨by (with_reducible repeat (first | refine blk_drewN ?_ _ | refine blk_drew ?_ | refine blk_alloc ?_ _)); exact BK368.out⟩, ⟨by repeat (first | (with_reducible first | exact HB.out | apply below_alloc | apply pw_below_drewN | apply below_drew1 | refine below_set ?_ GE368.out) | exact HB.out)⟩⟩
    ·
     rw [if_neg c13] at H
     have c13b0 : (t371 == 0) = false := beq_eq_false_iff_ne.mpr c13
     have c13b1 : (t371 != 0) = true := bne_iff_ne.mpr c13
     (first | rw [c13b0] | (simp only [i64_w, i32_w]; rw [c13b0]) | skip)
     replace H := Option.bind_eq_some_iff.mp H
     obtain ⟨t372, A140, H⟩ := H
     replace H : (spileref22_Put.j0 k l0 t371 (!t372) a1_0 a1_1 a1_2 l1_3) = some (r1, r2) := H
     have A14 := Aside0.mk A140
     clear A140
     have H' := Aside0.mk H
     clear H
     have hcz15_0 : w12.cell? ⟨gb368, 0, none⟩ = some (.int .i64 a1_0) := (blk_cell BK368.out 0).trans rfl
     have hcz15_1 : w12.cell? ⟨gb368, 1, none⟩ = some (.int .i64 a1_1) := (blk_cell BK368.out 1).trans rfl
     have hcz15_2 : w12.cell? ⟨gb368, 2, none⟩ = some (.int .i64 a1_2) := (blk_cell BK368.out 2).trans rfl
     have hcz15_3 : w12.cell? ⟨gb368, 3, none⟩ = some (.slice A1_3 l1_3.length c1_3) := (blk_cell BK368.out 3).trans rfl
     have hfz15_0 := blk_frozen BK368.out 0
     have hfz15_1 := blk_frozen BK368.out 1
     have hfz15_2 := blk_frozen BK368.out 2
     have hfz15_3 := blk_frozen BK368.out 3
     go_wp2_with (first | (go_at_call 46; (with_reducible refine (spileref22_Empty.calls a1_0 a1_1 a1_2 _ _ l1_3 t372 _ ?side1 ?side2 A14.out).mono ?_); (case side1 => repeat (first | exact (Kd.C_below HR1_3.out HB.out) | (with_reducible refine Kd.C_alloc ?_ _) | (with_reducible refine Kd.C_drewN ?_ _) | (with_reducible refine Kd.C_drew ?_))); (case side2 => exact HC1_3.out); rintro e w16 ⟨rfl, hb⟩; have n0_ := Aside0.mk (blk_below (g := gb368) (o := .cells #[.int .i64 a1_0, .int .i64 a1_1, .int .i64 a1_2, .slice A1_3 l1_3.length c1_3] 33 (0, 0)) (by (with_reducible repeat (first | refine blk_drewN ?_ _ | refine blk_drew ?_ | refine blk_alloc ?_ _)); exact BK368.out) hb); have n1_ := Aside0.mk (below_step (by repeat (first | (with_reducible first | exact HB.out | apply below_alloc | apply pw_below_drewN | apply below_drew1 | refine below_set ?_ GE368.out) | exact HB.out)) hb); clear BK368; clear HB; have BK368 := n0_; have HB := n1_; clear n0_ n1_; (try clear hb); (try clear hb2); (try clear hk); (try clear hi)))
     go_meet
     case rel => exact ⟨_, (!t372), (by first | rfl | (simp; done) | (simp [*]; done)), H', ⟨by first | omega | exact Nat.le_refl _⟩, ⟨by (with_reducible repeat (first | refine blk_drewN ?_ _ | refine blk_drew ?_ | refine blk_alloc ?_ _)); exact BK368.out⟩, ⟨by repeat (first | (with_reducible first | exact HB.out | apply below_alloc | apply pw_below_drewN | apply below_drew1 | refine below_set ?_ GE368.out) | exact HB.out)⟩⟩
   case rest =>
    clear HC8
    try clear c1
    try clear c2
    try clear p2
    try clear c3
    try clear c4
    try clear c6
    try clear c13
    try clear c13b0
    try clear c13b1
    try clear hcz11_0
    try clear hcz11_1
    try clear hcz11_2
    try clear hcz11_3
    try clear hcz15_0
    try clear hcz15_1
    try clear hcz15_2
    try clear hcz15_3
    try clear hfz11_0
    try clear hfz11_1
    try clear hfz11_2
    try clear hfz11_3
    try clear hfz15_0
    try clear hfz15_1
    try clear hfz15_2
    try clear hfz15_3
    obtain ⟨kq, x23_7, rfl, HA, HJ7, BK368, HB⟩ := hcut
    cases kq with
    | zero => exact absurd HA.out (by simp [spileref22_Put.j0])
    | succ kj7 =>
     have H := HA.out
     clear HA
     simp only [spileref22_Put.j0] at H
     by_cases c17 : x23_7 = true
     ·
      subst c17
      have H1 : (some (([] : List (S33)), t371)) = some (r1, r2) := by rw [if_pos rfl] at H; exact H
      clear H
      have H := H1
      clear H1
      simp only [Option.some.injEq, Prod.mk.injEq] at H
      obtain ⟨rfl, rfl⟩ := H
      go_wp2
      go_ret2
      exact ⟨_, by first | rfl | (simp [errW_none, errW_some] <;> rfl) | (simp [*, errW_none, errW_some] <;> rfl), by first | exact Kd.S_nil _ _ _ _ _ | exact Kd.N_nil _ _ _ _ _ | exact Kd.V_nil _ _ _ _ _ | exact Kd.Q_nil _ _ _ _ _ | exact Kd.R_nil _ _ _ _ _, by repeat (first | (with_reducible first | exact HB.out | apply below_alloc | apply pw_below_drewN | apply below_drew1 | refine below_set ?_ GE368.out) | exact HB.out)⟩
     ·
      replace c17 := Bool.eq_false_iff.mpr c17
      subst c17
      have H1 : ((spileref22_Set.f kj7 l0 a1_0 a1_1 a1_2 l1_3).bind fun t373 => (if (t373.length : Int) > 32 then (some (([] : List (S33)), 8)) else (some (t373, 0)))) = some (r1, r2) := by rw [if_neg (show ¬ (false = true) by decide)] at H; exact H
      clear H
      have H := H1
      clear H1
      replace H := Option.bind_eq_some_iff.mp H
      obtain ⟨t373, A180, H⟩ := H
      replace H : (if (t373.length : Int) > 32 then (some (([] : List (S33)), 8)) else (some (t373, 0))) = some (r1, r2) := H
      have A18 := Aside0.mk A180
      clear A180
      by_cases c19 : (t373.length : Int) > 32
      ·
       rw [if_pos c19] at H
       have c19b0 : decide (32 < (t373.length : Int)) = true := decide_eq_true c19
       have c19b1 : decide (32 < t373.length) = true := decide_eq_true (by omega)
       clear c19
       simp only [Option.some.injEq, Prod.mk.injEq] at H
       obtain ⟨rfl, rfl⟩ := H
       have hcz20_0 : wc.cell? ⟨gb368, 0, none⟩ = some (.int .i64 a1_0) := (blk_cell BK368.out 0).trans rfl
       have hcz20_1 : wc.cell? ⟨gb368, 1, none⟩ = some (.int .i64 a1_1) := (blk_cell BK368.out 1).trans rfl
       have hcz20_2 : wc.cell? ⟨gb368, 2, none⟩ = some (.int .i64 a1_2) := (blk_cell BK368.out 2).trans rfl
       have hcz20_3 : wc.cell? ⟨gb368, 3, none⟩ = some (.slice A1_3 l1_3.length c1_3) := (blk_cell BK368.out 3).trans rfl
       have hfz20_0 := blk_frozen BK368.out 0
       have hfz20_1 := blk_frozen BK368.out 1
       have hfz20_2 := blk_frozen BK368.out 2
       have hfz20_3 := blk_frozen BK368.out 3
       go_wp2_with (first | ((with_reducible refine gate_callee (f := 47) rfl ?_); refine goesL_ (some 27) rfl rfl Tryd.func47 (by kernel_rfl) rfl #[.slice A0 l0.length c0, .agg #[.int .i64 a1_0, .int .i64 a1_1, .int .i64 a1_2, .slice A1_3 l1_3.length c1_3]] rfl (by (try simp only [List.map_toArray, List.map_cons, List.map_nil]); first | done | rfl | (simp only [List.length_drop, List.length_take]; rfl)) ?_; (with_reducible refine (spileref22_Set.calls kj7 _ _ l0 a1_0 a1_1 a1_2 _ _ l1_3 t373 _ ?side1 ?side2 ?side3 ?side4 A18.out).mono ?_); (case side1 => repeat (first | exact (Kd.C_below HR0.out HB.out) | (with_reducible refine Kd.C_alloc ?_ _) | (with_reducible refine Kd.C_drewN ?_ _) | (with_reducible refine Kd.C_drew ?_))); (case side2 => exact HC0.out); (case side3 => repeat (first | exact (Kd.C_below HR1_3.out HB.out) | (with_reducible refine Kd.C_alloc ?_ _) | (with_reducible refine Kd.C_drewN ?_ _) | (with_reducible refine Kd.C_drew ?_))); (case side4 => exact HC1_3.out); rintro e w21 ⟨v374, rfl, ho0, hb⟩; refine ⟨_, rfl, ?_⟩; have n0_ := Aside0.mk (Kd.S_lower (Kd.S_newB ho0 (g := gb368) (o := .cells #[.int .i64 a1_0, .int .i64 a1_1, .int .i64 a1_2, .slice A1_3 l1_3.length c1_3] 33 (0, 0)) (by (with_reducible repeat (first | refine blk_drewN ?_ _ | refine blk_drew ?_ | refine blk_alloc ?_ _)); exact BK368.out)) (below_size (by repeat (first | (with_reducible first | exact HB.out | apply below_alloc | apply pw_below_drewN | apply below_drew1 | refine below_set ?_ GE368.out) | exact HB.out)))); have n1_ := Aside0.mk (blk_below (g := gb368) (o := .cells #[.int .i64 a1_0, .int .i64 a1_1, .int .i64 a1_2, .slice A1_3 l1_3.length c1_3] 33 (0, 0)) (by (with_reducible repeat (first | refine blk_drewN ?_ _ | refine blk_drew ?_ | refine blk_alloc ?_ _)); exact BK368.out) hb); have n2_ := Aside0.mk (below_step (by repeat (first | (with_reducible first | exact HB.out | apply below_alloc | apply pw_below_drewN | apply below_drew1 | refine below_set ?_ GE368.out) | exact HB.out)) hb); clear BK368; clear HB; have HO375 := n0_; have BK368 := n1_; have HB := n2_; clear n0_ n1_ n2_; (try clear hb); (try clear hb2); (try clear hk); (try clear hi); (try clear ho0); obtain ⟨Ao22, co22, eo22⟩ := Kd.S_slice HO375.out; subst eo22))
       go_ret2
       exact ⟨_, by first | rfl | (simp [errW_none, errW_some] <;> rfl) | (simp [*, errW_none, errW_some] <;> rfl), by first | exact Kd.S_nil _ _ _ _ _ | exact Kd.N_nil _ _ _ _ _ | exact Kd.V_nil _ _ _ _ _ | exact Kd.Q_nil _ _ _ _ _ | exact Kd.R_nil _ _ _ _ _, by repeat (first | (with_reducible first | exact HB.out | apply below_alloc | apply pw_below_drewN | apply below_drew1 | refine below_set ?_ GE368.out) | exact HB.out)⟩
      ·
       rw [if_neg c19] at H
       have c19b0 : decide (32 < (t373.length : Int)) = false := decide_eq_false c19
       have c19b1 : decide (32 < t373.length) = false := decide_eq_false (by omega)
       clear c19
       simp only [Option.some.injEq, Prod.mk.injEq] at H
       obtain ⟨rfl, rfl⟩ := H
       have hcz23_0 : wc.cell? ⟨gb368, 0, none⟩ = some (.int .i64 a1_0) := (blk_cell BK368.out 0).trans rfl
       have hcz23_1 : wc.cell? ⟨gb368, 1, none⟩ = some (.int .i64 a1_1) := (blk_cell BK368.out 1).trans rfl
       have hcz23_2 : wc.cell? ⟨gb368, 2, none⟩ = some (.int .i64 a1_2) := (blk_cell BK368.out 2).trans rfl
       have hcz23_3 : wc.cell? ⟨gb368, 3, none⟩ = some (.slice A1_3 l1_3.length c1_3) := (blk_cell BK368.out 3).trans rfl
       have hfz23_0 := blk_frozen BK368.out 0
       have hfz23_1 := blk_frozen BK368.out 1
       have hfz23_2 := blk_frozen BK368.out 2
       have hfz23_3 := blk_frozen BK368.out 3
       go_wp2_with (first | ((with_reducible refine gate_callee (f := 47) rfl ?_); refine goesL_ (some 27) rfl rfl Tryd.func47 (by kernel_rfl) rfl #[.slice A0 l0.length c0, .agg #[.int .i64 a1_0, .int .i64 a1_1, .int .i64 a1_2, .slice A1_3 l1_3.length c1_3]] rfl (by (try simp only [List.map_toArray, List.map_cons, List.map_nil]); first | done | rfl | (simp only [List.length_drop, List.length_take]; rfl)) ?_; (with_reducible refine (spileref22_Set.calls kj7 _ _ l0 a1_0 a1_1 a1_2 _ _ l1_3 t373 _ ?side1 ?side2 ?side3 ?side4 A18.out).mono ?_); (case side1 => repeat (first | exact (Kd.C_below HR0.out HB.out) | (with_reducible refine Kd.C_alloc ?_ _) | (with_reducible refine Kd.C_drewN ?_ _) | (with_reducible refine Kd.C_drew ?_))); (case side2 => exact HC0.out); (case side3 => repeat (first | exact (Kd.C_below HR1_3.out HB.out) | (with_reducible refine Kd.C_alloc ?_ _) | (with_reducible refine Kd.C_drewN ?_ _) | (with_reducible refine Kd.C_drew ?_))); (case side4 => exact HC1_3.out); rintro e w24 ⟨v374, rfl, ho0, hb⟩; refine ⟨_, rfl, ?_⟩; have n0_ := Aside0.mk (Kd.S_lower (Kd.S_newB ho0 (g := gb368) (o := .cells #[.int .i64 a1_0, .int .i64 a1_1, .int .i64 a1_2, .slice A1_3 l1_3.length c1_3] 33 (0, 0)) (by (with_reducible repeat (first | refine blk_drewN ?_ _ | refine blk_drew ?_ | refine blk_alloc ?_ _)); exact BK368.out)) (below_size (by repeat (first | (with_reducible first | exact HB.out | apply below_alloc | apply pw_below_drewN | apply below_drew1 | refine below_set ?_ GE368.out) | exact HB.out)))); have n1_ := Aside0.mk (blk_below (g := gb368) (o := .cells #[.int .i64 a1_0, .int .i64 a1_1, .int .i64 a1_2, .slice A1_3 l1_3.length c1_3] 33 (0, 0)) (by (with_reducible repeat (first | refine blk_drewN ?_ _ | refine blk_drew ?_ | refine blk_alloc ?_ _)); exact BK368.out) hb); have n2_ := Aside0.mk (below_step (by repeat (first | (with_reducible first | exact HB.out | apply below_alloc | apply pw_below_drewN | apply below_drew1 | refine below_set ?_ GE368.out) | exact HB.out)) hb); clear BK368; clear HB; have HO375 := n0_; have BK368 := n1_; have HB := n2_; clear n0_ n1_ n2_; (try clear hb); (try clear hb2); (try clear hk); (try clear hi); (try clear ho0); obtain ⟨Ao25, co25, eo25⟩ := Kd.S_slice HO375.out; subst eo25))
       go_ret2
       exact ⟨_, by first | rfl | (simp [errW_none, errW_some] <;> rfl) | (simp [*, errW_none, errW_some] <;> rfl), by (with_reducible repeat (first | apply Kd.S_alloc | apply Kd.S_drewN | apply Kd.S_drew)); exact Kd.S_mono HO375.out (fun _ hk => trivial), by repeat (first | (with_reducible first | exact HB.out | apply below_alloc | apply pw_below_drewN | apply below_drew1 | refine below_set ?_ GE368.out) | exact HB.out)⟩
  ·
   replace c6 := Bool.eq_false_iff.mpr c6
   subst c6
   have H1 : (some (([] : List (S33)), 2)) = some (r1, r2) := by rw [if_neg (show ¬ (false = true) by decide)] at H; exact H
   clear H
   have H := H1
   clear H1
   simp only [Option.some.injEq, Prod.mk.injEq] at H
   obtain ⟨rfl, rfl⟩ := H
   go_enter Tryd.func23, Tryd.ntmps23
   go_wp2_with (first | ((with_reducible refine gate_dst (N := 3) rfl ?_); refine box_event ?hg (N := 3) ?hd (cs := #[.int .i64 a1_0, .int .i64 a1_1, .int .i64 a1_2, .slice A1_3 l1_3.length c1_3]) (t := 33) ?hr ?_; (case hd => rfl); (case hg => rfl); (case hr => first | (go_simp; done) | (go_simp; rfl)); intro gb368 hg w26 hbox hb; have n0_ := Aside0.mk (below_step (by repeat (first | (with_reducible first | exact HB.out | apply below_alloc | apply pw_below_drewN | apply below_drew1) | exact HB.out)) hb); have n1_ := Aside0.mk (hbox); have n2_ := Aside0.mk ((by rw [hg]; exact (below_size (by repeat (first | (with_reducible first | exact HB.out | apply below_alloc | apply pw_below_drewN | apply below_drew1) | exact HB.out))) : w.heap.size ≤ gb368)); have n3_ := Aside0.mk ((by rw [hg]; exact (below_size (by repeat (first | (with_reducible first | exact HB.out | apply below_alloc | apply pw_below_drewN | apply below_drew1) | exact HB.out))) : w.heap.size ≤ gb368)); clear HB; have HB := n0_; have BK368 := n1_; have GW368 := n2_; have GE368 := n3_; clear n0_ n1_ n2_ n3_; clear hb hbox hg) | ((with_reducible refine gate_callee (f := 40) rfl ?_); refine goesL_ (some 9) rfl rfl Tryd.func40 (by kernel_rfl) rfl #[.slice A0 l0.length c0] rfl (by (try simp only [List.map_toArray, List.map_cons, List.map_nil]); first | done | rfl | (simp only [List.length_drop, List.length_take]; rfl)) ?_; (with_reducible refine (spileref22_Right.calls k _ _ l0 true _ ?side1 ?side2 A3.out).mono ?_); (case side1 => repeat (first | exact (Kd.C_below HR0.out HB.out) | (with_reducible refine Kd.C_alloc ?_ _) | (with_reducible refine Kd.C_drewN ?_ _) | (with_reducible refine Kd.C_drew ?_))); (case side2 => exact HC0.out); rintro e w27 ⟨rfl, hb⟩; refine ⟨_, rfl, ?_⟩; have n0_ := Aside0.mk (blk_below (g := gb368) (o := .cells #[.int .i64 a1_0, .int .i64 a1_1, .int .i64 a1_2, .slice A1_3 l1_3.length c1_3] 33 (0, 0)) (by (with_reducible repeat (first | refine blk_drewN ?_ _ | refine blk_drew ?_ | refine blk_alloc ?_ _)); exact BK368.out) hb); have n1_ := Aside0.mk (below_step (by repeat (first | (with_reducible first | exact HB.out | apply below_alloc | apply pw_below_drewN | apply below_drew1 | refine below_set ?_ GE368.out) | exact HB.out)) hb); clear BK368; clear HB; have BK368 := n0_; have HB := n1_; clear n0_ n1_; (try clear hb); (try clear hb2); (try clear hk); (try clear hi); have hcz28_0 : w27.cell? ⟨gb368, 0, none⟩ = some (.int .i64 a1_0) := (blk_cell BK368.out 0).trans rfl; have hcz28_1 : w27.cell? ⟨gb368, 1, none⟩ = some (.int .i64 a1_1) := (blk_cell BK368.out 1).trans rfl; have hcz28_2 : w27.cell? ⟨gb368, 2, none⟩ = some (.int .i64 a1_2) := (blk_cell BK368.out 2).trans rfl; have hcz28_3 : w27.cell? ⟨gb368, 3, none⟩ = some (.slice A1_3 l1_3.length c1_3) := (blk_cell BK368.out 3).trans rfl; have hfz28_0 := blk_frozen BK368.out 0; have hfz28_1 := blk_frozen BK368.out 1; have hfz28_2 := blk_frozen BK368.out 2; have hfz28_3 := blk_frozen BK368.out 3) | ((with_reducible refine gate_callee (f := 37) rfl ?_); refine goesL_ (some 13) rfl rfl Tryd.func37 (by kernel_rfl) rfl #[.int .i64 a1_0] rfl (by (try simp only [List.map_toArray, List.map_cons, List.map_nil]); first | done | rfl | (simp only [List.length_drop, List.length_take]; rfl)) ?_; (with_reducible refine (spileref22_ID.calls a1_0 false _ A5.out).mono ?_); rintro e w' ⟨rfl, ⟨nd, rfl⟩⟩; refine ⟨_, rfl, ?_⟩))
   go_ret2
   exact ⟨_, by first | rfl | (simp [errW_none, errW_some] <;> rfl) | (simp [*, errW_none, errW_some] <;> rfl), by first | exact Kd.S_nil _ _ _ _ _ | exact Kd.N_nil _ _ _ _ _ | exact Kd.V_nil _ _ _ _ _ | exact Kd.Q_nil _ _ _ _ _ | exact Kd.R_nil _ _ _ _ _, by repeat (first | (with_reducible first | exact HB.out | apply below_alloc | apply pw_below_drewN | apply below_drew1 | refine below_set ?_ GE368.out) | exact HB.out)⟩
 ·
  replace c4 := Bool.eq_false_iff.mpr c4
  subst c4
  have H1 : (some (([] : List (S33)), 1)) = some (r1, r2) := by rw [if_neg (show ¬ (false = true) by decide)] at H; exact H
  clear H
  have H := H1
  clear H1
  simp only [Option.some.injEq, Prod.mk.injEq] at H
  obtain ⟨rfl, rfl⟩ := H
  go_enter Tryd.func23, Tryd.ntmps23
  go_wp2_with (first | ((with_reducible refine gate_dst (N := 3) rfl ?_); refine box_event ?hg (N := 3) ?hd (cs := #[.int .i64 a1_0, .int .i64 a1_1, .int .i64 a1_2, .slice A1_3 l1_3.length c1_3]) (t := 33) ?hr ?_; (case hd => rfl); (case hg => rfl); (case hr => first | (go_simp; done) | (go_simp; rfl)); intro gb368 hg w29 hbox hb; have n0_ := Aside0.mk (below_step (by repeat (first | (with_reducible first | exact HB.out | apply below_alloc | apply pw_below_drewN | apply below_drew1) | exact HB.out)) hb); have n1_ := Aside0.mk (hbox); have n2_ := Aside0.mk ((by rw [hg]; exact (below_size (by repeat (first | (with_reducible first | exact HB.out | apply below_alloc | apply pw_below_drewN | apply below_drew1) | exact HB.out))) : w.heap.size ≤ gb368)); have n3_ := Aside0.mk ((by rw [hg]; exact (below_size (by repeat (first | (with_reducible first | exact HB.out | apply below_alloc | apply pw_below_drewN | apply below_drew1) | exact HB.out))) : w.heap.size ≤ gb368)); clear HB; have HB := n0_; have BK368 := n1_; have GW368 := n2_; have GE368 := n3_; clear n0_ n1_ n2_ n3_; clear hb hbox hg) | ((with_reducible refine gate_callee (f := 40) rfl ?_); refine goesL_ (some 9) rfl rfl Tryd.func40 (by kernel_rfl) rfl #[.slice A0 l0.length c0] rfl (by (try simp only [List.map_toArray, List.map_cons, List.map_nil]); first | done | rfl | (simp only [List.length_drop, List.length_take]; rfl)) ?_; (with_reducible refine (spileref22_Right.calls k _ _ l0 false _ ?side1 ?side2 A3.out).mono ?_); (case side1 => repeat (first | exact (Kd.C_below HR0.out HB.out) | (with_reducible refine Kd.C_alloc ?_ _) | (with_reducible refine Kd.C_drewN ?_ _) | (with_reducible refine Kd.C_drew ?_))); (case side2 => exact HC0.out); rintro e w30 ⟨rfl, hb⟩; refine ⟨_, rfl, ?_⟩; have n0_ := Aside0.mk (blk_below (g := gb368) (o := .cells #[.int .i64 a1_0, .int .i64 a1_1, .int .i64 a1_2, .slice A1_3 l1_3.length c1_3] 33 (0, 0)) (by (with_reducible repeat (first | refine blk_drewN ?_ _ | refine blk_drew ?_ | refine blk_alloc ?_ _)); exact BK368.out) hb); have n1_ := Aside0.mk (below_step (by repeat (first | (with_reducible first | exact HB.out | apply below_alloc | apply pw_below_drewN | apply below_drew1 | refine below_set ?_ GE368.out) | exact HB.out)) hb); clear BK368; clear HB; have BK368 := n0_; have HB := n1_; clear n0_ n1_; (try clear hb); (try clear hb2); (try clear hk); (try clear hi)))
  go_ret2
  exact ⟨_, by first | rfl | (simp [errW_none, errW_some] <;> rfl) | (simp [*, errW_none, errW_some] <;> rfl), by first | exact Kd.S_nil _ _ _ _ _ | exact Kd.N_nil _ _ _ _ _ | exact Kd.V_nil _ _ _ _ _ | exact Kd.Q_nil _ _ _ _ _ | exact Kd.R_nil _ _ _ _ _, by repeat (first | (with_reducible first | exact HB.out | apply below_alloc | apply pw_below_drewN | apply below_drew1 | refine below_set ?_ GE368.out) | exact HB.out)⟩
end Go.Proofs.YtgjoenoknknoiaaDoor.Pr
namespace Go.Proofs.YtgjoenoknknoiaaDoor.Pr
open Go.RowKit Go.Proofs.YtgjoenoknknoiaaDoorW.PrintWords Go.Proofs.YtgjoenoknknoiaaDoorW.PrintLast Go.Proofs.YtgjoenoknknoiaaDoorW.PrintMore Go.Proofs.YtgjoenoknknoiaaDoor.X
attribute [local go_sem] max2_int min2_int max_two min_two max_three min_three max_four min_four   -- for this text's walks alone
set_option linter.unusedVariables false
set_option linter.unusedSimpArgs false
def spileref22_Same.l0 : Nat → List (S33) → List (S33) → Int → Option (Bool)
 | 0, _, _, _ => none
 | k + 1, x0, x1, x5 => if x5 < (x0.length : Int) then (if 0 ≤ x5 then (if x5 < (x1.length : Int) then ((spileref22_SameLot.f k ((rd_T33 x0 x5).f0) ((rd_T33 x0 x5).f1.f0) ((rd_T33 x0 x5).f1.f1) ((rd_T33 x0 x5).f2) ((rd_T33 x1 x5).f0) ((rd_T33 x1 x5).f1.f0) ((rd_T33 x1 x5).f1.f1) ((rd_T33 x1 x5).f2)).bind fun t378 => (if t378 = true then (spileref22_Same.l0 k x0 x1 (wrap64 (x5 + 1))) else (some false))) else (none)) else (none)) else (some true)
def spileref22_Same.f (k : Nat) (l0 : List (S33)) (l1 : List (S33)) : Option (Bool) := if (l0.length : Int) = (l1.length : Int) then (spileref22_Same.l0 k l0 l1 0) else (some false)
theorem spileref22_Same.mono_l : ∀ k, (∀ y0 y1 y2, LeO (spileref22_Same.l0 k y0 y1 y2) (spileref22_Same.l0 (k + 1) y0 y1 y2))
 | 0 => fun _ _ _ r h => by simp [spileref22_Same.l0] at h
 | k + 1 => by
  have ih0 := spileref22_Same.mono_l k
  ·
   intro y0 y1 y2
   unfold spileref22_Same.l0
   repeat' first
   | (with_reducible exact ih0 _ _ _)
   | (with_reducible exact spileref22_SameLot.mono _ _ _ _ _ _ _ _ _)
   | (with_reducible exact LeO.refl _)
   | (with_reducible exact LeO.none _)
   | (with_reducible refine LeO.ite ?_ ?_)
   | (with_reducible refine LeO.bind ?_ (fun _ => ?_))
   | exact ih0 _ _ _
   | exact spileref22_SameLot.mono _ _ _ _ _ _ _ _ _
   | exact LeO.none _
   | refine LeO.ite ?_ ?_
   | refine LeO.bind ?_ (fun _ => ?_)
theorem spileref22_Same.mono : ∀ a0 a1 k, LeO (spileref22_Same.f k a0 a1) (spileref22_Same.f (k + 1) a0 a1) := by
 intro a0 a1 k
 have ih0 := spileref22_Same.mono_l k
 unfold spileref22_Same.f
 repeat' first
   | (with_reducible exact ih0 _ _ _)
   | (with_reducible exact spileref22_SameLot.mono _ _ _ _ _ _ _ _ _)
   | (with_reducible exact LeO.refl _)
   | (with_reducible exact LeO.none _)
   | (with_reducible refine LeO.ite ?_ ?_)
   | (with_reducible refine LeO.bind ?_ (fun _ => ?_))
   | exact ih0 _ _ _
   | exact spileref22_SameLot.mono _ _ _ _ _ _ _ _ _
   | exact LeO.none _
   | refine LeO.ite ?_ ?_
   | refine LeO.bind ?_ (fun _ => ?_)
def spileref22_Same.T6 : Bool × List (List Nat × List Nat) := (true, [([], []), ([], []), ([0, 1], [0, 1]), ([2], [2]), ([], []), ([], []), ([4, 5], [4, 5]), ([6], [6]), ([3, 7], [3, 7]), ([8], [8])])
def spileref22_Same.B6 : List Nat := [0, 0, 3, 7, 0, 0, 48, 112, 255, 511]
theorem spileref22_Same.tab6 : rtab .any (opsOf Tryd.f24 6) = spileref22_Same.T6 := by kernel_rfl
theorem spileref22_Same.bits6 : waitsOk spileref22_Same.T6.2 spileref22_Same.B6 = true := by kernel_rfl
set_option maxHeartbeats 8000000 in
set_option maxRecDepth 100000 in
theorem spileref22_Same.calls (k : Nat) (A0 : Option Addr) (c0 : Nat) (l0 : List (S33)) (A1 : Option Addr) (c1 : Nat) (l1 : List (S33)) (r : Bool) (w : World) (hr0 : Kd.C k33 w A0 l0.length l0) (hc0 : l0.length ≤ c0) (hr1 : Kd.C k33 w A1 l1.length l1) (hc1 : l1.length ≤ c1) (h : spileref22_Same.f k l0 l1 = some r) :
  Calls Tryd.prog 24 #[.slice A0 l0.length c0, .slice A1 l1.length c1] w fun e w' => e = .returned (.bool r) ∧ Below w.heap.size w w' := by
 have hu33 := Tryd.underlying33
 have HR0 := Aside0.mk hr0
 have HC0 := Aside0.mk hc0
 clear hr0 hc0
 have HR1 := Aside0.mk hr1
 have HC1 := Aside0.mk hc1
 clear hr1 hc1
 have HB := Aside0.mk (Below.refl w.heap.size w)
 have H : (if (l0.length : Int) = (l1.length : Int) then (spileref22_Same.l0 k l0 l1 0) else (some false)) = some r := h
 clear h
 by_cases c3 : (l0.length : Int) = (l1.length : Int)
 ·
  rw [if_pos c3] at H
  have c3b0 : ((l0.length : Int) == (l1.length : Int)) = true := beq_iff_eq.mpr c3
  have c3b1 : ((l0.length : Int) != (l1.length : Int)) = false := bne_eq_false_iff_eq.mpr c3
  have c3b2 : (l0.length == l1.length) = true := by first | simpa using c3 | (simp at c3 ⊢; omega)
  clear c3
  have H' := Aside0.mk H
  clear H
  go_enter Tryd.func24, Tryd.ntmps24
  go_wp2
  go_loopg [5] k (fun kq v5 w' => ∃ (x5_1 : Int), v5 = .int .i64 x5_1 ∧ Aside0 (spileref22_Same.l0 kq l0 l1 x5_1 = some r) ∧ Aside0 (kq ≤ k) ∧ Aside0 (Below w.heap.size w w'))
  case atStart => exact ⟨(0), (by first | rfl | (simp; done) | (simp [*]; done)), H', ⟨Nat.le_refl _⟩, ⟨by repeat (first | (with_reducible first | exact HB.out | apply below_alloc | apply pw_below_drewN | apply below_drew1) | exact HB.out)⟩⟩
  case round =>
   clear H'
   try clear c1
   try clear c2
   try clear p2
   try clear c3
   try clear c3b0
   try clear c3b1
   try clear c3b2
   obtain ⟨x5_1, rfl, HA, HK1, HB⟩ := hrel
   cases gk with
   | zero => exact absurd HA.out (by simp [spileref22_Same.l0])
   | succ k1 =>
    have H := HA.out
    clear HA
    simp only [spileref22_Same.l0] at H
    by_cases c4 : x5_1 < (l0.length : Int)
    ·
     rw [if_pos c4] at H
     have c4b0 : decide (x5_1 < (l0.length : Int)) = true := decide_eq_true c4
     clear c4
     by_cases c5 : 0 ≤ x5_1
     ·
      rw [if_pos c5] at H
      have c5b0 : decide (0 ≤ x5_1) = true := decide_eq_true c5
      clear c5
      by_cases c6 : x5_1 < (l1.length : Int)
      ·
       rw [if_pos c6] at H
       have c6b0 : decide (x5_1 < (l1.length : Int)) = true := decide_eq_true c6
       clear c6
       replace H := Option.bind_eq_some_iff.mp H
       obtain ⟨t378, A70, H⟩ := H
       replace H : (if t378 = true then (spileref22_Same.l0 k1 l0 l1 (wrap64 (x5_1 + 1))) else (some false)) = some r := H
       have A7 := Aside0.mk A70
       clear A70
       by_cases c8 : t378 = true
       ·
        subst c8
        have H1 : (spileref22_Same.l0 k1 l0 l1 (wrap64 (x5_1 + 1))) = some r := by rw [if_pos rfl] at H; exact H
        clear H
        have H := H1
        clear H1
        have H' := Aside0.mk H
        clear H
        try go_wp2
        have n0_ := Aside0.mk (below_drew1 HB.out)
        clear HB
        have HB := n0_
        clear n0_
        have p376 : 0 ≤ (x5_1 : Int) := of_decide_eq_true (by first | (with_reducible assumption) | assumption)
        have q376 : x5_1 < (l0.length : Int) := of_decide_eq_true (by first | (with_reducible assumption) | assumption)
        obtain ⟨ad376, A376_3, c376_3, e376, hx376_0, hx376_1, hx376_2, hx376_3, hl376_3, hi376_3⟩ := at_T33 HR0.out x5_1 p376 q376
        have hw376_3 := hx376_3
        have hw376_2 := hx376_2
        have hw376_1 := hx376_1
        have hw376_0 := hx376_0
        cases e376
        replace hx376_0 := (HB.out.cell (World.block_lt_of_cell? w _ hx376_0)).trans hx376_0
        replace hx376_1 := (HB.out.cell (World.block_lt_of_cell? w _ hx376_1)).trans hx376_1
        replace hx376_2 := (HB.out.cell (World.block_lt_of_cell? w _ hx376_2)).trans hx376_2
        replace hx376_3 := (HB.out.cell (World.block_lt_of_cell? w _ hx376_3)).trans hx376_3
        have HR376_3 := Aside0.mk hi376_3
        have HC376_3 := Aside0.mk hl376_3
        clear hi376_3 hl376_3
        replace p376 := eq_true p376
        replace q376 := eq_true q376
        have p377 : 0 ≤ (x5_1 : Int) := of_decide_eq_true (by first | (with_reducible assumption) | assumption)
        have q377 : x5_1 < (l1.length : Int) := of_decide_eq_true (by first | (with_reducible assumption) | assumption)
        obtain ⟨ad377, A377_3, c377_3, e377, hx377_0, hx377_1, hx377_2, hx377_3, hl377_3, hi377_3⟩ := at_T33 HR1.out x5_1 p377 q377
        have hw377_3 := hx377_3
        have hw377_2 := hx377_2
        have hw377_1 := hx377_1
        have hw377_0 := hx377_0
        cases e377
        replace hx377_0 := (HB.out.cell (World.block_lt_of_cell? w _ hx377_0)).trans hx377_0
        replace hx377_1 := (HB.out.cell (World.block_lt_of_cell? w _ hx377_1)).trans hx377_1
        replace hx377_2 := (HB.out.cell (World.block_lt_of_cell? w _ hx377_2)).trans hx377_2
        replace hx377_3 := (HB.out.cell (World.block_lt_of_cell? w _ hx377_3)).trans hx377_3
        have HR377_3 := Aside0.mk hi377_3
        have HC377_3 := Aside0.mk hl377_3
        clear hi377_3 hl377_3
        replace p377 := eq_true p377
        replace q377 := eq_true q377
        refine start_ (n := 10) (S := fun w' => w'.cell? (ad376.add ((x5_1).toNat * 4)) = some (.int .i64 ((rd_T33 l0 x5_1).f0)) ∧ w'.cell? ⟨(ad376.add ((x5_1).toNat * 4)).block, (ad376.add ((x5_1).toNat * 4)).off + 1, none⟩ = some (.int .i64 ((rd_T33 l0 x5_1).f1.f0)) ∧ w'.cell? ⟨(ad376.add ((x5_1).toNat * 4)).block, (ad376.add ((x5_1).toNat * 4)).off + 2, none⟩ = some (.int .i64 ((rd_T33 l0 x5_1).f1.f1)) ∧ w'.cell? ⟨(ad376.add ((x5_1).toNat * 4)).block, (ad376.add ((x5_1).toNat * 4)).off + 3, none⟩ = some (.slice A376_3 ((rd_T33 l0 x5_1).f2).length c376_3) ∧ w'.cell? (ad377.add ((x5_1).toNat * 4)) = some (.int .i64 ((rd_T33 l1 x5_1).f0)) ∧ w'.cell? ⟨(ad377.add ((x5_1).toNat * 4)).block, (ad377.add ((x5_1).toNat * 4)).off + 1, none⟩ = some (.int .i64 ((rd_T33 l1 x5_1).f1.f0)) ∧ w'.cell? ⟨(ad377.add ((x5_1).toNat * 4)).block, (ad377.add ((x5_1).toNat * 4)).off + 2, none⟩ = some (.int .i64 ((rd_T33 l1 x5_1).f1.f1)) ∧ w'.cell? ⟨(ad377.add ((x5_1).toNat * 4)).block, (ad377.add ((x5_1).toNat * 4)).off + 3, none⟩ = some (.slice A377_3 ((rd_T33 l1 x5_1).f2).length c377_3)) (ds := []) #[false, false, false, false, false, false, false, false, false, false] (by kernel_rfl) rfl rfl ⟨((HB.out.cell (World.block_lt_of_cell? w _ hw376_0)).trans hw376_0), ((HB.out.cell (World.block_lt_of_cell? w _ hw376_1)).trans hw376_1), ((HB.out.cell (World.block_lt_of_cell? w _ hw376_2)).trans hw376_2), ((HB.out.cell (World.block_lt_of_cell? w _ hw376_3)).trans hw376_3), ((HB.out.cell (World.block_lt_of_cell? w _ hw377_0)).trans hw377_0), ((HB.out.cell (World.block_lt_of_cell? w _ hw377_1)).trans hw377_1), ((HB.out.cell (World.block_lt_of_cell? w _ hw377_2)).trans hw377_2), ((HB.out.cell (World.block_lt_of_cell? w _ hw377_3)).trans hw377_3)⟩ (fun hHeld => ?_); refine with_tabW spileref22_Same.tab6 spileref22_Same.bits6 (fun HT_ HW_ => ?_)
        generalize wr.drew = w9 at HB HR376_3 HR377_3 hx376_0 hx376_1 hx376_2 hx376_3 hx377_0 hx377_1 hx377_2 hx377_3 hHeld ⊢
        refine pure_ (i := 0) (N := some 17) (v := ?_) (a' := ?_) #[true, false, false, false, false, false, false, false, false, false] rfl rfl (any_of HT_.out (by kernel_rfl)) (fun _ _ _ h => h) (Or.inl ⟨by rfl, ?_⟩) ?_ ?_
        rotate_left
        ·
         intro w'
         go_simp
         with_reducible rfl
        rotate_left
        ·
         simp only [Act.put, List.setIfInBounds_toArray, List.set_cons_zero, List.set_cons_succ, i64_w, i32_w]
         rfl
        refine pure_ (i := 1) (N := some 18) (v := ?_) (a' := ?_) #[true, true, false, false, false, false, false, false, false, false] rfl rfl (any_of HT_.out (by kernel_rfl)) (fun _ _ _ h => h) (Or.inl ⟨by rfl, ?_⟩) ?_ ?_
        rotate_left
        ·
         intro w'
         go_simp
         with_reducible rfl
        rotate_left
        ·
         simp only [Act.put, List.setIfInBounds_toArray, List.set_cons_zero, List.set_cons_succ, i64_w, i32_w]
         rfl
        refine pure_ (i := 2) (N := some 19) (v := ?_) (a' := ?_) #[true, true, true, false, false, false, false, false, false, false] rfl rfl (any_of HT_.out (by kernel_rfl)) (fun _ _ _ h => h) (Or.inl ⟨by rfl, ?_⟩) ?_ ?_
        rotate_left
        ·
         intro w'
         go_simp
         with_reducible rfl
        rotate_left
        ·
         simp only [Act.put, List.setIfInBounds_toArray, List.set_cons_zero, List.set_cons_succ, i64_w, i32_w]
         rfl
        refine pure_ (i := 4) (N := some 21) (v := ?_) (a' := ?_) #[true, true, true, false, true, false, false, false, false, false] rfl rfl (any_of HT_.out (by kernel_rfl)) (fun _ _ _ h => h) (Or.inl ⟨by rfl, ?_⟩) ?_ ?_
        rotate_left
        ·
         intro w'
         go_simp
         with_reducible rfl
        rotate_left
        ·
         simp only [Act.put, List.setIfInBounds_toArray, List.set_cons_zero, List.set_cons_succ, i64_w, i32_w]
         rfl
        refine pure_ (i := 5) (N := some 22) (v := ?_) (a' := ?_) #[true, true, true, false, true, true, false, false, false, false] rfl rfl (any_of HT_.out (by kernel_rfl)) (fun _ _ _ h => h) (Or.inl ⟨by rfl, ?_⟩) ?_ ?_
        rotate_left
        ·
         intro w'
         go_simp
         with_reducible rfl
        rotate_left
        ·
         simp only [Act.put, List.setIfInBounds_toArray, List.set_cons_zero, List.set_cons_succ, i64_w, i32_w]
         rfl
        refine pure_ (i := 6) (N := some 23) (v := ?_) (a' := ?_) #[true, true, true, false, true, true, true, false, false, false] rfl rfl (any_of HT_.out (by kernel_rfl)) (fun _ _ _ h => h) (Or.inl ⟨by rfl, ?_⟩) ?_ ?_
        rotate_left
        ·
         intro w'
         go_simp
         with_reducible rfl
        rotate_left
        ·
         simp only [Act.put, List.setIfInBounds_toArray, List.set_cons_zero, List.set_cons_succ, i64_w, i32_w]
         rfl
        refine take_ (i := 3) (N := some 20) (v := ?_) (a' := ?_) #[true, true, true, true, true, true, true, false, false, false] rfl rfl (take_ofW HT_.out HW_.out (by kernel_rfl)) (fun _ _ _ h => h) (Or.inl ⟨by rfl, ?_⟩) hHeld ?_ ?_
        rotate_left
        ·
         rintro w' ⟨s0, s1, s2, s3, s4, s5, s6, s7⟩
         go_simp
         with_reducible rfl
        rotate_left
        ·
         simp only [Act.put, List.setIfInBounds_toArray, List.set_cons_zero, List.set_cons_succ, i64_w, i32_w]
         rfl
        refine take_ (i := 7) (N := some 24) (v := ?_) (a' := ?_) #[true, true, true, true, true, true, true, true, false, false] rfl rfl (take_ofW HT_.out HW_.out (by kernel_rfl)) (fun _ _ _ h => h) (Or.inl ⟨by rfl, ?_⟩) hHeld ?_ ?_
        rotate_left
        ·
         rintro w' ⟨s0, s1, s2, s3, s4, s5, s6, s7⟩
         go_simp
         with_reducible rfl
        rotate_left
        ·
         simp only [Act.put, List.setIfInBounds_toArray, List.set_cons_zero, List.set_cons_succ, i64_w, i32_w]
         rfl
        refine one_ (i := 8) (N := some 25) #[true, true, true, true, true, true, true, true, true, false] rfl rfl (one_of HT_.out (by kernel_rfl)) (by decide) (fun K hK => ?_)
        refine goes_ Tryd.func20 (by kernel_rfl) rfl #[.agg #[.int .i64 ((rd_T33 l0 x5_1).f0), .int .i64 ((rd_T33 l0 x5_1).f1.f0), .int .i64 ((rd_T33 l0 x5_1).f1.f1), .slice A376_3 ((rd_T33 l0 x5_1).f2).length c376_3], .agg #[.int .i64 ((rd_T33 l1 x5_1).f0), .int .i64 ((rd_T33 l1 x5_1).f1.f0), .int .i64 ((rd_T33 l1 x5_1).f1.f1), .slice A377_3 ((rd_T33 l1 x5_1).f2).length c377_3]] (by rfl) rfl rfl (by (try simp only [List.map_toArray, List.map_cons, List.map_nil]); first | done | rfl | (simp only [List.length_drop, List.length_take]; rfl)) ?_
        with_reducible refine (spileref22_SameLot.calls k1 ((rd_T33 l0 x5_1).f0) ((rd_T33 l0 x5_1).f1.f0) ((rd_T33 l0 x5_1).f1.f1) _ _ ((rd_T33 l0 x5_1).f2) ((rd_T33 l1 x5_1).f0) ((rd_T33 l1 x5_1).f1.f0) ((rd_T33 l1 x5_1).f1.f1) _ _ ((rd_T33 l1 x5_1).f2) true _ ?side1 ?side2 ?side3 ?side4 A7.out).mono ?_
        (case side1 => repeat (first | exact (Kd.C_below HR376_3.out HB.out) | (with_reducible refine Kd.C_alloc ?_ _) | (with_reducible refine Kd.C_drewN ?_ _) | (with_reducible refine Kd.C_drew ?_)))
        (case side2 => exact HC376_3.out)
        (case side3 => repeat (first | exact (Kd.C_below HR377_3.out HB.out) | (with_reducible refine Kd.C_alloc ?_ _) | (with_reducible refine Kd.C_drewN ?_ _) | (with_reducible refine Kd.C_drew ?_)))
        (case side4 => exact HC377_3.out)
        rintro e w10 ⟨rfl, hb⟩
        refine ⟨_, rfl, ?_⟩
        have n0_ := Aside0.mk (below_step (by repeat (first | (with_reducible first | exact HB.out | apply below_alloc | apply pw_below_drewN | apply below_drew1) | exact HB.out)) hb)
        clear HB
        have HB := n0_
        clear n0_
        (try clear hb)
        (try clear hb2)
        (try clear hk)
        (try clear hi)
        refine hK.out _ _ ⟨((HB.out.cell (World.block_lt_of_cell? w _ hw376_0)).trans hw376_0), ((HB.out.cell (World.block_lt_of_cell? w _ hw376_1)).trans hw376_1), ((HB.out.cell (World.block_lt_of_cell? w _ hw376_2)).trans hw376_2), ((HB.out.cell (World.block_lt_of_cell? w _ hw376_3)).trans hw376_3), ((HB.out.cell (World.block_lt_of_cell? w _ hw377_0)).trans hw377_0), ((HB.out.cell (World.block_lt_of_cell? w _ hw377_1)).trans hw377_1), ((HB.out.cell (World.block_lt_of_cell? w _ hw377_2)).trans hw377_2), ((HB.out.cell (World.block_lt_of_cell? w _ hw377_3)).trans hw377_3)⟩ (fun hHeld => ?_)
        clear hK K
        refine norm_ (a' := ?_) ?_ ?_
        rotate_left
        ·
         show Act.put _ (some 25) _ = _
         simp only [Act.put, List.setIfInBounds_toArray, List.set_cons_zero, List.set_cons_succ, i64_w, i32_w]
         rfl
        refine pure_ (i := 9) (N := some 26) (v := ?_) (a' := ?_) #[true, true, true, true, true, true, true, true, true, true] rfl rfl (any_of HT_.out (by kernel_rfl)) (fun _ _ _ h => h) (Or.inl ⟨by rfl, ?_⟩) ?_ ?_
        rotate_left
        ·
         intro w'
         go_simp
         with_reducible rfl
        rotate_left
        ·
         simp only [Act.put, List.setIfInBounds_toArray, List.set_cons_zero, List.set_cons_succ, i64_w, i32_w]
         rfl
        refine done_ (done_of HT_.out (by kernel_rfl)) ?_
        try go_wp2
        go_roundg k1
        case measure => have := HK1.out; omega
        case rel => exact ⟨(wrap64 (x5_1 + 1)), (by first | rfl | (simp; done) | (simp [*]; done)), H', ⟨by have := HK1.out; omega⟩, ⟨by repeat (first | (with_reducible first | exact HB.out | apply below_alloc | apply pw_below_drewN | apply below_drew1) | exact HB.out)⟩⟩
       ·
        replace c8 := Bool.eq_false_iff.mpr c8
        subst c8
        have H1 : (some false) = some r := by rw [if_neg (show ¬ (false = true) by decide)] at H; exact H
        clear H
        have H := H1
        clear H1
        obtain rfl := Option.some.inj H
        try go_wp2
        have n0_ := Aside0.mk (below_drew1 HB.out)
        clear HB
        have HB := n0_
        clear n0_
        have p376 : 0 ≤ (x5_1 : Int) := of_decide_eq_true (by first | (with_reducible assumption) | assumption)
        have q376 : x5_1 < (l0.length : Int) := of_decide_eq_true (by first | (with_reducible assumption) | assumption)
        obtain ⟨ad376, A376_3, c376_3, e376, hx376_0, hx376_1, hx376_2, hx376_3, hl376_3, hi376_3⟩ := at_T33 HR0.out x5_1 p376 q376
        have hw376_3 := hx376_3
        have hw376_2 := hx376_2
        have hw376_1 := hx376_1
        have hw376_0 := hx376_0
        cases e376
        replace hx376_0 := (HB.out.cell (World.block_lt_of_cell? w _ hx376_0)).trans hx376_0
        replace hx376_1 := (HB.out.cell (World.block_lt_of_cell? w _ hx376_1)).trans hx376_1
        replace hx376_2 := (HB.out.cell (World.block_lt_of_cell? w _ hx376_2)).trans hx376_2
        replace hx376_3 := (HB.out.cell (World.block_lt_of_cell? w _ hx376_3)).trans hx376_3
        have HR376_3 := Aside0.mk hi376_3
        have HC376_3 := Aside0.mk hl376_3
        clear hi376_3 hl376_3
        replace p376 := eq_true p376
        replace q376 := eq_true q376
        have p377 : 0 ≤ (x5_1 : Int) := of_decide_eq_true (by first | (with_reducible assumption) | assumption)
        have q377 : x5_1 < (l1.length : Int) := of_decide_eq_true (by first | (with_reducible assumption) | assumption)
        obtain ⟨ad377, A377_3, c377_3, e377, hx377_0, hx377_1, hx377_2, hx377_3, hl377_3, hi377_3⟩ := at_T33 HR1.out x5_1 p377 q377
        have hw377_3 := hx377_3
        have hw377_2 := hx377_2
        have hw377_1 := hx377_1
        have hw377_0 := hx377_0
        cases e377
        replace hx377_0 := (HB.out.cell (World.block_lt_of_cell? w _ hx377_0)).trans hx377_0
        replace hx377_1 := (HB.out.cell (World.block_lt_of_cell? w _ hx377_1)).trans hx377_1
        replace hx377_2 := (HB.out.cell (World.block_lt_of_cell? w _ hx377_2)).trans hx377_2
        replace hx377_3 := (HB.out.cell (World.block_lt_of_cell? w _ hx377_3)).trans hx377_3
        have HR377_3 := Aside0.mk hi377_3
        have HC377_3 := Aside0.mk hl377_3
        clear hi377_3 hl377_3
        replace p377 := eq_true p377
        replace q377 := eq_true q377
        refine start_ (n := 10) (S := fun w' => w'.cell? (ad376.add ((x5_1).toNat * 4)) = some (.int .i64 ((rd_T33 l0 x5_1).f0)) ∧ w'.cell? ⟨(ad376.add ((x5_1).toNat * 4)).block, (ad376.add ((x5_1).toNat * 4)).off + 1, none⟩ = some (.int .i64 ((rd_T33 l0 x5_1).f1.f0)) ∧ w'.cell? ⟨(ad376.add ((x5_1).toNat * 4)).block, (ad376.add ((x5_1).toNat * 4)).off + 2, none⟩ = some (.int .i64 ((rd_T33 l0 x5_1).f1.f1)) ∧ w'.cell? ⟨(ad376.add ((x5_1).toNat * 4)).block, (ad376.add ((x5_1).toNat * 4)).off + 3, none⟩ = some (.slice A376_3 ((rd_T33 l0 x5_1).f2).length c376_3) ∧ w'.cell? (ad377.add ((x5_1).toNat * 4)) = some (.int .i64 ((rd_T33 l1 x5_1).f0)) ∧ w'.cell? ⟨(ad377.add ((x5_1).toNat * 4)).block, (ad377.add ((x5_1).toNat * 4)).off + 1, none⟩ = some (.int .i64 ((rd_T33 l1 x5_1).f1.f0)) ∧ w'.cell? ⟨(ad377.add ((x5_1).toNat * 4)).block, (ad377.add ((x5_1).toNat * 4)).off + 2, none⟩ = some (.int .i64 ((rd_T33 l1 x5_1).f1.f1)) ∧ w'.cell? ⟨(ad377.add ((x5_1).toNat * 4)).block, (ad377.add ((x5_1).toNat * 4)).off + 3, none⟩ = some (.slice A377_3 ((rd_T33 l1 x5_1).f2).length c377_3)) (ds := []) #[false, false, false, false, false, false, false, false, false, false] (by kernel_rfl) rfl rfl ⟨((HB.out.cell (World.block_lt_of_cell? w _ hw376_0)).trans hw376_0), ((HB.out.cell (World.block_lt_of_cell? w _ hw376_1)).trans hw376_1), ((HB.out.cell (World.block_lt_of_cell? w _ hw376_2)).trans hw376_2), ((HB.out.cell (World.block_lt_of_cell? w _ hw376_3)).trans hw376_3), ((HB.out.cell (World.block_lt_of_cell? w _ hw377_0)).trans hw377_0), ((HB.out.cell (World.block_lt_of_cell? w _ hw377_1)).trans hw377_1), ((HB.out.cell (World.block_lt_of_cell? w _ hw377_2)).trans hw377_2), ((HB.out.cell (World.block_lt_of_cell? w _ hw377_3)).trans hw377_3)⟩ (fun hHeld => ?_); refine with_tabW spileref22_Same.tab6 spileref22_Same.bits6 (fun HT_ HW_ => ?_)
        generalize wr.drew = w11 at HB HR376_3 HR377_3 hx376_0 hx376_1 hx376_2 hx376_3 hx377_0 hx377_1 hx377_2 hx377_3 hHeld ⊢
        refine pure_ (i := 0) (N := some 17) (v := ?_) (a' := ?_) #[true, false, false, false, false, false, false, false, false, false] rfl rfl (any_of HT_.out (by kernel_rfl)) (fun _ _ _ h => h) (Or.inl ⟨by rfl, ?_⟩) ?_ ?_
        rotate_left
        ·
         intro w'
         go_simp
         with_reducible rfl
        rotate_left
        ·
         simp only [Act.put, List.setIfInBounds_toArray, List.set_cons_zero, List.set_cons_succ, i64_w, i32_w]
         rfl
        refine pure_ (i := 1) (N := some 18) (v := ?_) (a' := ?_) #[true, true, false, false, false, false, false, false, false, false] rfl rfl (any_of HT_.out (by kernel_rfl)) (fun _ _ _ h => h) (Or.inl ⟨by rfl, ?_⟩) ?_ ?_
        rotate_left
        ·
         intro w'
         go_simp
         with_reducible rfl
        rotate_left
        ·
         simp only [Act.put, List.setIfInBounds_toArray, List.set_cons_zero, List.set_cons_succ, i64_w, i32_w]
         rfl
        refine pure_ (i := 2) (N := some 19) (v := ?_) (a' := ?_) #[true, true, true, false, false, false, false, false, false, false] rfl rfl (any_of HT_.out (by kernel_rfl)) (fun _ _ _ h => h) (Or.inl ⟨by rfl, ?_⟩) ?_ ?_
        rotate_left
        ·
         intro w'
         go_simp
         with_reducible rfl
        rotate_left
        ·
         simp only [Act.put, List.setIfInBounds_toArray, List.set_cons_zero, List.set_cons_succ, i64_w, i32_w]
         rfl
        refine pure_ (i := 4) (N := some 21) (v := ?_) (a' := ?_) #[true, true, true, false, true, false, false, false, false, false] rfl rfl (any_of HT_.out (by kernel_rfl)) (fun _ _ _ h => h) (Or.inl ⟨by rfl, ?_⟩) ?_ ?_
        rotate_left
        ·
         intro w'
         go_simp
         with_reducible rfl
        rotate_left
        ·
         simp only [Act.put, List.setIfInBounds_toArray, List.set_cons_zero, List.set_cons_succ, i64_w, i32_w]
         rfl
        refine pure_ (i := 5) (N := some 22) (v := ?_) (a' := ?_) #[true, true, true, false, true, true, false, false, false, false] rfl rfl (any_of HT_.out (by kernel_rfl)) (fun _ _ _ h => h) (Or.inl ⟨by rfl, ?_⟩) ?_ ?_
        rotate_left
        ·
         intro w'
         go_simp
         with_reducible rfl
        rotate_left
        ·
         simp only [Act.put, List.setIfInBounds_toArray, List.set_cons_zero, List.set_cons_succ, i64_w, i32_w]
         rfl
        refine pure_ (i := 6) (N := some 23) (v := ?_) (a' := ?_) #[true, true, true, false, true, true, true, false, false, false] rfl rfl (any_of HT_.out (by kernel_rfl)) (fun _ _ _ h => h) (Or.inl ⟨by rfl, ?_⟩) ?_ ?_
        rotate_left
        ·
         intro w'
         go_simp
         with_reducible rfl
        rotate_left
        ·
         simp only [Act.put, List.setIfInBounds_toArray, List.set_cons_zero, List.set_cons_succ, i64_w, i32_w]
         rfl
        refine take_ (i := 3) (N := some 20) (v := ?_) (a' := ?_) #[true, true, true, true, true, true, true, false, false, false] rfl rfl (take_ofW HT_.out HW_.out (by kernel_rfl)) (fun _ _ _ h => h) (Or.inl ⟨by rfl, ?_⟩) hHeld ?_ ?_
        rotate_left
        ·
         rintro w' ⟨s0, s1, s2, s3, s4, s5, s6, s7⟩
         go_simp
         with_reducible rfl
        rotate_left
        ·
         simp only [Act.put, List.setIfInBounds_toArray, List.set_cons_zero, List.set_cons_succ, i64_w, i32_w]
         rfl
        refine take_ (i := 7) (N := some 24) (v := ?_) (a' := ?_) #[true, true, true, true, true, true, true, true, false, false] rfl rfl (take_ofW HT_.out HW_.out (by kernel_rfl)) (fun _ _ _ h => h) (Or.inl ⟨by rfl, ?_⟩) hHeld ?_ ?_
        rotate_left
        ·
         rintro w' ⟨s0, s1, s2, s3, s4, s5, s6, s7⟩
         go_simp
         with_reducible rfl
        rotate_left
        ·
         simp only [Act.put, List.setIfInBounds_toArray, List.set_cons_zero, List.set_cons_succ, i64_w, i32_w]
         rfl
        refine one_ (i := 8) (N := some 25) #[true, true, true, true, true, true, true, true, true, false] rfl rfl (one_of HT_.out (by kernel_rfl)) (by decide) (fun K hK => ?_)
        refine goes_ Tryd.func20 (by kernel_rfl) rfl #[.agg #[.int .i64 ((rd_T33 l0 x5_1).f0), .int .i64 ((rd_T33 l0 x5_1).f1.f0), .int .i64 ((rd_T33 l0 x5_1).f1.f1), .slice A376_3 ((rd_T33 l0 x5_1).f2).length c376_3], .agg #[.int .i64 ((rd_T33 l1 x5_1).f0), .int .i64 ((rd_T33 l1 x5_1).f1.f0), .int .i64 ((rd_T33 l1 x5_1).f1.f1), .slice A377_3 ((rd_T33 l1 x5_1).f2).length c377_3]] (by rfl) rfl rfl (by (try simp only [List.map_toArray, List.map_cons, List.map_nil]); first | done | rfl | (simp only [List.length_drop, List.length_take]; rfl)) ?_
        with_reducible refine (spileref22_SameLot.calls k1 ((rd_T33 l0 x5_1).f0) ((rd_T33 l0 x5_1).f1.f0) ((rd_T33 l0 x5_1).f1.f1) _ _ ((rd_T33 l0 x5_1).f2) ((rd_T33 l1 x5_1).f0) ((rd_T33 l1 x5_1).f1.f0) ((rd_T33 l1 x5_1).f1.f1) _ _ ((rd_T33 l1 x5_1).f2) false _ ?side1 ?side2 ?side3 ?side4 A7.out).mono ?_
        (case side1 => repeat (first | exact (Kd.C_below HR376_3.out HB.out) | (with_reducible refine Kd.C_alloc ?_ _) | (with_reducible refine Kd.C_drewN ?_ _) | (with_reducible refine Kd.C_drew ?_)))
        (case side2 => exact HC376_3.out)
        (case side3 => repeat (first | exact (Kd.C_below HR377_3.out HB.out) | (with_reducible refine Kd.C_alloc ?_ _) | (with_reducible refine Kd.C_drewN ?_ _) | (with_reducible refine Kd.C_drew ?_)))
        (case side4 => exact HC377_3.out)
        rintro e w12 ⟨rfl, hb⟩
        refine ⟨_, rfl, ?_⟩
        have n0_ := Aside0.mk (below_step (by repeat (first | (with_reducible first | exact HB.out | apply below_alloc | apply pw_below_drewN | apply below_drew1) | exact HB.out)) hb)
        clear HB
        have HB := n0_
        clear n0_
        (try clear hb)
        (try clear hb2)
        (try clear hk)
        (try clear hi)
        refine hK.out _ _ ⟨((HB.out.cell (World.block_lt_of_cell? w _ hw376_0)).trans hw376_0), ((HB.out.cell (World.block_lt_of_cell? w _ hw376_1)).trans hw376_1), ((HB.out.cell (World.block_lt_of_cell? w _ hw376_2)).trans hw376_2), ((HB.out.cell (World.block_lt_of_cell? w _ hw376_3)).trans hw376_3), ((HB.out.cell (World.block_lt_of_cell? w _ hw377_0)).trans hw377_0), ((HB.out.cell (World.block_lt_of_cell? w _ hw377_1)).trans hw377_1), ((HB.out.cell (World.block_lt_of_cell? w _ hw377_2)).trans hw377_2), ((HB.out.cell (World.block_lt_of_cell? w _ hw377_3)).trans hw377_3)⟩ (fun hHeld => ?_)
        clear hK K
        refine norm_ (a' := ?_) ?_ ?_
        rotate_left
        ·
         show Act.put _ (some 25) _ = _
         simp only [Act.put, List.setIfInBounds_toArray, List.set_cons_zero, List.set_cons_succ, i64_w, i32_w]
         rfl
        refine pure_ (i := 9) (N := some 26) (v := ?_) (a' := ?_) #[true, true, true, true, true, true, true, true, true, true] rfl rfl (any_of HT_.out (by kernel_rfl)) (fun _ _ _ h => h) (Or.inl ⟨by rfl, ?_⟩) ?_ ?_
        rotate_left
        ·
         intro w'
         go_simp
         with_reducible rfl
        rotate_left
        ·
         simp only [Act.put, List.setIfInBounds_toArray, List.set_cons_zero, List.set_cons_succ, i64_w, i32_w]
         rfl
        refine done_ (done_of HT_.out (by kernel_rfl)) ?_
        try go_wp2
        go_ret
        exact ⟨by first | rfl | (simp [errW_none, errW_some] <;> rfl) | (simp [*, errW_none, errW_some] <;> rfl), by repeat (first | (with_reducible first | exact HB.out | apply below_alloc | apply pw_below_drewN | apply below_drew1) | exact HB.out)⟩
      ·
       rw [if_neg c6] at H
       exact absurd H (by simp)
     ·
      rw [if_neg c5] at H
      exact absurd H (by simp)
    ·
     rw [if_neg c4] at H
     have c4b0 : decide (x5_1 < (l0.length : Int)) = false := decide_eq_false c4
     clear c4
     obtain rfl := Option.some.inj H
     go_wp2
     go_ret
     exact ⟨by first | rfl | (simp [errW_none, errW_some] <;> rfl) | (simp [*, errW_none, errW_some] <;> rfl), by repeat (first | (with_reducible first | exact HB.out | apply below_alloc | apply pw_below_drewN | apply below_drew1) | exact HB.out)⟩
 ·
  rw [if_neg c3] at H
  have c3b0 : ((l0.length : Int) == (l1.length : Int)) = false := beq_eq_false_iff_ne.mpr c3
  have c3b1 : ((l0.length : Int) != (l1.length : Int)) = true := bne_iff_ne.mpr c3
  have c3b2 : (l0.length == l1.length) = false := by first | simpa using c3 | (simp at c3 ⊢; omega)
  obtain rfl := Option.some.inj H
  go_enter Tryd.func24, Tryd.ntmps24
  go_wp2
  go_ret
  exact ⟨by first | rfl | (simp [errW_none, errW_some] <;> rfl) | (simp [*, errW_none, errW_some] <;> rfl), by repeat (first | (with_reducible first | exact HB.out | apply below_alloc | apply pw_below_drewN | apply below_drew1) | exact HB.out)⟩
def spilelaw22_LotPuts.j0 : Nat → List (S33) → Bool → Int → Int → Int → List (S35) → Option (Bool)
 | 0, _, _, _, _, _, _ => none
 | k + 1, x0, x19, x380000, x380001, x380002, x380003 => if x19 = true then (some true) else ((lot_Put.f k x0 x380000 x380001 x380002 x380003).bind fun bt383 => ((spileref22_Put.f k x0 x380000 x380001 x380002 x380003).bind fun bt387 => ((spileref22_Same.f k bt383.1 bt387.1).bind fun t391 => (if t391 = true then (some (bt383.2 == bt387.2)) else (some false)))))
def spilelaw22_LotPuts.f (k : Nat) (l0 : List (S33)) (a1_0 : Int) (a1_1 : Int) (a1_2 : Int) (l1_3 : List (S35)) : Option (Bool) := (spilelaw22_awake.f).bind fun t380 => (if t380 = true then ((spileref22_Few.f k l0).bind fun t381 => (if t381 = true then ((spileref22_FewShares.f l1_3).bind fun t382 => (spilelaw22_LotPuts.j0 k l0 (!t382) a1_0 a1_1 a1_2 l1_3)) else (spilelaw22_LotPuts.j0 k l0 true a1_0 a1_1 a1_2 l1_3))) else (some false))
theorem spilelaw22_LotPuts.mono_l : ∀ k, (∀ y0 y1 y2 y3 y4 y5, LeO (spilelaw22_LotPuts.j0 k y0 y1 y2 y3 y4 y5) (spilelaw22_LotPuts.j0 (k + 1) y0 y1 y2 y3 y4 y5))
 | 0 => fun _ _ _ _ _ _ r h => by simp [spilelaw22_LotPuts.j0] at h
 | k + 1 => by
  have ih0 := spilelaw22_LotPuts.mono_l k
  ·
   intro y0 y1 y2 y3 y4 y5
   unfold spilelaw22_LotPuts.j0
   repeat' first
   | (with_reducible exact ih0 _ _ _ _ _ _)
   | (with_reducible exact lot_Put.mono _ _ _ _ _ _)
   | (with_reducible exact spileref22_Few.mono _ _)
   | (with_reducible exact spileref22_Put.mono _ _ _ _ _ _)
   | (with_reducible exact spileref22_Same.mono _ _ _)
   | (with_reducible exact LeO.refl _)
   | (with_reducible exact LeO.none _)
   | (with_reducible refine LeO.ite ?_ ?_)
   | (with_reducible refine LeO.bind ?_ (fun _ => ?_))
   | exact ih0 _ _ _ _ _ _
   | exact lot_Put.mono _ _ _ _ _ _
   | exact spileref22_Few.mono _ _
   | exact spileref22_Put.mono _ _ _ _ _ _
   | exact spileref22_Same.mono _ _ _
   | exact LeO.none _
   | refine LeO.ite ?_ ?_
   | refine LeO.bind ?_ (fun _ => ?_)
theorem spilelaw22_LotPuts.mono : ∀ a0 a1 a2 a3 a4 k, LeO (spilelaw22_LotPuts.f k a0 a1 a2 a3 a4) (spilelaw22_LotPuts.f (k + 1) a0 a1 a2 a3 a4) := by
 intro a0 a1 a2 a3 a4 k
 have ih0 := spilelaw22_LotPuts.mono_l k
 unfold spilelaw22_LotPuts.f
 repeat' first
   | (with_reducible exact ih0 _ _ _ _ _ _)
   | (with_reducible exact lot_Put.mono _ _ _ _ _ _)
   | (with_reducible exact spileref22_Few.mono _ _)
   | (with_reducible exact spileref22_Put.mono _ _ _ _ _ _)
   | (with_reducible exact spileref22_Same.mono _ _ _)
   | (with_reducible exact LeO.refl _)
   | (with_reducible exact LeO.none _)
   | (with_reducible refine LeO.ite ?_ ?_)
   | (with_reducible refine LeO.bind ?_ (fun _ => ?_))
   | exact ih0 _ _ _ _ _ _
   | exact lot_Put.mono _ _ _ _ _ _
   | exact spileref22_Few.mono _ _
   | exact spileref22_Put.mono _ _ _ _ _ _
   | exact spileref22_Same.mono _ _ _
   | exact LeO.none _
   | refine LeO.ite ?_ ?_
   | refine LeO.bind ?_ (fun _ => ?_)
set_option maxHeartbeats 8000000 in
set_option maxRecDepth 100000 in
theorem spilelaw22_LotPuts.calls (k : Nat) (A0 : Option Addr) (c0 : Nat) (l0 : List (S33)) (a1_0 : Int) (a1_1 : Int) (a1_2 : Int) (A1_3 : Option Addr) (c1_3 : Nat) (l1_3 : List (S35)) (r : Bool) (w : World) (hr0 : Kd.C k33 w A0 l0.length l0) (hc0 : l0.length ≤ c0) (hr1_3 : Kd.C k35 w A1_3 l1_3.length l1_3) (hc1_3 : l1_3.length ≤ c1_3) (hG : GI w) (hr_ : r = true) (h : spilelaw22_LotPuts.f k l0 a1_0 a1_1 a1_2 l1_3 = some r) :
  Calls Tryd.prog 5 #[.slice A0 l0.length c0, .agg #[.int .i64 a1_0, .int .i64 a1_1, .int .i64 a1_2, .slice A1_3 l1_3.length c1_3]] w fun e w' => e = .returned (.bool r) ∧ Below w.heap.size w w' := by
 have hu33 := Tryd.underlying33
 have HR0 := Aside0.mk hr0
 have HC0 := Aside0.mk hc0
 clear hr0 hc0
 have HR1_3 := Aside0.mk hr1_3
 have HC1_3 := Aside0.mk hc1_3
 clear hr1_3 hc1_3
 have HG := Aside0.mk hG
 clear hG
 have HB := Aside0.mk (Below.refl w.heap.size w)
 have H : ((spilelaw22_awake.f).bind fun t380 => (if t380 = true then ((spileref22_Few.f k l0).bind fun t381 => (if t381 = true then ((spileref22_FewShares.f l1_3).bind fun t382 => (spilelaw22_LotPuts.j0 k l0 (!t382) a1_0 a1_1 a1_2 l1_3)) else (spilelaw22_LotPuts.j0 k l0 true a1_0 a1_1 a1_2 l1_3))) else (some false))) = some r := h
 clear h
 replace H := Option.bind_eq_some_iff.mp H
 obtain ⟨t380, A30, H⟩ := H
 replace H : (if t380 = true then ((spileref22_Few.f k l0).bind fun t381 => (if t381 = true then ((spileref22_FewShares.f l1_3).bind fun t382 => (spilelaw22_LotPuts.j0 k l0 (!t382) a1_0 a1_1 a1_2 l1_3)) else (spilelaw22_LotPuts.j0 k l0 true a1_0 a1_1 a1_2 l1_3))) else (some false)) = some r := H
 have A3 := Aside0.mk A30
 clear A30
 by_cases c4 : t380 = true
 ·
  subst c4
  have H1 : ((spileref22_Few.f k l0).bind fun t381 => (if t381 = true then ((spileref22_FewShares.f l1_3).bind fun t382 => (spilelaw22_LotPuts.j0 k l0 (!t382) a1_0 a1_1 a1_2 l1_3)) else (spilelaw22_LotPuts.j0 k l0 true a1_0 a1_1 a1_2 l1_3))) = some r := by rw [if_pos rfl] at H; exact H
  clear H
  have H := H1
  clear H1
  have HC5 := Aside0.mk H
  clear H
  go_enter Tryd.func5, Tryd.ntmps5
  go_upto_region 3 with (first | ((with_reducible refine gate_dst (N := 3) rfl ?_); refine box_event ?hg (N := 3) ?hd (cs := #[.int .i64 a1_0, .int .i64 a1_1, .int .i64 a1_2, .slice A1_3 l1_3.length c1_3]) (t := 33) ?hr ?_; (case hd => rfl); (case hg => rfl); (case hr => first | (go_simp; done) | (go_simp; rfl)); intro gb379 hg w6 hbox hb; have n0_ := Aside0.mk (below_step (by repeat (first | (with_reducible first | exact HB.out | apply below_alloc | apply pw_below_drewN | apply below_drew1) | exact HB.out)) hb); have n1_ := Aside0.mk (hbox); have n2_ := Aside0.mk ((by rw [hg]; exact (below_size (by repeat (first | (with_reducible first | exact HB.out | apply below_alloc | apply pw_below_drewN | apply below_drew1) | exact HB.out))) : w.heap.size ≤ gb379)); have n3_ := Aside0.mk ((by rw [hg]; exact (below_size (by repeat (first | (with_reducible first | exact HB.out | apply below_alloc | apply pw_below_drewN | apply below_drew1) | exact HB.out))) : w.heap.size ≤ gb379)); clear HB; have HB := n0_; have BK379 := n1_; have GW379 := n2_; have GE379 := n3_; clear n0_ n1_ n2_ n3_; clear hb hbox hg) | ((with_reducible refine gate_callee (f := 10) rfl ?_); refine goesL_ (some 9) rfl rfl Tryd.func10 (by kernel_rfl) rfl #[] rfl (by (try simp only [List.map_toArray, List.map_cons, List.map_nil]); first | done | rfl | (simp only [List.length_drop, List.length_take]; rfl)) ?_; (with_reducible refine (spilelaw22_awake.calls  true _ ?side1 A3.out).mono ?_); (case side1 => exact GI.below HG.out (by repeat (first | (with_reducible first | exact HB.out | apply below_alloc | apply pw_below_drewN | apply below_drew1 | refine below_set ?_ GE379.out) | exact HB.out))); rintro e w7 ⟨rfl, hb⟩; refine ⟨_, rfl, ?_⟩; have n0_ := Aside0.mk (blk_below (g := gb379) (o := .cells #[.int .i64 a1_0, .int .i64 a1_1, .int .i64 a1_2, .slice A1_3 l1_3.length c1_3] 33 (0, 0)) (by (with_reducible repeat (first | refine blk_drewN ?_ _ | refine blk_drew ?_ | refine blk_alloc ?_ _)); exact BK379.out) hb); have n1_ := Aside0.mk (below_step (by repeat (first | (with_reducible first | exact HB.out | apply below_alloc | apply pw_below_drewN | apply below_drew1 | refine below_set ?_ GE379.out) | exact HB.out)) hb); clear BK379; clear HB; have BK379 := n0_; have HB := n1_; clear n0_ n1_; (try clear hb); (try clear hb2); (try clear hk); (try clear hi)))
  (try simp only [Act.put, List.setIfInBounds_toArray, List.set_cons_zero, List.set_cons_succ])
  go_cut [19] (fun v19 wc => ∃ (kq : Nat) (x19_4 : Bool), v19 = .bool x19_4 ∧ Aside0 (spilelaw22_LotPuts.j0 kq l0 x19_4 a1_0 a1_1 a1_2 l1_3 = some r) ∧ Aside0 (kq ≤ k) ∧ Aside0 (wc.heap[gb379]? = some (.cells #[.int .i64 a1_0, .int .i64 a1_1, .int .i64 a1_2, (.slice A1_3 l1_3.length c1_3)] 33 (0, 0))) ∧ Aside0 (Below w.heap.size w wc))
  case first =>
   have H := HC5.out
   clear HC5
   replace H := Option.bind_eq_some_iff.mp H
   obtain ⟨t381, A80, H⟩ := H
   replace H : (if t381 = true then ((spileref22_FewShares.f l1_3).bind fun t382 => (spilelaw22_LotPuts.j0 k l0 (!t382) a1_0 a1_1 a1_2 l1_3)) else (spilelaw22_LotPuts.j0 k l0 true a1_0 a1_1 a1_2 l1_3)) = some r := H
   have A8 := Aside0.mk A80
   clear A80
   by_cases c9 : t381 = true
   ·
    subst c9
    have H1 : ((spileref22_FewShares.f l1_3).bind fun t382 => (spilelaw22_LotPuts.j0 k l0 (!t382) a1_0 a1_1 a1_2 l1_3)) = some r := by rw [if_pos rfl] at H; exact H
    clear H
    have H := H1
    clear H1
    replace H := Option.bind_eq_some_iff.mp H
    obtain ⟨t382, A100, H⟩ := H
    replace H : (spilelaw22_LotPuts.j0 k l0 (!t382) a1_0 a1_1 a1_2 l1_3) = some r := H
    have A10 := Aside0.mk A100
    clear A100
    have H' := Aside0.mk H
    clear H
    go_wp2_with (first | ((with_reducible refine gate_callee (f := 11) rfl ?_); refine goesL_ (some 12) rfl rfl Tryd.func11 (by kernel_rfl) rfl #[.slice A0 l0.length c0] rfl (by (try simp only [List.map_toArray, List.map_cons, List.map_nil]); first | done | rfl | (simp only [List.length_drop, List.length_take]; rfl)) ?_; (with_reducible refine (spileref22_Few.calls k _ _ l0 true _ ?side1 ?side2 A8.out).mono ?_); (case side1 => repeat (first | exact (Kd.C_below HR0.out HB.out) | (with_reducible refine Kd.C_alloc ?_ _) | (with_reducible refine Kd.C_drewN ?_ _) | (with_reducible refine Kd.C_drew ?_))); (case side2 => exact HC0.out); rintro e w' ⟨rfl, ⟨nd, rfl⟩⟩; refine ⟨_, rfl, ?_⟩; have hcz11_0 : w7.cell? ⟨gb379, 0, none⟩ = some (.int .i64 a1_0) := (blk_cell BK379.out 0).trans rfl; have hcz11_1 : w7.cell? ⟨gb379, 1, none⟩ = some (.int .i64 a1_1) := (blk_cell BK379.out 1).trans rfl; have hcz11_2 : w7.cell? ⟨gb379, 2, none⟩ = some (.int .i64 a1_2) := (blk_cell BK379.out 2).trans rfl; have hcz11_3 : w7.cell? ⟨gb379, 3, none⟩ = some (.slice A1_3 l1_3.length c1_3) := (blk_cell BK379.out 3).trans rfl; have hfz11_0 := blk_frozen BK379.out 0; have hfz11_1 := blk_frozen BK379.out 1; have hfz11_2 := blk_frozen BK379.out 2; have hfz11_3 := blk_frozen BK379.out 3) | (go_at_call 21; (with_reducible refine (spileref22_FewShares.calls _ _ l1_3 t382 _ ?side1 ?side2 A10.out).mono ?_); (case side1 => repeat (first | exact (Kd.C_below HR1_3.out (by repeat (first | (with_reducible first | exact HB.out | apply below_alloc | apply pw_below_drewN | apply below_drew1 | refine below_set ?_ GE379.out) | exact HB.out))) | (with_reducible refine Kd.C_alloc ?_ _) | (with_reducible refine Kd.C_drewN ?_ _) | (with_reducible refine Kd.C_drew ?_))); (case side2 => exact HC1_3.out); rintro e w' ⟨rfl, ⟨nd, rfl⟩⟩))
    go_meet
    case rel => exact ⟨_, (!t382), (by first | rfl | (simp; done) | (simp [*]; done)), H', ⟨by first | omega | exact Nat.le_refl _⟩, ⟨by (with_reducible repeat (first | refine blk_drewN ?_ _ | refine blk_drew ?_ | refine blk_alloc ?_ _)); exact BK379.out⟩, ⟨by repeat (first | (with_reducible first | exact HB.out | apply below_alloc | apply pw_below_drewN | apply below_drew1 | refine below_set ?_ GE379.out) | exact HB.out)⟩⟩
   ·
    replace c9 := Bool.eq_false_iff.mpr c9
    subst c9
    have H1 : (spilelaw22_LotPuts.j0 k l0 true a1_0 a1_1 a1_2 l1_3) = some r := by rw [if_neg (show ¬ (false = true) by decide)] at H; exact H
    clear H
    have H := H1
    clear H1
    have H' := Aside0.mk H
    clear H
    go_wp2_with (first | ((with_reducible refine gate_callee (f := 11) rfl ?_); refine goesL_ (some 12) rfl rfl Tryd.func11 (by kernel_rfl) rfl #[.slice A0 l0.length c0] rfl (by (try simp only [List.map_toArray, List.map_cons, List.map_nil]); first | done | rfl | (simp only [List.length_drop, List.length_take]; rfl)) ?_; (with_reducible refine (spileref22_Few.calls k _ _ l0 false _ ?side1 ?side2 A8.out).mono ?_); (case side1 => repeat (first | exact (Kd.C_below HR0.out HB.out) | (with_reducible refine Kd.C_alloc ?_ _) | (with_reducible refine Kd.C_drewN ?_ _) | (with_reducible refine Kd.C_drew ?_))); (case side2 => exact HC0.out); rintro e w' ⟨rfl, ⟨nd, rfl⟩⟩; refine ⟨_, rfl, ?_⟩))
    go_meet
    case rel => exact ⟨_, (true), (by first | rfl | (simp; done) | (simp [*]; done)), H', ⟨by first | omega | exact Nat.le_refl _⟩, ⟨by (with_reducible repeat (first | refine blk_drewN ?_ _ | refine blk_drew ?_ | refine blk_alloc ?_ _)); exact BK379.out⟩, ⟨by repeat (first | (with_reducible first | exact HB.out | apply below_alloc | apply pw_below_drewN | apply below_drew1 | refine below_set ?_ GE379.out) | exact HB.out)⟩⟩
  case rest =>
   clear HC5
   try clear c1
   try clear p2
   try clear c4
   try clear c5
   try clear c9
   try clear c10
   try clear c11
   try clear hcz11_0
   try clear hcz11_1
   try clear hcz11_2
   try clear hcz11_3
   try clear hfz11_0
   try clear hfz11_1
   try clear hfz11_2
   try clear hfz11_3
   obtain ⟨kq, x19_4, rfl, HA, HJ4, BK379, HB⟩ := hcut
   cases kq with
   | zero => exact absurd HA.out (by simp [spilelaw22_LotPuts.j0])
   | succ kj4 =>
    have H := HA.out
    clear HA
    simp only [spilelaw22_LotPuts.j0] at H
    by_cases c12 : x19_4 = true
    ·
     subst c12
     have H1 : (some true) = some r := by rw [if_pos rfl] at H; exact H
     clear H
     have H := H1
     clear H1
     obtain rfl := Option.some.inj H
     go_wp2
     go_ret
     exact ⟨by first | rfl | (simp [errW_none, errW_some] <;> rfl) | (simp [*, errW_none, errW_some] <;> rfl), by repeat (first | (with_reducible first | exact HB.out | apply below_alloc | apply pw_below_drewN | apply below_drew1 | refine below_set ?_ GE379.out) | exact HB.out)⟩
    ·
     replace c12 := Bool.eq_false_iff.mpr c12
     subst c12
     have H1 : ((lot_Put.f kj4 l0 a1_0 a1_1 a1_2 l1_3).bind fun bt383 => ((spileref22_Put.f kj4 l0 a1_0 a1_1 a1_2 l1_3).bind fun bt387 => ((spileref22_Same.f kj4 bt383.1 bt387.1).bind fun t391 => (if t391 = true then (some (bt383.2 == bt387.2)) else (some false))))) = some r := by rw [if_neg (show ¬ (false = true) by decide)] at H; exact H
     clear H
     have H := H1
     clear H1
     replace H := Option.bind_eq_some_iff.mp H
     obtain ⟨⟨t383, t386⟩, A130, H⟩ := H
     replace H : ((spileref22_Put.f kj4 l0 a1_0 a1_1 a1_2 l1_3).bind fun bt387 => ((spileref22_Same.f kj4 t383 bt387.1).bind fun t391 => (if t391 = true then (some (t386 == bt387.2)) else (some false)))) = some r := H
     have A13 := Aside0.mk A130
     clear A130
     replace H := Option.bind_eq_some_iff.mp H
     obtain ⟨⟨t387, t390⟩, A140, H⟩ := H
     replace H : ((spileref22_Same.f kj4 t383 t387).bind fun t391 => (if t391 = true then (some (t386 == t390)) else (some false))) = some r := H
     have A14 := Aside0.mk A140
     clear A140
     replace H := Option.bind_eq_some_iff.mp H
     obtain ⟨t391, A150, H⟩ := H
     replace H : (if t391 = true then (some (t386 == t390)) else (some false)) = some r := H
     have A15 := Aside0.mk A150
     clear A150
     by_cases c16 : t391 = true
     ·
      subst c16
      have H1 : (some (t386 == t390)) = some r := by rw [if_pos rfl] at H; exact H
      clear H
      have H := H1
      clear H1
      obtain rfl := Option.some.inj H
      have hcz17_0 : wc.cell? ⟨gb379, 0, none⟩ = some (.int .i64 a1_0) := (blk_cell BK379.out 0).trans rfl
      have hcz17_1 : wc.cell? ⟨gb379, 1, none⟩ = some (.int .i64 a1_1) := (blk_cell BK379.out 1).trans rfl
      have hcz17_2 : wc.cell? ⟨gb379, 2, none⟩ = some (.int .i64 a1_2) := (blk_cell BK379.out 2).trans rfl
      have hcz17_3 : wc.cell? ⟨gb379, 3, none⟩ = some (.slice A1_3 l1_3.length c1_3) := (blk_cell BK379.out 3).trans rfl
      have hfz17_0 := blk_frozen BK379.out 0
      have hfz17_1 := blk_frozen BK379.out 1
      have hfz17_2 := blk_frozen BK379.out 2
      have hfz17_3 := blk_frozen BK379.out 3
      go_wp2_with (first | ((with_reducible refine gate_callee (f := 22) rfl ?_); refine goesL_ (some 23) rfl rfl Tryd.func22 (by kernel_rfl) rfl #[.slice A0 l0.length c0, .agg #[.int .i64 a1_0, .int .i64 a1_1, .int .i64 a1_2, .slice A1_3 l1_3.length c1_3]] rfl (by (try simp only [List.map_toArray, List.map_cons, List.map_nil]); first | done | rfl | (simp only [List.length_drop, List.length_take]; rfl)) ?_; (with_reducible refine (lot_Put.calls kj4 (fun k_ => k_ < w.heap.size) _ _ l0 a1_0 a1_1 a1_2 (fun k_ => k_ < w.heap.size) _ _ l1_3 t383 t386 _ ?side1 ?side2 A13.out).mono ?_); (case side1 => exact Kd.V_mk HC0.out (Kd.F_below (Kd.C_F k33_heap HR0.out) (by repeat (first | (with_reducible first | exact HB.out | apply below_alloc | apply pw_below_drewN | apply below_drew1 | refine below_set ?_ GE379.out) | exact HB.out)))); (case side2 => exact Kd.V_mk HC1_3.out (Kd.F_below (Kd.C_F k35_heap HR1_3.out) (by repeat (first | (with_reducible first | exact HB.out | apply below_alloc | apply pw_below_drewN | apply below_drew1 | refine below_set ?_ GE379.out) | exact HB.out)))); rintro e w18 ⟨v384, rfl, ho0, hb⟩; refine ⟨_, rfl, ?_⟩; have n0_ := Aside0.mk (Kd.N_lower (Kd.N_mono (ok' := fun k_ => k_ ≠ gb379) ho0 (fun k_ hk_ => Or.elim hk_ (fun hs_ => Or.elim hs_ (fun hs_ => fun e_ => Nat.not_le.2 hs_ (by rw [e_]; exact GW379.out)) (fun hs_ => fun e_ => Nat.not_le.2 hs_ (by rw [e_]; exact GW379.out))) (fun hn_ => (Kd.freshB (g := gb379) (o := .cells #[.int .i64 a1_0, .int .i64 a1_1, .int .i64 a1_2, .slice A1_3 l1_3.length c1_3] 33 (0, 0)) (by (with_reducible repeat (first | refine blk_drewN ?_ _ | refine blk_drew ?_ | refine blk_alloc ?_ _)); exact BK379.out) k_ hn_)))) (below_size (by repeat (first | (with_reducible first | exact HB.out | apply below_alloc | apply pw_below_drewN | apply below_drew1 | refine below_set ?_ GE379.out) | exact HB.out)))); have n1_ := Aside0.mk (blk_below (g := gb379) (o := .cells #[.int .i64 a1_0, .int .i64 a1_1, .int .i64 a1_2, .slice A1_3 l1_3.length c1_3] 33 (0, 0)) (by (with_reducible repeat (first | refine blk_drewN ?_ _ | refine blk_drew ?_ | refine blk_alloc ?_ _)); exact BK379.out) hb); have n2_ := Aside0.mk (below_step (by repeat (first | (with_reducible first | exact HB.out | apply below_alloc | apply pw_below_drewN | apply below_drew1 | refine below_set ?_ GE379.out) | exact HB.out)) hb); clear BK379; clear HB; have HO385 := n0_; have BK379 := n1_; have HB := n2_; clear n0_ n1_ n2_; (try clear hb); (try clear hb2); (try clear hk); (try clear hi); (try clear ho0); have hcz19_0 : w18.cell? ⟨gb379, 0, none⟩ = some (.int .i64 a1_0) := (blk_cell BK379.out 0).trans rfl; have hcz19_1 : w18.cell? ⟨gb379, 1, none⟩ = some (.int .i64 a1_1) := (blk_cell BK379.out 1).trans rfl; have hcz19_2 : w18.cell? ⟨gb379, 2, none⟩ = some (.int .i64 a1_2) := (blk_cell BK379.out 2).trans rfl; have hcz19_3 : w18.cell? ⟨gb379, 3, none⟩ = some (.slice A1_3 l1_3.length c1_3) := (blk_cell BK379.out 3).trans rfl; have hfz19_0 := blk_frozen BK379.out 0; have hfz19_1 := blk_frozen BK379.out 1; have hfz19_2 := blk_frozen BK379.out 2; have hfz19_3 := blk_frozen BK379.out 3) | ((with_reducible refine gate_callee (f := 23) rfl ?_); refine goesL_ (some 29) rfl rfl Tryd.func23 (by kernel_rfl) rfl #[.slice A0 l0.length c0, .agg #[.int .i64 a1_0, .int .i64 a1_1, .int .i64 a1_2, .slice A1_3 l1_3.length c1_3]] rfl (by (try simp only [List.map_toArray, List.map_cons, List.map_nil]); first | done | rfl | (simp only [List.length_drop, List.length_take]; rfl)) ?_; (with_reducible refine (spileref22_Put.calls kj4 _ _ l0 a1_0 a1_1 a1_2 _ _ l1_3 t387 t390 _ ?side1 ?side2 ?side3 ?side4 A14.out).mono ?_); (case side1 => repeat (first | exact (Kd.C_below HR0.out HB.out) | (with_reducible refine Kd.C_alloc ?_ _) | (with_reducible refine Kd.C_drewN ?_ _) | (with_reducible refine Kd.C_drew ?_))); (case side2 => exact HC0.out); (case side3 => repeat (first | exact (Kd.C_below HR1_3.out HB.out) | (with_reducible refine Kd.C_alloc ?_ _) | (with_reducible refine Kd.C_drewN ?_ _) | (with_reducible refine Kd.C_drew ?_))); (case side4 => exact HC1_3.out); rintro e w20 ⟨v388, rfl, ho0, hb⟩; refine ⟨_, rfl, ?_⟩; have n0_ := Aside0.mk (Kd.N_elder' (by (with_reducible repeat (first | apply Kd.N_alloc | apply Kd.N_drewN | apply Kd.N_drew)); exact HO385.out) (Kd.S_base ho0) hb); have n1_ := Aside0.mk (Kd.N_lower (Kd.N_mono (ok' := fun k_ => some k_ ≠ (v384 : Value).ownBlock ∧ k_ ≠ gb379) (Kd.S_N (Kd.S_bound ho0)) (fun k_ hk_ => ⟨(Kd.fresh' (Kd.N_lt (by (with_reducible repeat (first | apply Kd.N_alloc | apply Kd.N_drewN | apply Kd.N_drew)); exact HO385.out)) k_ hk_.2.1), (Kd.freshB (g := gb379) (o := .cells #[.int .i64 a1_0, .int .i64 a1_1, .int .i64 a1_2, .slice A1_3 l1_3.length c1_3] 33 (0, 0)) (by (with_reducible repeat (first | refine blk_drewN ?_ _ | refine blk_drew ?_ | refine blk_alloc ?_ _)); exact BK379.out) k_ hk_.2.1)⟩)) (below_size (by repeat (first | (with_reducible first | exact HB.out | apply below_alloc | apply pw_below_drewN | apply below_drew1 | refine below_set ?_ GE379.out) | exact HB.out)))); have n2_ := Aside0.mk (blk_below (g := gb379) (o := .cells #[.int .i64 a1_0, .int .i64 a1_1, .int .i64 a1_2, .slice A1_3 l1_3.length c1_3] 33 (0, 0)) (by (with_reducible repeat (first | refine blk_drewN ?_ _ | refine blk_drew ?_ | refine blk_alloc ?_ _)); exact BK379.out) hb); have n3_ := Aside0.mk (below_step (by repeat (first | (with_reducible first | exact HB.out | apply below_alloc | apply pw_below_drewN | apply below_drew1 | refine below_set ?_ GE379.out) | exact HB.out)) hb); clear HO385; clear BK379; clear HB; have HO385 := n0_; have HO389 := n1_; have BK379 := n2_; have HB := n3_; clear n0_ n1_ n2_ n3_; (try clear hb); (try clear hb2); (try clear hk); (try clear hi); (try clear ho0); obtain ⟨Ao21, co21, eo21⟩ := Kd.N_slice HO385.out; subst eo21; obtain ⟨Ao22, co22, eo22⟩ := Kd.N_slice HO389.out; subst eo22) | ((with_reducible refine gate_callee (f := 24) rfl ?_); refine goesL_ (some 34) rfl rfl Tryd.func24 (by kernel_rfl) rfl #[.slice Ao21 t383.length co21, .slice Ao22 t387.length co22] rfl (by (try simp only [List.map_toArray, List.map_cons, List.map_nil]); first | done | rfl | (simp only [List.length_drop, List.length_take]; rfl)) ?_; (with_reducible refine (spileref22_Same.calls kj4 _ _ t383 _ _ t387 true _ ?side1 ?side2 ?side3 ?side4 A15.out).mono ?_); (case side1 => repeat (first | exact (Kd.N_reads' HO385.out).2.2 | (with_reducible refine Kd.C_alloc ?_ _) | (with_reducible refine Kd.C_drewN ?_ _) | (with_reducible refine Kd.C_drew ?_))); (case side2 => exact (Kd.N_reads' HO385.out).2.1); (case side3 => repeat (first | exact (Kd.N_reads' HO389.out).2.2 | (with_reducible refine Kd.C_alloc ?_ _) | (with_reducible refine Kd.C_drewN ?_ _) | (with_reducible refine Kd.C_drew ?_))); (case side4 => exact (Kd.N_reads' HO389.out).2.1); rintro e w23 ⟨rfl, hb⟩; refine ⟨_, rfl, ?_⟩; have n0_ := Aside0.mk (Kd.N_below (by (with_reducible repeat (first | apply Kd.N_alloc | apply Kd.N_drewN | apply Kd.N_drew)); exact HO385.out) hb); have n1_ := Aside0.mk (Kd.N_below (by (with_reducible repeat (first | apply Kd.N_alloc | apply Kd.N_drewN | apply Kd.N_drew)); exact HO389.out) hb); have n2_ := Aside0.mk (blk_below (g := gb379) (o := .cells #[.int .i64 a1_0, .int .i64 a1_1, .int .i64 a1_2, .slice A1_3 l1_3.length c1_3] 33 (0, 0)) (by (with_reducible repeat (first | refine blk_drewN ?_ _ | refine blk_drew ?_ | refine blk_alloc ?_ _)); exact BK379.out) hb); have n3_ := Aside0.mk (below_step (by repeat (first | (with_reducible first | exact HB.out | apply below_alloc | apply pw_below_drewN | apply below_drew1 | refine below_set ?_ GE379.out) | exact HB.out)) hb); clear HO385; clear HO389; clear BK379; clear HB; have HO385 := n0_; have HO389 := n1_; have BK379 := n2_; have HB := n3_; clear n0_ n1_ n2_ n3_; (try clear hb); (try clear hb2); (try clear hk); (try clear hi)))
      go_ret
      exact ⟨by first | rfl | (simp [errW_none, errW_some] <;> rfl) | (simp [*, errW_none, errW_some] <;> rfl), by repeat (first | (with_reducible first | exact HB.out | apply below_alloc | apply pw_below_drewN | apply below_drew1 | refine below_set ?_ GE379.out) | exact HB.out)⟩
     ·
      replace c16 := Bool.eq_false_iff.mpr c16
      subst c16
      have H1 : (some false) = some r := by rw [if_neg (show ¬ (false = true) by decide)] at H; exact H
      clear H
      have H := H1
      clear H1
      subst hr_
      exact absurd H (by simp)
 ·
  replace c4 := Bool.eq_false_iff.mpr c4
  subst c4
  have H1 : (some false) = some r := by rw [if_neg (show ¬ (false = true) by decide)] at H; exact H
  clear H
  have H := H1
  clear H1
  subst hr_
  exact absurd H (by simp)
def spilelaw22_LotPlaces_1_1.f (a0_0 : Int) (a0_1 : Int) (a0_2 : Int) (l0_3 : List (S35)) (a1_0 : Int) (a1_1 : Int) (a1_2 : Int) (l1_3 : List (S35)) : Option (Bool) := some (a0_0 == a1_0)
def api_Lot_48_at_27.l0 : Nat → List (S33) → Int → Int → Int → Int → Int → List (S35) → Option (Int)
 | 0, _, _, _, _, _, _, _ => none
 | k + 1, x0, x7, x8, x5003000, x5003001, x5003002, x5003003 => if x8 < x7 then (if 0 ≤ x8 then (if x8 < (x0.length : Int) then ((spilelaw22_LotPlaces_1_1.f ((rd_T33 x0 x8).f0) ((rd_T33 x0 x8).f1.f0) ((rd_T33 x0 x8).f1.f1) ((rd_T33 x0 x8).f2) x5003000 x5003001 x5003002 x5003003).bind fun t394 => (if t394 = true then (some x8) else (api_Lot_48_at_27.l0 k x0 x7 (wrap64 (x8 + 1)) x5003000 x5003001 x5003002 x5003003))) else (none)) else (none)) else (some (-1))
def api_Lot_48_at_27.f (k : Nat) (l0 : List (S33))  (a2_0 : Int) (a2_1 : Int) (a2_2 : Int) (l2_3 : List (S35)) : Option (Int) := api_Lot_48_at_27.l0 k l0 (l0.length : Int) 0 a2_0 a2_1 a2_2 l2_3
theorem api_Lot_48_at_27.mono_l : ∀ k, (∀ y0 y1 y2 y3 y4 y5 y6, LeO (api_Lot_48_at_27.l0 k y0 y1 y2 y3 y4 y5 y6) (api_Lot_48_at_27.l0 (k + 1) y0 y1 y2 y3 y4 y5 y6))
 | 0 => fun _ _ _ _ _ _ _ r h => by simp [api_Lot_48_at_27.l0] at h
 | k + 1 => by
  have ih0 := api_Lot_48_at_27.mono_l k
  ·
   intro y0 y1 y2 y3 y4 y5 y6
   unfold api_Lot_48_at_27.l0
   repeat' first
   | (with_reducible exact ih0 _ _ _ _ _ _ _)
   | (with_reducible exact LeO.refl _)
   | (with_reducible exact LeO.none _)
   | (with_reducible refine LeO.ite ?_ ?_)
   | (with_reducible refine LeO.bind ?_ (fun _ => ?_))
   | exact ih0 _ _ _ _ _ _ _
   | exact LeO.none _
   | refine LeO.ite ?_ ?_
   | refine LeO.bind ?_ (fun _ => ?_)
theorem api_Lot_48_at_27.mono : ∀ a0 a1 a2 a3 a4 k, LeO (api_Lot_48_at_27.f k a0 a1 a2 a3 a4) (api_Lot_48_at_27.f (k + 1) a0 a1 a2 a3 a4) := by
 intro a0 a1 a2 a3 a4 k
 have ih0 := api_Lot_48_at_27.mono_l k
 unfold api_Lot_48_at_27.f
 repeat' first
   | (with_reducible exact ih0 _ _ _ _ _ _ _)
   | (with_reducible exact LeO.refl _)
   | (with_reducible exact LeO.none _)
   | (with_reducible refine LeO.ite ?_ ?_)
   | (with_reducible refine LeO.bind ?_ (fun _ => ?_))
   | exact ih0 _ _ _ _ _ _ _
   | exact LeO.none _
   | refine LeO.ite ?_ ?_
   | refine LeO.bind ?_ (fun _ => ?_)
def api_Lot_25_at_27.f (k : Nat) (l0 : List (S33))  (a2_0 : Int) (a2_1 : Int) (a2_2 : Int) (l2_3 : List (S35)) : Option (Bool) := (api_Lot_48_at_27.f k l0 a2_0 a2_1 a2_2 l2_3).bind fun t393 => (some (decide (t393 ≥ 0)))
theorem api_Lot_25_at_27.mono : ∀ a0 a1 a2 a3 a4 k, LeO (api_Lot_25_at_27.f k a0 a1 a2 a3 a4) (api_Lot_25_at_27.f (k + 1) a0 a1 a2 a3 a4) := by
 intro a0 a1 a2 a3 a4 k
 unfold api_Lot_25_at_27.f
 repeat' first
   | (with_reducible exact api_Lot_48_at_27.mono _ _ _ _ _ _)
   | (with_reducible exact LeO.refl _)
   | (with_reducible exact LeO.none _)
   | (with_reducible refine LeO.ite ?_ ?_)
   | (with_reducible refine LeO.bind ?_ (fun _ => ?_))
   | exact api_Lot_48_at_27.mono _ _ _ _ _ _
   | exact LeO.none _
   | refine LeO.ite ?_ ?_
   | refine LeO.bind ?_ (fun _ => ?_)
def spilelaw22_LotPlaces_1.f (k : Nat) (a0_0 : Int) (a0_1 : Int) (a0_2 : Int) (l0_3 : List (S35)) (a1_0 : Int) (a1_1 : Int) (a1_2 : Int) (l1_3 : List (S35)) (l2_0 : List (S33)) : Option (Bool) := if a0_0 = a1_0 then (some false) else ((api_Lot_25_at_27.f k l2_0 a0_0 a0_1 a0_2 l0_3).bind fun t395 => (some (!t395)))
theorem spilelaw22_LotPlaces_1.mono : ∀ a0 a1 a2 a3 a4 a5 a6 a7 a8 k, LeO (spilelaw22_LotPlaces_1.f k a0 a1 a2 a3 a4 a5 a6 a7 a8) (spilelaw22_LotPlaces_1.f (k + 1) a0 a1 a2 a3 a4 a5 a6 a7 a8) := by
 intro a0 a1 a2 a3 a4 a5 a6 a7 a8 k
 unfold spilelaw22_LotPlaces_1.f
 repeat' first
   | (with_reducible exact api_Lot_25_at_27.mono _ _ _ _ _ _)
   | (with_reducible exact LeO.refl _)
   | (with_reducible exact LeO.none _)
   | (with_reducible refine LeO.ite ?_ ?_)
   | (with_reducible refine LeO.bind ?_ (fun _ => ?_))
   | exact api_Lot_25_at_27.mono _ _ _ _ _ _
   | exact LeO.none _
   | refine LeO.ite ?_ ?_
   | refine LeO.bind ?_ (fun _ => ?_)
end Go.Proofs.YtgjoenoknknoiaaDoor.Pr
namespace Go.Proofs.YtgjoenoknknoiaaDoor.Opn
open Go Go.RowKit Go.Proofs.YtgjoenoknknoiaaDoorW.PrintWords Go.Proofs.YtgjoenoknknoiaaDoor.O Go.Proofs.YtgjoenoknknoiaaDoor.Pr
theorem opens3 : Opens Tryd.prog 3 (Kd.int .i64) (fun x => (Lit.int .i64 x).wf = true) := opens_int Tryd.underlying3 (by kernel_rfl)
def ok26 (x : S26) : Prop := (Lit.int .i64 x.f0).wf = true ∧ (Lit.int .i64 x.f1).wf = true
theorem opens26 : Opens Tryd.prog 26 k26 ok26 :=
  ⟨by kernel_rfl, fun H enc w base sp held fuel cs x h => by
    obtain ⟨xs, n, _, _, hl, hx, hf⟩ := DataW.trod_struct Tryd.underlying26 h
    have hc_ : Tryd.prog.cellsOf 26 = 2 := by kernel_rfl
    rw [hc_] at hl
    obtain ⟨c0, c1, rfl⟩ : ∃ c0 c1, cs = [c0, c1] := by
      clear h hf hx
      rcases cs with _ | ⟨c0, _ | ⟨c1, _ | ⟨_, _⟩⟩⟩
      all_goals first | exact ⟨_, _, rfl⟩ | (simp at hl)
    obtain ⟨y0, hy0⟩ : ∃ y, xs[0]? = some y := ⟨xs[0]'(by rw [hx]; decide), List.getElem?_eq_getElem _⟩
    have e0 : DataW.trod enc Tryd.prog w base sp held n 3 ((List.drop 0 [c0, c1]).take (Tryd.prog.cellsOf 3)) = xs[0]? := hf 0 _ rfl
    rw [hy0, show Tryd.prog.cellsOf 3 = 1 from by kernel_rfl] at e0
    obtain ⟨v0, K0, o0⟩ := opens3.2 H enc w base sp held n _ _ e0
    replace K0 : (Kd.int .i64).K w v0 [c0] := K0
    obtain ⟨y1, hy1⟩ : ∃ y, xs[1]? = some y := ⟨xs[1]'(by rw [hx]; decide), List.getElem?_eq_getElem _⟩
    have e1 : DataW.trod enc Tryd.prog w base sp held n 3 ((List.drop 1 [c0, c1]).take (Tryd.prog.cellsOf 3)) = xs[1]? := hf 1 _ rfl
    rw [hy1, show Tryd.prog.cellsOf 3 = 1 from by kernel_rfl] at e1
    obtain ⟨v1, K1, o1⟩ := opens3.2 H enc w base sp held n _ _ e1
    replace K1 : (Kd.int .i64).K w v1 [c1] := K1
    obtain rfl : c0 = _ := List.singleton_inj.1 K0
    obtain rfl : c1 = _ := List.singleton_inj.1 K1
    refine ⟨⟨v0, v1⟩, ?_, o0, o1⟩
    exact k26_mk w ⟨v0, v1⟩ ⟩
def ok35 (x : S35) : Prop := (Lit.int .i64 x.f0).wf = true ∧ (Lit.int .i64 x.f1).wf = true
theorem opens35 : Opens Tryd.prog 35 k35 ok35 :=
  ⟨by kernel_rfl, fun H enc w base sp held fuel cs x h => by
    obtain ⟨xs, n, _, _, hl, hx, hf⟩ := DataW.trod_struct Tryd.underlying35 h
    have hc_ : Tryd.prog.cellsOf 35 = 2 := by kernel_rfl
    rw [hc_] at hl
    obtain ⟨c0, c1, rfl⟩ : ∃ c0 c1, cs = [c0, c1] := by
      clear h hf hx
      rcases cs with _ | ⟨c0, _ | ⟨c1, _ | ⟨_, _⟩⟩⟩
      all_goals first | exact ⟨_, _, rfl⟩ | (simp at hl)
    obtain ⟨y0, hy0⟩ : ∃ y, xs[0]? = some y := ⟨xs[0]'(by rw [hx]; decide), List.getElem?_eq_getElem _⟩
    have e0 : DataW.trod enc Tryd.prog w base sp held n 3 ((List.drop 0 [c0, c1]).take (Tryd.prog.cellsOf 3)) = xs[0]? := hf 0 _ rfl
    rw [hy0, show Tryd.prog.cellsOf 3 = 1 from by kernel_rfl] at e0
    obtain ⟨v0, K0, o0⟩ := opens3.2 H enc w base sp held n _ _ e0
    replace K0 : (Kd.int .i64).K w v0 [c0] := K0
    obtain ⟨y1, hy1⟩ : ∃ y, xs[1]? = some y := ⟨xs[1]'(by rw [hx]; decide), List.getElem?_eq_getElem _⟩
    have e1 : DataW.trod enc Tryd.prog w base sp held n 3 ((List.drop 1 [c0, c1]).take (Tryd.prog.cellsOf 3)) = xs[1]? := hf 1 _ rfl
    rw [hy1, show Tryd.prog.cellsOf 3 = 1 from by kernel_rfl] at e1
    obtain ⟨v1, K1, o1⟩ := opens3.2 H enc w base sp held n _ _ e1
    replace K1 : (Kd.int .i64).K w v1 [c1] := K1
    obtain rfl : c0 = _ := List.singleton_inj.1 K0
    obtain rfl : c1 = _ := List.singleton_inj.1 K1
    refine ⟨⟨v0, v1⟩, ?_, o0, o1⟩
    exact k35_mk w ⟨v0, v1⟩ ⟩
theorem opens31 : Opens Tryd.prog 31 (Kd.slice 35 k35) (fun x => (x.length ≤ maxLen ∧ ∀ x0_, x0_ ∈ x → ok35 x0_)) := opens_slice (P := Tryd.prog) (t := 31) (e := 35) Tryd.underlying31 (by kernel_rfl) opens35
def ok33 (x : S33) : Prop := (Lit.int .i64 x.f0).wf = true ∧ ok26 x.f1 ∧ (x.f2.length ≤ maxLen ∧ ∀ x0_, x0_ ∈ x.f2 → ok35 x0_)
theorem opens33 : Opens Tryd.prog 33 k33 ok33 :=
  ⟨by kernel_rfl, fun H enc w base sp held fuel cs x h => by
    obtain ⟨xs, n, _, _, hl, hx, hf⟩ := DataW.trod_struct Tryd.underlying33 h
    have hc_ : Tryd.prog.cellsOf 33 = 4 := by kernel_rfl
    rw [hc_] at hl
    obtain ⟨c0, c1, c2, c3, rfl⟩ : ∃ c0 c1 c2 c3, cs = [c0, c1, c2, c3] := by
      clear h hf hx
      rcases cs with _ | ⟨c0, _ | ⟨c1, _ | ⟨c2, _ | ⟨c3, _ | ⟨_, _⟩⟩⟩⟩⟩
      all_goals first | exact ⟨_, _, _, _, rfl⟩ | (simp at hl)
    obtain ⟨y0, hy0⟩ : ∃ y, xs[0]? = some y := ⟨xs[0]'(by rw [hx]; decide), List.getElem?_eq_getElem _⟩
    have e0 : DataW.trod enc Tryd.prog w base sp held n 3 ((List.drop 0 [c0, c1, c2, c3]).take (Tryd.prog.cellsOf 3)) = xs[0]? := hf 0 _ rfl
    rw [hy0, show Tryd.prog.cellsOf 3 = 1 from by kernel_rfl] at e0
    obtain ⟨v0, K0, o0⟩ := opens3.2 H enc w base sp held n _ _ e0
    replace K0 : (Kd.int .i64).K w v0 [c0] := K0
    obtain ⟨y1, hy1⟩ : ∃ y, xs[1]? = some y := ⟨xs[1]'(by rw [hx]; decide), List.getElem?_eq_getElem _⟩
    have e1 : DataW.trod enc Tryd.prog w base sp held n 26 ((List.drop 1 [c0, c1, c2, c3]).take (Tryd.prog.cellsOf 26)) = xs[1]? := hf 1 _ rfl
    rw [hy1, show Tryd.prog.cellsOf 26 = 2 from by kernel_rfl] at e1
    obtain ⟨v1, K1, o1⟩ := opens26.2 H enc w base sp held n _ _ e1
    replace K1 : k26.K w v1 [c1, c2] := K1
    obtain ⟨y2, hy2⟩ : ∃ y, xs[2]? = some y := ⟨xs[2]'(by rw [hx]; decide), List.getElem?_eq_getElem _⟩
    have e2 : DataW.trod enc Tryd.prog w base sp held n 31 ((List.drop 3 [c0, c1, c2, c3]).take (Tryd.prog.cellsOf 31)) = xs[2]? := hf 2 _ rfl
    rw [hy2, show Tryd.prog.cellsOf 31 = 1 from by kernel_rfl] at e2
    obtain ⟨v2, K2, o2⟩ := opens31.2 H enc w base sp held n _ _ e2
    replace K2 : (Kd.slice 35 k35).K w v2 [c3] := K2
    obtain rfl : c0 = _ := List.singleton_inj.1 K0
    have Z1 := k26_open K1
    have w1 := Z1
    simp only [List.cons.injEq, and_true] at w1
    obtain ⟨rfl, rfl⟩ := w1
    obtain ⟨A2, q2, w2, m2, g2⟩ := K2
    obtain rfl : c3 = _ := List.singleton_inj.1 w2
    refine ⟨⟨v0, v1, v2⟩, ?_, o0, o1, o2⟩
    exact k33_mk w ⟨v0, v1, v2⟩ m2 g2⟩
theorem opens22 : Opens Tryd.prog 22 (Kd.slice 33 k33) (fun x => (x.length ≤ maxLen ∧ ∀ x0_, x0_ ∈ x → ok33 x0_)) := opens_slice (P := Tryd.prog) (t := 22) (e := 33) Tryd.underlying22 (by kernel_rfl) opens33
end Go.Proofs.YtgjoenoknknoiaaDoor.Opn
namespace Go.Proofs.YtgjoenoknknoiaaDoor.Pure
open Go Go.RowKit Go.Proofs.YtgjoenoknknoiaaDoor.Pr Go.Proofs.YtgjoenoknknoiaaDoor.Opn
def lotPutsPure : Prop := ∀ (l0 : (List S33)) (a1_0 : Int) (a1_1 : Int) (a1_2 : Int) (l1_3 : (List S35)), (l0.length ≤ maxLen ∧ ∀ x0_, x0_ ∈ l0 → ok33 x0_) → (Lit.int .i64 a1_0).wf = true → (Lit.int .i64 a1_1).wf = true → (Lit.int .i64 a1_2).wf = true → (l1_3.length ≤ maxLen ∧ ∀ x0_, x0_ ∈ l1_3 → ok35 x0_) → ∃ k, spilelaw22_LotPuts.f k l0 a1_0 a1_1 a1_2 l1_3 = some true
end Go.Proofs.YtgjoenoknknoiaaDoor.Pure
namespace Go.Proofs.YtgjoenoknknoiaaDoor.PL
open Go Go.RowKit Go.Proofs.YtgjoenoknknoiaaDoorW.PrintWords Go.Proofs.YtgjoenoknknoiaaDoorW.PrintLast Go.Proofs.YtgjoenoknknoiaaDoorW.PrintMore
theorem evp {α : Type} {c : Prop} [Decidable c] {g h : Nat → Option α} {r : α} (hc : c) (k : Ev g r) : Ev (fun n => if c then g n else h n) r :=
  Ev.congr (fun n => if_pos hc) k
theorem evn {α : Type} {c : Prop} [Decidable c] {g h : Nat → Option α} {r : α} (hc : ¬ c) (k : Ev h r) : Ev (fun n => if c then g n else h n) r :=
  Ev.congr (fun n => if_neg hc) k
theorem evb {α β : Type} {g : Nat → Option α} {f : Nat → α → Option β} {a : α} {r : β} (h : Ev g a) (k : Ev (fun n => f n a) r) : Ev (fun n => (g n).bind (f n)) r := Ev.bind h k
theorem evr {α : Type} {a r : α} (h : a = r) : Ev (fun _ => some a) r := by subst h; exact Ev.now _
theorem evc {α : Type} {g : Nat → Option α} {r : α} {o : Option α} (hg : ∀ n, g n = o) (h : o = some r) : Ev g r := by
  subst h
  exact Ev.congr hg (Ev.now _)
theorem ev_unique {α : Type} {g : Nat → Option α} {a b : α} (h : Ev g a) (h2 : Ev g b) : a = b := by
  obtain ⟨K, h⟩ := h
  obtain ⟨K2, h2⟩ := h2
  have e1 := h (K + K2) (by omega)
  have e2 := h2 (K + K2) (by omega)
  rw [e1] at e2
  exact Option.some.inj e2
/-- A loop that counts upwards to n. -/
theorem count_up (a n : Int) (P : Int → Prop) (hend : P n) (hround : ∀ i, a ≤ i → i < n → P (i + 1) → P i) : ∀ i, a ≤ i → i ≤ n → P i := by
  intro i h0 h1
  obtain ⟨d, hd⟩ : ∃ d : Nat, n - i = d := ⟨(n - i).toNat, by omega⟩
  induction d generalizing i with
  | zero =>
    obtain rfl : i = n := by omega
    exact hend
  | succ d ih => exact hround i h0 (by omega) (ih (i + 1) (by omega) (by omega) (by omega))
theorem w64 {x : Int} (h0 : -9223372036854775808 ≤ x) (h1 : x ≤ 9223372036854775807) : wrap64 x = x := by
  unfold wrap64
  omega
theorem w64_succ {i n : Int} (h0 : 0 ≤ i) (h : i < n) (hn : n ≤ 9223372036854775807) : wrap64 (i + 1) = i + 1 := w64 (by omega) (by omega)
theorem w64_pred {i n : Int} (h0 : 0 ≤ i) (h : i ≤ n) (hn : n ≤ 9223372036854775807) : wrap64 (i - 1) = i - 1 := w64 (by omega) (by omega)
theorem len_le {α : Type} {l : List α} (h : l.length ≤ maxLen) : (l.length : Int) ≤ 9223372036854775807 := by
  have : l.length ≤ 9223372036854775807 := by simpa [maxLen] using h
  omega
/-- A test that comes to true where P holds, and else to false. -/
def EvB (g : Nat → Option Bool) (P : Prop) : Prop := (P → Ev g true) ∧ (¬ P → Ev g false)
theorem EvB.map {g : Nat → Option Bool} {f : Nat → Bool → Option Bool} {P Q : Prop} (h : EvB g P) (ht : P → EvB (fun n => f n true) Q) (hf : ¬ P → EvB (fun n => f n false) Q) : EvB (fun n => (g n).bind (f n)) Q := by
  by_cases hp : P
  · exact ⟨fun q => Ev.bind (h.1 hp) ((ht hp).1 q), fun q => Ev.bind (h.1 hp) ((ht hp).2 q)⟩
  · exact ⟨fun q => Ev.bind (h.2 hp) ((hf hp).1 q), fun q => Ev.bind (h.2 hp) ((hf hp).2 q)⟩
theorem u64w {x : Int} (h0 : 0 ≤ x) (h1 : x ≤ 9223372036854775807) : IntKind.u64.wrap x = x := by
  unfold IntKind.wrap
  simp [IntKind.signed, IntKind.bits]
  omega
theorem half {i j : Int} (h0 : 0 ≤ i) (h1 : i < j) (h2 : j ≤ 4611686018427387904) : wrap64 ((IntKind.u64.wrap (wrap64 (i + j))) / 2) = (i + j) / 2 := by
  rw [w64 (x := i + j) (by omega) (by omega), u64w (by omega) (by omega), w64 (by omega) (by omega)]
/-- A search by halves. -/
theorem search_ev (n : Int) (Q : Int → Prop) (L : Int → Int → Nat → Option Int)
    (hend : ∀ i, 0 ≤ i → i ≤ n → Ev (L i i) i) (hyes : ∀ i j, 0 ≤ i → i < j → j ≤ n → Q ((i + j) / 2) → ∀ r, Ev (L i ((i + j) / 2)) r → Ev (L i j) r)
    (hno : ∀ i j, 0 ≤ i → i < j → j ≤ n → ¬ Q ((i + j) / 2) → ∀ r, Ev (L ((i + j) / 2 + 1) j) r → Ev (L i j) r)
    (mono : ∀ a b, 0 ≤ a → a ≤ b → b < n → Q a → Q b) (hn : 0 ≤ n) :
    ∃ r, Ev (L 0 n) r ∧ 0 ≤ r ∧ r ≤ n ∧ (∀ a, 0 ≤ a → a < r → ¬ Q a) ∧ (∀ a, r ≤ a → a < n → Q a) := by
  have go : ∀ (d : Nat) (i j : Int), 0 ≤ i → i ≤ j → j ≤ n → j - i ≤ d → (∀ a, 0 ≤ a → a < i → ¬ Q a) → (∀ a, j ≤ a → a < n → Q a) →
      ∃ r, Ev (L i j) r ∧ 0 ≤ r ∧ r ≤ n ∧ (∀ a, 0 ≤ a → a < r → ¬ Q a) ∧ (∀ a, r ≤ a → a < n → Q a) := by
    intro d
    induction d with
    | zero =>
      intro i j h0 h1 h2 h3 hl hr
      obtain rfl : i = j := by omega
      exact ⟨i, hend i h0 h2, h0, h2, hl, hr⟩
    | succ d ih =>
      intro i j h0 h1 h2 h3 hl hr
      by_cases e : i = j
      · subst e
        exact ⟨i, hend i h0 h2, h0, h2, hl, hr⟩
      · by_cases q : Q ((i + j) / 2)
        · obtain ⟨r, hr2, h⟩ := ih i ((i + j) / 2) h0 (by omega) (by omega) (by omega) hl (fun a ha hb => mono ((i + j) / 2) a (by omega) ha hb q)
          exact ⟨r, hyes i j h0 (by omega) h2 q r hr2, h⟩
        · obtain ⟨r, hr2, h⟩ := ih ((i + j) / 2 + 1) j (by omega) (by omega) h2 (by omega) (fun a ha hb qa => q (mono a ((i + j) / 2) ha (by omega) (by omega) qa)) hr
          exact ⟨r, hno i j h0 (by omega) h2 q r hr2, h⟩
  exact go n.toNat 0 n (by omega) hn (by omega) (by omega) (fun a h0 h1 => absurd h1 (by omega)) (fun a h0 h1 => absurd h1 (by omega))
end Go.Proofs.YtgjoenoknknoiaaDoor.PL
namespace Go.Proofs.YtgjoenoknknoiaaDoor.PL
open Go Go.RowKit Go.Proofs.YtgjoenoknknoiaaDoorW.PrintWords Go.Proofs.YtgjoenoknknoiaaDoorW.PrintLast Go.Proofs.YtgjoenoknknoiaaDoorW.PrintMore Go.Proofs.YtgjoenoknknoiaaDoor.Pr Go.Proofs.YtgjoenoknknoiaaDoor.Opn
def PlainP (a b : Int) : Prop := 0 ≤ a ∧ a ≤ 10737418240000 ∧ 0 ≤ b ∧ b ≤ 128849018880000 ∧ (0 < b ∨ a = 0)
instance (a b : Int) : Decidable (PlainP a b) := by unfold PlainP; infer_instance
theorem mix_plain_eq (a b : Int) : mix_plain.f a b = some (decide (PlainP a b)) := by
  unfold mix_plain.f PlainP
  repeat' split
  all_goals first
    | (refine congrArg some (Eq.symm (decide_eq_true ?_)); omega)
    | (refine congrArg some (Eq.symm (decide_eq_false ?_)); omega)
    | (refine congrArg some ?_
       by_cases h : a = 0
       · rw [show (a == 0) = true from by simpa using h]; exact (decide_eq_true (by omega)).symm
       · rw [show (a == 0) = false from by simpa using h]; exact (decide_eq_false (by omega)).symm)
theorem ref_plain_eq (a b : Int) : spileref21_Plain.f a b = some (decide (PlainP a b)) := mix_plain_eq a b
theorem wf64 {x : Int} (h : (Lit.int .i64 x).wf = true) : -9223372036854775808 ≤ x ∧ x ≤ 9223372036854775807 := by
  have h2 := h
  simp [Lit.wf, IntKind.min, IntKind.max, IntKind.signed, IntKind.bits] at h2
  exact ⟨by omega, by omega⟩
/-- A liquid alone: plain by the mixture of one. -/
theorem lot_plain_ev (a b : Int) (ha : -9223372036854775808 ≤ a ∧ a ≤ 9223372036854775807) (hb : -9223372036854775808 ≤ b ∧ b ≤ 9223372036854775807) : Ev (fun k => lot_plain.f k a b) (decide (PlainP a b)) := by
  have r0 : rd_T26 [(⟨a, b⟩ : S26)] 0 = ⟨a, b⟩ := rfl
  have hc : Ev (fun k => api_Liquid_69_at_70.f k [(⟨a, b⟩ : S26)]) (decide (¬ PlainP a b)) := by
    by_cases hp : PlainP a b
    · have : Ev (fun k => api_Liquid_78_at_70.f k [(⟨a, b⟩ : S26)]) (-1) := by
        refine Ev.step (fun k => api_Liquid_78_at_70.l0.eq_2 ..) (evp (by simp) (evp (by decide) (evp (by simp) (evb (a := false) ?_ (evn (by simp) ?_)))))
        · refine evc (fun _ => rfl) ?_
          rw [r0]
          unfold mix_Sum_1.f
          rw [mix_plain_eq, decide_eq_true hp]
          rfl
        · exact Ev.step (fun k => api_Liquid_78_at_70.l0.eq_2 ..) (evn (by simp [wrap64]) (Ev.now _))
      rw [decide_eq_false (fun h => h hp)]
      exact evb this (evr (by decide))
    · have : Ev (fun k => api_Liquid_78_at_70.f k [(⟨a, b⟩ : S26)]) 0 := by
        refine Ev.step (fun k => api_Liquid_78_at_70.l0.eq_2 ..) (evp (by simp) (evp (by decide) (evp (by simp) (evb (a := true) ?_ (evp rfl (Ev.now _))))))
        refine evc (fun _ => rfl) ?_
        rw [r0]
        unfold mix_Sum_1.f
        rw [mix_plain_eq, decide_eq_false hp]
        rfl
      rw [decide_eq_true hp]
      exact evb this (evr (by decide))
  have ht : Ev (fun k => mix_total.f k [(⟨a, b⟩ : S26)]) (a, b) := by
    refine Ev.step (fun k => mix_total.l0.eq_2 ..) (evp (by simp) (evp (by decide) (evp (by simp) ?_)))
    rw [r0]
    refine Ev.step (fun k => mix_total.l0.eq_2 ..) (evn (by simp [wrap64]) (evr ?_))
    show (wrap64 (0 + a), wrap64 (0 + b)) = (a, b)
    rw [w64 (by omega) (by omega), w64 (by omega) (by omega)]
    simp
  by_cases hp : PlainP a b
  · rw [decide_eq_false (fun h => h hp)] at hc
    rw [decide_eq_true hp]
    refine evb (a := (a, b, 0)) ?_ (evr (by simp))
    refine evn (by simp) (evb hc (evn (by simp) (evb ht (evb (a := true) (evc (fun _ => rfl) ?_) (evp rfl (Ev.now _))))))
    rw [mix_plain_eq, decide_eq_true hp]
  · rw [decide_eq_true hp] at hc
    rw [decide_eq_false hp]
    refine evb (a := (0, 0, 1)) ?_ (evr (by simp))
    exact evn (by simp) (evb hc (evp rfl (Ev.now _)))
/-- The shares of a lot. -/
theorem shares_both (l : List S35) (hl : (l.length : Int) ≤ 9223372036854775807) (a0 a1 a2 : Int) : ∀ i, 0 ≤ i → i ≤ (l.length : Int) → ∀ s,
    ∃ e, Ev (fun k => spileref22_Shares.l0 k l i) e ∧ (e ≠ 0 → Ev (fun k => lot_shares.l0 k s l (l.length : Int) i a0 a1 a2 l) e) ∧
      (e = 0 → ∃ t, Ev (fun k => spileref22_Alcohol.l0 k l s i) t ∧ Ev (fun k => lot_shares.l0 k s l (l.length : Int) i a0 a1 a2 l) (if t = a1 then 0 else 14)) := by
  refine count_up 0 (l.length : Int) _ ?_ ?_
  · intro s
    refine ⟨0, Ev.step (fun k => spileref22_Shares.l0.eq_2 ..) (evn (by omega) (Ev.now _)), fun h => absurd rfl h, fun _ => ⟨s, Ev.step (fun k => spileref22_Alcohol.l0.eq_2 ..) (evn (by omega) (Ev.now _)), ?_⟩⟩
    refine Ev.step (fun k => lot_shares.l0.eq_2 ..) (evn (by omega) ?_)
    by_cases h : s = a1
    · rw [show (if s = a1 then (0 : Int) else 14) = 0 from if_pos h]; exact evp h (Ev.now _)
    · rw [show (if s = a1 then (0 : Int) else 14) = 14 from if_neg h]; exact evn h (Ev.now _)
  · intro i h0 h1 ih s
    have hw := w64_succ h0 h1 hl
    by_cases c1 : (rd_T35 l i).f0 < 1
    · exact ⟨10, Ev.step (fun k => spileref22_Shares.l0.eq_2 ..) (evp h1 (evp h0 (evp c1 (Ev.now _)))), fun _ => Ev.step (fun k => lot_shares.l0.eq_2 ..) (evp h1 (evp h0 (evp h1 (evp c1 (Ev.now _))))), fun h => absurd h (by decide)⟩
    by_cases c2 : (rd_T35 l i).f0 > 1073741824
    · exact ⟨10, Ev.step (fun k => spileref22_Shares.l0.eq_2 ..) (evp h1 (evp h0 (evn c1 (evp c2 (Ev.now _))))), fun _ => Ev.step (fun k => lot_shares.l0.eq_2 ..) (evp h1 (evp h0 (evp h1 (evn c1 (evp c2 (Ev.now _)))))), fun h => absurd h (by decide)⟩
    by_cases c3 : (rd_T35 l i).f1 < 1
    · exact ⟨10, Ev.step (fun k => spileref22_Shares.l0.eq_2 ..) (evp h1 (evp h0 (evn c1 (evn c2 (evp c3 (Ev.now _)))))), fun _ => Ev.step (fun k => lot_shares.l0.eq_2 ..) (evp h1 (evp h0 (evp h1 (evn c1 (evn c2 (evp c3 (Ev.now _))))))), fun h => absurd h (by decide)⟩
    by_cases c4 : (rd_T35 l i).f1 > 10737418240000
    · exact ⟨10, Ev.step (fun k => spileref22_Shares.l0.eq_2 ..) (evp h1 (evp h0 (evn c1 (evn c2 (evn c3 (evp c4 (Ev.now _))))))), fun _ => Ev.step (fun k => lot_shares.l0.eq_2 ..) (evp h1 (evp h0 (evp h1 (evn c1 (evn c2 (evn c3 (evp c4 (Ev.now _)))))))), fun h => absurd h (by decide)⟩
    obtain ⟨e, q1, q2, q3⟩ := ih (wrap64 (s + (rd_T35 l i).f1))
    rw [← hw] at q1 q2 q3
    by_cases c5 : i > 0
    · have hp := w64_pred h0 (Int.le_of_lt h1) hl
      have p0 : 0 ≤ wrap64 (i - 1) := by rw [hp]; omega
      have p1 : wrap64 (i - 1) < (l.length : Int) := by rw [hp]; omega
      by_cases c6 : (rd_T35 l i).f0 ≤ (rd_T35 l (wrap64 (i - 1))).f0
      · exact ⟨10, Ev.step (fun k => spileref22_Shares.l0.eq_2 ..) (evp h1 (evp h0 (evn c1 (evn c2 (evn c3 (evn c4 (evp c5 (evp p0 (evp p1 (evp c6 (Ev.now _)))))))))) ), fun _ => Ev.step (fun k => lot_shares.l0.eq_2 ..) (evp h1 (evp h0 (evp h1 (evn c1 (evn c2 (evn c3 (evn c4 (evp c5 (evp p0 (evp p1 (evp c6 (Ev.now _))))))))))) ), fun h => absurd h (by decide)⟩
      · refine ⟨e, Ev.step (fun k => spileref22_Shares.l0.eq_2 ..) (evp h1 (evp h0 (evn c1 (evn c2 (evn c3 (evn c4 (evp c5 (evp p0 (evp p1 (evn c6 q1)))))))))), fun h => Ev.step (fun k => lot_shares.l0.eq_2 ..) (evp h1 (evp h0 (evp h1 (evn c1 (evn c2 (evn c3 (evn c4 (evp c5 (evp p0 (evp p1 (evn c6 (q2 h)))))))))))), fun h => ?_⟩
        obtain ⟨t, q4, q5⟩ := q3 h
        exact ⟨t, Ev.step (fun k => spileref22_Alcohol.l0.eq_2 ..) (evp h1 (evp h0 q4)), Ev.step (fun k => lot_shares.l0.eq_2 ..) (evp h1 (evp h0 (evp h1 (evn c1 (evn c2 (evn c3 (evn c4 (evp c5 (evp p0 (evp p1 (evn c6 q5)))))))))))⟩
    · refine ⟨e, Ev.step (fun k => spileref22_Shares.l0.eq_2 ..) (evp h1 (evp h0 (evn c1 (evn c2 (evn c3 (evn c4 (evn c5 q1))))))), fun h => Ev.step (fun k => lot_shares.l0.eq_2 ..) (evp h1 (evp h0 (evp h1 (evn c1 (evn c2 (evn c3 (evn c4 (evn c5 (q2 h))))))))), fun h => ?_⟩
      obtain ⟨t, q4, q5⟩ := q3 h
      exact ⟨t, Ev.step (fun k => spileref22_Alcohol.l0.eq_2 ..) (evp h1 (evp h0 q4)), Ev.step (fun k => lot_shares.l0.eq_2 ..) (evp h1 (evp h0 (evp h1 (evn c1 (evn c2 (evn c3 (evn c4 (evn c5 q5))))))))⟩
/-- What is right in a lot's numbers. -/
def Wf33 (x : S33) : Prop := (-9223372036854775808 ≤ x.f1.f0 ∧ x.f1.f0 ≤ 9223372036854775807) ∧ (-9223372036854775808 ≤ x.f1.f1 ∧ x.f1.f1 ≤ 9223372036854775807) ∧ (x.f2.length : Int) ≤ 9223372036854775807
theorem shares_f_both (x : S33) (h : Wf33 x) : ∃ e, Ev (fun k => spileref22_Shares.f k x.f2) e ∧ (e ≠ 0 → Ev (fun k => lot_shares.f k x.f0 x.f1.f0 x.f1.f1 x.f2) e) ∧
    (e = 0 → ∃ t, Ev (fun k => spileref22_Alcohol.f k x.f2) t ∧ Ev (fun k => lot_shares.f k x.f0 x.f1.f0 x.f1.f1 x.f2) (if t = x.f1.f0 then 0 else 14)) := by
  by_cases c : (x.f2.length : Int) > 32
  · exact ⟨12, evp c (Ev.now _), fun _ => evp c (Ev.now _), fun h => absurd h (by decide)⟩
  · obtain ⟨e, q1, q2, q3⟩ := shares_both x.f2 h.2.2 x.f0 x.f1.f0 x.f1.f1 0 (by omega) (by omega) 0
    refine ⟨e, evn c q1, fun h => evn c (q2 h), fun h => ?_⟩
    obtain ⟨t, q4, q5⟩ := q3 h
    exact ⟨t, q4, evn c q5⟩
/-- A lot's fault, but for its number and place: both sides alike. -/
theorem one_both (x : S33) (h : Wf33 x) : ∃ e, Ev (fun k => spileref22_One.f k x.f0 x.f1.f0 x.f1.f1 x.f2) e ∧ Ev (fun k => lot_fault.j1 k false x.f0 x.f1.f0 x.f1.f1 x.f2) e := by
  have hp := lot_plain_ev x.f1.f0 x.f1.f1 h.1 h.2.1
  by_cases c : PlainP x.f1.f0 x.f1.f1
  · rw [decide_eq_true c] at hp
    have hr : Ev (fun _ : Nat => spileref21_Plain.f x.f1.f0 x.f1.f1) true := evc (fun _ => rfl) (by rw [ref_plain_eq, decide_eq_true c])
    by_cases c2 : x.f1.f1 = 0
    · refine ⟨1, evb hr (evp rfl (Ev.step (fun k => spileref22_One.j0.eq_2 ..) (evp (by simpa using c2) (Ev.now _)))), Ev.step (fun k => lot_fault.j1.eq_2 ..) (evn (by simp) (evb hp (evp rfl (evp c2 (Ev.now _)))))⟩
    · have c3 : ¬ (x.f1.f1 == 0) = true := by simpa using c2
      obtain ⟨e, q1, q2, q3⟩ := shares_f_both x h
      by_cases he : e = 0
      · obtain ⟨t, q4, q5⟩ := q3 he
        refine ⟨if t = x.f1.f0 then 0 else 14, evb hr (evp rfl (Ev.step (fun k => spileref22_One.j0.eq_2 ..) (evn c3 (evb q1 (evp he (evb q4 ?_)))))), Ev.step (fun k => lot_fault.j1.eq_2 ..) (evn (by simp) (evb hp (evp rfl (evn c2 (evb q5 (Ev.now _))))))⟩
        by_cases ht : t = x.f1.f0
        · rw [show (if t = x.f1.f0 then (0 : Int) else 14) = 0 from if_pos ht]; exact evp ht (Ev.now _)
        · rw [show (if t = x.f1.f0 then (0 : Int) else 14) = 14 from if_neg ht]; exact evn ht (Ev.now _)
      · exact ⟨e, evb hr (evp rfl (Ev.step (fun k => spileref22_One.j0.eq_2 ..) (evn c3 (evb q1 (evn he (Ev.now _)))))), Ev.step (fun k => lot_fault.j1.eq_2 ..) (evn (by simp) (evb hp (evp rfl (evn c2 (evb (q2 he) (Ev.now _))))))⟩
  · rw [decide_eq_false c] at hp
    have hr : Ev (fun _ : Nat => spileref21_Plain.f x.f1.f0 x.f1.f1) false := evc (fun _ => rfl) (by rw [ref_plain_eq, decide_eq_false c])
    exact ⟨1, evb hr (evn (by simp) (Ev.step (fun k => spileref22_One.j0.eq_2 ..) (evp rfl (Ev.now _)))), Ev.step (fun k => lot_fault.j1.eq_2 ..) (evn (by simp) (evb hp (evn (by simp) (Ev.now _))))⟩
theorem id_eq (x : Int) : spileref22_ID.f x = some (decide (1 ≤ x ∧ x ≤ 1073741824)) := by
  unfold spileref22_ID.f
  by_cases h : x ≥ 1
  · rw [if_pos h]
    by_cases h2 : x ≤ 1073741824
    · rw [decide_eq_true h2, decide_eq_true (⟨h, h2⟩ : 1 ≤ x ∧ x ≤ 1073741824)]
    · rw [decide_eq_false h2, decide_eq_false (fun q => h2 q.2)]
  · rw [if_neg h, decide_eq_false (fun q => h q.1)]
theorem check_loop (l : List S33) (hl : (l.length : Int) ≤ 9223372036854775807) (hw : ∀ i, 0 ≤ i → i < (l.length : Int) → Wf33 (rd_T33 l i)) : ∀ i, 0 ≤ i → i ≤ (l.length : Int) →
    ∃ r, Ev (fun k => lot_Check.l0 k l (l.length : Int) i) r ∧ Ev (fun k => spileref22_Check.l0 k l i) r := by
  refine count_up 0 (l.length : Int) _ ?_ ?_
  · exact ⟨(-1, 0), Ev.step (fun k => lot_Check.l0.eq_2 ..) (evn (by omega) (Ev.now _)), Ev.step (fun k => spileref22_Check.l0.eq_2 ..) (evn (by omega) (Ev.now _))⟩
  · intro i h0 h1 ih
    obtain ⟨r, q1, q2⟩ := ih
    rw [← w64_succ h0 h1 hl] at q1 q2
    by_cases c1 : (rd_T33 l i).f0 < 1
    · refine ⟨(i, 2), Ev.step (fun k => lot_Check.l0.eq_2 ..) (evp h1 (evb (a := 2) (evp h0 (evp h1 (evp c1 (Ev.step (fun k => lot_fault.j0.eq_2 ..) (evp rfl (Ev.now _)))))) (evn (by decide) (Ev.now _)))), Ev.step (fun k => spileref22_Check.l0.eq_2 ..) (evp h1 (evp h0 (evb (a := false) (evc (fun _ => rfl) ?_) (evn (by simp) (Ev.now _)))))⟩
      rw [id_eq, decide_eq_false (by omega)]
    by_cases c2 : (rd_T33 l i).f0 > 1073741824
    · refine ⟨(i, 2), Ev.step (fun k => lot_Check.l0.eq_2 ..) (evp h1 (evb (a := 2) (evp h0 (evp h1 (evn c1 (Ev.step (fun k => lot_fault.j0.eq_2 ..) (evp (decide_eq_true c2) (Ev.now _)))))) (evn (by decide) (Ev.now _)))), Ev.step (fun k => spileref22_Check.l0.eq_2 ..) (evp h1 (evp h0 (evb (a := false) (evc (fun _ => rfl) ?_) (evn (by simp) (Ev.now _)))))⟩
      rw [id_eq, decide_eq_false (by omega)]
    have hid : Ev (fun _ : Nat => spileref22_ID.f (rd_T33 l i).f0) true := evc (fun _ => rfl) (by rw [id_eq, decide_eq_true (by omega)])
    have c2' : ¬ decide ((rd_T33 l i).f0 > 1073741824) = true := by simpa using c2
    obtain ⟨e, o1, o2⟩ := one_both (rd_T33 l i) (hw i h0 h1)
    have fin : ∀ (g : Nat → Option Int), Ev g e → ∀ (g2 : Nat → Option Int), Ev g2 e → ∃ r2, Ev (fun k => (g k).bind fun t => if t = 0 then lot_Check.l0 k l (l.length : Int) (wrap64 (i + 1)) else some (i, t)) r2 ∧ Ev (fun k => (g2 k).bind fun t => if t = 0 then spileref22_Check.l0 k l (wrap64 (i + 1)) else some (i, t)) r2 := by
      intro g hg g2 hg2
      by_cases he : e = 0
      · exact ⟨r, evb hg (evp he q1), evb hg2 (evp he q2)⟩
      · exact ⟨(i, e), evb hg (evn he (Ev.now _)), evb hg2 (evn he (Ev.now _))⟩
    by_cases c3 : i > 0
    · have hp := w64_pred h0 (Int.le_of_lt h1) hl
      have p0 : 0 ≤ wrap64 (i - 1) := by rw [hp]; omega
      have p1 : wrap64 (i - 1) < (l.length : Int) := by rw [hp]; omega
      by_cases c4 : (rd_T33 l i).f0 ≤ (rd_T33 l (wrap64 (i - 1))).f0
      · have F : Ev (fun k => lot_fault.f k l i) 5 := by
          refine evp h0 (evp h1 (evn c1 (Ev.step (fun k => lot_fault.j0.eq_2 ..) ?_)))
          refine evn c2' (evp c3 (evp p0 (evp p1 (Ev.step (fun k => lot_fault.j1.eq_2 ..) ?_))))
          exact evp (decide_eq_true c4) (Ev.now _)
        refine ⟨(i, 5), Ev.step (fun k => lot_Check.l0.eq_2 ..) (evp h1 (evb F (evn (by decide) (Ev.now _)))), Ev.step (fun k => spileref22_Check.l0.eq_2 ..) (evp h1 (evp h0 (evb hid (evp rfl ?_))))⟩
        exact evp c3 (evp p0 (evp p1 (Ev.step (fun k => spileref22_Check.j1.eq_2 ..) (evp (decide_eq_true c4) (Ev.now _)))))
      · have hd : decide ((rd_T33 l (wrap64 (i - 1))).f0 ≥ (rd_T33 l i).f0) = false := decide_eq_false c4
        have hd2 : ¬ decide ((rd_T33 l i).f0 ≤ (rd_T33 l (wrap64 (i - 1))).f0) = true := by simpa using c4
        have F : Ev (fun k => lot_fault.f k l i) e := by
          refine evp h0 (evp h1 (evn c1 (Ev.step (fun k => lot_fault.j0.eq_2 ..) ?_)))
          refine evn c2' (evp c3 (evp p0 (evp p1 ?_)))
          rw [hd]
          exact o2
        obtain ⟨r2, f1, f2⟩ := fin _ F _ o1
        refine ⟨r2, Ev.step (fun k => lot_Check.l0.eq_2 ..) (evp h1 f1), Ev.step (fun k => spileref22_Check.l0.eq_2 ..) (evp h1 (evp h0 (evb hid (evp rfl ?_))))⟩
        exact evp c3 (evp p0 (evp p1 (Ev.step (fun k => spileref22_Check.j1.eq_2 ..) (evn hd2 (evp h0 (evp h1 f2))))))
    · have F : Ev (fun k => lot_fault.f k l i) e := by
        refine evp h0 (evp h1 (evn c1 (Ev.step (fun k => lot_fault.j0.eq_2 ..) ?_)))
        exact evn c2' (evn c3 o2)
      obtain ⟨r2, f1, f2⟩ := fin _ F _ o1
      refine ⟨r2, Ev.step (fun k => lot_Check.l0.eq_2 ..) (evp h1 f1), Ev.step (fun k => spileref22_Check.l0.eq_2 ..) (evp h1 (evp h0 (evb hid (evp rfl ?_))))⟩
      exact evn c3 (Ev.step (fun k => spileref22_Check.j1.eq_2 ..) (evn (by simp) (evp h0 (evp h1 f2))))
theorem check_both (l : List S33) (hl : (l.length : Int) ≤ 9223372036854775807) (hw : ∀ i, 0 ≤ i → i < (l.length : Int) → Wf33 (rd_T33 l i)) :
    ∃ r, Ev (fun k => lot_Check.f k l) r ∧ Ev (fun k => spileref22_Check.f k l) r := by
  by_cases c : (l.length : Int) > 32
  · exact ⟨(-1, 8), evp c (Ev.now _), evp c (Ev.now _)⟩
  · obtain ⟨r, q1, q2⟩ := check_loop l hl hw 0 (by omega) (by omega)
    exact ⟨r, evn c q1, evn c q2⟩
def Few12 (l : List S35) : Prop := (l.length : Int) ≤ 12 ∨ (32 < (l.length : Int) ∧ (l.length : Int) ≤ 37)
instance (l : List S35) : Decidable (Few12 l) := by unfold Few12; infer_instance
theorem fewShares_eq (l : List S35) : spileref22_FewShares.f l = some (decide (Few12 l)) := by
  unfold spileref22_FewShares.f
  by_cases c : (l.length : Int) ≤ 12
  · rw [if_pos c, decide_eq_true (show Few12 l from Or.inl c)]
  · rw [if_neg c]
    by_cases c2 : (l.length : Int) > 32
    · rw [if_pos c2]
      by_cases c3 : (l.length : Int) ≤ 37
      · rw [decide_eq_true c3, decide_eq_true (show Few12 l from Or.inr ⟨c2, c3⟩)]
      · rw [decide_eq_false c3, decide_eq_false (show ¬ Few12 l from by unfold Few12; omega)]
    · rw [if_neg c2, decide_eq_false (show ¬ Few12 l from by unfold Few12; omega)]
theorem few_ev (l : List S33) (hl : (l.length : Int) ≤ 9223372036854775807) : ∃ b, Ev (fun k => spileref22_Few.f k l) b ∧ (b = true → (l.length : Int) ≤ 37 ∧ ∀ i, 0 ≤ i → i < (l.length : Int) → Few12 (rd_T33 l i).f2) := by
  have loop : ∀ i, 0 ≤ i → i ≤ (l.length : Int) → ∃ b, Ev (fun k => spileref22_Few.l0 k l i) b ∧ (b = true → ∀ j, i ≤ j → j < (l.length : Int) → Few12 (rd_T33 l j).f2) := by
    refine count_up 0 (l.length : Int) _ ?_ ?_
    · exact ⟨true, Ev.step (fun k => spileref22_Few.l0.eq_2 ..) (evn (by omega) (Ev.now _)), fun _ j g0 g1 => by omega⟩
    · intro i h0 h1 ih
      obtain ⟨b, q1, q2⟩ := ih
      rw [← w64_succ h0 h1 hl] at q1
      by_cases c : Few12 (rd_T33 l i).f2
      · refine ⟨b, Ev.step (fun k => spileref22_Few.l0.eq_2 ..) (evp h1 (evp h0 (evb (a := true) (evc (fun _ => rfl) (by rw [fewShares_eq, decide_eq_true c])) (evp rfl q1)))), fun hb j g0 g1 => ?_⟩
        by_cases e : j = i
        · rw [e]; exact c
        · exact q2 hb j (by omega) g1
      · exact ⟨false, Ev.step (fun k => spileref22_Few.l0.eq_2 ..) (evp h1 (evp h0 (evb (a := false) (evc (fun _ => rfl) (by rw [fewShares_eq, decide_eq_false c])) (evn (by simp) (Ev.now _))))), fun h => by cases h⟩
  obtain ⟨b, q1, q2⟩ := loop 0 (by omega) (by omega)
  have tail : ∃ b, Ev (fun k => spileref22_Few.j0 k l (decide ((l.length : Int) > 37))) b ∧ (b = true → (l.length : Int) ≤ 37 ∧ ∀ i, 0 ≤ i → i < (l.length : Int) → Few12 (rd_T33 l i).f2) := by
    by_cases c : (l.length : Int) > 37
    · exact ⟨false, Ev.step (fun k => spileref22_Few.j0.eq_2 ..) (evp (decide_eq_true c) (Ev.now _)), fun h => by cases h⟩
    · exact ⟨b, Ev.step (fun k => spileref22_Few.j0.eq_2 ..) (evn (by simpa using c) q1), fun hb => ⟨by omega, q2 hb⟩⟩
  obtain ⟨b2, t1, t2⟩ := tail
  by_cases c : (l.length : Int) > 8
  · by_cases c2 : (l.length : Int) ≤ 32
    · exact ⟨false, evp c (evp c2 (Ev.step (fun k => spileref22_Few.j0.eq_2 ..) (evp rfl (Ev.now _)))), fun h => by cases h⟩
    · exact ⟨b2, evp c (evn c2 t1), t2⟩
  · exact ⟨b2, evn c t1, t2⟩
theorem sameShares_ev (l : List S35) (hl : (l.length : Int) ≤ 9223372036854775807) : Ev (fun k => spileref22_SameShares.f k l l) true := by
  refine evp rfl (count_up 0 (l.length : Int) (fun i => Ev (fun k => spileref22_SameShares.l0 k l l i) true) ?_ ?_ 0 (by omega) (by omega))
  · exact Ev.step (fun k => spileref22_SameShares.l0.eq_2 ..) (evn (by omega) (Ev.now _))
  · intro i h0 h1 ih
    rw [← w64_succ h0 h1 hl] at ih
    exact Ev.step (fun k => spileref22_SameShares.l0.eq_2 ..) (evp h1 (evp h0 (evp h1 (evn (by simp) ih))))
theorem sameLot_ev (a b c : Int) (l : List S35) (hl : (l.length : Int) ≤ 9223372036854775807) : Ev (fun k => spileref22_SameLot.f k a b c l a b c l) true :=
  evp rfl (evp (by simp) (evb (sameShares_ev l hl) (Ev.now _)))
theorem copied_eq (l : List S35) (h : l.length < 8796093022208) : api_Share.f l = some l := by
  unfold api_Share.f
  simp [h]
end Go.Proofs.YtgjoenoknknoiaaDoor.PL
