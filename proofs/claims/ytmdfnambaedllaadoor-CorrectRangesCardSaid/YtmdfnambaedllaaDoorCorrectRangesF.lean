/-
The law CorrectRanges returns true for every input that can be read as data, and leaves its arguments as they were: the row, and the card that ties the listed variables to the program's text.
No condition of its own beyond those that the given row prints.
-/
import Derived.Test.YtmdfnambaedllaaDoorCards
import Derived.Test.YtmdfnambaedllaaDoorTie
import Derived.ProofKit
import Derived.OpenShut
import Derived.ShutString
import Derived.ChangeOld
import Derived.SizedLaws
import Derived.LaidMore
import Derived.Handed
import Derived.SevenTiedAt
import Derived.LaidSub
import Derived.LaidOnce
import Derived.Stop.Joined
import Derived.Stop.LaidErr
import Derived.Test.YtmdfnambaedllaaDoorCorrectRangesE
namespace Go.Proofs.YtmdfnambaedllaaDoor.Pr
open Go.RowKit Go.Proofs.YtmdfnambaedllaaDoorW.PrintWords Go.Proofs.YtmdfnambaedllaaDoorW.PrintLast Go.Proofs.YtmdfnambaedllaaDoorW.PrintMore Go.Proofs.YtmdfnambaedllaaDoor.X
attribute [local go_sem] max2_int min2_int max_two min_two max_three min_three max_four min_four   -- for this text's walks alone
set_option linter.unusedVariables false
set_option linter.unusedSimpArgs false
attribute [local go_sem high] eqA29
def spilelaw19_CorrectRanges.f (k : Nat) (l0_0 : List Int) (l0_1 : List Int) (l0_2 : List (List Int)) (a1 : Int) (a2 : Int) (a3 : Int) (a4 : Int) : Option (Bool) := (spilelaw19_awake.f).bind fun t268 => (if t268 = true then ((spileref19_Few.f k l0_0 l0_1 l0_2).bind fun t269 => (if t269 = true then ((correct_Around.f k l0_0 l0_1 l0_2 a1 a2 a3 a4).bind fun bt270 => ((spileref19_Around.f k l0_0 l0_1 l0_2 a1 a2 a3 a4).bind fun bt274 => (if (bt270.1 == bt274.1 && (bt270.2.1 == bt274.2.1)) = true then (some (bt270.2.2 == bt274.2.2)) else (some false)))) else (some true))) else (some false))
theorem spilelaw19_CorrectRanges.mono : ∀ a0 a1 a2 a3 a4 a5 a6 k, LeO (spilelaw19_CorrectRanges.f k a0 a1 a2 a3 a4 a5 a6) (spilelaw19_CorrectRanges.f (k + 1) a0 a1 a2 a3 a4 a5 a6) := by
 intro a0 a1 a2 a3 a4 a5 a6 k
 unfold spilelaw19_CorrectRanges.f
 repeat' first
   | (with_reducible exact correct_Around.mono _ _ _ _ _ _ _ _)
   | (with_reducible exact spileref19_Around.mono _ _ _ _ _ _ _ _)
   | (with_reducible exact spileref19_Few.mono _ _ _ _)
   | (with_reducible exact LeO.refl _)
   | (with_reducible exact LeO.none _)
   | (with_reducible refine LeO.ite ?_ ?_)
   | (with_reducible refine LeO.bind ?_ (fun _ => ?_))
   | exact correct_Around.mono _ _ _ _ _ _ _ _
   | exact spileref19_Around.mono _ _ _ _ _ _ _ _
   | exact spileref19_Few.mono _ _ _ _
   | exact LeO.none _
   | refine LeO.ite ?_ ?_
   | refine LeO.bind ?_ (fun _ => ?_)
set_option maxHeartbeats 8000000 in
set_option maxRecDepth 100000 in
theorem spilelaw19_CorrectRanges.calls (k : Nat) (A0_0 : Option Addr) (c0_0 : Nat) (l0_0 : List Int) (A0_1 : Option Addr) (c0_1 : Nat) (l0_1 : List Int) (A0_2 : Option Addr) (c0_2 : Nat) (l0_2 : List (List Int)) (a1 : Int) (a2 : Int) (a3 : Int) (a4 : Int) (r : Bool) (w : World) (hr0_0 : Kd.C (Kd.int .i64) w A0_0 l0_0.length l0_0) (hc0_0 : l0_0.length ≤ c0_0) (hr0_1 : Kd.C (Kd.int .i64) w A0_1 l0_1.length l0_1) (hc0_1 : l0_1.length ≤ c0_1) (hr0_2 : Kd.C (Kd.slice 3 (Kd.int .i64)) w A0_2 l0_2.length l0_2) (hc0_2 : l0_2.length ≤ c0_2) (hG : GI w) (h : spilelaw19_CorrectRanges.f k l0_0 l0_1 l0_2 a1 a2 a3 a4 = some r) :
  Calls Tryd.prog 3 #[.agg #[.slice A0_0 l0_0.length c0_0, .slice A0_1 l0_1.length c0_1, .slice A0_2 l0_2.length c0_2], .int .i64 a1, .int .i64 a2, .int .i64 a3, .int .i64 a4] w fun e w' => e = .returned (.bool r) ∧ Below w.heap.size w w' := by
 have hu25 := Tryd.underlying25
 have hu29 := Tryd.underlying29
 have HR0_0 := Aside0.mk hr0_0
 have HC0_0 := Aside0.mk hc0_0
 clear hr0_0 hc0_0
 have HR0_1 := Aside0.mk hr0_1
 have HC0_1 := Aside0.mk hc0_1
 clear hr0_1 hc0_1
 have HR0_2 := Aside0.mk hr0_2
 have HC0_2 := Aside0.mk hc0_2
 clear hr0_2 hc0_2
 have HG := Aside0.mk hG
 clear hG
 have HB := Aside0.mk (Below.refl w.heap.size w)
 have H : ((spilelaw19_awake.f).bind fun t268 => (if t268 = true then ((spileref19_Few.f k l0_0 l0_1 l0_2).bind fun t269 => (if t269 = true then ((correct_Around.f k l0_0 l0_1 l0_2 a1 a2 a3 a4).bind fun bt270 => ((spileref19_Around.f k l0_0 l0_1 l0_2 a1 a2 a3 a4).bind fun bt274 => (if (bt270.1 == bt274.1 && (bt270.2.1 == bt274.2.1)) = true then (some (bt270.2.2 == bt274.2.2)) else (some false)))) else (some true))) else (some false))) = some r := h
 clear h
 replace H := Option.bind_eq_some_iff.mp H
 obtain ⟨t268, A60, H⟩ := H
 replace H : (if t268 = true then ((spileref19_Few.f k l0_0 l0_1 l0_2).bind fun t269 => (if t269 = true then ((correct_Around.f k l0_0 l0_1 l0_2 a1 a2 a3 a4).bind fun bt270 => ((spileref19_Around.f k l0_0 l0_1 l0_2 a1 a2 a3 a4).bind fun bt274 => (if (bt270.1 == bt274.1 && (bt270.2.1 == bt274.2.1)) = true then (some (bt270.2.2 == bt274.2.2)) else (some false)))) else (some true))) else (some false)) = some r := H
 have A6 := Aside0.mk A60
 clear A60
 by_cases c7 : t268 = true
 ·
  subst c7
  have H1 : ((spileref19_Few.f k l0_0 l0_1 l0_2).bind fun t269 => (if t269 = true then ((correct_Around.f k l0_0 l0_1 l0_2 a1 a2 a3 a4).bind fun bt270 => ((spileref19_Around.f k l0_0 l0_1 l0_2 a1 a2 a3 a4).bind fun bt274 => (if (bt270.1 == bt274.1 && (bt270.2.1 == bt274.2.1)) = true then (some (bt270.2.2 == bt274.2.2)) else (some false)))) else (some true))) = some r := by rw [if_pos rfl] at H; exact H
  clear H
  have H := H1
  clear H1
  replace H := Option.bind_eq_some_iff.mp H
  obtain ⟨t269, A80, H⟩ := H
  replace H : (if t269 = true then ((correct_Around.f k l0_0 l0_1 l0_2 a1 a2 a3 a4).bind fun bt270 => ((spileref19_Around.f k l0_0 l0_1 l0_2 a1 a2 a3 a4).bind fun bt274 => (if (bt270.1 == bt274.1 && (bt270.2.1 == bt274.2.1)) = true then (some (bt270.2.2 == bt274.2.2)) else (some false)))) else (some true)) = some r := H
  have A8 := Aside0.mk A80
  clear A80
  by_cases c9 : t269 = true
  ·
   subst c9
   have H1 : ((correct_Around.f k l0_0 l0_1 l0_2 a1 a2 a3 a4).bind fun bt270 => ((spileref19_Around.f k l0_0 l0_1 l0_2 a1 a2 a3 a4).bind fun bt274 => (if (bt270.1 == bt274.1 && (bt270.2.1 == bt274.2.1)) = true then (some (bt270.2.2 == bt274.2.2)) else (some false)))) = some r := by rw [if_pos rfl] at H; exact H
   clear H
   have H := H1
   clear H1
   replace H := Option.bind_eq_some_iff.mp H
   obtain ⟨⟨t270, t271, t272⟩, A100, H⟩ := H
   replace H : ((spileref19_Around.f k l0_0 l0_1 l0_2 a1 a2 a3 a4).bind fun bt274 => (if (t270 == bt274.1 && (t271 == bt274.2.1)) = true then (some (t272 == bt274.2.2)) else (some false))) = some r := H
   have A10 := Aside0.mk A100
   clear A100
   replace H := Option.bind_eq_some_iff.mp H
   obtain ⟨⟨t274, t275, t276⟩, A110, H⟩ := H
   replace H : (if (t270 == t274 && (t271 == t275)) = true then (some (t272 == t276)) else (some false)) = some r := H
   have A11 := Aside0.mk A110
   clear A110
   by_cases c12 : (t270 == t274 && (t271 == t275)) = true
   ·
    rw [if_pos c12] at H
    have c12b0 : (t270 == t274 && (t271 == t275)) = true := c12
    (try (have c12b1 : decide (t270 = t274 && (t271 == t275)) = true := by simpa using c12))
    (try (have c12b2 : (t270 == t274 && (t271 == t275)) = true := by simpa using c12))
    clear c12
    obtain rfl := Option.some.inj H
    go_enter Tryd.func3, Tryd.ntmps3
    go_wp2_with (first | ((with_reducible refine gate_dst (N := 5) rfl ?_); refine box_event ?hg (N := 5) ?hd (cs := #[.slice A0_0 l0_0.length c0_0, .slice A0_1 l0_1.length c0_1, .slice A0_2 l0_2.length c0_2]) (t := 25) ?hr ?_; (case hd => rfl); (case hg => rfl); (case hr => first | (go_simp; done) | (go_simp; rfl)); intro gb267 hg w13 hbox hb; have n0_ := Aside0.mk (below_step (by repeat (first | (with_reducible first | exact HB.out | apply below_alloc | apply pw_below_drewN | apply below_drew1) | exact HB.out)) hb); have n1_ := Aside0.mk (hbox); have n2_ := Aside0.mk ((by rw [hg]; exact (below_size (by repeat (first | (with_reducible first | exact HB.out | apply below_alloc | apply pw_below_drewN | apply below_drew1) | exact HB.out))) : w.heap.size ≤ gb267)); have n3_ := Aside0.mk ((by rw [hg]; exact (below_size (by repeat (first | (with_reducible first | exact HB.out | apply below_alloc | apply pw_below_drewN | apply below_drew1) | exact HB.out))) : w.heap.size ≤ gb267)); clear HB; have HB := n0_; have BK267 := n1_; have GW267 := n2_; have GE267 := n3_; clear n0_ n1_ n2_ n3_; clear hb hbox hg) | ((with_reducible refine gate_callee (f := 10) rfl ?_); refine goesL_ (some 15) rfl rfl Tryd.func10 (by kernel_rfl) rfl #[] rfl (by (try simp only [List.map_toArray, List.map_cons, List.map_nil]); first | done | rfl | (simp only [List.length_drop, List.length_take]; rfl)) ?_; (with_reducible refine (spilelaw19_awake.calls  true _ ?side1 A6.out).mono ?_); (case side1 => exact GI.below HG.out (by repeat (first | (with_reducible first | exact HB.out | apply below_alloc | apply pw_below_drewN | apply below_drew1 | refine below_set ?_ GE267.out) | exact HB.out))); rintro e w14 ⟨rfl, hb⟩; refine ⟨_, rfl, ?_⟩; have n0_ := Aside0.mk (blk_below (g := gb267) (o := .cells #[.slice A0_0 l0_0.length c0_0, .slice A0_1 l0_1.length c0_1, .slice A0_2 l0_2.length c0_2] 25 (0, 0)) (by (with_reducible repeat (first | refine blk_drewN ?_ _ | refine blk_drew ?_ | refine blk_alloc ?_ _)); exact BK267.out) hb); have n1_ := Aside0.mk (below_step (by repeat (first | (with_reducible first | exact HB.out | apply below_alloc | apply pw_below_drewN | apply below_drew1 | refine below_set ?_ GE267.out) | exact HB.out)) hb); clear BK267; clear HB; have BK267 := n0_; have HB := n1_; clear n0_ n1_; (try clear hb); (try clear hb2); (try clear hk); (try clear hi); have hcz15_0 : w14.cell? ⟨gb267, 0, none⟩ = some (.slice A0_0 l0_0.length c0_0) := (blk_cell BK267.out 0).trans rfl; have hcz15_1 : w14.cell? ⟨gb267, 1, none⟩ = some (.slice A0_1 l0_1.length c0_1) := (blk_cell BK267.out 1).trans rfl; have hcz15_2 : w14.cell? ⟨gb267, 2, none⟩ = some (.slice A0_2 l0_2.length c0_2) := (blk_cell BK267.out 2).trans rfl; have hfz15_0 := blk_frozen BK267.out 0; have hfz15_1 := blk_frozen BK267.out 1; have hfz15_2 := blk_frozen BK267.out 2) | ((with_reducible refine gate_callee (f := 11) rfl ?_); refine goesL_ (some 18) rfl rfl Tryd.func11 (by kernel_rfl) rfl #[.agg #[.slice A0_0 l0_0.length c0_0, .slice A0_1 l0_1.length c0_1, .slice A0_2 l0_2.length c0_2]] rfl (by (try simp only [List.map_toArray, List.map_cons, List.map_nil]); first | done | rfl | (simp only [List.length_drop, List.length_take]; rfl)) ?_; (with_reducible refine (spileref19_Few.calls k _ _ l0_0 _ _ l0_1 _ _ l0_2 true _ ?side1 ?side2 ?side3 ?side4 ?side5 ?side6 A8.out).mono ?_); (case side1 => repeat (first | exact (Kd.C_below HR0_0.out HB.out) | (with_reducible refine Kd.C_alloc ?_ _) | (with_reducible refine Kd.C_drewN ?_ _) | (with_reducible refine Kd.C_drew ?_))); (case side2 => exact HC0_0.out); (case side3 => repeat (first | exact (Kd.C_below HR0_1.out HB.out) | (with_reducible refine Kd.C_alloc ?_ _) | (with_reducible refine Kd.C_drewN ?_ _) | (with_reducible refine Kd.C_drew ?_))); (case side4 => exact HC0_1.out); (case side5 => repeat (first | exact (Kd.C_below HR0_2.out HB.out) | (with_reducible refine Kd.C_alloc ?_ _) | (with_reducible refine Kd.C_drewN ?_ _) | (with_reducible refine Kd.C_drew ?_))); (case side6 => exact HC0_2.out); rintro e w16 ⟨rfl, hb⟩; refine ⟨_, rfl, ?_⟩; have n0_ := Aside0.mk (blk_below (g := gb267) (o := .cells #[.slice A0_0 l0_0.length c0_0, .slice A0_1 l0_1.length c0_1, .slice A0_2 l0_2.length c0_2] 25 (0, 0)) (by (with_reducible repeat (first | refine blk_drewN ?_ _ | refine blk_drew ?_ | refine blk_alloc ?_ _)); exact BK267.out) hb); have n1_ := Aside0.mk (below_step (by repeat (first | (with_reducible first | exact HB.out | apply below_alloc | apply pw_below_drewN | apply below_drew1 | refine below_set ?_ GE267.out) | exact HB.out)) hb); clear BK267; clear HB; have BK267 := n0_; have HB := n1_; clear n0_ n1_; (try clear hb); (try clear hb2); (try clear hk); (try clear hi); have hcz17_0 : w16.cell? ⟨gb267, 0, none⟩ = some (.slice A0_0 l0_0.length c0_0) := (blk_cell BK267.out 0).trans rfl; have hcz17_1 : w16.cell? ⟨gb267, 1, none⟩ = some (.slice A0_1 l0_1.length c0_1) := (blk_cell BK267.out 1).trans rfl; have hcz17_2 : w16.cell? ⟨gb267, 2, none⟩ = some (.slice A0_2 l0_2.length c0_2) := (blk_cell BK267.out 2).trans rfl; have hfz17_0 := blk_frozen BK267.out 0; have hfz17_1 := blk_frozen BK267.out 1; have hfz17_2 := blk_frozen BK267.out 2) | ((with_reducible refine gate_callee (f := 12) rfl ?_); refine goesL_ (some 26) rfl rfl Tryd.func12 (by kernel_rfl) rfl #[.agg #[.slice A0_0 l0_0.length c0_0, .slice A0_1 l0_1.length c0_1, .slice A0_2 l0_2.length c0_2], .int .i64 a1, .int .i64 a2, .int .i64 a3, .int .i64 a4] rfl (by (try simp only [List.map_toArray, List.map_cons, List.map_nil]); first | done | rfl | (simp only [List.length_drop, List.length_take]; rfl)) ?_; (with_reducible refine (correct_Around.calls k _ _ l0_0 _ _ l0_1 _ _ l0_2 a1 a2 a3 a4 t270 t271 t272 _ ?side1 ?side2 ?side3 ?side4 ?side5 ?side6 A10.out).mono ?_); (case side1 => repeat (first | exact (Kd.C_below HR0_0.out HB.out) | (with_reducible refine Kd.C_alloc ?_ _) | (with_reducible refine Kd.C_drewN ?_ _) | (with_reducible refine Kd.C_drew ?_))); (case side2 => exact HC0_0.out); (case side3 => repeat (first | exact (Kd.C_below HR0_1.out HB.out) | (with_reducible refine Kd.C_alloc ?_ _) | (with_reducible refine Kd.C_drewN ?_ _) | (with_reducible refine Kd.C_drew ?_))); (case side4 => exact HC0_1.out); (case side5 => repeat (first | exact (Kd.C_below HR0_2.out HB.out) | (with_reducible refine Kd.C_alloc ?_ _) | (with_reducible refine Kd.C_drewN ?_ _) | (with_reducible refine Kd.C_drew ?_))); (case side6 => exact HC0_2.out); rintro e w18 ⟨rfl, hb⟩; refine ⟨_, rfl, ?_⟩; have n0_ := Aside0.mk (blk_below (g := gb267) (o := .cells #[.slice A0_0 l0_0.length c0_0, .slice A0_1 l0_1.length c0_1, .slice A0_2 l0_2.length c0_2] 25 (0, 0)) (by (with_reducible repeat (first | refine blk_drewN ?_ _ | refine blk_drew ?_ | refine blk_alloc ?_ _)); exact BK267.out) hb); have n1_ := Aside0.mk (below_step (by repeat (first | (with_reducible first | exact HB.out | apply below_alloc | apply pw_below_drewN | apply below_drew1 | refine below_set ?_ GE267.out) | exact HB.out)) hb); clear BK267; clear HB; have BK267 := n0_; have HB := n1_; clear n0_ n1_; (try clear hb); (try clear hb2); (try clear hk); (try clear hi)) | ((with_reducible refine gate_dst (N := 11) rfl ?_); refine box_event ?hg (N := 11) ?hd (cs := #[.int .i64 0, .int .i64 0]) (t := 29) ?hr ?_; (case hd => rfl); (case hg => rfl); (case hr => first | (go_simp; done) | (go_simp; rfl)); intro gb273 hg w19 hbox hb; have n0_ := Aside0.mk (blk_below (g := gb267) (o := .cells #[.slice A0_0 l0_0.length c0_0, .slice A0_1 l0_1.length c0_1, .slice A0_2 l0_2.length c0_2] 25 (0, 0)) (by (with_reducible repeat (first | refine blk_drewN ?_ _ | refine blk_drew ?_ | refine blk_alloc ?_ _)); exact BK267.out) hb); have n1_ := Aside0.mk (below_step (by repeat (first | (with_reducible first | exact HB.out | apply below_alloc | apply pw_below_drewN | apply below_drew1 | refine below_set ?_ GE267.out) | exact HB.out)) hb); have n2_ := Aside0.mk (hbox); have n3_ := Aside0.mk ((by rw [hg]; exact (below_size (by repeat (first | (with_reducible first | exact HB.out | apply below_alloc | apply pw_below_drewN | apply below_drew1 | refine below_set ?_ GE267.out) | exact HB.out))) : w.heap.size ≤ gb273)); have n4_ := Aside0.mk ((by rw [hg]; exact (below_size (by repeat (first | (with_reducible first | exact HB.out | apply below_alloc | apply pw_below_drewN | apply below_drew1 | refine below_set ?_ GE267.out) | exact HB.out))) : w.heap.size ≤ gb273)); have n5_ := Aside0.mk ((by rw [hg]; exact Nat.ne_of_lt (blk_lt (g := gb267) (o := .cells #[.slice A0_0 l0_0.length c0_0, .slice A0_1 l0_1.length c0_1, .slice A0_2 l0_2.length c0_2] 25 (0, 0)) (by (with_reducible repeat (first | refine blk_drewN ?_ _ | refine blk_drew ?_ | refine blk_alloc ?_ _)); exact BK267.out)) : gb267 ≠ gb273)); have n6_ := Aside0.mk ((by rw [hg]; exact Nat.ne_of_gt (blk_lt (g := gb267) (o := .cells #[.slice A0_0 l0_0.length c0_0, .slice A0_1 l0_1.length c0_1, .slice A0_2 l0_2.length c0_2] 25 (0, 0)) (by (with_reducible repeat (first | refine blk_drewN ?_ _ | refine blk_drew ?_ | refine blk_alloc ?_ _)); exact BK267.out)) : gb273 ≠ gb267)); clear BK267; clear HB; have BK267 := n0_; have HB := n1_; have BK273 := n2_; have GW273 := n3_; have GE273 := n4_; have NB267_273 := n5_; have NB273_267 := n6_; clear n0_ n1_ n2_ n3_ n4_ n5_ n6_; clear hb hbox hg; have hnb20 := NB273_267.out; have hnc20 := NB267_273.out; have hcz21_0 : w19.cell? ⟨gb273, 0, none⟩ = some (.int .i64 0) := (blk_cell BK273.out 0).trans rfl; have hcz21_1 : w19.cell? ⟨gb273, 1, none⟩ = some (.int .i64 0) := (blk_cell BK273.out 1).trans rfl; have hfz21_0 := blk_frozen BK273.out 0; have hfz21_1 := blk_frozen BK273.out 1; have hcz22_0 : w19.cell? ⟨gb267, 0, none⟩ = some (.slice A0_0 l0_0.length c0_0) := (blk_cell BK267.out 0).trans rfl; have hcz22_1 : w19.cell? ⟨gb267, 1, none⟩ = some (.slice A0_1 l0_1.length c0_1) := (blk_cell BK267.out 1).trans rfl; have hcz22_2 : w19.cell? ⟨gb267, 2, none⟩ = some (.slice A0_2 l0_2.length c0_2) := (blk_cell BK267.out 2).trans rfl; have hfz22_0 := blk_frozen BK267.out 0; have hfz22_1 := blk_frozen BK267.out 1; have hfz22_2 := blk_frozen BK267.out 2) | ((with_reducible refine gate_callee (f := 13) rfl ?_); refine goesL_ (some 35) rfl rfl Tryd.func13 (by kernel_rfl) rfl #[.agg #[.slice A0_0 l0_0.length c0_0, .slice A0_1 l0_1.length c0_1, .slice A0_2 l0_2.length c0_2], .int .i64 a1, .int .i64 a2, .int .i64 a3, .int .i64 a4] rfl (by (try simp only [List.map_toArray, List.map_cons, List.map_nil]); first | done | rfl | (simp only [List.length_drop, List.length_take]; rfl)) ?_; (with_reducible refine (spileref19_Around.calls k _ _ l0_0 _ _ l0_1 _ _ l0_2 a1 a2 a3 a4 t274 t275 t276 _ ?side1 ?side2 ?side3 ?side4 ?side5 ?side6 A11.out).mono ?_); (case side1 => exact Kd.C_below HR0_0.out (by repeat (first | (with_reducible first | exact HB.out | apply below_alloc | apply pw_below_drewN | apply below_drew1 | refine below_set ?_ GE267.out | refine below_set ?_ GE273.out) | exact HB.out))); (case side2 => exact HC0_0.out); (case side3 => exact Kd.C_below HR0_1.out (by repeat (first | (with_reducible first | exact HB.out | apply below_alloc | apply pw_below_drewN | apply below_drew1 | refine below_set ?_ GE267.out | refine below_set ?_ GE273.out) | exact HB.out))); (case side4 => exact HC0_1.out); (case side5 => exact Kd.C_below HR0_2.out (by repeat (first | (with_reducible first | exact HB.out | apply below_alloc | apply pw_below_drewN | apply below_drew1 | refine below_set ?_ GE267.out | refine below_set ?_ GE273.out) | exact HB.out))); (case side6 => exact HC0_2.out); rintro e w23 ⟨rfl, hb⟩; refine ⟨_, rfl, ?_⟩; have n0_ := Aside0.mk (blk_below (g := gb267) (o := .cells #[.slice A0_0 l0_0.length c0_0, .slice A0_1 l0_1.length c0_1, .slice A0_2 l0_2.length c0_2] 25 (0, 0)) (by (with_reducible repeat (first | refine blk_drewN ?_ _ | refine blk_drew ?_ | refine blk_alloc ?_ _)); refine blk_far ?_ NB267_273.out _; (with_reducible repeat (first | refine blk_drewN ?_ _ | refine blk_drew ?_ | refine blk_alloc ?_ _)); refine blk_far ?_ NB267_273.out _; (with_reducible repeat (first | refine blk_drewN ?_ _ | refine blk_drew ?_ | refine blk_alloc ?_ _)); exact BK267.out) hb); have n1_ := Aside0.mk (blk_below (g := gb273) (o := .cells #[.int .i64 t270, .int .i64 t271] 29 (0, 0)) (by (with_reducible repeat (first | refine blk_drewN ?_ _ | refine blk_drew ?_ | refine blk_alloc ?_ _)); refine blk_put (cs := #[.int .i64 t270, .int .i64 0]) ?_ 1 _ rfl; (with_reducible repeat (first | refine blk_drewN ?_ _ | refine blk_drew ?_ | refine blk_alloc ?_ _)); refine blk_put (cs := #[.int .i64 0, .int .i64 0]) ?_ 0 _ rfl; (with_reducible repeat (first | refine blk_drewN ?_ _ | refine blk_drew ?_ | refine blk_alloc ?_ _)); exact BK273.out) hb); have n2_ := Aside0.mk (below_step (by repeat (first | (with_reducible first | exact HB.out | apply below_alloc | apply pw_below_drewN | apply below_drew1 | refine below_set ?_ GE267.out | refine below_set ?_ GE273.out) | exact HB.out)) hb); clear BK267; clear BK273; clear HB; have BK267 := n0_; have BK273 := n1_; have HB := n2_; clear n0_ n1_ n2_; (try clear hb); (try clear hb2); (try clear hk); (try clear hi)) | ((with_reducible refine gate_dst (N := 13) rfl ?_); refine box_event ?hg (N := 13) ?hd (cs := #[.int .i64 0, .int .i64 0]) (t := 29) ?hr ?_; (case hd => rfl); (case hg => rfl); (case hr => first | (go_simp; done) | (go_simp; rfl)); intro gb277 hg w24 hbox hb; have n0_ := Aside0.mk (blk_below (g := gb267) (o := .cells #[.slice A0_0 l0_0.length c0_0, .slice A0_1 l0_1.length c0_1, .slice A0_2 l0_2.length c0_2] 25 (0, 0)) (by (with_reducible repeat (first | refine blk_drewN ?_ _ | refine blk_drew ?_ | refine blk_alloc ?_ _)); exact BK267.out) hb); have n1_ := Aside0.mk (blk_below (g := gb273) (o := .cells #[.int .i64 t270, .int .i64 t271] 29 (0, 0)) (by (with_reducible repeat (first | refine blk_drewN ?_ _ | refine blk_drew ?_ | refine blk_alloc ?_ _)); exact BK273.out) hb); have n2_ := Aside0.mk (below_step (by repeat (first | (with_reducible first | exact HB.out | apply below_alloc | apply pw_below_drewN | apply below_drew1 | refine below_set ?_ GE267.out | refine below_set ?_ GE273.out) | exact HB.out)) hb); have n3_ := Aside0.mk (hbox); have n4_ := Aside0.mk ((by rw [hg]; exact (below_size (by repeat (first | (with_reducible first | exact HB.out | apply below_alloc | apply pw_below_drewN | apply below_drew1 | refine below_set ?_ GE267.out | refine below_set ?_ GE273.out) | exact HB.out))) : w.heap.size ≤ gb277)); have n5_ := Aside0.mk ((by rw [hg]; exact (below_size (by repeat (first | (with_reducible first | exact HB.out | apply below_alloc | apply pw_below_drewN | apply below_drew1 | refine below_set ?_ GE267.out | refine below_set ?_ GE273.out) | exact HB.out))) : w.heap.size ≤ gb277)); have n6_ := Aside0.mk ((by rw [hg]; exact Nat.ne_of_lt (blk_lt (g := gb267) (o := .cells #[.slice A0_0 l0_0.length c0_0, .slice A0_1 l0_1.length c0_1, .slice A0_2 l0_2.length c0_2] 25 (0, 0)) (by (with_reducible repeat (first | refine blk_drewN ?_ _ | refine blk_drew ?_ | refine blk_alloc ?_ _)); exact BK267.out)) : gb267 ≠ gb277)); have n7_ := Aside0.mk ((by rw [hg]; exact Nat.ne_of_gt (blk_lt (g := gb267) (o := .cells #[.slice A0_0 l0_0.length c0_0, .slice A0_1 l0_1.length c0_1, .slice A0_2 l0_2.length c0_2] 25 (0, 0)) (by (with_reducible repeat (first | refine blk_drewN ?_ _ | refine blk_drew ?_ | refine blk_alloc ?_ _)); exact BK267.out)) : gb277 ≠ gb267)); have n8_ := Aside0.mk ((by rw [hg]; exact Nat.ne_of_lt (blk_lt (g := gb273) (o := .cells #[.int .i64 t270, .int .i64 t271] 29 (0, 0)) (by (with_reducible repeat (first | refine blk_drewN ?_ _ | refine blk_drew ?_ | refine blk_alloc ?_ _)); exact BK273.out)) : gb273 ≠ gb277)); have n9_ := Aside0.mk ((by rw [hg]; exact Nat.ne_of_gt (blk_lt (g := gb273) (o := .cells #[.int .i64 t270, .int .i64 t271] 29 (0, 0)) (by (with_reducible repeat (first | refine blk_drewN ?_ _ | refine blk_drew ?_ | refine blk_alloc ?_ _)); exact BK273.out)) : gb277 ≠ gb273)); clear BK267; clear BK273; clear HB; have BK267 := n0_; have BK273 := n1_; have HB := n2_; have BK277 := n3_; have GW277 := n4_; have GE277 := n5_; have NB267_277 := n6_; have NB277_267 := n7_; have NB273_277 := n8_; have NB277_273 := n9_; clear n0_ n1_ n2_ n3_ n4_ n5_ n6_ n7_ n8_ n9_; clear hb hbox hg; have hnb25 := NB277_267.out; have hnc25 := NB267_277.out; have hnb26 := NB277_273.out; have hnc26 := NB273_277.out; have hcz27_0 : w24.cell? ⟨gb277, 0, none⟩ = some (.int .i64 0) := (blk_cell BK277.out 0).trans rfl; have hcz27_1 : w24.cell? ⟨gb277, 1, none⟩ = some (.int .i64 0) := (blk_cell BK277.out 1).trans rfl; have hfz27_0 := blk_frozen BK277.out 0; have hfz27_1 := blk_frozen BK277.out 1; have hcz28_0 : w24.cell? ⟨gb273, 0, none⟩ = some (.int .i64 t270) := (blk_cell BK273.out 0).trans rfl; have hcz28_1 : w24.cell? ⟨gb273, 1, none⟩ = some (.int .i64 t271) := (blk_cell BK273.out 1).trans rfl; have hfz28_0 := blk_frozen BK273.out 0; have hfz28_1 := blk_frozen BK273.out 1))
    go_ret
    exact ⟨by first | rfl | (simp [errW_none, errW_some] <;> rfl) | (simp [*, errW_none, errW_some] <;> rfl), by repeat (first | (with_reducible first | exact HB.out | apply below_alloc | apply pw_below_drewN | apply below_drew1 | refine below_set ?_ GE267.out | refine below_set ?_ GE273.out | refine below_set ?_ GE277.out) | exact HB.out)⟩
   ·
    rw [if_neg c12] at H
    have c12b0 : (t270 == t274 && (t271 == t275)) = false := by simpa using c12
    (try (have c12b1 : decide (t270 = t274 && (t271 == t275)) = false := by simpa using c12))
    (try (have c12b2 : (t270 == t274 && (t271 == t275)) = false := by simpa using c12))
    (try (have c12b3 : ¬ (t270 = t274 && (t271 == t275)) := by simpa using c12))
    clear c12
    obtain rfl := Option.some.inj H
    go_enter Tryd.func3, Tryd.ntmps3
    go_wp2_with (first | ((with_reducible refine gate_dst (N := 5) rfl ?_); refine box_event ?hg (N := 5) ?hd (cs := #[.slice A0_0 l0_0.length c0_0, .slice A0_1 l0_1.length c0_1, .slice A0_2 l0_2.length c0_2]) (t := 25) ?hr ?_; (case hd => rfl); (case hg => rfl); (case hr => first | (go_simp; done) | (go_simp; rfl)); intro gb267 hg w29 hbox hb; have n0_ := Aside0.mk (below_step (by repeat (first | (with_reducible first | exact HB.out | apply below_alloc | apply pw_below_drewN | apply below_drew1) | exact HB.out)) hb); have n1_ := Aside0.mk (hbox); have n2_ := Aside0.mk ((by rw [hg]; exact (below_size (by repeat (first | (with_reducible first | exact HB.out | apply below_alloc | apply pw_below_drewN | apply below_drew1) | exact HB.out))) : w.heap.size ≤ gb267)); have n3_ := Aside0.mk ((by rw [hg]; exact (below_size (by repeat (first | (with_reducible first | exact HB.out | apply below_alloc | apply pw_below_drewN | apply below_drew1) | exact HB.out))) : w.heap.size ≤ gb267)); clear HB; have HB := n0_; have BK267 := n1_; have GW267 := n2_; have GE267 := n3_; clear n0_ n1_ n2_ n3_; clear hb hbox hg) | ((with_reducible refine gate_callee (f := 10) rfl ?_); refine goesL_ (some 15) rfl rfl Tryd.func10 (by kernel_rfl) rfl #[] rfl (by (try simp only [List.map_toArray, List.map_cons, List.map_nil]); first | done | rfl | (simp only [List.length_drop, List.length_take]; rfl)) ?_; (with_reducible refine (spilelaw19_awake.calls  true _ ?side1 A6.out).mono ?_); (case side1 => exact GI.below HG.out (by repeat (first | (with_reducible first | exact HB.out | apply below_alloc | apply pw_below_drewN | apply below_drew1 | refine below_set ?_ GE267.out) | exact HB.out))); rintro e w30 ⟨rfl, hb⟩; refine ⟨_, rfl, ?_⟩; have n0_ := Aside0.mk (blk_below (g := gb267) (o := .cells #[.slice A0_0 l0_0.length c0_0, .slice A0_1 l0_1.length c0_1, .slice A0_2 l0_2.length c0_2] 25 (0, 0)) (by (with_reducible repeat (first | refine blk_drewN ?_ _ | refine blk_drew ?_ | refine blk_alloc ?_ _)); exact BK267.out) hb); have n1_ := Aside0.mk (below_step (by repeat (first | (with_reducible first | exact HB.out | apply below_alloc | apply pw_below_drewN | apply below_drew1 | refine below_set ?_ GE267.out) | exact HB.out)) hb); clear BK267; clear HB; have BK267 := n0_; have HB := n1_; clear n0_ n1_; (try clear hb); (try clear hb2); (try clear hk); (try clear hi); have hcz31_0 : w30.cell? ⟨gb267, 0, none⟩ = some (.slice A0_0 l0_0.length c0_0) := (blk_cell BK267.out 0).trans rfl; have hcz31_1 : w30.cell? ⟨gb267, 1, none⟩ = some (.slice A0_1 l0_1.length c0_1) := (blk_cell BK267.out 1).trans rfl; have hcz31_2 : w30.cell? ⟨gb267, 2, none⟩ = some (.slice A0_2 l0_2.length c0_2) := (blk_cell BK267.out 2).trans rfl; have hfz31_0 := blk_frozen BK267.out 0; have hfz31_1 := blk_frozen BK267.out 1; have hfz31_2 := blk_frozen BK267.out 2) | ((with_reducible refine gate_callee (f := 11) rfl ?_); refine goesL_ (some 18) rfl rfl Tryd.func11 (by kernel_rfl) rfl #[.agg #[.slice A0_0 l0_0.length c0_0, .slice A0_1 l0_1.length c0_1, .slice A0_2 l0_2.length c0_2]] rfl (by (try simp only [List.map_toArray, List.map_cons, List.map_nil]); first | done | rfl | (simp only [List.length_drop, List.length_take]; rfl)) ?_; (with_reducible refine (spileref19_Few.calls k _ _ l0_0 _ _ l0_1 _ _ l0_2 true _ ?side1 ?side2 ?side3 ?side4 ?side5 ?side6 A8.out).mono ?_); (case side1 => repeat (first | exact (Kd.C_below HR0_0.out HB.out) | (with_reducible refine Kd.C_alloc ?_ _) | (with_reducible refine Kd.C_drewN ?_ _) | (with_reducible refine Kd.C_drew ?_))); (case side2 => exact HC0_0.out); (case side3 => repeat (first | exact (Kd.C_below HR0_1.out HB.out) | (with_reducible refine Kd.C_alloc ?_ _) | (with_reducible refine Kd.C_drewN ?_ _) | (with_reducible refine Kd.C_drew ?_))); (case side4 => exact HC0_1.out); (case side5 => repeat (first | exact (Kd.C_below HR0_2.out HB.out) | (with_reducible refine Kd.C_alloc ?_ _) | (with_reducible refine Kd.C_drewN ?_ _) | (with_reducible refine Kd.C_drew ?_))); (case side6 => exact HC0_2.out); rintro e w32 ⟨rfl, hb⟩; refine ⟨_, rfl, ?_⟩; have n0_ := Aside0.mk (blk_below (g := gb267) (o := .cells #[.slice A0_0 l0_0.length c0_0, .slice A0_1 l0_1.length c0_1, .slice A0_2 l0_2.length c0_2] 25 (0, 0)) (by (with_reducible repeat (first | refine blk_drewN ?_ _ | refine blk_drew ?_ | refine blk_alloc ?_ _)); exact BK267.out) hb); have n1_ := Aside0.mk (below_step (by repeat (first | (with_reducible first | exact HB.out | apply below_alloc | apply pw_below_drewN | apply below_drew1 | refine below_set ?_ GE267.out) | exact HB.out)) hb); clear BK267; clear HB; have BK267 := n0_; have HB := n1_; clear n0_ n1_; (try clear hb); (try clear hb2); (try clear hk); (try clear hi); have hcz33_0 : w32.cell? ⟨gb267, 0, none⟩ = some (.slice A0_0 l0_0.length c0_0) := (blk_cell BK267.out 0).trans rfl; have hcz33_1 : w32.cell? ⟨gb267, 1, none⟩ = some (.slice A0_1 l0_1.length c0_1) := (blk_cell BK267.out 1).trans rfl; have hcz33_2 : w32.cell? ⟨gb267, 2, none⟩ = some (.slice A0_2 l0_2.length c0_2) := (blk_cell BK267.out 2).trans rfl; have hfz33_0 := blk_frozen BK267.out 0; have hfz33_1 := blk_frozen BK267.out 1; have hfz33_2 := blk_frozen BK267.out 2) | ((with_reducible refine gate_callee (f := 12) rfl ?_); refine goesL_ (some 26) rfl rfl Tryd.func12 (by kernel_rfl) rfl #[.agg #[.slice A0_0 l0_0.length c0_0, .slice A0_1 l0_1.length c0_1, .slice A0_2 l0_2.length c0_2], .int .i64 a1, .int .i64 a2, .int .i64 a3, .int .i64 a4] rfl (by (try simp only [List.map_toArray, List.map_cons, List.map_nil]); first | done | rfl | (simp only [List.length_drop, List.length_take]; rfl)) ?_; (with_reducible refine (correct_Around.calls k _ _ l0_0 _ _ l0_1 _ _ l0_2 a1 a2 a3 a4 t270 t271 t272 _ ?side1 ?side2 ?side3 ?side4 ?side5 ?side6 A10.out).mono ?_); (case side1 => repeat (first | exact (Kd.C_below HR0_0.out HB.out) | (with_reducible refine Kd.C_alloc ?_ _) | (with_reducible refine Kd.C_drewN ?_ _) | (with_reducible refine Kd.C_drew ?_))); (case side2 => exact HC0_0.out); (case side3 => repeat (first | exact (Kd.C_below HR0_1.out HB.out) | (with_reducible refine Kd.C_alloc ?_ _) | (with_reducible refine Kd.C_drewN ?_ _) | (with_reducible refine Kd.C_drew ?_))); (case side4 => exact HC0_1.out); (case side5 => repeat (first | exact (Kd.C_below HR0_2.out HB.out) | (with_reducible refine Kd.C_alloc ?_ _) | (with_reducible refine Kd.C_drewN ?_ _) | (with_reducible refine Kd.C_drew ?_))); (case side6 => exact HC0_2.out); rintro e w34 ⟨rfl, hb⟩; refine ⟨_, rfl, ?_⟩; have n0_ := Aside0.mk (blk_below (g := gb267) (o := .cells #[.slice A0_0 l0_0.length c0_0, .slice A0_1 l0_1.length c0_1, .slice A0_2 l0_2.length c0_2] 25 (0, 0)) (by (with_reducible repeat (first | refine blk_drewN ?_ _ | refine blk_drew ?_ | refine blk_alloc ?_ _)); exact BK267.out) hb); have n1_ := Aside0.mk (below_step (by repeat (first | (with_reducible first | exact HB.out | apply below_alloc | apply pw_below_drewN | apply below_drew1 | refine below_set ?_ GE267.out) | exact HB.out)) hb); clear BK267; clear HB; have BK267 := n0_; have HB := n1_; clear n0_ n1_; (try clear hb); (try clear hb2); (try clear hk); (try clear hi)) | ((with_reducible refine gate_dst (N := 11) rfl ?_); refine box_event ?hg (N := 11) ?hd (cs := #[.int .i64 0, .int .i64 0]) (t := 29) ?hr ?_; (case hd => rfl); (case hg => rfl); (case hr => first | (go_simp; done) | (go_simp; rfl)); intro gb273 hg w35 hbox hb; have n0_ := Aside0.mk (blk_below (g := gb267) (o := .cells #[.slice A0_0 l0_0.length c0_0, .slice A0_1 l0_1.length c0_1, .slice A0_2 l0_2.length c0_2] 25 (0, 0)) (by (with_reducible repeat (first | refine blk_drewN ?_ _ | refine blk_drew ?_ | refine blk_alloc ?_ _)); exact BK267.out) hb); have n1_ := Aside0.mk (below_step (by repeat (first | (with_reducible first | exact HB.out | apply below_alloc | apply pw_below_drewN | apply below_drew1 | refine below_set ?_ GE267.out) | exact HB.out)) hb); have n2_ := Aside0.mk (hbox); have n3_ := Aside0.mk ((by rw [hg]; exact (below_size (by repeat (first | (with_reducible first | exact HB.out | apply below_alloc | apply pw_below_drewN | apply below_drew1 | refine below_set ?_ GE267.out) | exact HB.out))) : w.heap.size ≤ gb273)); have n4_ := Aside0.mk ((by rw [hg]; exact (below_size (by repeat (first | (with_reducible first | exact HB.out | apply below_alloc | apply pw_below_drewN | apply below_drew1 | refine below_set ?_ GE267.out) | exact HB.out))) : w.heap.size ≤ gb273)); have n5_ := Aside0.mk ((by rw [hg]; exact Nat.ne_of_lt (blk_lt (g := gb267) (o := .cells #[.slice A0_0 l0_0.length c0_0, .slice A0_1 l0_1.length c0_1, .slice A0_2 l0_2.length c0_2] 25 (0, 0)) (by (with_reducible repeat (first | refine blk_drewN ?_ _ | refine blk_drew ?_ | refine blk_alloc ?_ _)); exact BK267.out)) : gb267 ≠ gb273)); have n6_ := Aside0.mk ((by rw [hg]; exact Nat.ne_of_gt (blk_lt (g := gb267) (o := .cells #[.slice A0_0 l0_0.length c0_0, .slice A0_1 l0_1.length c0_1, .slice A0_2 l0_2.length c0_2] 25 (0, 0)) (by (with_reducible repeat (first | refine blk_drewN ?_ _ | refine blk_drew ?_ | refine blk_alloc ?_ _)); exact BK267.out)) : gb273 ≠ gb267)); clear BK267; clear HB; have BK267 := n0_; have HB := n1_; have BK273 := n2_; have GW273 := n3_; have GE273 := n4_; have NB267_273 := n5_; have NB273_267 := n6_; clear n0_ n1_ n2_ n3_ n4_ n5_ n6_; clear hb hbox hg; have hnb36 := NB273_267.out; have hnc36 := NB267_273.out; have hcz37_0 : w35.cell? ⟨gb273, 0, none⟩ = some (.int .i64 0) := (blk_cell BK273.out 0).trans rfl; have hcz37_1 : w35.cell? ⟨gb273, 1, none⟩ = some (.int .i64 0) := (blk_cell BK273.out 1).trans rfl; have hfz37_0 := blk_frozen BK273.out 0; have hfz37_1 := blk_frozen BK273.out 1; have hcz38_0 : w35.cell? ⟨gb267, 0, none⟩ = some (.slice A0_0 l0_0.length c0_0) := (blk_cell BK267.out 0).trans rfl; have hcz38_1 : w35.cell? ⟨gb267, 1, none⟩ = some (.slice A0_1 l0_1.length c0_1) := (blk_cell BK267.out 1).trans rfl; have hcz38_2 : w35.cell? ⟨gb267, 2, none⟩ = some (.slice A0_2 l0_2.length c0_2) := (blk_cell BK267.out 2).trans rfl; have hfz38_0 := blk_frozen BK267.out 0; have hfz38_1 := blk_frozen BK267.out 1; have hfz38_2 := blk_frozen BK267.out 2) | ((with_reducible refine gate_callee (f := 13) rfl ?_); refine goesL_ (some 35) rfl rfl Tryd.func13 (by kernel_rfl) rfl #[.agg #[.slice A0_0 l0_0.length c0_0, .slice A0_1 l0_1.length c0_1, .slice A0_2 l0_2.length c0_2], .int .i64 a1, .int .i64 a2, .int .i64 a3, .int .i64 a4] rfl (by (try simp only [List.map_toArray, List.map_cons, List.map_nil]); first | done | rfl | (simp only [List.length_drop, List.length_take]; rfl)) ?_; (with_reducible refine (spileref19_Around.calls k _ _ l0_0 _ _ l0_1 _ _ l0_2 a1 a2 a3 a4 t274 t275 t276 _ ?side1 ?side2 ?side3 ?side4 ?side5 ?side6 A11.out).mono ?_); (case side1 => exact Kd.C_below HR0_0.out (by repeat (first | (with_reducible first | exact HB.out | apply below_alloc | apply pw_below_drewN | apply below_drew1 | refine below_set ?_ GE267.out | refine below_set ?_ GE273.out) | exact HB.out))); (case side2 => exact HC0_0.out); (case side3 => exact Kd.C_below HR0_1.out (by repeat (first | (with_reducible first | exact HB.out | apply below_alloc | apply pw_below_drewN | apply below_drew1 | refine below_set ?_ GE267.out | refine below_set ?_ GE273.out) | exact HB.out))); (case side4 => exact HC0_1.out); (case side5 => exact Kd.C_below HR0_2.out (by repeat (first | (with_reducible first | exact HB.out | apply below_alloc | apply pw_below_drewN | apply below_drew1 | refine below_set ?_ GE267.out | refine below_set ?_ GE273.out) | exact HB.out))); (case side6 => exact HC0_2.out); rintro e w39 ⟨rfl, hb⟩; refine ⟨_, rfl, ?_⟩; have n0_ := Aside0.mk (blk_below (g := gb267) (o := .cells #[.slice A0_0 l0_0.length c0_0, .slice A0_1 l0_1.length c0_1, .slice A0_2 l0_2.length c0_2] 25 (0, 0)) (by (with_reducible repeat (first | refine blk_drewN ?_ _ | refine blk_drew ?_ | refine blk_alloc ?_ _)); refine blk_far ?_ NB267_273.out _; (with_reducible repeat (first | refine blk_drewN ?_ _ | refine blk_drew ?_ | refine blk_alloc ?_ _)); refine blk_far ?_ NB267_273.out _; (with_reducible repeat (first | refine blk_drewN ?_ _ | refine blk_drew ?_ | refine blk_alloc ?_ _)); exact BK267.out) hb); have n1_ := Aside0.mk (blk_below (g := gb273) (o := .cells #[.int .i64 t270, .int .i64 t271] 29 (0, 0)) (by (with_reducible repeat (first | refine blk_drewN ?_ _ | refine blk_drew ?_ | refine blk_alloc ?_ _)); refine blk_put (cs := #[.int .i64 t270, .int .i64 0]) ?_ 1 _ rfl; (with_reducible repeat (first | refine blk_drewN ?_ _ | refine blk_drew ?_ | refine blk_alloc ?_ _)); refine blk_put (cs := #[.int .i64 0, .int .i64 0]) ?_ 0 _ rfl; (with_reducible repeat (first | refine blk_drewN ?_ _ | refine blk_drew ?_ | refine blk_alloc ?_ _)); exact BK273.out) hb); have n2_ := Aside0.mk (below_step (by repeat (first | (with_reducible first | exact HB.out | apply below_alloc | apply pw_below_drewN | apply below_drew1 | refine below_set ?_ GE267.out | refine below_set ?_ GE273.out) | exact HB.out)) hb); clear BK267; clear BK273; clear HB; have BK267 := n0_; have BK273 := n1_; have HB := n2_; clear n0_ n1_ n2_; (try clear hb); (try clear hb2); (try clear hk); (try clear hi)) | ((with_reducible refine gate_dst (N := 13) rfl ?_); refine box_event ?hg (N := 13) ?hd (cs := #[.int .i64 0, .int .i64 0]) (t := 29) ?hr ?_; (case hd => rfl); (case hg => rfl); (case hr => first | (go_simp; done) | (go_simp; rfl)); intro gb277 hg w40 hbox hb; have n0_ := Aside0.mk (blk_below (g := gb267) (o := .cells #[.slice A0_0 l0_0.length c0_0, .slice A0_1 l0_1.length c0_1, .slice A0_2 l0_2.length c0_2] 25 (0, 0)) (by (with_reducible repeat (first | refine blk_drewN ?_ _ | refine blk_drew ?_ | refine blk_alloc ?_ _)); exact BK267.out) hb); have n1_ := Aside0.mk (blk_below (g := gb273) (o := .cells #[.int .i64 t270, .int .i64 t271] 29 (0, 0)) (by (with_reducible repeat (first | refine blk_drewN ?_ _ | refine blk_drew ?_ | refine blk_alloc ?_ _)); exact BK273.out) hb); have n2_ := Aside0.mk (below_step (by repeat (first | (with_reducible first | exact HB.out | apply below_alloc | apply pw_below_drewN | apply below_drew1 | refine below_set ?_ GE267.out | refine below_set ?_ GE273.out) | exact HB.out)) hb); have n3_ := Aside0.mk (hbox); have n4_ := Aside0.mk ((by rw [hg]; exact (below_size (by repeat (first | (with_reducible first | exact HB.out | apply below_alloc | apply pw_below_drewN | apply below_drew1 | refine below_set ?_ GE267.out | refine below_set ?_ GE273.out) | exact HB.out))) : w.heap.size ≤ gb277)); have n5_ := Aside0.mk ((by rw [hg]; exact (below_size (by repeat (first | (with_reducible first | exact HB.out | apply below_alloc | apply pw_below_drewN | apply below_drew1 | refine below_set ?_ GE267.out | refine below_set ?_ GE273.out) | exact HB.out))) : w.heap.size ≤ gb277)); have n6_ := Aside0.mk ((by rw [hg]; exact Nat.ne_of_lt (blk_lt (g := gb267) (o := .cells #[.slice A0_0 l0_0.length c0_0, .slice A0_1 l0_1.length c0_1, .slice A0_2 l0_2.length c0_2] 25 (0, 0)) (by (with_reducible repeat (first | refine blk_drewN ?_ _ | refine blk_drew ?_ | refine blk_alloc ?_ _)); exact BK267.out)) : gb267 ≠ gb277)); have n7_ := Aside0.mk ((by rw [hg]; exact Nat.ne_of_gt (blk_lt (g := gb267) (o := .cells #[.slice A0_0 l0_0.length c0_0, .slice A0_1 l0_1.length c0_1, .slice A0_2 l0_2.length c0_2] 25 (0, 0)) (by (with_reducible repeat (first | refine blk_drewN ?_ _ | refine blk_drew ?_ | refine blk_alloc ?_ _)); exact BK267.out)) : gb277 ≠ gb267)); have n8_ := Aside0.mk ((by rw [hg]; exact Nat.ne_of_lt (blk_lt (g := gb273) (o := .cells #[.int .i64 t270, .int .i64 t271] 29 (0, 0)) (by (with_reducible repeat (first | refine blk_drewN ?_ _ | refine blk_drew ?_ | refine blk_alloc ?_ _)); exact BK273.out)) : gb273 ≠ gb277)); have n9_ := Aside0.mk ((by rw [hg]; exact Nat.ne_of_gt (blk_lt (g := gb273) (o := .cells #[.int .i64 t270, .int .i64 t271] 29 (0, 0)) (by (with_reducible repeat (first | refine blk_drewN ?_ _ | refine blk_drew ?_ | refine blk_alloc ?_ _)); exact BK273.out)) : gb277 ≠ gb273)); clear BK267; clear BK273; clear HB; have BK267 := n0_; have BK273 := n1_; have HB := n2_; have BK277 := n3_; have GW277 := n4_; have GE277 := n5_; have NB267_277 := n6_; have NB277_267 := n7_; have NB273_277 := n8_; have NB277_273 := n9_; clear n0_ n1_ n2_ n3_ n4_ n5_ n6_ n7_ n8_ n9_; clear hb hbox hg; have hnb41 := NB277_267.out; have hnc41 := NB267_277.out; have hnb42 := NB277_273.out; have hnc42 := NB273_277.out; have hcz43_0 : w40.cell? ⟨gb277, 0, none⟩ = some (.int .i64 0) := (blk_cell BK277.out 0).trans rfl; have hcz43_1 : w40.cell? ⟨gb277, 1, none⟩ = some (.int .i64 0) := (blk_cell BK277.out 1).trans rfl; have hfz43_0 := blk_frozen BK277.out 0; have hfz43_1 := blk_frozen BK277.out 1; have hcz44_0 : w40.cell? ⟨gb273, 0, none⟩ = some (.int .i64 t270) := (blk_cell BK273.out 0).trans rfl; have hcz44_1 : w40.cell? ⟨gb273, 1, none⟩ = some (.int .i64 t271) := (blk_cell BK273.out 1).trans rfl; have hfz44_0 := blk_frozen BK273.out 0; have hfz44_1 := blk_frozen BK273.out 1))
    go_ret
    exact ⟨by first | rfl | (simp [errW_none, errW_some] <;> rfl) | (simp [*, errW_none, errW_some] <;> rfl), by repeat (first | (with_reducible first | exact HB.out | apply below_alloc | apply pw_below_drewN | apply below_drew1 | refine below_set ?_ GE267.out | refine below_set ?_ GE273.out | refine below_set ?_ GE277.out) | exact HB.out)⟩
  ·
   replace c9 := Bool.eq_false_iff.mpr c9
   subst c9
   have H1 : (some true) = some r := by rw [if_neg (show ¬ (false = true) by decide)] at H; exact H
   clear H
   have H := H1
   clear H1
   obtain rfl := Option.some.inj H
   go_enter Tryd.func3, Tryd.ntmps3
   go_wp2_with (first | ((with_reducible refine gate_dst (N := 5) rfl ?_); refine box_event ?hg (N := 5) ?hd (cs := #[.slice A0_0 l0_0.length c0_0, .slice A0_1 l0_1.length c0_1, .slice A0_2 l0_2.length c0_2]) (t := 25) ?hr ?_; (case hd => rfl); (case hg => rfl); (case hr => first | (go_simp; done) | (go_simp; rfl)); intro gb267 hg w45 hbox hb; have n0_ := Aside0.mk (below_step (by repeat (first | (with_reducible first | exact HB.out | apply below_alloc | apply pw_below_drewN | apply below_drew1) | exact HB.out)) hb); have n1_ := Aside0.mk (hbox); have n2_ := Aside0.mk ((by rw [hg]; exact (below_size (by repeat (first | (with_reducible first | exact HB.out | apply below_alloc | apply pw_below_drewN | apply below_drew1) | exact HB.out))) : w.heap.size ≤ gb267)); have n3_ := Aside0.mk ((by rw [hg]; exact (below_size (by repeat (first | (with_reducible first | exact HB.out | apply below_alloc | apply pw_below_drewN | apply below_drew1) | exact HB.out))) : w.heap.size ≤ gb267)); clear HB; have HB := n0_; have BK267 := n1_; have GW267 := n2_; have GE267 := n3_; clear n0_ n1_ n2_ n3_; clear hb hbox hg) | ((with_reducible refine gate_callee (f := 10) rfl ?_); refine goesL_ (some 15) rfl rfl Tryd.func10 (by kernel_rfl) rfl #[] rfl (by (try simp only [List.map_toArray, List.map_cons, List.map_nil]); first | done | rfl | (simp only [List.length_drop, List.length_take]; rfl)) ?_; (with_reducible refine (spilelaw19_awake.calls  true _ ?side1 A6.out).mono ?_); (case side1 => exact GI.below HG.out (by repeat (first | (with_reducible first | exact HB.out | apply below_alloc | apply pw_below_drewN | apply below_drew1 | refine below_set ?_ GE267.out) | exact HB.out))); rintro e w46 ⟨rfl, hb⟩; refine ⟨_, rfl, ?_⟩; have n0_ := Aside0.mk (blk_below (g := gb267) (o := .cells #[.slice A0_0 l0_0.length c0_0, .slice A0_1 l0_1.length c0_1, .slice A0_2 l0_2.length c0_2] 25 (0, 0)) (by (with_reducible repeat (first | refine blk_drewN ?_ _ | refine blk_drew ?_ | refine blk_alloc ?_ _)); exact BK267.out) hb); have n1_ := Aside0.mk (below_step (by repeat (first | (with_reducible first | exact HB.out | apply below_alloc | apply pw_below_drewN | apply below_drew1 | refine below_set ?_ GE267.out) | exact HB.out)) hb); clear BK267; clear HB; have BK267 := n0_; have HB := n1_; clear n0_ n1_; (try clear hb); (try clear hb2); (try clear hk); (try clear hi); have hcz47_0 : w46.cell? ⟨gb267, 0, none⟩ = some (.slice A0_0 l0_0.length c0_0) := (blk_cell BK267.out 0).trans rfl; have hcz47_1 : w46.cell? ⟨gb267, 1, none⟩ = some (.slice A0_1 l0_1.length c0_1) := (blk_cell BK267.out 1).trans rfl; have hcz47_2 : w46.cell? ⟨gb267, 2, none⟩ = some (.slice A0_2 l0_2.length c0_2) := (blk_cell BK267.out 2).trans rfl; have hfz47_0 := blk_frozen BK267.out 0; have hfz47_1 := blk_frozen BK267.out 1; have hfz47_2 := blk_frozen BK267.out 2) | ((with_reducible refine gate_callee (f := 11) rfl ?_); refine goesL_ (some 18) rfl rfl Tryd.func11 (by kernel_rfl) rfl #[.agg #[.slice A0_0 l0_0.length c0_0, .slice A0_1 l0_1.length c0_1, .slice A0_2 l0_2.length c0_2]] rfl (by (try simp only [List.map_toArray, List.map_cons, List.map_nil]); first | done | rfl | (simp only [List.length_drop, List.length_take]; rfl)) ?_; (with_reducible refine (spileref19_Few.calls k _ _ l0_0 _ _ l0_1 _ _ l0_2 false _ ?side1 ?side2 ?side3 ?side4 ?side5 ?side6 A8.out).mono ?_); (case side1 => repeat (first | exact (Kd.C_below HR0_0.out HB.out) | (with_reducible refine Kd.C_alloc ?_ _) | (with_reducible refine Kd.C_drewN ?_ _) | (with_reducible refine Kd.C_drew ?_))); (case side2 => exact HC0_0.out); (case side3 => repeat (first | exact (Kd.C_below HR0_1.out HB.out) | (with_reducible refine Kd.C_alloc ?_ _) | (with_reducible refine Kd.C_drewN ?_ _) | (with_reducible refine Kd.C_drew ?_))); (case side4 => exact HC0_1.out); (case side5 => repeat (first | exact (Kd.C_below HR0_2.out HB.out) | (with_reducible refine Kd.C_alloc ?_ _) | (with_reducible refine Kd.C_drewN ?_ _) | (with_reducible refine Kd.C_drew ?_))); (case side6 => exact HC0_2.out); rintro e w48 ⟨rfl, hb⟩; refine ⟨_, rfl, ?_⟩; have n0_ := Aside0.mk (blk_below (g := gb267) (o := .cells #[.slice A0_0 l0_0.length c0_0, .slice A0_1 l0_1.length c0_1, .slice A0_2 l0_2.length c0_2] 25 (0, 0)) (by (with_reducible repeat (first | refine blk_drewN ?_ _ | refine blk_drew ?_ | refine blk_alloc ?_ _)); exact BK267.out) hb); have n1_ := Aside0.mk (below_step (by repeat (first | (with_reducible first | exact HB.out | apply below_alloc | apply pw_below_drewN | apply below_drew1 | refine below_set ?_ GE267.out) | exact HB.out)) hb); clear BK267; clear HB; have BK267 := n0_; have HB := n1_; clear n0_ n1_; (try clear hb); (try clear hb2); (try clear hk); (try clear hi)))
   go_ret
   exact ⟨by first | rfl | (simp [errW_none, errW_some] <;> rfl) | (simp [*, errW_none, errW_some] <;> rfl), by repeat (first | (with_reducible first | exact HB.out | apply below_alloc | apply pw_below_drewN | apply below_drew1 | refine below_set ?_ GE267.out) | exact HB.out)⟩
 ·
  replace c7 := Bool.eq_false_iff.mpr c7
  subst c7
  have H1 : (some false) = some r := by rw [if_neg (show ¬ (false = true) by decide)] at H; exact H
  clear H
  have H := H1
  clear H1
  obtain rfl := Option.some.inj H
  go_enter Tryd.func3, Tryd.ntmps3
  go_wp2_with (first | ((with_reducible refine gate_dst (N := 5) rfl ?_); refine box_event ?hg (N := 5) ?hd (cs := #[.slice A0_0 l0_0.length c0_0, .slice A0_1 l0_1.length c0_1, .slice A0_2 l0_2.length c0_2]) (t := 25) ?hr ?_; (case hd => rfl); (case hg => rfl); (case hr => first | (go_simp; done) | (go_simp; rfl)); intro gb267 hg w49 hbox hb; have n0_ := Aside0.mk (below_step (by repeat (first | (with_reducible first | exact HB.out | apply below_alloc | apply pw_below_drewN | apply below_drew1) | exact HB.out)) hb); have n1_ := Aside0.mk (hbox); have n2_ := Aside0.mk ((by rw [hg]; exact (below_size (by repeat (first | (with_reducible first | exact HB.out | apply below_alloc | apply pw_below_drewN | apply below_drew1) | exact HB.out))) : w.heap.size ≤ gb267)); have n3_ := Aside0.mk ((by rw [hg]; exact (below_size (by repeat (first | (with_reducible first | exact HB.out | apply below_alloc | apply pw_below_drewN | apply below_drew1) | exact HB.out))) : w.heap.size ≤ gb267)); clear HB; have HB := n0_; have BK267 := n1_; have GW267 := n2_; have GE267 := n3_; clear n0_ n1_ n2_ n3_; clear hb hbox hg) | ((with_reducible refine gate_callee (f := 10) rfl ?_); refine goesL_ (some 15) rfl rfl Tryd.func10 (by kernel_rfl) rfl #[] rfl (by (try simp only [List.map_toArray, List.map_cons, List.map_nil]); first | done | rfl | (simp only [List.length_drop, List.length_take]; rfl)) ?_; (with_reducible refine (spilelaw19_awake.calls  false _ ?side1 A6.out).mono ?_); (case side1 => exact GI.below HG.out (by repeat (first | (with_reducible first | exact HB.out | apply below_alloc | apply pw_below_drewN | apply below_drew1 | refine below_set ?_ GE267.out) | exact HB.out))); rintro e w50 ⟨rfl, hb⟩; refine ⟨_, rfl, ?_⟩; have n0_ := Aside0.mk (blk_below (g := gb267) (o := .cells #[.slice A0_0 l0_0.length c0_0, .slice A0_1 l0_1.length c0_1, .slice A0_2 l0_2.length c0_2] 25 (0, 0)) (by (with_reducible repeat (first | refine blk_drewN ?_ _ | refine blk_drew ?_ | refine blk_alloc ?_ _)); exact BK267.out) hb); have n1_ := Aside0.mk (below_step (by repeat (first | (with_reducible first | exact HB.out | apply below_alloc | apply pw_below_drewN | apply below_drew1 | refine below_set ?_ GE267.out) | exact HB.out)) hb); clear BK267; clear HB; have BK267 := n0_; have HB := n1_; clear n0_ n1_; (try clear hb); (try clear hb2); (try clear hk); (try clear hi)))
  go_ret
  exact ⟨by first | rfl | (simp [errW_none, errW_some] <;> rfl) | (simp [*, errW_none, errW_some] <;> rfl), by repeat (first | (with_reducible first | exact HB.out | apply below_alloc | apply pw_below_drewN | apply below_drew1 | refine below_set ?_ GE267.out) | exact HB.out)⟩
end Go.Proofs.YtmdfnambaedllaaDoor.Pr
namespace Go.Proofs.YtmdfnambaedllaaDoor.Opn
open Go Go.RowKit Go.Proofs.YtmdfnambaedllaaDoorW.PrintWords Go.Proofs.YtmdfnambaedllaaDoor.O Go.Proofs.YtmdfnambaedllaaDoor.Pr
theorem opens3 : Opens Tryd.prog 3 (Kd.int .i64) (fun x => (Lit.int .i64 x).wf = true) := opens_int Tryd.underlying3 (by kernel_rfl)
theorem opens22 : Opens Tryd.prog 22 (Kd.slice 3 (Kd.int .i64)) (fun x => (x.length ≤ maxLen ∧ ∀ x0_, x0_ ∈ x → (Lit.int .i64 x0_).wf = true)) := opens_slice (P := Tryd.prog) (t := 22) (e := 3) Tryd.underlying22 (by kernel_rfl) opens3
theorem opens23 : Opens Tryd.prog 23 (Kd.slice 22 (Kd.slice 3 (Kd.int .i64))) (fun x => (x.length ≤ maxLen ∧ ∀ x0_, x0_ ∈ x → (x0_.length ≤ maxLen ∧ ∀ x1_, x1_ ∈ x0_ → (Lit.int .i64 x1_).wf = true))) := opens_slice (P := Tryd.prog) (t := 23) (e := 22) Tryd.underlying23 (by kernel_rfl) opens22
def ok25 (x : S25) : Prop := (x.f0.length ≤ maxLen ∧ ∀ x0_, x0_ ∈ x.f0 → (Lit.int .i64 x0_).wf = true) ∧ (x.f1.length ≤ maxLen ∧ ∀ x0_, x0_ ∈ x.f1 → (Lit.int .i64 x0_).wf = true) ∧ (x.f2.length ≤ maxLen ∧ ∀ x0_, x0_ ∈ x.f2 → (x0_.length ≤ maxLen ∧ ∀ x1_, x1_ ∈ x0_ → (Lit.int .i64 x1_).wf = true))
theorem opens25 : Opens Tryd.prog 25 k25 ok25 :=
  ⟨by kernel_rfl, fun H enc w base sp held fuel cs x h => by
    obtain ⟨xs, n, _, _, hl, hx, hf⟩ := DataW.trod_struct Tryd.underlying25 h
    have hc_ : Tryd.prog.cellsOf 25 = 3 := by kernel_rfl
    rw [hc_] at hl
    obtain ⟨c0, c1, c2, rfl⟩ : ∃ c0 c1 c2, cs = [c0, c1, c2] := by
      clear h hf hx
      rcases cs with _ | ⟨c0, _ | ⟨c1, _ | ⟨c2, _ | ⟨_, _⟩⟩⟩⟩
      all_goals first | exact ⟨_, _, _, rfl⟩ | (simp at hl)
    obtain ⟨y0, hy0⟩ : ∃ y, xs[0]? = some y := ⟨xs[0]'(by rw [hx]; decide), List.getElem?_eq_getElem _⟩
    have e0 : DataW.trod enc Tryd.prog w base sp held n 22 ((List.drop 0 [c0, c1, c2]).take (Tryd.prog.cellsOf 22)) = xs[0]? := hf 0 _ rfl
    rw [hy0, show Tryd.prog.cellsOf 22 = 1 from by kernel_rfl] at e0
    obtain ⟨v0, K0, o0⟩ := opens22.2 H enc w base sp held n _ _ e0
    replace K0 : (Kd.slice 3 (Kd.int .i64)).K w v0 [c0] := K0
    obtain ⟨y1, hy1⟩ : ∃ y, xs[1]? = some y := ⟨xs[1]'(by rw [hx]; decide), List.getElem?_eq_getElem _⟩
    have e1 : DataW.trod enc Tryd.prog w base sp held n 22 ((List.drop 1 [c0, c1, c2]).take (Tryd.prog.cellsOf 22)) = xs[1]? := hf 1 _ rfl
    rw [hy1, show Tryd.prog.cellsOf 22 = 1 from by kernel_rfl] at e1
    obtain ⟨v1, K1, o1⟩ := opens22.2 H enc w base sp held n _ _ e1
    replace K1 : (Kd.slice 3 (Kd.int .i64)).K w v1 [c1] := K1
    obtain ⟨y2, hy2⟩ : ∃ y, xs[2]? = some y := ⟨xs[2]'(by rw [hx]; decide), List.getElem?_eq_getElem _⟩
    have e2 : DataW.trod enc Tryd.prog w base sp held n 23 ((List.drop 2 [c0, c1, c2]).take (Tryd.prog.cellsOf 23)) = xs[2]? := hf 2 _ rfl
    rw [hy2, show Tryd.prog.cellsOf 23 = 1 from by kernel_rfl] at e2
    obtain ⟨v2, K2, o2⟩ := opens23.2 H enc w base sp held n _ _ e2
    replace K2 : (Kd.slice 22 (Kd.slice 3 (Kd.int .i64))).K w v2 [c2] := K2
    obtain ⟨A0, q0, w0, m0, g0⟩ := K0
    obtain rfl : c0 = _ := List.singleton_inj.1 w0
    obtain ⟨A1, q1, w1, m1, g1⟩ := K1
    obtain rfl : c1 = _ := List.singleton_inj.1 w1
    obtain ⟨A2, q2, w2, m2, g2⟩ := K2
    obtain rfl : c2 = _ := List.singleton_inj.1 w2
    refine ⟨⟨v0, v1, v2⟩, ?_, o0, o1, o2⟩
    exact k25_mk w ⟨v0, v1, v2⟩ m0 g0 m1 g1 m2 g2⟩
end Go.Proofs.YtmdfnambaedllaaDoor.Opn
namespace Go.Proofs.YtmdfnambaedllaaDoor.Pure
open Go Go.RowKit Go.Proofs.YtmdfnambaedllaaDoor.Pr Go.Proofs.YtmdfnambaedllaaDoor.Opn
def correctRangesPure : Prop := ∀ (l0_0 : (List Int)) (l0_1 : (List Int)) (l0_2 : (List (List Int))) (a1 : Int) (a2 : Int) (a3 : Int) (a4 : Int), (l0_0.length ≤ maxLen ∧ ∀ x0_, x0_ ∈ l0_0 → (Lit.int .i64 x0_).wf = true) → (l0_1.length ≤ maxLen ∧ ∀ x0_, x0_ ∈ l0_1 → (Lit.int .i64 x0_).wf = true) → (l0_2.length ≤ maxLen ∧ ∀ x0_, x0_ ∈ l0_2 → (x0_.length ≤ maxLen ∧ ∀ x1_, x1_ ∈ x0_ → (Lit.int .i64 x1_).wf = true)) → (Lit.int .i64 a1).wf = true → (Lit.int .i64 a2).wf = true → (Lit.int .i64 a3).wf = true → (Lit.int .i64 a4).wf = true → ∃ k, spilelaw19_CorrectRanges.f k l0_0 l0_1 l0_2 a1 a2 a3 a4 = some true
end Go.Proofs.YtmdfnambaedllaaDoor.Pure
namespace Go.Proofs.YtmdfnambaedllaaDoor.PL
open Go Go.RowKit Go.Proofs.YtmdfnambaedllaaDoorW.PrintWords Go.Proofs.YtmdfnambaedllaaDoorW.PrintLast Go.Proofs.YtmdfnambaedllaaDoorW.PrintMore
theorem evp {α : Type} {c : Prop} [Decidable c] {g h : Nat → Option α} {r : α} (hc : c) (k : Ev g r) : Ev (fun n => if c then g n else h n) r :=
  Ev.congr (fun n => if_pos hc) k
theorem evn {α : Type} {c : Prop} [Decidable c] {g h : Nat → Option α} {r : α} (hc : ¬ c) (k : Ev h r) : Ev (fun n => if c then g n else h n) r :=
  Ev.congr (fun n => if_neg hc) k
theorem evb {α β : Type} {g : Nat → Option α} {f : Nat → α → Option β} {a : α} {r : β} (h : Ev g a) (k : Ev (fun n => f n a) r) : Ev (fun n => (g n).bind (f n)) r := Ev.bind h k
theorem evr {α : Type} {a r : α} (h : a = r) : Ev (fun _ => some a) r := by subst h; exact Ev.now _
theorem evc {α : Type} {g : Nat → Option α} {r : α} {o : Option α} (hg : ∀ n, g n = o) (h : o = some r) : Ev g r := by
  subst h
  exact Ev.congr hg (Ev.now _)
/-- A loop that counts upwards to n. -/
theorem count_up (a n : Int) (P : Int → Prop) (hend : P n) (hround : ∀ i, a ≤ i → i < n → P (i + 1) → P i) : ∀ i, a ≤ i → i ≤ n → P i := by
  intro i h0 h1
  obtain ⟨d, hd⟩ : ∃ d : Nat, n - i = d := ⟨(n - i).toNat, by omega⟩
  induction d generalizing i with
  | zero =>
    obtain rfl : i = n := by omega
    exact hend
  | succ d ih => exact hround i h0 (by omega) (ih (i + 1) (by omega) (by omega) (by omega))
theorem w64 {x : Int} (h0 : -9223372036854775808 ≤ x) (h1 : x ≤ 9223372036854775807) : wrap64 x = x := by
  unfold wrap64
  omega
theorem w64_succ {i n : Int} (h0 : 0 ≤ i) (h : i < n) (hn : n ≤ 9223372036854775807) : wrap64 (i + 1) = i + 1 := w64 (by omega) (by omega)
theorem w64_pred {i n : Int} (h0 : 0 ≤ i) (h : i ≤ n) (hn : n ≤ 9223372036854775807) : wrap64 (i - 1) = i - 1 := w64 (by omega) (by omega)
theorem mx_comm (a b : Int) : mx a b = mx b a := by unfold mx; omega
theorem mn_comm (a b : Int) : mn a b = mn b a := by unfold mn; omega
theorem len_le {α : Type} {l : List α} (h : l.length ≤ maxLen) : (l.length : Int) ≤ 9223372036854775807 := by
  have : l.length ≤ 9223372036854775807 := by simpa [maxLen] using h
  omega
/-- A test that comes to true where P holds, and else to false. -/
def EvB (g : Nat → Option Bool) (P : Prop) : Prop := (P → Ev g true) ∧ (¬ P → Ev g false)
theorem EvB.iff {g : Nat → Option Bool} {P Q : Prop} (h : EvB g P) (e : P ↔ Q) : EvB g Q := ⟨fun q => h.1 (e.2 q), fun q => h.2 (fun p => q (e.1 p))⟩
theorem EvB.map {g : Nat → Option Bool} {f : Nat → Bool → Option Bool} {P Q : Prop} (h : EvB g P) (ht : P → EvB (fun n => f n true) Q) (hf : ¬ P → EvB (fun n => f n false) Q) : EvB (fun n => (g n).bind (f n)) Q := by
  by_cases hp : P
  · exact ⟨fun q => Ev.bind (h.1 hp) ((ht hp).1 q), fun q => Ev.bind (h.1 hp) ((ht hp).2 q)⟩
  · exact ⟨fun q => Ev.bind (h.2 hp) ((hf hp).1 q), fun q => Ev.bind (h.2 hp) ((hf hp).2 q)⟩
theorem evB_all (a n : Int) (Q : Int → Prop) (L : Int → Nat → Option Bool) (hend : Ev (L n) true) (hno : ∀ i, a ≤ i → i < n → ¬ Q i → Ev (L i) false)
    (hyes : ∀ i, a ≤ i → i < n → Q i → ∀ b, Ev (L (i + 1)) b → Ev (L i) b) : ∀ i, a ≤ i → i ≤ n → EvB (L i) (∀ j, i ≤ j → j < n → Q j) := by
  refine count_up a n _ ⟨fun _ => hend, fun h => absurd (fun j h1 h2 => absurd h2 (by omega)) h⟩ ?_
  intro i h0 h1 ih
  by_cases hq : Q i
  · refine ⟨fun h => hyes i h0 h1 hq _ (ih.1 fun j hj hn => h j (by omega) hn), fun h => hyes i h0 h1 hq _ (ih.2 fun h2 => h fun j hj hn => ?_)⟩
    by_cases e : j = i
    · subst e; exact hq
    · exact h2 j (by omega) hn
  · exact ⟨fun h => absurd (h i (by omega) h1) hq, fun _ => hno i h0 h1 hq⟩
theorem index_ev (n : Int) (Q : Int → Prop) (L : Int → Nat → Option Int) (hend : Ev (L n) (-1)) (hyes : ∀ i, 0 ≤ i → i < n → Q i → Ev (L i) i)
    (hno : ∀ i, 0 ≤ i → i < n → ¬ Q i → ∀ r, Ev (L (i + 1)) r → Ev (L i) r) : ∀ i, 0 ≤ i → i ≤ n →
    ∃ r, Ev (L i) r ∧ ((0 ≤ r ∧ i ≤ r ∧ r < n ∧ Q r ∧ ∀ j, i ≤ j → j < r → ¬ Q j) ∨ (r = -1 ∧ ∀ j, i ≤ j → j < n → ¬ Q j)) := by
  refine count_up 0 n _ ⟨-1, hend, .inr ⟨rfl, fun j h1 h2 => absurd h2 (by omega)⟩⟩ ?_
  intro i h0 h1 ih
  by_cases hq : Q i
  · exact ⟨i, hyes i h0 h1 hq, .inl ⟨h0, by omega, h1, hq, fun j h2 h3 => absurd h3 (by omega)⟩⟩
  · obtain ⟨r, hr, h⟩ := ih
    refine ⟨r, hno i h0 h1 hq _ hr, ?_⟩
    have ext : ∀ b, (∀ j, i + 1 ≤ j → j < b → ¬ Q j) → ∀ j, i ≤ j → j < b → ¬ Q j := fun b h2 j hj hb => by
      by_cases e : j = i
      · subst e; exact hq
      · exact h2 j (by omega) hb
    rcases h with ⟨a, b, c, d, e⟩ | ⟨a, b⟩
    · exact .inl ⟨a, by omega, c, d, ext r e⟩
    · exact .inr ⟨a, ext n b⟩
theorem u64w {x : Int} (h0 : 0 ≤ x) (h1 : x ≤ 9223372036854775807) : IntKind.u64.wrap x = x := by
  unfold IntKind.wrap
  simp [IntKind.signed, IntKind.bits]
  omega
theorem half {i j : Int} (h0 : 0 ≤ i) (h1 : i < j) (h2 : j ≤ 4611686018427387904) : wrap64 ((IntKind.u64.wrap (wrap64 (i + j))) / 2) = (i + j) / 2 := by
  rw [w64 (x := i + j) (by omega) (by omega), u64w (by omega) (by omega), w64 (by omega) (by omega)]
/-- A search by halves. -/
theorem search_ev (n : Int) (Q : Int → Prop) (L : Int → Int → Nat → Option Int)
    (hend : ∀ i, 0 ≤ i → i ≤ n → Ev (L i i) i) (hyes : ∀ i j, 0 ≤ i → i < j → j ≤ n → Q ((i + j) / 2) → ∀ r, Ev (L i ((i + j) / 2)) r → Ev (L i j) r)
    (hno : ∀ i j, 0 ≤ i → i < j → j ≤ n → ¬ Q ((i + j) / 2) → ∀ r, Ev (L ((i + j) / 2 + 1) j) r → Ev (L i j) r)
    (mono : ∀ a b, 0 ≤ a → a ≤ b → b < n → Q a → Q b) (hn : 0 ≤ n) :
    ∃ r, Ev (L 0 n) r ∧ 0 ≤ r ∧ r ≤ n ∧ (∀ a, 0 ≤ a → a < r → ¬ Q a) ∧ (∀ a, r ≤ a → a < n → Q a) := by
  have go : ∀ (d : Nat) (i j : Int), 0 ≤ i → i ≤ j → j ≤ n → j - i ≤ d → (∀ a, 0 ≤ a → a < i → ¬ Q a) → (∀ a, j ≤ a → a < n → Q a) →
      ∃ r, Ev (L i j) r ∧ 0 ≤ r ∧ r ≤ n ∧ (∀ a, 0 ≤ a → a < r → ¬ Q a) ∧ (∀ a, r ≤ a → a < n → Q a) := by
    intro d
    induction d with
    | zero =>
      intro i j h0 h1 h2 h3 hl hr
      obtain rfl : i = j := by omega
      exact ⟨i, hend i h0 h2, h0, h2, hl, hr⟩
    | succ d ih =>
      intro i j h0 h1 h2 h3 hl hr
      by_cases e : i = j
      · subst e
        exact ⟨i, hend i h0 h2, h0, h2, hl, hr⟩
      · by_cases q : Q ((i + j) / 2)
        · obtain ⟨r, hr2, h⟩ := ih i ((i + j) / 2) h0 (by omega) (by omega) (by omega) hl (fun a ha hb => mono ((i + j) / 2) a (by omega) ha hb q)
          exact ⟨r, hyes i j h0 (by omega) h2 q r hr2, h⟩
        · obtain ⟨r, hr2, h⟩ := ih ((i + j) / 2 + 1) j (by omega) (by omega) h2 (by omega) (fun a ha hb qa => q (mono a ((i + j) / 2) ha (by omega) (by omega) qa)) hr
          exact ⟨r, hno i j h0 (by omega) h2 q r hr2, h⟩
  exact go n.toNat 0 n (by omega) hn (by omega) (by omega) (fun a h0 h1 => absurd h1 (by omega)) (fun a h0 h1 => absurd h1 (by omega))
theorem mulb {x y X Y : Int} (h0 : 0 ≤ x) (h1 : x ≤ X) (k0 : 0 ≤ y) (k1 : y ≤ Y) : 0 ≤ x * y ∧ x * y ≤ X * Y :=
  ⟨Int.mul_nonneg h0 k0, Int.mul_le_mul h1 k1 k0 (Int.le_trans h0 h1)⟩
end Go.Proofs.YtmdfnambaedllaaDoor.PL
namespace Go.Proofs.YtmdfnambaedllaaDoor.Pure
open Go Go.RowKit Go.Proofs.YtmdfnambaedllaaDoorW.PrintWords Go.Proofs.YtmdfnambaedllaaDoorW.PrintLast Go.Proofs.YtmdfnambaedllaaDoorW.PrintMore Go.Proofs.YtmdfnambaedllaaDoor.Pr Go.Proofs.YtmdfnambaedllaaDoor.PL
theorem contains_of_index {g : Nat → Option Int} {n : Int} {Q : Int → Prop}
    (h : ∃ r, Ev g r ∧ ((0 ≤ r ∧ 0 ≤ r ∧ r < n ∧ Q r ∧ ∀ j, 0 ≤ j → j < r → ¬ Q j) ∨ (r = -1 ∧ ∀ j, 0 ≤ j → j < n → ¬ Q j))) :
    EvB (fun k => (g k).bind fun t => some (decide (t ≥ 0))) (∃ j, 0 ≤ j ∧ j < n ∧ Q j) := by
  obtain ⟨r, hr, ⟨a, _, b, c, _⟩ | ⟨rfl, a⟩⟩ := h
  · exact ⟨fun _ => Ev.bind hr (evr (by simp [a])), fun hn => absurd ⟨r, a, b, c⟩ hn⟩
  · exact ⟨fun ⟨j, h0, h1, h2⟩ => absurd h2 (a j h0 h1), fun _ => Ev.bind hr (evr (by simp))⟩
abbrev Out (lo hi x : Int) : Prop := x < lo ∨ hi < x
theorem strange_eq (x : Int) : correct_strange.f x = some (decide (Out 0 10000 x)) := by
  unfold correct_strange.f Out
  by_cases h : x < 0
  · rw [if_pos h]; simp [h]
  · rw [if_neg h]; simp [h]
theorem heat_eq (x : Int) : correct_Check_2.f x = some (decide (Out (-400) 600 x)) := by
  unfold correct_Check_2.f Out
  by_cases h : x < -400
  · rw [if_pos h]; simp [h]
  · rw [if_neg h]; simp [h]
theorem any27 (l : List Int) (hl : l.length ≤ maxLen) : EvB (fun k => slices_ContainsFunc_int_int_36_at_27.f k l) (∃ j, 0 ≤ j ∧ j < (l.length : Int) ∧ Out 0 10000 (rd l j)) := by
  have hm := len_le hl
  refine contains_of_index (g := fun k => slices_IndexFunc_int_int_57_at_27.l0 k l (l.length : Int) 0) (index_ev (l.length : Int) (fun j => Out 0 10000 (rd l j)) (fun i k => slices_IndexFunc_int_int_57_at_27.l0 k l (l.length : Int) i) ?_ ?_ ?_ 0 (by omega) (by omega))
  · exact Ev.step (fun k => slices_IndexFunc_int_int_57_at_27.l0.eq_2 ..) (evn (by omega) (Ev.now _))
  · intro i h0 h1 hq
    refine Ev.step (fun k => slices_IndexFunc_int_int_57_at_27.l0.eq_2 ..) (evp h1 (evp h0 (evp h1 (evb (evc (fun _ => rfl) (strange_eq _)) ?_))))
    rw [decide_eq_true hq]
    exact evp rfl (Ev.now _)
  · intro i h0 h1 hq r hr
    refine Ev.step (fun k => slices_IndexFunc_int_int_57_at_27.l0.eq_2 ..) (evp h1 (evp h0 (evp h1 (evb (evc (fun _ => rfl) (strange_eq _)) ?_))))
    rw [decide_eq_false hq, w64_succ h0 h1 hm]
    exact evn (by simp) hr
theorem any37 (l : List Int) (hl : l.length ≤ maxLen) : EvB (fun k => slices_ContainsFunc_int_int_36_at_37.f k l) (∃ j, 0 ≤ j ∧ j < (l.length : Int) ∧ Out (-400) 600 (rd l j)) := by
  have hm := len_le hl
  refine contains_of_index (g := fun k => slices_IndexFunc_int_int_57_at_37.l0 k l (l.length : Int) 0) (index_ev (l.length : Int) (fun j => Out (-400) 600 (rd l j)) (fun i k => slices_IndexFunc_int_int_57_at_37.l0 k l (l.length : Int) i) ?_ ?_ ?_ 0 (by omega) (by omega))
  · exact Ev.step (fun k => slices_IndexFunc_int_int_57_at_37.l0.eq_2 ..) (evn (by omega) (Ev.now _))
  · intro i h0 h1 hq
    refine Ev.step (fun k => slices_IndexFunc_int_int_57_at_37.l0.eq_2 ..) (evp h1 (evp h0 (evp h1 (evb (evc (fun _ => rfl) (heat_eq _)) ?_))))
    rw [decide_eq_true hq]
    exact evp rfl (Ev.now _)
  · intro i h0 h1 hq r hr
    refine Ev.step (fun k => slices_IndexFunc_int_int_57_at_37.l0.eq_2 ..) (evp h1 (evp h0 (evp h1 (evb (evc (fun _ => rfl) (heat_eq _)) ?_))))
    rw [decide_eq_false hq, w64_succ h0 h1 hm]
    exact evn (by simp) hr
theorem any35 (ts : List (List Int)) (m : Int) (hl : ts.length ≤ maxLen) : EvB (fun k => slices_ContainsFunc_int_int_34_at_35.f k ts m) (∃ j, 0 ≤ j ∧ j < (ts.length : Int) ∧ ¬ ((rd_L1 ts j).length : Int) = m) := by
  have hm := len_le hl
  refine contains_of_index (g := fun k => slices_IndexFunc_int_int_56_at_35.l0 k ts (ts.length : Int) 0 m) (index_ev (ts.length : Int) (fun j => ¬ ((rd_L1 ts j).length : Int) = m) (fun i k => slices_IndexFunc_int_int_56_at_35.l0 k ts (ts.length : Int) i m) ?_ ?_ ?_ 0 (by omega) (by omega))
  · exact Ev.step (fun k => slices_IndexFunc_int_int_56_at_35.l0.eq_2 ..) (evn (by omega) (Ev.now _))
  · intro i h0 h1 hq
    refine Ev.step (fun k => slices_IndexFunc_int_int_56_at_35.l0.eq_2 ..) (evp h1 (evp h0 (evp h1 (evb (a := true) (evc (fun _ => rfl) (by unfold correct_Check_1.f; simpa using hq)) ?_))))
    exact evp rfl (Ev.now _)
  · intro i h0 h1 hq r hr
    refine Ev.step (fun k => slices_IndexFunc_int_int_56_at_35.l0.eq_2 ..) (evp h1 (evp h0 (evp h1 (evb (a := false) (evc (fun _ => rfl) (by unfold correct_Check_1.f; simpa using hq)) ?_))))
    rw [w64_succ h0 h1 hm]
    exact evn (by simp) hr
def OutRow (l : List Int) : Prop := ∃ j, 0 ≤ j ∧ j < (l.length : Int) ∧ Out 0 10000 (rd l j)
theorem any38 (ts : List (List Int)) (hl : ts.length ≤ maxLen) (hr : ∀ i, 0 ≤ i → i < (ts.length : Int) → (rd_L1 ts i).length ≤ maxLen) :
    EvB (fun k => slices_ContainsFunc_int_int_34_at_38.f k ts) (∃ i, 0 ≤ i ∧ i < (ts.length : Int) ∧ OutRow (rd_L1 ts i)) := by
  have hm := len_le hl
  have row : ∀ i, 0 ≤ i → i < (ts.length : Int) → EvB (fun k => correct_Check_3.f k (rd_L1 ts i)) (OutRow (rd_L1 ts i)) := fun i h0 h1 => by
    have h := any27 (rd_L1 ts i) (hr i h0 h1)
    exact h.map (fun p => ⟨fun _ => Ev.now _, fun q => absurd p q⟩) (fun p => ⟨fun q => absurd q p, fun _ => Ev.now _⟩)
  refine contains_of_index (g := fun k => slices_IndexFunc_int_int_56_at_38.l0 k ts (ts.length : Int) 0) (index_ev (ts.length : Int) (fun j => OutRow (rd_L1 ts j)) (fun i k => slices_IndexFunc_int_int_56_at_38.l0 k ts (ts.length : Int) i) ?_ ?_ ?_ 0 (by omega) (by omega))
  · exact Ev.step (fun k => slices_IndexFunc_int_int_56_at_38.l0.eq_2 ..) (evn (by omega) (Ev.now _))
  · intro i h0 h1 hq
    exact Ev.step (fun k => slices_IndexFunc_int_int_56_at_38.l0.eq_2 ..) (evp h1 (evp h0 (evp h1 (evb ((row i h0 h1).1 hq) (evp rfl (Ev.now _))))))
  · intro i h0 h1 hq r hr
    refine Ev.step (fun k => slices_IndexFunc_int_int_56_at_38.l0.eq_2 ..) (evp h1 (evp h0 (evp h1 (evb ((row i h0 h1).2 hq) ?_))))
    rw [w64_succ h0 h1 hm]
    exact evn (by simp) hr
/-- The numbers rise. -/
def Ris (l : List Int) : Prop := ∀ j, 0 ≤ j → j < (l.length : Int) - 1 → rd l j < rd l (j + 1)
theorem rising_ev (l : List Int) (hl : l.length ≤ maxLen) (h2 : 2 ≤ l.length) : EvB (fun k => correct_rising.f k l) (Ris l) := by
  have hm := len_le hl
  have e : wrap64 ((l.length : Int) - 1) = (l.length : Int) - 1 := w64 (by omega) (by omega)
  have h := evB_all 0 ((l.length : Int) - 1) (fun j => rd l j < rd l (j + 1)) (fun i k => correct_rising.l0 k l ((l.length : Int) - 1) i) ?_ ?_ ?_ 0 (by omega) (by omega)
  · unfold correct_rising.f
    rw [e]
    exact h
  · exact Ev.step (fun k => correct_rising.l0.eq_2 ..) (evn (by omega) (Ev.now _))
  · intro i h0 h1 hq
    have e1 := w64_succ h0 h1 (by omega)
    refine Ev.step (fun k => correct_rising.l0.eq_2 ..) ?_
    rw [e1]
    exact evp h1 (evp h0 (evp (by omega) (evp (by omega) (evp (by omega) (evp (by omega) (Ev.now _))))))
  · intro i h0 h1 hq b hb
    have e1 := w64_succ h0 h1 (by omega)
    refine Ev.step (fun k => correct_rising.l0.eq_2 ..) ?_
    rw [e1]
    exact evp h1 (evp h0 (evp (by omega) (evp (by omega) (evp (by omega) (evn (by omega) hb)))))
theorem rises_ev (l : List Int) (hl : l.length ≤ maxLen) (h2 : 2 ≤ l.length) : EvB (fun k => spileref19_rises.f k l) (Ris l) := by
  have hm := len_le hl
  have h := evB_all 1 (l.length : Int) (fun j => rd l (j - 1) < rd l j) (fun i k => spileref19_rises.l0 k l i) ?_ ?_ ?_ 1 (by omega) (by omega)
  · refine EvB.iff (P := ∀ j, 1 ≤ j → j < (l.length : Int) → rd l (j - 1) < rd l j) h ⟨fun h j h0 h1 => ?_, fun h j h0 h1 => ?_⟩
    · have := h (j + 1) (by omega) (by omega)
      rwa [show j + 1 - 1 = j from by omega] at this
    · have := h (j - 1) (by omega) (by omega)
      rwa [show j - 1 + 1 = j from by omega] at this
  · exact Ev.step (fun k => spileref19_rises.l0.eq_2 ..) (evn (by omega) (Ev.now _))
  · intro i h0 h1 hq
    have e1 : wrap64 (i - 1) = i - 1 := w64_pred (by omega) (by omega) hm
    refine Ev.step (fun k => spileref19_rises.l0.eq_2 ..) ?_
    rw [e1]
    exact evp h1 (evp (by omega) (evp (by omega) (evp (by omega) (evp (by omega) (Ev.now _)))))
  · intro i h0 h1 hq b hb
    have e1 : wrap64 (i - 1) = i - 1 := w64_pred (by omega) (by omega) hm
    have e2 := w64_succ (show 0 ≤ i by omega) h1 hm
    refine Ev.step (fun k => spileref19_rises.l0.eq_2 ..) ?_
    rw [e1, e2]
    exact evp h1 (evp (by omega) (evp (by omega) (evp (by omega) (evn (by omega) hb))))
theorem within_ev (l : List Int) (lo hi : Int) (hl : l.length ≤ maxLen) : EvB (fun k => spileref19_within.f k l lo hi) (¬ ∃ j, 0 ≤ j ∧ j < (l.length : Int) ∧ Out lo hi (rd l j)) := by
  have hm := len_le hl
  have h := evB_all 0 (l.length : Int) (fun j => ¬ Out lo hi (rd l j)) (fun i k => spileref19_within.l0 k l lo hi i) ?_ ?_ ?_ 0 (by omega) (by omega)
  · exact EvB.iff (P := ∀ j, 0 ≤ j → j < (l.length : Int) → ¬ Out lo hi (rd l j)) h ⟨fun h ⟨j, h0, h1, h2⟩ => h j h0 h1 h2, fun h j h0 h1 h2 => h ⟨j, h0, h1, h2⟩⟩
  · exact Ev.step (fun k => spileref19_within.l0.eq_2 ..) (evn (by omega) (Ev.now _))
  · intro i h0 h1 hq
    refine Ev.step (fun k => spileref19_within.l0.eq_2 ..) (evp h1 (evp h0 ?_))
    by_cases h : rd l i < lo
    · exact evp h (Ev.now _)
    · exact evn h (evp (by simp only [Out] at hq; omega) (Ev.now _))
  · intro i h0 h1 hq b hb
    simp only [Out] at hq
    refine Ev.step (fun k => spileref19_within.l0.eq_2 ..) (evp h1 (evp h0 (evn (by omega) (evn (by omega) ?_))))
    rw [w64_succ h0 h1 hm]
    exact hb
/-- Two numbers of a table contradict each other at a place. -/
def Conf (ts : List (List Int)) (i j : Int) : Prop := (0 < j ∧ rd (rd_L1 ts i) j < rd (rd_L1 ts i) (j - 1)) ∨ (0 < i ∧ rd (rd_L1 ts (i - 1)) j < rd (rd_L1 ts i) j)
def Rect (ts : List (List Int)) (m : Int) : Prop := ∀ i, 0 ≤ i → i < (ts.length : Int) → ((rd_L1 ts i).length : Int) = m
/-- A conflict at a place or behind it. -/
def BadFrom (ts : List (List Int)) (m i j : Int) : Prop := ∃ i2 j2, ((i2 = i ∧ j ≤ j2) ∨ i < i2) ∧ 0 ≤ j2 ∧ j2 < m ∧ i2 < (ts.length : Int) ∧ Conf ts i2 j2
def Says (g : Nat → Option Int) (P : Prop) : Prop := (P → Ev g 18) ∧ (¬ P → Ev g 0)
theorem says_step {g h : Nat → Option Int} {P Q : Prop} (hs : Says h Q) (e : P ↔ Q) (hg : ∀ r, Ev h r → Ev g r) : Says g P := ⟨fun p => hg _ (hs.1 (e.1 p)), fun p => hg _ (hs.2 (fun q => p (e.2 q)))⟩
theorem bad_end {ts : List (List Int)} {m i : Int} : BadFrom ts m i m ↔ BadFrom ts m (i + 1) 0 := by
  constructor
  · rintro ⟨i2, j2, h | h, h0, h1, h2, hc⟩
    · omega
    · exact ⟨i2, j2, by omega, h0, h1, h2, hc⟩
  · rintro ⟨i2, j2, h, h0, h1, h2, hc⟩
    exact ⟨i2, j2, by omega, h0, h1, h2, hc⟩
theorem bad_next {ts : List (List Int)} {m i j : Int} (h : ¬ Conf ts i j) : BadFrom ts m i j ↔ BadFrom ts m i (j + 1) := by
  constructor
  · rintro ⟨i2, j2, h | h', h0, h1, h2, hc⟩
    · by_cases e : j2 = j
      · obtain ⟨rfl, _⟩ := h
        subst e
        exact absurd hc ‹_›
      · exact ⟨i2, j2, by omega, h0, h1, h2, hc⟩
    · exact ⟨i2, j2, by omega, h0, h1, h2, hc⟩
  · rintro ⟨i2, j2, h, h0, h1, h2, hc⟩
    exact ⟨i2, j2, by omega, h0, h1, h2, hc⟩
theorem bad_none {ts : List (List Int)} {m : Int} : ¬ BadFrom ts m (ts.length : Int) 0 := by
  rintro ⟨i2, j2, h, h0, h1, h2, hc⟩
  omega
theorem bad_here {ts : List (List Int)} {m i j : Int} (h0 : 0 ≤ j) (h1 : j < m) (h2 : i < (ts.length : Int)) (h : Conf ts i j) : BadFrom ts m i j := ⟨i, j, .inl ⟨rfl, Int.le_refl _⟩, h0, h1, h2, h⟩
theorem conf_prog (hs as_ : List Int) (ts : List (List Int)) (m : Int) (hr : Rect ts m) (hl : ts.length ≤ maxLen) (hm0 : 0 ≤ m) (hm1 : m ≤ 9223372036854775807) :
    ∀ i, 0 ≤ i → i ≤ (ts.length : Int) → Says (fun k => correct_Check.l0 k ts (ts.length : Int) i hs as_ ts) (BadFrom ts m i 0) := by
  have hm := len_le hl
  refine count_up 0 (ts.length : Int) _ ⟨fun h => absurd h bad_none, fun _ => Ev.step (fun k => correct_Check.l0.eq_2 ..) (evn (by omega) (Ev.now _))⟩ ?_
  intro i h0 h1 ih
  have hrow := hr i h0 h1
  have inner := count_up 0 m (fun j => Says (fun k => correct_Check.l1 k i (rd_L1 ts i) ts (ts.length : Int) i (rd_L1 ts i) ((rd_L1 ts i).length : Int) j hs as_ ts) (BadFrom ts m i j)) ?_ ?_ 0 (by omega) hm0
  · exact says_step inner Iff.rfl (fun r h => Ev.step (fun k => correct_Check.l0.eq_2 ..) (evp h1 (evp h0 (evp h1 h))))
  · refine says_step ih bad_end (fun r h => Ev.step (fun k => correct_Check.l1.eq_2 ..) (evn (by omega) ?_))
    rw [w64_succ h0 h1 hm]
    exact h
  · intro j j0 j1 jh
    have e1 : wrap64 (j - 1) = j - 1 := w64_pred (by omega) (by omega) hm1
    have e2 := w64_succ j0 j1 hm1
    have e3 : wrap64 (i - 1) = i - 1 := w64_pred (by omega) (by omega) hm
    by_cases c1 : 0 < j ∧ rd (rd_L1 ts i) j < rd (rd_L1 ts i) (j - 1)
    · refine ⟨fun _ => Ev.step (fun k => correct_Check.l1.eq_2 ..) ?_, fun h => absurd (bad_here j0 j1 h1 (.inl c1)) h⟩
      rw [e1, e2, e3]
      exact evp (by omega) (evp j0 (evp (by omega) (evp c1.1 (evp (by omega) (evp (by omega) (evp c1.2 (Ev.now _)))))))
    · by_cases c2 : 0 < i ∧ rd (rd_L1 ts (i - 1)) j < rd (rd_L1 ts i) j
      · refine ⟨fun _ => Ev.step (fun k => correct_Check.l1.eq_2 ..) ?_, fun h => absurd (bad_here j0 j1 h1 (.inr c2)) h⟩
        have hp := hr (i - 1) (by omega) (by omega)
        have fin : Ev (fun k => if i > 0 then (if 0 ≤ i - 1 then (if i - 1 < (ts.length : Int) then (if j < ((rd_L1 ts (i - 1)).length : Int) then (if rd (rd_L1 ts i) j > rd (rd_L1 ts (i - 1)) j then some 18 else correct_Check.l1 k i (rd_L1 ts i) ts (ts.length : Int) i (rd_L1 ts i) ((rd_L1 ts i).length : Int) (j + 1) hs as_ ts) else none) else none) else none) else correct_Check.l1 k i (rd_L1 ts i) ts (ts.length : Int) i (rd_L1 ts i) ((rd_L1 ts i).length : Int) (j + 1) hs as_ ts) (18 : Int) :=
          evp c2.1 (evp (by omega) (evp (by omega) (evp (by omega) (evp c2.2 (Ev.now _)))))
        rw [e1, e2, e3]
        refine evp (by omega) (evp j0 (evp (by omega) ?_))
        by_cases jp : j > 0
        · exact evp jp (evp (by omega) (evp (by omega) (evn (fun h => c1 ⟨jp, h⟩) fin)))
        · exact evn jp fin
      · refine says_step jh (bad_next (fun h => h.elim c1 c2)) (fun r h => Ev.step (fun k => correct_Check.l1.eq_2 ..) ?_)
        have fin : Ev (fun k => if i > 0 then (if 0 ≤ i - 1 then (if i - 1 < (ts.length : Int) then (if j < ((rd_L1 ts (i - 1)).length : Int) then (if rd (rd_L1 ts i) j > rd (rd_L1 ts (i - 1)) j then some 18 else correct_Check.l1 k i (rd_L1 ts i) ts (ts.length : Int) i (rd_L1 ts i) ((rd_L1 ts i).length : Int) (j + 1) hs as_ ts) else none) else none) else none) else correct_Check.l1 k i (rd_L1 ts i) ts (ts.length : Int) i (rd_L1 ts i) ((rd_L1 ts i).length : Int) (j + 1) hs as_ ts) r := by
          by_cases ip : i > 0
          · have hp := hr (i - 1) (by omega) (by omega)
            exact evp ip (evp (by omega) (evp (by omega) (evp (by omega) (evn (fun h => c2 ⟨ip, h⟩) h))))
          · exact evn ip h
        rw [e1, e2, e3]
        refine evp (by omega) (evp j0 (evp (by omega) ?_))
        by_cases jp : j > 0
        · exact evp jp (evp (by omega) (evp (by omega) (evn (fun h => c1 ⟨jp, h⟩) fin)))
        · exact evn jp fin
end Go.Proofs.YtmdfnambaedllaaDoor.Pure
namespace Go.Proofs.YtmdfnambaedllaaDoor.Pure
open Go Go.RowKit Go.Proofs.YtmdfnambaedllaaDoorW.PrintWords Go.Proofs.YtmdfnambaedllaaDoorW.PrintLast Go.Proofs.YtmdfnambaedllaaDoorW.PrintMore Go.Proofs.YtmdfnambaedllaaDoor.Pr Go.Proofs.YtmdfnambaedllaaDoor.PL
theorem conf_ref (hs as_ : List Int) (ts : List (List Int)) (hr : Rect ts (as_.length : Int)) (hl : ts.length ≤ maxLen) (hla : as_.length ≤ maxLen) :
    ∀ i, 0 ≤ i → i ≤ (ts.length : Int) → Says (fun k => spileref19_Check.l1 k i hs as_ ts) (BadFrom ts (as_.length : Int) i 0) := by
  have hm := len_le hl
  have hm1 := len_le hla
  refine count_up 0 (ts.length : Int) _ ⟨fun h => absurd h bad_none, fun _ => Ev.step (fun k => spileref19_Check.l1.eq_2 ..) (evn (by omega) (Ev.now _))⟩ ?_
  intro i h0 h1 ih
  have hrow := hr i h0 h1
  have inner := count_up 0 (as_.length : Int) (fun j => Says (fun k => spileref19_Check.l2 k i j hs as_ ts) (BadFrom ts (as_.length : Int) i j)) ?_ ?_ 0 (by omega) (by omega)
  · exact says_step inner Iff.rfl (fun r h => Ev.step (fun k => spileref19_Check.l1.eq_2 ..) (evp h1 h))
  · refine says_step ih bad_end (fun r h => Ev.step (fun k => spileref19_Check.l2.eq_2 ..) (evn (by omega) ?_))
    rw [w64_succ h0 h1 hm]
    exact h
  · intro j j0 j1 jh
    have e1 : wrap64 (j - 1) = j - 1 := w64_pred (by omega) (by omega) hm1
    have e2 := w64_succ j0 j1 hm1
    have e3 : wrap64 (i - 1) = i - 1 := w64_pred (by omega) (by omega) hm
    by_cases c1 : 0 < j ∧ rd (rd_L1 ts i) j < rd (rd_L1 ts i) (j - 1)
    · refine ⟨fun _ => Ev.step (fun k => spileref19_Check.l2.eq_2 ..) ?_, fun h => absurd (bad_here j0 j1 h1 (.inl c1)) h⟩
      rw [e1, e2, e3]
      exact evp j1 (evp c1.1 (evp h0 (evp h1 (evp j0 (evp (by omega) (evp (by omega) (evp (by omega) (evp c1.2 (Ev.now _)))))))))
    · by_cases c2 : 0 < i ∧ rd (rd_L1 ts (i - 1)) j < rd (rd_L1 ts i) j
      · refine ⟨fun _ => Ev.step (fun k => spileref19_Check.l2.eq_2 ..) ?_, fun h => absurd (bad_here j0 j1 h1 (.inr c2)) h⟩
        have hp := hr (i - 1) (by omega) (by omega)
        rw [e1, e2, e3]
        refine evp j1 ?_
        by_cases jp : j > 0
        · exact evp jp (evp h0 (evp h1 (evp j0 (evp (by omega) (evp (by omega) (evp (by omega) (evn (fun h => c1 ⟨jp, h⟩) (evp c2.1 (evp (by omega) (evp (by omega) (evp (by omega) (evp c2.2 (Ev.now _)))))))))))))
        · exact evn jp (evp c2.1 (evp h0 (evp h1 (evp j0 (evp (by omega) (evp (by omega) (evp (by omega) (evp (by omega) (evp c2.2 (Ev.now _))))))))))
      · refine says_step jh (bad_next (fun h => h.elim c1 c2)) (fun r h => Ev.step (fun k => spileref19_Check.l2.eq_2 ..) ?_)
        rw [e1, e2, e3]
        refine evp j1 ?_
        by_cases jp : j > 0
        · refine evp jp (evp h0 (evp h1 (evp j0 (evp (by omega) (evp (by omega) (evp (by omega) (evn (fun h => c1 ⟨jp, h⟩) ?_)))))))
          by_cases ip : i > 0
          · have hp := hr (i - 1) (by omega) (by omega)
            exact evp ip (evp (by omega) (evp (by omega) (evp (by omega) (evn (fun h => c2 ⟨ip, h⟩) h))))
          · exact evn ip h
        · refine evn jp ?_
          by_cases ip : i > 0
          · have hp := hr (i - 1) (by omega) (by omega)
            exact evp ip (evp h0 (evp h1 (evp j0 (evp (by omega) (evp (by omega) (evp (by omega) (evp (by omega) (evn (fun h => c2 ⟨ip, h⟩) h))))))))
          · exact evn ip h
theorem shape_rect (hs as_ : List Int) (ts : List (List Int)) (hl : ts.length ≤ maxLen) :
    (Rect ts (as_.length : Int) → Ev (fun k => spileref19_shape.l0 k 0 hs as_ ts) 0) ∧ (¬ Rect ts (as_.length : Int) → Ev (fun k => spileref19_shape.l0 k 0 hs as_ ts) 10) := by
  have hm := len_le hl
  have h := count_up 0 (ts.length : Int) (fun i => ((∀ j, i ≤ j → j < (ts.length : Int) → ((rd_L1 ts j).length : Int) = (as_.length : Int)) → Ev (fun k => spileref19_shape.l0 k i hs as_ ts) 0) ∧ (¬ (∀ j, i ≤ j → j < (ts.length : Int) → ((rd_L1 ts j).length : Int) = (as_.length : Int)) → Ev (fun k => spileref19_shape.l0 k i hs as_ ts) 10)) ?_ ?_ 0 (by omega) (by omega)
  · exact h
  · exact ⟨fun _ => Ev.step (fun k => spileref19_shape.l0.eq_2 ..) (evn (by omega) (Ev.now _)), fun h => absurd (fun j h1 h2 => absurd h2 (by omega)) h⟩
  · intro i h0 h1 ih
    by_cases hq : ((rd_L1 ts i).length : Int) = (as_.length : Int)
    · have go : ∀ r, Ev (fun k => spileref19_shape.l0 k (i + 1) hs as_ ts) r → Ev (fun k => spileref19_shape.l0 k i hs as_ ts) r := fun r h => by
        refine Ev.step (fun k => spileref19_shape.l0.eq_2 ..) (evp h1 (evp h0 (evp hq ?_)))
        rw [w64_succ h0 h1 hm]
        exact h
      refine ⟨fun h => go _ (ih.1 fun j hj hn => h j (by omega) hn), fun h => go _ (ih.2 fun h2 => h fun j hj hn => ?_)⟩
      by_cases e : j = i
      · subst e; exact hq
      · exact h2 j (by omega) hn
    · exact ⟨fun h => absurd (h i (by omega) h1) hq, fun _ => Ev.step (fun k => spileref19_shape.l0.eq_2 ..) (evp h1 (evp h0 (evn hq (Ev.now _))))⟩
/-- A right correction table. -/
structure Valid (hs as_ : List Int) (ts : List (List Int)) : Prop where
  hs2 : 2 ≤ hs.length
  as2 : 2 ≤ as_.length
  hs32 : hs.length ≤ 32
  as32 : as_.length ≤ 32
  rows : ts.length = hs.length
  rect : Rect ts (as_.length : Int)
  heat : ∀ j, 0 ≤ j → j < (hs.length : Int) → -400 ≤ rd hs j ∧ rd hs j ≤ 600
  str : ∀ j, 0 ≤ j → j < (as_.length : Int) → 0 ≤ rd as_ j ∧ rd as_ j ≤ 10000
  num : ∀ i j, 0 ≤ i → i < (ts.length : Int) → 0 ≤ j → j < (as_.length : Int) → 0 ≤ rd (rd_L1 ts i) j ∧ rd (rd_L1 ts i) j ≤ 10000
  hris : Ris hs
  aris : Ris as_
  conf : ∀ i j, 0 ≤ i → i < (ts.length : Int) → 0 ≤ j → j < (as_.length : Int) → ¬ Conf ts i j
theorem row_len {ts : List (List Int)} (h : ∀ x, x ∈ ts → x.length ≤ maxLen) (i : Int) (h0 : 0 ≤ i) (h1 : i < (ts.length : Int)) : (rd_L1 ts i).length ≤ maxLen := by
  refine h _ ?_
  unfold rd_L1
  rw [List.getD_eq_getElem?_getD, List.getElem?_eq_getElem (by omega)]
  exact List.getElem_mem _
theorem check_both (hs as_ : List Int) (ts : List (List Int)) (hh : hs.length ≤ maxLen) (ha : as_.length ≤ maxLen) (ht : ts.length ≤ maxLen) (hrl : ∀ x, x ∈ ts → x.length ≤ maxLen) :
    ∃ r, Ev (fun k => correct_Check.f k hs as_ ts) r ∧ Ev (fun k => spileref19_Check.f k hs as_ ts) r ∧ (r = 0 ↔ Valid hs as_ ts) := by
  have hrl' := row_len hrl
  by_cases a1 : (hs.length : Int) < 2 ∨ (as_.length : Int) < 2
  · refine ⟨9, ?_, ?_, ⟨fun h => absurd h (by decide), fun v => absurd a1 (by have := v.hs2; have := v.as2; omega)⟩⟩
    · unfold correct_Check.f
      by_cases b : (hs.length : Int) < 2
      · exact evp b (Ev.step (fun k => correct_Check.j0.eq_2 ..) (evp rfl (Ev.now _)))
      · exact evn b (Ev.step (fun k => correct_Check.j0.eq_2 ..) (evp (by simp; omega) (Ev.now _)))
    · unfold spileref19_Check.f
      refine evb (a := 9) ?_ (evn (by decide) (Ev.now _))
      unfold spileref19_shape.f
      by_cases b : (hs.length : Int) < 2
      · exact evp b (Ev.step (fun k => spileref19_shape.j0.eq_2 ..) (evp rfl (Ev.now _)))
      · exact evn b (Ev.step (fun k => spileref19_shape.j0.eq_2 ..) (evp (by simp; omega) (Ev.now _)))
  have p1 : ∀ {r}, Ev (fun k => correct_Check.j0 k (hs.length : Int) false hs as_ ts (as_.length : Int)) r → Ev (fun k => correct_Check.f k hs as_ ts) r := fun {r} h => by
    unfold correct_Check.f
    refine evn (by omega) ?_
    rw [show decide ((as_.length : Int) < 2) = false from decide_eq_false (by omega)]
    exact h
  have q1 : ∀ {r}, Ev (fun k => spileref19_shape.j0 k false hs as_ ts) r → Ev (fun k => spileref19_shape.f k hs as_ ts) r := fun {r} h => by
    unfold spileref19_shape.f
    refine evn (by omega) ?_
    rw [show decide ((as_.length : Int) < 2) = false from decide_eq_false (by omega)]
    exact h
  have fail : ∀ {r : Int}, r ≠ 0 → Ev (fun k => spileref19_shape.f k hs as_ ts) r → Ev (fun k => spileref19_Check.f k hs as_ ts) r := fun {r} hr h => by
    unfold spileref19_Check.f
    exact evb h (evn hr (Ev.now _))
  by_cases a2 : (hs.length : Int) > 32 ∨ (as_.length : Int) > 32
  · refine ⟨8, p1 ?_, fail (by decide) (q1 ?_), ⟨fun h => absurd h (by decide), fun v => absurd a2 (by have := v.hs32; have := v.as32; omega)⟩⟩
    · refine Ev.step (fun k => correct_Check.j0.eq_2 ..) (evn (by decide) ?_)
      by_cases b : (hs.length : Int) > 32
      · exact evp b (Ev.step (fun k => correct_Check.j1.eq_2 ..) (evp rfl (Ev.now _)))
      · exact evn b (Ev.step (fun k => correct_Check.j1.eq_2 ..) (evp (by simp; omega) (Ev.now _)))
    · refine Ev.step (fun k => spileref19_shape.j0.eq_2 ..) (evn (by decide) ?_)
      by_cases b : (hs.length : Int) > 32
      · exact evp b (Ev.step (fun k => spileref19_shape.j1.eq_2 ..) (evp rfl (Ev.now _)))
      · exact evn b (Ev.step (fun k => spileref19_shape.j1.eq_2 ..) (evp (by simp; omega) (Ev.now _)))
  have p2 : ∀ {r}, Ev (fun k => correct_Check.j1 k (hs.length : Int) false hs as_ ts (as_.length : Int)) r → Ev (fun k => correct_Check.f k hs as_ ts) r := fun {r} h => by
    refine p1 (Ev.step (fun k => correct_Check.j0.eq_2 ..) (evn (by decide) (evn (by omega) ?_)))
    rw [show decide ((as_.length : Int) > 32) = false from decide_eq_false (by omega)]
    exact h
  have q2 : ∀ {r}, Ev (fun k => spileref19_shape.j1 k false hs as_ ts) r → Ev (fun k => spileref19_shape.f k hs as_ ts) r := fun {r} h => by
    refine q1 (Ev.step (fun k => spileref19_shape.j0.eq_2 ..) (evn (by decide) (evn (by omega) ?_)))
    rw [show decide ((as_.length : Int) > 32) = false from decide_eq_false (by omega)]
    exact h
  have hn35 := any35 ts (as_.length : Int) ht
  by_cases a3 : ¬ ((ts.length : Int) = (hs.length : Int) ∧ Rect ts (as_.length : Int))
  · refine ⟨10, p2 ?_, fail (by decide) (q2 ?_), ⟨fun h => absurd h (by decide), fun v => absurd ⟨by have := v.rows; omega, v.rect⟩ a3⟩⟩
    · refine Ev.step (fun k => correct_Check.j1.eq_2 ..) (evn (by decide) ?_)
      by_cases b : (ts.length : Int) = (hs.length : Int)
      · refine evp b (evb (hn35.1 ?_) (Ev.step (fun k => correct_Check.j2.eq_2 ..) (evp rfl (Ev.now _))))
        exact Classical.byContradiction fun hn => a3 ⟨b, fun i h0 h1 => Classical.byContradiction fun h2 => hn ⟨i, h0, h1, h2⟩⟩
      · exact evn b (Ev.step (fun k => correct_Check.j2.eq_2 ..) (evp rfl (Ev.now _)))
    · refine Ev.step (fun k => spileref19_shape.j1.eq_2 ..) (evn (by decide) ?_)
      by_cases b : (ts.length : Int) = (hs.length : Int)
      · exact evp b ((shape_rect hs as_ ts ht).2 fun h => a3 ⟨b, h⟩)
      · exact evn b (Ev.now _)
  obtain ⟨b3, rect⟩ := Classical.not_not.1 a3
  have p3 : ∀ {r}, Ev (fun k => correct_Check.j2 k false hs as_ ts) r → Ev (fun k => correct_Check.f k hs as_ ts) r := fun {r} h =>
    p2 (Ev.step (fun k => correct_Check.j1.eq_2 ..) (evn (by decide) (evp b3 (evb (hn35.2 fun ⟨i, h0, h1, h2⟩ => h2 (rect i h0 h1)) h))))
  have q3 : Ev (fun k => spileref19_shape.f k hs as_ ts) 0 := q2 (Ev.step (fun k => spileref19_shape.j1.eq_2 ..) (evn (by decide) (evp b3 ((shape_rect hs as_ ts ht).1 rect))))
  have h37 := any37 hs hh
  have h27 := any27 as_ ha
  have wh := within_ev hs (-400) 600 hh
  have wa := within_ev as_ 0 10000 ha
  by_cases a4 : (∃ j, 0 ≤ j ∧ j < (hs.length : Int) ∧ Out (-400) 600 (rd hs j)) ∨ (∃ j, 0 ≤ j ∧ j < (as_.length : Int) ∧ Out 0 10000 (rd as_ j))
  · refine ⟨2, p3 ?_, ?_, ⟨fun h => absurd h (by decide), fun v => ?_⟩⟩
    · refine Ev.step (fun k => correct_Check.j2.eq_2 ..) (evn (by decide) ?_)
      by_cases b : ∃ j, 0 ≤ j ∧ j < (hs.length : Int) ∧ Out (-400) 600 (rd hs j)
      · exact evb (h37.1 b) (evp rfl (Ev.step (fun k => correct_Check.j3.eq_2 ..) (evp rfl (Ev.now _))))
      · exact evb (h37.2 b) (evn (by decide) (evb (h27.1 (a4.resolve_left b)) (Ev.step (fun k => correct_Check.j3.eq_2 ..) (evp rfl (Ev.now _)))))
    · unfold spileref19_Check.f
      refine evb q3 (evp rfl ?_)
      by_cases b : ∃ j, 0 ≤ j ∧ j < (hs.length : Int) ∧ Out (-400) 600 (rd hs j)
      · exact evb (wh.2 fun h => h b) (evn (by decide) (Ev.step (fun k => spileref19_Check.j0.eq_2 ..) (evp rfl (Ev.now _))))
      · exact evb (wh.1 b) (evp rfl (evb (wa.2 fun h => h (a4.resolve_left b)) (Ev.step (fun k => spileref19_Check.j0.eq_2 ..) (evp rfl (Ev.now _)))))
    · rcases a4 with ⟨j, h0, h1, h2⟩ | ⟨j, h0, h1, h2⟩
      · have := v.heat j h0 h1; simp only [Out] at h2; omega
      · have := v.str j h0 h1; simp only [Out] at h2; omega
  have a4' := not_or.1 a4
  have p4 : ∀ {r}, Ev (fun k => correct_Check.j3 k false hs as_ ts) r → Ev (fun k => correct_Check.f k hs as_ ts) r := fun {r} h =>
    p3 (Ev.step (fun k => correct_Check.j2.eq_2 ..) (evn (by decide) (evb (h37.2 a4'.1) (evn (by decide) (evb (h27.2 a4'.2) h)))))
  have q4 : ∀ {r}, Ev (fun k => spileref19_Check.l0 k 0 hs as_ ts) r → Ev (fun k => spileref19_Check.f k hs as_ ts) r := fun {r} h => by
    unfold spileref19_Check.f
    exact evb q3 (evp rfl (evb (wh.1 a4'.1) (evp rfl (evb (wa.1 a4'.2) (Ev.step (fun k => spileref19_Check.j0.eq_2 ..) (evn (by decide) h))))))
  have h38 := any38 ts ht hrl'
  have hm := len_le ht
  have rows : ∀ {r}, (∀ {P : Prop}, (P ↔ ∃ i, 0 ≤ i ∧ i < (ts.length : Int) ∧ OutRow (rd_L1 ts i)) → (P → Ev (fun k => spileref19_Check.l0 k 0 hs as_ ts) 2) ∧ (¬ P → Ev (fun k => spileref19_Check.l0 k (ts.length : Int) hs as_ ts) r → Ev (fun k => spileref19_Check.l0 k 0 hs as_ ts) r)) := fun {r P} hP => by
    have h := count_up 0 (ts.length : Int) (fun i => ((∃ j, i ≤ j ∧ j < (ts.length : Int) ∧ OutRow (rd_L1 ts j)) → Ev (fun k => spileref19_Check.l0 k i hs as_ ts) 2) ∧ (¬ (∃ j, i ≤ j ∧ j < (ts.length : Int) ∧ OutRow (rd_L1 ts j)) → Ev (fun k => spileref19_Check.l0 k (ts.length : Int) hs as_ ts) r → Ev (fun k => spileref19_Check.l0 k i hs as_ ts) r)) ?_ ?_ 0 (by omega) (by omega)
    · exact ⟨fun p => h.1 (hP.1 p), fun p => h.2 (fun q => p (hP.2 q))⟩
    · exact ⟨fun ⟨j, h0, h1, _⟩ => absurd h1 (by omega), fun _ h => h⟩
    · intro i h0 h1 ih
      have w := within_ev (rd_L1 ts i) 0 10000 (hrl' i h0 h1)
      by_cases c : OutRow (rd_L1 ts i)
      · exact ⟨fun _ => Ev.step (fun k => spileref19_Check.l0.eq_2 ..) (evp h1 (evp h0 (evb (w.2 fun h => h c) (evn (by decide) (Ev.now _))))), fun hn => absurd ⟨i, by omega, h1, c⟩ hn⟩
      · have go : ∀ r, Ev (fun k => spileref19_Check.l0 k (i + 1) hs as_ ts) r → Ev (fun k => spileref19_Check.l0 k i hs as_ ts) r := fun r h => by
          refine Ev.step (fun k => spileref19_Check.l0.eq_2 ..) (evp h1 (evp h0 (evb (w.1 c) (evp rfl ?_))))
          rw [w64_succ h0 h1 hm]
          exact h
        refine ⟨fun ⟨j, g0, g1, g2⟩ => go _ (ih.1 ?_), fun hn h => go _ (ih.2 (fun ⟨j, g0, g1, g2⟩ => hn ⟨j, by omega, g1, g2⟩) h)⟩
        by_cases e : j = i
        · subst e; exact absurd g2 c
        · exact ⟨j, by omega, g1, g2⟩
  by_cases a5 : ∃ i, 0 ≤ i ∧ i < (ts.length : Int) ∧ OutRow (rd_L1 ts i)
  · refine ⟨2, p4 (Ev.step (fun k => correct_Check.j3.eq_2 ..) (evn (by decide) (evb (h38.1 a5) (evp rfl (Ev.now _))))), q4 ((rows (r := 0) Iff.rfl).1 a5), ⟨fun h => absurd h (by decide), fun v => ?_⟩⟩
    obtain ⟨i, h0, h1, j, g0, g1, g2⟩ := a5
    have := v.num i j h0 h1 g0 (by have := rect i h0 h1; omega)
    simp only [Out] at g2
    omega
  have q5 : ∀ {r}, Ev (fun k => spileref19_Check.l0 k (ts.length : Int) hs as_ ts) r → Ev (fun k => spileref19_Check.f k hs as_ ts) r := fun {r} h => q4 ((rows Iff.rfl).2 a5 h)
  have r1 := rising_ev hs hh (by omega)
  have r2 := rising_ev as_ ha (by omega)
  have s1 := rises_ev hs hh (by omega)
  have s2 := rises_ev as_ ha (by omega)
  by_cases a6 : ¬ (Ris hs ∧ Ris as_)
  · refine ⟨5, p4 (Ev.step (fun k => correct_Check.j3.eq_2 ..) (evn (by decide) (evb (h38.2 a5) (evn (by decide) ?_)))), q5 (Ev.step (fun k => spileref19_Check.l0.eq_2 ..) (evn (by omega) ?_)), ⟨fun h => absurd h (by decide), fun v => absurd ⟨v.hris, v.aris⟩ a6⟩⟩
    · by_cases b : Ris hs
      · exact evb (r1.1 b) (evp rfl (evb (r2.2 fun h => a6 ⟨b, h⟩) (evn (by decide) (Ev.now _))))
      · exact evb (r1.2 b) (evn (by decide) (Ev.now _))
    · by_cases b : Ris hs
      · exact evb (s1.1 b) (evp rfl (evb (s2.2 fun h => a6 ⟨b, h⟩) (Ev.step (fun k => spileref19_Check.j2.eq_2 ..) (evp rfl (Ev.now _)))))
      · exact evb (s1.2 b) (evn (by decide) (Ev.step (fun k => spileref19_Check.j2.eq_2 ..) (evp rfl (Ev.now _))))
  replace a6 := Classical.not_not.1 a6
  have p6 : ∀ {r}, Ev (fun k => correct_Check.l0 k ts (ts.length : Int) 0 hs as_ ts) r → Ev (fun k => correct_Check.f k hs as_ ts) r := fun {r} h =>
    p4 (Ev.step (fun k => correct_Check.j3.eq_2 ..) (evn (by decide) (evb (h38.2 a5) (evn (by decide) (evb (r1.1 a6.1) (evp rfl (evb (r2.1 a6.2) (evp rfl h))))))))
  have q6 : ∀ {r}, Ev (fun k => spileref19_Check.l1 k 0 hs as_ ts) r → Ev (fun k => spileref19_Check.f k hs as_ ts) r := fun {r} h =>
    q5 (Ev.step (fun k => spileref19_Check.l0.eq_2 ..) (evn (by omega) (evb (s1.1 a6.1) (evp rfl (evb (s2.1 a6.2) (Ev.step (fun k => spileref19_Check.j2.eq_2 ..) (evn (by decide) h)))))))
  have c1 := conf_prog hs as_ ts (as_.length : Int) rect ht (by omega) (by omega) 0 (by omega) (by omega)
  have c2 := conf_ref hs as_ ts rect ht ha 0 (by omega) (by omega)
  by_cases a7 : BadFrom ts (as_.length : Int) 0 0
  · refine ⟨18, p6 (c1.1 a7), q6 (c2.1 a7), ⟨fun h => absurd h (by decide), fun v => ?_⟩⟩
    obtain ⟨i2, j2, h, h0, h1, h2, hc⟩ := a7
    exact absurd hc (v.conf i2 j2 (by omega) h2 h0 h1)
  · refine ⟨0, p6 (c1.2 a7), q6 (c2.2 a7), ⟨fun _ => ?_, fun _ => rfl⟩⟩
    refine ⟨by omega, by omega, by omega, by omega, by omega, rect, fun j h0 h1 => ?_, fun j h0 h1 => ?_, fun i j h0 h1 g0 g1 => ?_, a6.1, a6.2, fun i j h0 h1 g0 g1 hc => a7 ⟨i, j, by omega, g0, g1, h1, hc⟩⟩
    · exact Classical.byContradiction fun h => a4'.1 ⟨j, h0, h1, by simp only [Out]; omega⟩
    · exact Classical.byContradiction fun h => a4'.2 ⟨j, h0, h1, by simp only [Out]; omega⟩
    · exact Classical.byContradiction fun h => a5 ⟨i, h0, h1, j, g0, by have := rect i h0 h1; omega, by simp only [Out]; omega⟩
end Go.Proofs.YtmdfnambaedllaaDoor.Pure
namespace Go.Proofs.YtmdfnambaedllaaDoor.Pure
open Go Go.RowKit Go.Proofs.YtmdfnambaedllaaDoorW.PrintWords Go.Proofs.YtmdfnambaedllaaDoorW.PrintLast Go.Proofs.YtmdfnambaedllaaDoorW.PrintMore Go.Proofs.YtmdfnambaedllaaDoor.Pr Go.Proofs.YtmdfnambaedllaaDoor.PL
theorem Ris.lt {l : List Int} (h : Ris l) {i j : Int} (h0 : 0 ≤ i) (h1 : i < j) (h2 : j < (l.length : Int)) : rd l i < rd l j := by
  obtain ⟨d, hd⟩ : ∃ d : Nat, j = i + 1 + d := ⟨(j - i - 1).toNat, by omega⟩
  induction d generalizing j with
  | zero =>
    obtain rfl : j = i + 1 := by omega
    exact h i h0 (by omega)
  | succ d ih =>
    have := ih (j := j - 1) (by omega) (by omega) (by omega)
    have h3 := h (j - 1) (by omega) (by omega)
    rw [show j - 1 + 1 = j from by omega] at h3
    omega
theorem Ris.le {l : List Int} (h : Ris l) {i j : Int} (h0 : 0 ≤ i) (h1 : i ≤ j) (h2 : j < (l.length : Int)) : rd l i ≤ rd l j := by
  by_cases e : i = j
  · subst e; exact Int.le_refl _
  · exact Int.le_of_lt (h.lt h0 (by omega) h2)
/-- A number is between the first and the last one. -/
def In (l : List Int) (n : Int) : Prop := rd l 0 ≤ n ∧ n ≤ rd l ((l.length : Int) - 1)
/-- p is the place ahead of n. -/
def At (l : List Int) (n p : Int) : Prop := 0 ≤ p ∧ p ≤ (l.length : Int) - 2 ∧ rd l p ≤ n ∧ (p < (l.length : Int) - 2 → n < rd l (p + 1))
theorem At.unique {l : List Int} (hl : Ris l) {n p q : Int} (h : At l n p) (h2 : At l n q) : p = q := by
  obtain ⟨a, b, c, d⟩ := h
  obtain ⟨a2, b2, c2, d2⟩ := h2
  by_cases e : p < q
  · have := d (by omega)
    have := hl.le (i := p + 1) (j := q) (by omega) (by omega) (by omega)
    omega
  · by_cases e2 : q < p
    · have := d2 (by omega)
      have := hl.le (i := q + 1) (j := p) (by omega) (by omega) (by omega)
      omega
    · omega
theorem place_prog {l : List Int} (hl : Ris l) (h2 : 2 ≤ l.length) (h32 : l.length ≤ 32) (n : Int) :
    (¬ In l n → Ev (fun k => correct_place_int.f k l n) (0, false)) ∧ (In l n → ∃ p, At l n p ∧ Ev (fun k => correct_place_int.f k l n) (p, true)) := by
  have e1 : wrap64 ((l.length : Int) - 1) = (l.length : Int) - 1 := w64 (by omega) (by omega)
  have e2 : wrap64 ((l.length : Int) - 2) = (l.length : Int) - 2 := w64 (by omega) (by omega)
  unfold correct_place_int.f
  rw [e1, e2]
  constructor
  · intro h
    refine evp (by omega) ?_
    by_cases c : n < rd l 0
    · exact evp c (Ev.now _)
    · refine evn c (evp (by omega) (evp (by omega) (evp ?_ (Ev.now _))))
      exact Classical.byContradiction fun h3 => h ⟨by omega, by omega⟩
  · intro ⟨h, h'⟩
    have hs := search_ev (l.length : Int) (fun i => rd l i > n) (fun i j k => sort_Search_32_at_55.l0 k i j l n) ?_ ?_ ?_ ?_ (by omega)
    · obtain ⟨r, hr, r0, r1, r2, r3⟩ := hs
      have hr1 : 1 ≤ r := by
        by_cases e : r = 0
        · have := r3 0 (by omega) (by omega)
          omega
        · omega
      have e3 : wrap64 (r - 1) = r - 1 := w64 (by omega) (by omega)
      have a1 := r2 (r - 1) (by omega) (by omega)
      refine ⟨mn (r - 1) ((l.length : Int) - 2), ?_, evp (by omega) (evn (by omega) (evp (by omega) (evp (by omega) (evn (by omega) (evb (a := r) hr ?_)))))⟩
      · unfold mn At
        by_cases c : (l.length : Int) - 2 < r - 1
        · rw [if_pos c]
          have := hl.le (i := (l.length : Int) - 2) (j := r - 1) (by omega) (by omega) (by omega)
          exact ⟨by omega, by omega, by omega, fun h => absurd h (by omega)⟩
        · rw [if_neg c]
          refine ⟨by omega, by omega, by omega, fun h4 => ?_⟩
          have := r3 (r - 1 + 1) (by omega) (by omega)
          omega
      · rw [e3]
        exact Ev.now _
    · intro i h0 h1
      exact Ev.step (fun k => sort_Search_32_at_55.l0.eq_2 ..) (evn (by omega) (Ev.now _))
    · intro i j h0 h1 h3 q r hr
      refine Ev.step (fun k => sort_Search_32_at_55.l0.eq_2 ..) ?_
      rw [half h0 h1 (by omega)]
      exact evp h1 (evb (a := true) (evc (fun _ => rfl) (by unfold correct_place_int_1.f; rw [if_pos (by omega), if_pos (by omega), decide_eq_true q])) (evp rfl hr))
    · intro i j h0 h1 h3 q r hr
      refine Ev.step (fun k => sort_Search_32_at_55.l0.eq_2 ..) ?_
      rw [half h0 h1 (by omega), w64 (x := (i + j) / 2 + 1) (by omega) (by omega)]
      exact evp h1 (evb (a := false) (evc (fun _ => rfl) (by unfold correct_place_int_1.f; rw [if_pos (by omega), if_pos (by omega), decide_eq_false q])) (evn (by decide) hr))
    · intro a b h0 h1 h3 q
      have := hl.le h0 h1 h3
      omega
theorem inside_ref {l : List Int} (h2 : 2 ≤ l.length) (h32 : l.length ≤ 32) (n : Int) : (In l n → spileref19_inside.f l n = some true) ∧ (¬ In l n → spileref19_inside.f l n = some false) := by
  have e1 : wrap64 ((l.length : Int) - 1) = (l.length : Int) - 1 := w64 (by omega) (by omega)
  unfold spileref19_inside.f
  rw [e1, if_pos (by omega)]
  constructor
  · intro ⟨h, h'⟩
    rw [if_pos (by omega), if_pos (by omega), if_pos (by omega), decide_eq_true h']
  · intro h
    by_cases c : n ≥ rd l 0
    · rw [if_pos c, if_pos (by omega), if_pos (by omega), decide_eq_false (fun h3 => h ⟨c, h3⟩)]
    · rw [if_neg c]
theorem place_ref {l : List Int} (hl : Ris l) (h2 : 2 ≤ l.length) (h32 : l.length ≤ 32) {n p : Int} (hp : At l n p) : Ev (fun k => spileref19_place.f k l n) p := by
  have e1 : wrap64 ((l.length : Int) - 1) = (l.length : Int) - 1 := w64 (by omega) (by omega)
  obtain ⟨p0, p1, p2, p3⟩ := hp
  have tail := count_up (p + 1) ((l.length : Int) - 1) (fun i => Ev (fun k => spileref19_place.l0 k l n p i) p) ?_ ?_ (p + 1) (by omega) (by omega)
  · have front := count_up 0 p (fun i => ∀ at_, Ev (fun k => spileref19_place.l0 k l n at_ i) p) ?_ ?_ 0 (by omega) p0
    · exact front 0
    · intro at_
      refine Ev.step (fun k => spileref19_place.l0.eq_2 ..) ?_
      rw [e1, w64 (x := p + 1) (by omega) (by omega)]
      exact evp (by omega) (evp (by omega) (evp (by omega) (evp p2 tail)))
    · intro i h0 h1 ih at_
      have := hl.le h0 (show i ≤ p by omega) (by omega)
      refine Ev.step (fun k => spileref19_place.l0.eq_2 ..) ?_
      rw [e1, w64 (x := i + 1) (by omega) (by omega)]
      exact evp (by omega) (evp (by omega) (evp (by omega) (evp (by omega) (ih _))))
  · refine Ev.step (fun k => spileref19_place.l0.eq_2 ..) ?_
    rw [e1]
    exact evn (by omega) (Ev.now _)
  · intro i h0 h1 ih
    have := p3 (by omega)
    have := hl.le (i := p + 1) (j := i) (by omega) (by omega) (by omega)
    refine Ev.step (fun k => spileref19_place.l0.eq_2 ..) ?_
    rw [e1, w64 (x := i + 1) (by omega) (by omega)]
    exact evp (by omega) (evp (by omega) (evp (by omega) (evn (by omega) ih)))
theorem at_exists {l : List Int} (hl : Ris l) (h2 : 2 ≤ l.length) (h32 : l.length ≤ 32) {n : Int} (h : In l n) : ∃ p, At l n p := by
  obtain ⟨p, hp, _⟩ := (place_prog hl h2 h32 n).2 h
  exact ⟨p, hp⟩
/-- The strength between four numbers of a table. -/
def between (h0 h1 a0 a1 c00 c01 c10 c11 h a : Int) : Int :=
  (2 * ((h1 - h) * ((a1 - a) * c00 + (a - a0) * c01) + (h - h0) * ((a1 - a) * c10 + (a - a0) * c11)) + (h1 - h0) * (a1 - a0)) / (2 * ((h1 - h0) * (a1 - a0)))
theorem between_wraps {h0 h1 a0 a1 c00 c01 c10 c11 h a : Int} (b1 : -400 ≤ h0) (b2 : h0 < h1) (b3 : h1 ≤ 600) (b4 : 0 ≤ a0) (b5 : a0 < a1) (b6 : a1 ≤ 10000) (b7 : h0 ≤ h) (b8 : h ≤ h1) (b9 : a0 ≤ a) (b10 : a ≤ a1)
    (k1 : 0 ≤ c00 ∧ c00 ≤ 10000) (k2 : 0 ≤ c01 ∧ c01 ≤ 10000) (k3 : 0 ≤ c10 ∧ c10 ≤ 10000) (k4 : 0 ≤ c11 ∧ c11 ≤ 10000) :
    wrap64 (2 * wrap64 (wrap64 (h1 - h0) * wrap64 (a1 - a0))) ≠ 0 ∧
    wrap64 (Int.tdiv (wrap64 (wrap64 (2 * wrap64 (wrap64 (wrap64 (h1 - h) * wrap64 (wrap64 (wrap64 (a1 - a) * c00) + wrap64 (wrap64 (a - a0) * c01))) + wrap64 (wrap64 (h - h0) * wrap64 (wrap64 (wrap64 (a1 - a) * c10) + wrap64 (wrap64 (a - a0) * c11))))) + wrap64 (wrap64 (h1 - h0) * wrap64 (a1 - a0)))) (wrap64 (2 * wrap64 (wrap64 (h1 - h0) * wrap64 (a1 - a0))))) = between h0 h1 a0 a1 c00 c01 c10 c11 h a := by
  have m1 := mulb (x := a1 - a) (y := c00) (X := 10000) (Y := 10000) (by omega) (by omega) k1.1 k1.2
  have m2 := mulb (x := a - a0) (y := c01) (X := 10000) (Y := 10000) (by omega) (by omega) k2.1 k2.2
  have m3 := mulb (x := a1 - a) (y := c10) (X := 10000) (Y := 10000) (by omega) (by omega) k3.1 k3.2
  have m4 := mulb (x := a - a0) (y := c11) (X := 10000) (Y := 10000) (by omega) (by omega) k4.1 k4.2
  have m5 := mulb (x := h1 - h) (y := (a1 - a) * c00 + (a - a0) * c01) (X := 1000) (Y := 200000000) (by omega) (by omega) (by omega) (by omega)
  have m6 := mulb (x := h - h0) (y := (a1 - a) * c10 + (a - a0) * c11) (X := 1000) (Y := 200000000) (by omega) (by omega) (by omega) (by omega)
  have m7 := mulb (x := h1 - h0) (y := a1 - a0) (X := 1000) (Y := 10000) (by omega) (by omega) (by omega) (by omega)
  have m8 : 1 ≤ (h1 - h0) * (a1 - a0) := Int.mul_pos (by omega) (by omega)
  have e1 : wrap64 (h1 - h0) = h1 - h0 := w64 (by omega) (by omega)
  have e2 : wrap64 (a1 - a0) = a1 - a0 := w64 (by omega) (by omega)
  have e3 : wrap64 (h1 - h) = h1 - h := w64 (by omega) (by omega)
  have e4 : wrap64 (a1 - a) = a1 - a := w64 (by omega) (by omega)
  have e5 : wrap64 (a - a0) = a - a0 := w64 (by omega) (by omega)
  have e6 : wrap64 (h - h0) = h - h0 := w64 (by omega) (by omega)
  rw [e1, e2, e3, e4, e5, e6]
  unfold between
  generalize (a1 - a) * c00 = q1 at *
  generalize (a - a0) * c01 = q2 at *
  generalize (a1 - a) * c10 = q3 at *
  generalize (a - a0) * c11 = q4 at *
  rw [w64 (x := q1) (by omega) (by omega), w64 (x := q2) (by omega) (by omega), w64 (x := q3) (by omega) (by omega), w64 (x := q4) (by omega) (by omega), w64 (x := q1 + q2) (by omega) (by omega), w64 (x := q3 + q4) (by omega) (by omega)]
  generalize (h1 - h) * (q1 + q2) = q5 at *
  generalize (h - h0) * (q3 + q4) = q6 at *
  generalize (h1 - h0) * (a1 - a0) = q7 at *
  rw [w64 (x := q5) (by omega) (by omega), w64 (x := q6) (by omega) (by omega), w64 (x := q7) (by omega) (by omega), w64 (x := q5 + q6) (by omega) (by omega), w64 (x := 2 * (q5 + q6)) (by omega) (by omega), w64 (x := 2 * (q5 + q6) + q7) (by omega) (by omega), w64 (x := 2 * q7) (by omega) (by omega)]
  refine ⟨by omega, ?_⟩
  rw [Int.tdiv_eq_ediv_of_nonneg (by omega)]
  have d1 : 0 ≤ (2 * (q5 + q6) + q7) / (2 * q7) := Int.ediv_nonneg (by omega) (by omega)
  have d2 : (2 * (q5 + q6) + q7) / (2 * q7) ≤ 2 * (q5 + q6) + q7 := Int.ediv_le_self _ (by omega)
  exact w64 (by omega) (by omega)
/-- The strength of a right table at two places. -/
def tab (hs as_ : List Int) (ts : List (List Int)) (p q h a : Int) : Int :=
  between (rd hs p) (rd hs (p + 1)) (rd as_ q) (rd as_ (q + 1)) (rd (rd_L1 ts p) q) (rd (rd_L1 ts p) (q + 1)) (rd (rd_L1 ts (p + 1)) q) (rd (rd_L1 ts (p + 1)) (q + 1)) h a
theorem At.next {l : List Int} {n p : Int} (h : At l n p) (hi : In l n) : n ≤ rd l (p + 1) := by
  obtain ⟨a, b, c, d⟩ := h
  by_cases e : p < (l.length : Int) - 2
  · exact Int.le_of_lt (d e)
  · have : p + 1 = (l.length : Int) - 1 := by omega
    rw [this]
    exact hi.2
theorem at_ref {hs as_ : List Int} {ts : List (List Int)} (v : Valid hs as_ ts) {h a p q : Int} (hh : In hs h) (ha : In as_ a) (hp : At hs h p) (hq : At as_ a q) :
    Ev (fun k => spileref19_At.f k hs as_ ts h a) (tab hs as_ ts p q h a) := by
  have := v.hs2; have := v.as2; have := v.hs32; have := v.as32; have := v.rows
  obtain ⟨p0, p1, p2, p3⟩ := hp
  obtain ⟨q0, q1, q2, q3⟩ := hq
  have hp' : At hs h p := ⟨p0, p1, p2, p3⟩
  have hq' : At as_ a q := ⟨q0, q1, q2, q3⟩
  have r1 := v.rect p p0 (by omega)
  have r2 := v.rect (p + 1) (by omega) (by omega)
  have bw := between_wraps (v.heat p p0 (by omega)).1 (v.hris p p0 (by omega)) (v.heat (p + 1) (by omega) (by omega)).2 (v.str q q0 (by omega)).1 (v.aris q q0 (by omega)) (v.str (q + 1) (by omega) (by omega)).2 p2 (hp'.next hh) q2 (hq'.next ha)
    (v.num p q p0 (by omega) q0 (by omega)) (v.num p (q + 1) p0 (by omega) (by omega) (by omega)) (v.num (p + 1) q (by omega) (by omega) q0 (by omega)) (v.num (p + 1) (q + 1) (by omega) (by omega) (by omega) (by omega))
  have e1 : wrap64 (p + 1) = p + 1 := w64 (by omega) (by omega)
  have e2 : wrap64 (q + 1) = q + 1 := w64 (by omega) (by omega)
  unfold spileref19_At.f
  refine evb (place_ref v.hris (by omega) (by omega) hp') (evb (place_ref v.aris (by omega) (by omega) hq') ?_)
  rw [e1, e2]
  refine evp p0 (evp (by omega) (evp (by omega) (evp (by omega) (evp q0 (evp (by omega) (evp (by omega) (evp (by omega) (evp (by omega) (evp (by omega) (evp (by omega) (evp (by omega) (evp (by omega) (evp (by omega) (evn bw.1 (evr bw.2)))))))))))))))
theorem at_prog {hs as_ : List Int} {ts : List (List Int)} (v : Valid hs as_ ts) (h a : Int) :
    (¬ (In hs h ∧ In as_ a) → Ev (fun k => correct_at.f k hs as_ ts h a) (0, false)) ∧
    (In hs h → In as_ a → ∀ p q, At hs h p → At as_ a q → Ev (fun k => correct_at.f k hs as_ ts h a) (tab hs as_ ts p q h a, true)) := by
  have := v.hs2; have := v.as2; have := v.hs32; have := v.as32; have := v.rows
  have pl1 := place_prog v.hris (by omega) (by omega) h
  have pl2 := place_prog v.aris (by omega) (by omega) a
  constructor
  · intro hn
    unfold correct_at.f
    by_cases c : In hs h
    · obtain ⟨p, _, hp⟩ := pl1.2 c
      exact evb hp (evb (pl2.1 fun c2 => hn ⟨c, c2⟩) (evp rfl (evn (by decide) (Ev.now _))))
    · by_cases c2 : In as_ a
      · obtain ⟨q, _, hq⟩ := pl2.2 c2
        exact evb (pl1.1 c) (evb hq (evn (by decide) (Ev.now _)))
      · exact evb (pl1.1 c) (evb (pl2.1 c2) (evn (by decide) (Ev.now _)))
  · intro hh ha p q hp hq
    obtain ⟨p', hp', ep⟩ := pl1.2 hh
    obtain ⟨q', hq', eq⟩ := pl2.2 ha
    obtain rfl := hp'.unique v.hris hp
    obtain rfl := hq'.unique v.aris hq
    obtain ⟨p0, p1, p2, p3⟩ := hp
    obtain ⟨q0, q1, q2, q3⟩ := hq
    have r1 := v.rect p' p0 (by omega)
    have r2 := v.rect (p' + 1) (by omega) (by omega)
    have bw := between_wraps (v.heat p' p0 (by omega)).1 (v.hris p' p0 (by omega)) (v.heat (p' + 1) (by omega) (by omega)).2 (v.str q' q0 (by omega)).1 (v.aris q' q0 (by omega)) (v.str (q' + 1) (by omega) (by omega)).2 p2 (hp'.next hh) q2 (hq'.next ha)
      (v.num p' q' p0 (by omega) q0 (by omega)) (v.num p' (q' + 1) p0 (by omega) (by omega) (by omega)) (v.num (p' + 1) q' (by omega) (by omega) q0 (by omega)) (v.num (p' + 1) (q' + 1) (by omega) (by omega) (by omega) (by omega))
    have e1 : wrap64 (p' + 1) = p' + 1 := w64 (by omega) (by omega)
    have e2 : wrap64 (q' + 1) = q' + 1 := w64 (by omega) (by omega)
    unfold correct_at.f
    refine evb ep (evb eq ?_)
    simp only [e1, e2]
    refine evp trivial (evp trivial (evp p0 (evp (by omega) (evp q0 (evp (by omega) (evp (by omega) (evp (by omega) (evp (by omega) (evp (by omega) (evp (by omega) (evp (by omega) (evp (by omega) (evp (by omega) (evp (by omega) (evp (by omega) (evn bw.1 (evr ?_)))))))))))))))))
    rw [bw.2]
    rfl
end Go.Proofs.YtmdfnambaedllaaDoor.Pure
namespace Go.Proofs.YtmdfnambaedllaaDoor.Pure
open Go Go.RowKit Go.Proofs.YtmdfnambaedllaaDoorW.PrintWords Go.Proofs.YtmdfnambaedllaaDoorW.PrintLast Go.Proofs.YtmdfnambaedllaaDoorW.PrintMore Go.Proofs.YtmdfnambaedllaaDoor.Pr Go.Proofs.YtmdfnambaedllaaDoor.PL Go.Proofs.YtmdfnambaedllaaDoor.Opn Go.Proofs.YtmdfnambaedllaaDoor.X
theorem around_ends {l : List Int} (h2 : 2 ≤ l.length) (h32 : l.length ≤ 32) (n e : Int) :
    correct_Around_1.f l n e = some (mx (rd l 0) (wrap64 (n - e)), mn (rd l ((l.length : Int) - 1)) (wrap64 (n + e))) := by
  have e1 : wrap64 ((l.length : Int) - 1) = (l.length : Int) - 1 := w64 (by omega) (by omega)
  unfold correct_Around_1.f
  rw [e1, if_pos (by omega), if_pos (by omega), if_pos (by omega)]
theorem mx_in {l : List Int} (hl : Ris l) (h2 : 2 ≤ l.length) {n e : Int} (hn : In l n) (b0 : -400 ≤ rd l 0) (b1 : rd l ((l.length : Int) - 1) ≤ 10000) (e0 : 0 ≤ e) (e1 : e ≤ 10001) : In l (mx (rd l 0) (wrap64 (n - e))) := by
  obtain ⟨a, b⟩ := hn
  have := hl.le (i := 0) (j := (l.length : Int) - 1) (by omega) (by omega) (by omega)
  rw [w64 (x := n - e) (by omega) (by omega)]
  unfold In mx
  split <;> omega
theorem mn_in {l : List Int} (hl : Ris l) (h2 : 2 ≤ l.length) {n e : Int} (hn : In l n) (b0 : -400 ≤ rd l 0) (b1 : rd l ((l.length : Int) - 1) ≤ 10000) (e0 : 0 ≤ e) (e1 : e ≤ 10001) : In l (mn (rd l ((l.length : Int) - 1)) (wrap64 (n + e))) := by
  obtain ⟨a, b⟩ := hn
  have := hl.le (i := 0) (j := (l.length : Int) - 1) (by omega) (by omega) (by omega)
  rw [w64 (x := n + e) (by omega) (by omega)]
  unfold In mn
  split <;> omega
/-- What Around comes to, in both. -/
theorem around_both (hs as_ : List Int) (ts : List (List Int)) (a1 a2 a3 a4 : Int) (hh : hs.length ≤ maxLen) (ha : as_.length ≤ maxLen) (ht : ts.length ≤ maxLen) (hrl : ∀ x, x ∈ ts → x.length ≤ maxLen) :
    ∃ r, Ev (fun k => correct_Around.f k hs as_ ts a1 a2 a3 a4) r ∧ Ev (fun k => spileref19_Around.f k hs as_ ts a1 a2 a3 a4) r := by
  obtain ⟨c, p, q, hc⟩ := check_both hs as_ ts hh ha ht hrl
  by_cases c0 : c = 0
  · subst c0
    have v := hc.1 rfl
    have n1 := v.hs2; have n2 := v.as2; have n3 := v.hs32; have n4 := v.as32
    have ap := at_prog v a1 a2
    have i1 := inside_ref (l := hs) (by omega) (by omega) a1
    have i2 := inside_ref (l := as_) (by omega) (by omega) a2
    have B1 := (v.heat 0 (by omega) (by omega)).1
    have B2 := (v.heat ((hs.length : Int) - 1) (by omega) (by omega)).2
    have B3 := (v.str 0 (by omega) (by omega)).1
    have B4 := (v.str ((as_.length : Int) - 1) (by omega) (by omega)).2
    have bad : ∀ {r : Int × Int × Int}, r = (0, 0, 2) → Ev (fun k => correct_Around.j0 k a1 a2 a3 a4 true hs as_ ts) r ∧ Ev (fun k => spileref19_Around.j0 k a1 a2 a3 a4 true hs as_ ts) r := fun {r} h => by
      subst h
      exact ⟨Ev.step (fun k => correct_Around.j0.eq_2 ..) (evp rfl (Ev.now _)), Ev.step (fun k => spileref19_Around.j0.eq_2 ..) (evp rfl (Ev.now _))⟩
    obtain ⟨bp, bq⟩ := bad rfl
    by_cases hin : In hs a1 ∧ In as_ a2
    · obtain ⟨h1, h2⟩ := hin
      obtain ⟨p1, hp1⟩ := at_exists v.hris (by omega) (by omega) h1
      obtain ⟨q1, hq1⟩ := at_exists v.aris (by omega) (by omega) h2
      have e0 := ap.2 h1 h2 p1 q1 hp1 hq1
      by_cases b : Out 0 10000 a3 ∨ Out 0 10000 a4
      · refine ⟨(0, 0, 2), ?_, ?_⟩
        · unfold correct_Around.f
          refine evb p (evp rfl (evb e0 (evp rfl ?_)))
          by_cases b3 : Out 0 10000 a3
          · exact evb (a := true) (evc (fun _ => rfl) (by rw [strange_eq, decide_eq_true b3])) (evp rfl bp)
          · exact evb (a := false) (evc (fun _ => rfl) (by rw [strange_eq, decide_eq_false b3])) (evn (by decide) (evb (a := true) (evc (fun _ => rfl) (by rw [strange_eq, decide_eq_true (b.resolve_left b3)])) bp))
        · unfold spileref19_Around.f
          refine evb q (evp rfl (evb (evc (fun _ => rfl) (i1.1 h1)) (evp rfl (evb (evc (fun _ => rfl) (i2.1 h2)) (evp rfl ?_)))))
          simp only [Out] at b
          by_cases b1 : a3 < 0
          · exact evp b1 bq
          · refine evn b1 ?_
            by_cases b2 : a3 > 10000
            · exact evp b2 bq
            · refine evn b2 ?_
              by_cases b3 : a4 < 0
              · exact evp b3 bq
              · refine evn b3 ?_
                rw [decide_eq_true (show a4 > 10000 by omega)]
                exact bq
      · have b' := not_or.1 b
        have b3 : 0 ≤ a3 ∧ a3 ≤ 10000 := by have := b'.1; simp only [Out] at this; omega
        have b4 : 0 ≤ a4 ∧ a4 ≤ 10000 := by have := b'.2; simp only [Out] at this; omega
        have cold := mx_in v.hris (by omega) h1 B1 (by omega) b3.1 (by omega)
        have warm := mn_in v.hris (by omega) h1 B1 (by omega) b3.1 (by omega)
        have weak := mx_in v.aris (by omega) h2 (by omega) B4 b4.1 (by omega)
        have strong := mn_in v.aris (by omega) h2 (by omega) B4 b4.1 (by omega)
        obtain ⟨pw, hpw⟩ := at_exists v.hris (by omega) (by omega) warm
        obtain ⟨pc, hpc⟩ := at_exists v.hris (by omega) (by omega) cold
        obtain ⟨qw, hqw⟩ := at_exists v.aris (by omega) (by omega) weak
        obtain ⟨qs, hqs⟩ := at_exists v.aris (by omega) (by omega) strong
        have l1 := (at_prog v _ _).2 warm weak pw qw hpw hqw
        have l2 := (at_prog v _ _).2 cold strong pc qs hpc hqs
        have m1 := at_ref v warm weak hpw hqw
        have m2 := at_ref v cold strong hpc hqs
        have w1 : wrap64 ((hs.length : Int) - 1) = (hs.length : Int) - 1 := w64 (by omega) (by omega)
        have w2 : wrap64 ((as_.length : Int) - 1) = (as_.length : Int) - 1 := w64 (by omega) (by omega)
        refine ⟨(tab hs as_ ts pw qw (mn (rd hs ((hs.length : Int) - 1)) (wrap64 (a1 + a3))) (mx (rd as_ 0) (wrap64 (a2 - a4))), tab hs as_ ts pc qs (mx (rd hs 0) (wrap64 (a1 - a3))) (mn (rd as_ ((as_.length : Int) - 1)) (wrap64 (a2 + a4))), 0), ?_, ?_⟩
        · unfold correct_Around.f
          refine evb p (evp rfl (evb e0 (evp rfl (evb (a := false) (evc (fun _ => rfl) (by rw [strange_eq, decide_eq_false b'.1])) (evn (by decide) (evb (a := false) (evc (fun _ => rfl) (by rw [strange_eq, decide_eq_false b'.2])) ?_))))))
          refine Ev.step (fun k => correct_Around.j0.eq_2 ..) (evn (by decide) (evb (evc (fun _ => rfl) (around_ends (by omega) (by omega) _ _)) (evb (evc (fun _ => rfl) (around_ends (by omega) (by omega) _ _)) (evb l1 (evb l2 (Ev.now _))))))
        · unfold spileref19_Around.f
          refine evb q (evp rfl (evb (evc (fun _ => rfl) (i1.1 h1)) (evp rfl (evb (evc (fun _ => rfl) (i2.1 h2)) (evp rfl (evn (by omega) (evn (by omega) (evn (by omega) ?_))))))))
          rw [decide_eq_false (show ¬ a4 > 10000 by omega)]
          refine Ev.step (fun k => spileref19_Around.j0.eq_2 ..) (evn (by decide) ?_)
          rw [w1, w2, mx_comm (wrap64 (a2 - a4)), mn_comm (wrap64 (a1 + a3)), mx_comm (wrap64 (a1 - a3)), mn_comm (wrap64 (a2 + a4))]
          exact evp (by omega) (evp (by omega) (evp (by omega) (evp (by omega) (evp (by omega) (evp (by omega) (evb m1 (evb m2 (Ev.now _))))))))
    · refine ⟨(0, 0, 2), ?_, ?_⟩
      · unfold correct_Around.f
        exact evb p (evp rfl (evb (ap.1 hin) (evn (by decide) bp)))
      · unfold spileref19_Around.f
        refine evb q (evp rfl ?_)
        by_cases h1 : In hs a1
        · exact evb (evc (fun _ => rfl) (i1.1 h1)) (evp rfl (evb (evc (fun _ => rfl) (i2.2 fun h2 => hin ⟨h1, h2⟩)) (evn (by decide) bq)))
        · exact evb (evc (fun _ => rfl) (i1.2 h1)) (evn (by decide) bq)
  · refine ⟨(0, 0, 1), ?_, ?_⟩
    · unfold correct_Around.f
      exact evb p (evn c0 (Ev.now _))
    · unfold spileref19_Around.f
      exact evb q (evn c0 (Ev.now _))
theorem small_some (n : Int) : ∃ b, spileref19_small.f n = some b := by
  unfold spileref19_small.f
  split
  · exact ⟨_, rfl⟩
  · split <;> exact ⟨_, rfl⟩
/-- Few ends. -/
theorem few_some (hs as_ : List Int) (ts : List (List Int)) (ht : ts.length ≤ maxLen) : ∃ b, Ev (fun k => spileref19_Few.f k hs as_ ts) b := by
  have hm := len_le ht
  have loop := count_up 0 (ts.length : Int) (fun i => ∃ b, Ev (fun k => spileref19_Few.l0 k i hs as_ ts) b) ⟨true, Ev.step (fun k => spileref19_Few.l0.eq_2 ..) (evn (by omega) (Ev.now _))⟩ (fun i h0 h1 ⟨b, hb⟩ => by
    obtain ⟨s, hs'⟩ := small_some ((rd_L1 ts i).length : Int)
    cases s with
    | true =>
      refine ⟨b, Ev.step (fun k => spileref19_Few.l0.eq_2 ..) (evp h1 (evp h0 (evb (evc (fun _ => rfl) hs') (evp rfl ?_))))⟩
      rw [w64_succ h0 h1 hm]
      exact hb
    | false => exact ⟨false, Ev.step (fun k => spileref19_Few.l0.eq_2 ..) (evp h1 (evp h0 (evb (evc (fun _ => rfl) hs') (evn (by decide) (Ev.now _)))))⟩) 0 (by omega) (by omega)
  have no : Ev (fun k => spileref19_Few.j0 k true hs as_ ts) false := Ev.step (fun k => spileref19_Few.j0.eq_2 ..) (evp rfl (Ev.now _))
  obtain ⟨s1, e1⟩ := small_some (hs.length : Int)
  obtain ⟨s2, e2⟩ := small_some (as_.length : Int)
  obtain ⟨s3, e3⟩ := small_some (ts.length : Int)
  unfold spileref19_Few.f
  cases s1 with
  | false => exact ⟨false, evb (evc (fun _ => rfl) e1) (evn (by decide) no)⟩
  | true =>
    cases s2 with
    | false => exact ⟨false, evb (evc (fun _ => rfl) e1) (evp rfl (evb (evc (fun _ => rfl) e2) (evn (by decide) no)))⟩
    | true =>
      cases s3 with
      | false => exact ⟨false, evb (evc (fun _ => rfl) e1) (evp rfl (evb (evc (fun _ => rfl) e2) (evp rfl (evb (evc (fun _ => rfl) e3) no))))⟩
      | true =>
        obtain ⟨b, hb⟩ := loop
        exact ⟨b, evb (evc (fun _ => rfl) e1) (evp rfl (evb (evc (fun _ => rfl) e2) (evp rfl (evb (evc (fun _ => rfl) e3) (Ev.step (fun k => spileref19_Few.j0.eq_2 ..) (evn (by decide) hb))))))⟩
theorem CorrectRanges : correctRangesPure := by
  intro hs as_ ts a1 a2 a3 a4 ⟨hh, _⟩ ⟨ha, _⟩ ⟨ht, hr⟩ _ _ _ _
  refine Ev.rounds (r := true) ?_
  unfold spilelaw19_CorrectRanges.f
  refine evb (a := true) (evc (fun _ => rfl) rfl) (evp rfl ?_)
  obtain ⟨b, hb⟩ := few_some hs as_ ts ht
  refine evb hb ?_
  cases b with
  | false => exact evn (by decide) (Ev.now _)
  | true =>
    obtain ⟨r, hp, hq⟩ := around_both hs as_ ts a1 a2 a3 a4 hh ha ht (fun x hx => (hr x hx).1)
    exact evp rfl (evb hp (evb hq (evp (by simp) (evr (by simp)))))
end Go.Proofs.YtmdfnambaedllaaDoor.Pure
namespace Go.Proofs.YtmdfnambaedllaaDoor.correctRanges
open Go Go.ChangeShapes Go.WideShapes Go.ChangeAt Go.RowKit
open Go.ChangeMaps (open_string shut_string)
open Go.Proofs.YtmdfnambaedllaaDoorW.PrintWords Go.Proofs.YtmdfnambaedllaaDoor.O Go.Proofs.YtmdfnambaedllaaDoor.Opn Go.Proofs.YtmdfnambaedllaaDoor.Pr Go.Proofs.YtmdfnambaedllaaDoor.X
theorem own : ownKnob Tryd.prog.godebug = none := by kernel_rfl
theorem laidOut : laidOutB Tryd.prog = true := by kernel_rfl
abbrev laidL : List (String × DataW Unit) := [("math/bits.deBruijn32tab", Rows.laid_math_bits_deBruijn32tab), ("math/bits.deBruijn64tab", Rows.laid_math_bits_deBruijn64tab), ("internal/strconv.uint64pow10", Rows.laid_internal_strconv_uint64pow10)]
set_option maxRecDepth 100000 in
theorem lifted (os : Os) (started : os.Started) (H : Type) (enc : TypeId × Value → H)
    (hwit : ∀ args : Array Value, laidMetH Tryd.prog laidL ((World.doorLaid Tryd.prog 400 os).forCall (fun _ _ => 0) ⟨#[], args, []⟩).memory) :
    ReturnsInHanded {} Tryd.checked os 3 .any (fun w args => (Rows.correctRangesSpec.pre enc Tryd.prog Tryd.f3 [] false w args ∧ laidMetH Tryd.prog laidL w) ∧ sizedMet enc Tryd.prog Tryd.f3 (OpenSpec.ofChange Rows.correctRangesSpec) false w args)
      (Rows.correctRangesSpec.post enc Tryd.prog Tryd.f3 false true false false) := by
  refine returnsInHanded_of_change_and (C := Tryd.checked) (X := (fun w _ => laidMetH Tryd.prog laidL w)) (fun _ _ _ hh h => h.of_heap hh) own started (by kernel_rfl) Tryd.func3
    (ChangeSpec.witness_shaped (enc := enc) (C := Tryd.checked) (os := os) (X := (fun w _ => laidMetH Tryd.prog laidL w)) false (World.doorLaid Tryd.prog 400 os) #[.agg #[.slice none 0 0, .slice none 0 0, .slice none 0 0], .int .i64 0, .int .i64 0, .int .i64 0, .int .i64 0] 8 rfl (World.shaped_of_RefB (by kernel_rfl) (by kernel_rfl)) (by kernel_rfl) (by kernel_rfl) (by kernel_rfl) (hwit _)) ?_
  intro W base args ds gs before hval0 hW _ _ hL _
  have hval : ∀ (j : Nat) t v, Tryd.f3.params[j]? = some t → args[j]? = some v → Value.okWide Tryd.prog W .any base t v := hval0
  have hW' := hW
  obtain ⟨p, q, hA0, hV, rfl, hfz, hnd⟩ := hW
  have hA : DataW.TrodAll enc Tryd.prog W 0 (fun _ => true) true Tryd.f3.params.toList args.toList ds p := hA0
  rw [Tryd.params3] at hA hval
  obtain ⟨v0, vs0, d0, ds0, p0, q0, hargs, rfl, rfl, h0, r0⟩ := trodAll_cons hA
  obtain ⟨v1, vs1, d1, ds1, p1, q1, rfl, rfl, rfl, h1, r1⟩ := trodAll_cons r0
  obtain ⟨v2, vs2, d2, ds2, p2, q2, rfl, rfl, rfl, h2, r2⟩ := trodAll_cons r1
  obtain ⟨v3, vs3, d3, ds3, p3, q3, rfl, rfl, rfl, h3, r3⟩ := trodAll_cons r2
  obtain ⟨v4, vs4, d4, ds4, p4, q4, rfl, rfl, rfl, h4, r4⟩ := trodAll_cons r3
  obtain ⟨rfl, rfl, rfl⟩ := trodAll_nil r4
  obtain rfl : args = #[v0, v1, v2, v3, v4] := by cases args; simp_all
  obtain ⟨rfl, rfl⟩ := trodVars_none hV
  obtain ⟨cs0, rfl, _⟩ := okWide_struct Tryd.underlying25 (hval 0 25 v0 rfl rfl)
  have k0 := h0
  have lt0 : ∀ x ∈ p0, x.block < W.heap.size := by obtain ⟨m, hm⟩ := k0; exact DataW.trod_lt m _ _ _ hm
  obtain ⟨x0, K0, ok0⟩ : ∃ x, k25.K W x cs0.toList ∧ ok25 x := by
    obtain ⟨fuel, hf⟩ := h0
    exact opens25.2 _ _ _ _ _ _ _ _ _ hf
  obtain ⟨A0_0, c0_0, A0_1, c0_1, A0_2, c0_2, e0, g0_0, hr0_0, g0_1, hr0_1, g0_2, hr0_2⟩ := k25_open K0
  obtain rfl : cs0 = #[.slice A0_0 (x0.f0).length c0_0, .slice A0_1 (x0.f1).length c0_1, .slice A0_2 (x0.f2).length c0_2] := by cases cs0; simpa using e0
  obtain ⟨a1, rfl, rfl, rfl, w1⟩ := open_int Tryd.underlying3 (hval 1 3 v1 rfl rfl) h1
  obtain ⟨a2, rfl, rfl, rfl, w2⟩ := open_int Tryd.underlying3 (hval 2 3 v2 rfl rfl) h2
  obtain ⟨a3, rfl, rfl, rfl, w3⟩ := open_int Tryd.underlying3 (hval 3 3 v3 rfl rfl) h3
  obtain ⟨a4, rfl, rfl, rfl, w4⟩ := open_int Tryd.underlying3 (hval 4 3 v4 rfl rfl) h4
  clear hA0 hval0
  obtain ⟨k, hp⟩ := Pure.CorrectRanges (x0.f0) (x0.f1) (x0.f2) a1 a2 a3 a4 ok0.1 ok0.2.1 ok0.2.2 w1 w2 w3 w4
  have hG : GI W := GI.of_laid laidL (by simp [laidL]) hL
  refine (spilelaw19_CorrectRanges.calls k _ _ (x0.f0) _ _ (x0.f1) _ _ (x0.f2) a1 a2 a3 a4 true W hr0_0 g0_0 hr0_1 g0_1 hr0_2 g0_2 hG hp).mono fun e W' ⟨he, bel⟩ => ?_
  subst he
  exact ⟨_, rfl, _, _, _, [], _, [], hW', trodAll_mk1 (shut_bool Tryd.underlying4 _), (trodAll_cons_mk (Below.trod laidOut (by kernel_rfl) (of_decide_eq_true (by kernel_rfl)) k0 bel lt0) (trodAll_cons_mk (shut_int Tryd.underlying3 w1) (trodAll_cons_mk (shut_int Tryd.underlying3 w2) (trodAll_cons_mk (shut_int Tryd.underlying3 w3) (trodAll_cons_mk (shut_int Tryd.underlying3 w4) trodAll_mk0))))), rfl, bel.frame _, fun h => by cases h⟩
theorem holds (hwit : ∀ (os : Os) (args : Array Value), laidMetH Tryd.prog laidL ((World.doorLaid Tryd.prog 400 os).forCall (fun _ _ => 0) ⟨#[], args, []⟩).memory) : Rows.CorrectRangesSaid :=
  OpenClaim.holds_of_wide 3 Tryd.f3 rfl rfl rfl rfl rfl rfl rfl ⟨rfl, rfl, rfl, rfl, rfl⟩ rfl rfl rfl rfl rfl (by kernel_rfl) Tryd.func3 (by kernel_rfl)
    (of_decide_eq_true (by kernel_rfl)) (by unfold Func.isWrapper; first | (rw [if_pos (by decide +kernel)]; kernel_rfl) | (rw [if_neg (by decide +kernel)]; exact ⟨rfl, rfl⟩))
    (fun os started H enc _ => lifted os started H enc (hwit os))
theorem door_met (os : Os) (args : Array Value) : laidMetH Tryd.prog laidL ((World.doorLaid Tryd.prog 400 os).forCall (fun _ _ => 0) ⟨#[], args, []⟩).memory :=
  laidMetH_of_parts3 (fuel := 8) (laidMet_of_run' 8 (by kernel_rfl) (by kernel_rfl)) (by kernel_rfl) (by kernel_rfl)
theorem card : Rows.CorrectRangesCardSaid :=
  Claim7.holds_tied_plain_at .later [] [.data, .data, .data] true (true, "43761afd2ec77655b7605f986a4f9a4256ebde91a38a7a669bad47d42540965e") true
    (holds door_met) (fun _ h => by cases h) (by kernel_rfl) (fun _ h => by cases h) correctRanges_row_tie rfl ⟨rfl, rfl⟩ (by kernel_rfl) rfl
    (fun f fn hf hfn => by
      obtain rfl : f = 3 := Option.some.inj ((show Tryd.prog.funcNamed "spile/spilelaw19.CorrectRanges" = some 3 by kernel_rfl).symm.trans hf) |>.symm
      obtain rfl : fn = Tryd.f3 := (Option.some.inj (Tryd.func3.symm.trans hfn)).symm
      exact ⟨by kernel_rfl, fun j t ht => by
        rw [Tryd.params3] at ht
        have hm : t ∈ [25, 3, 3, 3, 3] := by simpa using Array.mem_of_getElem? ht
        have hall : ([25, 3, 3, 3, 3].all fun u => !Tryd.prog.wantsStandIn u) = true := by kernel_rfl
        exact (show Tryd.prog.wantsStandIn t = false by simpa using List.all_eq_true.1 hall t hm)⟩)
    (by kernel_rfl)
end Go.Proofs.YtmdfnambaedllaaDoor.correctRanges
namespace Go.Proofs.YtmdfnambaedllaaDoor
/-- The card, under a short name, for the claim. -/
theorem correctRanges_holds : Rows.CorrectRangesCardSaid := correctRanges.card
#print axioms correctRanges_holds
end Go.Proofs.YtmdfnambaedllaaDoor
