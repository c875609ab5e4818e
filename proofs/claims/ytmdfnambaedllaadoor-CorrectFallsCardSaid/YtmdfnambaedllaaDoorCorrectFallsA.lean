/-
The law CorrectFalls returns true for every input that can be read as data, and leaves its arguments as they were: the row, and the card that ties the listed variables to the program's text.
No condition of its own beyond those that the given row prints.
-/
import Derived.Test.YtmdfnambaedllaaDoorCards
import Derived.Test.YtmdfnambaedllaaDoorTie
import Derived.ProofKit
import Derived.OpenShut
import Derived.ShutString
import Derived.ChangeOld
import Derived.SizedLaws
import Derived.LaidMore
import Derived.Handed
import Derived.SevenTiedAt
import Derived.LaidSub
import Derived.LaidOnce
import Derived.Stop.Joined
import Derived.Stop.LaidErr
import Derived.Test.YtmdfnambaedllaaDoorGridBaseF
set_option linter.unusedVariables false
set_option linter.unusedSimpArgs false
namespace Go.Proofs.YtmdfnambaedllaaDoor.Pr
open Go.RowKit Go.Proofs.YtmdfnambaedllaaDoorW.PrintWords Go.Proofs.YtmdfnambaedllaaDoorW.PrintLast Go.Proofs.YtmdfnambaedllaaDoorW.PrintMore Go.Proofs.YtmdfnambaedllaaDoor.X
attribute [local go_sem] max2_int min2_int max_two min_two max_three min_three max_four min_four   -- for this text's walks alone
set_option linter.unusedVariables false
set_option linter.unusedSimpArgs false
mutual
def spilelaw19_CorrectFalls.j0 : Nat → Int → Int → Int → Int → Bool → List Int → List Int → List (List Int) → Option (Bool)
 | 0, _, _, _, _, _, _, _, _ => none
 | k + 1, x1, x2, x3, x4, x43, x279000, x279001, x279002 => if x43 = true then (some true) else ((correct_True.f k x279000 x279001 x279002 x1 x2).bind fun bt281 => (if bt281.2 = 0 then ((correct_True.f k x279000 x279001 x279002 (wrap64 (x1 + x3)) x2).bind fun bt283 => ((correct_True.f k x279000 x279001 x279002 x1 (wrap64 (x2 + x4))).bind fun bt285 => (if bt283.2 = 0 then (if bt283.1 > bt281.1 then (spilelaw19_CorrectFalls.j1 k true x279000 x279001 x279002) else (if bt285.2 = 0 then (spilelaw19_CorrectFalls.j1 k (decide (bt285.1 < bt281.1)) x279000 x279001 x279002) else (spilelaw19_CorrectFalls.j1 k false x279000 x279001 x279002))) else (if bt285.2 = 0 then (spilelaw19_CorrectFalls.j1 k (decide (bt285.1 < bt281.1)) x279000 x279001 x279002) else (spilelaw19_CorrectFalls.j1 k false x279000 x279001 x279002))))) else (some (bt281.1 == 0))))
def spilelaw19_CorrectFalls.j1 : Nat → Bool → List Int → List Int → List (List Int) → Option (Bool)
 | 0, _, _, _, _ => none
 | k + 1, x88, x279000, x279001, x279002 => if x88 = true then (some false) else (spilelaw19_CorrectFalls.l0 k x279000 (x279000.length : Int) 0 x279000 x279001 x279002)
def spilelaw19_CorrectFalls.l0 : Nat → List Int → Int → Int → List Int → List Int → List (List Int) → Option (Bool)
 | 0, _, _, _, _, _, _ => none
 | k + 1, x90, x91, x92, x279000, x279001, x279002 => if x92 < x91 then (if 0 ≤ x92 then (if x92 < (x90.length : Int) then (spilelaw19_CorrectFalls.l1 k x92 (rd x90 x92) x90 x91 x92 x279001 (x279001.length : Int) 0 x279000 x279001 x279002) else (none)) else (none)) else (some true)
def spilelaw19_CorrectFalls.l1 : Nat → Int → Int → List Int → Int → Int → List Int → Int → Int → List Int → List Int → List (List Int) → Option (Bool)
 | 0, _, _, _, _, _, _, _, _, _, _, _ => none
 | k + 1, x17, x18, x90, x91, x92, x98, x99, x100, x279000, x279001, x279002 => if x100 < x99 then (if 0 ≤ x100 then (if x100 < (x98.length : Int) then ((correct_True.f k x279000 x279001 x279002 x18 (rd x98 x100)).bind fun bt289 => (if bt289.2 = 0 then (if x17 ≥ (x279002.length : Int) then (some false) else (if 0 ≤ x17 then (if x17 < (x279002.length : Int) then (if x100 ≥ ((rd_L1 x279002 x17).length : Int) then (some false) else (if x100 < ((rd_L1 x279002 x17).length : Int) then (if bt289.1 = (rd (rd_L1 x279002 x17) x100) then (spilelaw19_CorrectFalls.l1 k x17 x18 x90 x91 x92 x98 x99 (wrap64 (x100 + 1)) x279000 x279001 x279002) else (some false)) else (none))) else (none)) else (none))) else (some false))) else (none)) else (none)) else (spilelaw19_CorrectFalls.l0 k x90 x91 (wrap64 (x92 + 1)) x279000 x279001 x279002)
end
def spilelaw19_CorrectFalls.f (k : Nat) (l0_0 : List Int) (l0_1 : List Int) (l0_2 : List (List Int)) (a1 : Int) (a2 : Int) (a3 : Int) (a4 : Int) : Option (Bool) := (spilelaw19_awake.f).bind fun t279 => (if t279 = true then ((spileref19_Few.f k l0_0 l0_1 l0_2).bind fun t280 => (if t280 = true then (if a3 < 0 then (spilelaw19_CorrectFalls.j0 k a1 a2 a3 a4 true l0_0 l0_1 l0_2) else (if a3 > 2000 then (spilelaw19_CorrectFalls.j0 k a1 a2 a3 a4 true l0_0 l0_1 l0_2) else (if a4 < 0 then (spilelaw19_CorrectFalls.j0 k a1 a2 a3 a4 true l0_0 l0_1 l0_2) else (spilelaw19_CorrectFalls.j0 k a1 a2 a3 a4 (decide (a4 > 20000)) l0_0 l0_1 l0_2)))) else (spilelaw19_CorrectFalls.j0 k a1 a2 a3 a4 true l0_0 l0_1 l0_2))) else (some false))
theorem spilelaw19_CorrectFalls.mono_l : ∀ k, (∀ y0 y1 y2 y3 y4 y5 y6 y7, LeO (spilelaw19_CorrectFalls.j0 k y0 y1 y2 y3 y4 y5 y6 y7) (spilelaw19_CorrectFalls.j0 (k + 1) y0 y1 y2 y3 y4 y5 y6 y7)) ∧ (∀ y0 y1 y2 y3, LeO (spilelaw19_CorrectFalls.j1 k y0 y1 y2 y3) (spilelaw19_CorrectFalls.j1 (k + 1) y0 y1 y2 y3)) ∧ (∀ y0 y1 y2 y3 y4 y5, LeO (spilelaw19_CorrectFalls.l0 k y0 y1 y2 y3 y4 y5) (spilelaw19_CorrectFalls.l0 (k + 1) y0 y1 y2 y3 y4 y5)) ∧ (∀ y0 y1 y2 y3 y4 y5 y6 y7 y8 y9 y10, LeO (spilelaw19_CorrectFalls.l1 k y0 y1 y2 y3 y4 y5 y6 y7 y8 y9 y10) (spilelaw19_CorrectFalls.l1 (k + 1) y0 y1 y2 y3 y4 y5 y6 y7 y8 y9 y10))
 | 0 => ⟨fun _ _ _ _ _ _ _ _ r h => by simp [spilelaw19_CorrectFalls.j0] at h, fun _ _ _ _ r h => by simp [spilelaw19_CorrectFalls.j1] at h, fun _ _ _ _ _ _ r h => by simp [spilelaw19_CorrectFalls.l0] at h, fun _ _ _ _ _ _ _ _ _ _ _ r h => by simp [spilelaw19_CorrectFalls.l1] at h⟩
 | k + 1 => by
  obtain ⟨ih0, ih1, ih2, ih3⟩ := spilelaw19_CorrectFalls.mono_l k
  refine ⟨?_, ?_, ?_, ?_⟩
  ·
   intro y0 y1 y2 y3 y4 y5 y6 y7
   unfold spilelaw19_CorrectFalls.j0
   repeat' first
   | (with_reducible exact ih0 _ _ _ _ _ _ _ _)
   | (with_reducible exact ih1 _ _ _ _)
   | (with_reducible exact ih2 _ _ _ _ _ _)
   | (with_reducible exact ih3 _ _ _ _ _ _ _ _ _ _ _)
   | (with_reducible exact correct_True.mono _ _ _ _ _ _)
   | (with_reducible exact spileref19_Few.mono _ _ _ _)
   | (with_reducible exact LeO.refl _)
   | (with_reducible exact LeO.none _)
   | (with_reducible refine LeO.ite ?_ ?_)
   | (with_reducible refine LeO.bind ?_ (fun _ => ?_))
   | exact ih0 _ _ _ _ _ _ _ _
   | exact ih1 _ _ _ _
   | exact ih2 _ _ _ _ _ _
   | exact ih3 _ _ _ _ _ _ _ _ _ _ _
   | exact correct_True.mono _ _ _ _ _ _
   | exact spileref19_Few.mono _ _ _ _
   | exact LeO.none _
   | refine LeO.ite ?_ ?_
   | refine LeO.bind ?_ (fun _ => ?_)
  ·
   intro y0 y1 y2 y3
   unfold spilelaw19_CorrectFalls.j1
   repeat' first
   | (with_reducible exact ih0 _ _ _ _ _ _ _ _)
   | (with_reducible exact ih1 _ _ _ _)
   | (with_reducible exact ih2 _ _ _ _ _ _)
   | (with_reducible exact ih3 _ _ _ _ _ _ _ _ _ _ _)
   | (with_reducible exact correct_True.mono _ _ _ _ _ _)
   | (with_reducible exact spileref19_Few.mono _ _ _ _)
   | (with_reducible exact LeO.refl _)
   | (with_reducible exact LeO.none _)
   | (with_reducible refine LeO.ite ?_ ?_)
   | (with_reducible refine LeO.bind ?_ (fun _ => ?_))
   | exact ih0 _ _ _ _ _ _ _ _
   | exact ih1 _ _ _ _
   | exact ih2 _ _ _ _ _ _
   | exact ih3 _ _ _ _ _ _ _ _ _ _ _
   | exact correct_True.mono _ _ _ _ _ _
   | exact spileref19_Few.mono _ _ _ _
   | exact LeO.none _
   | refine LeO.ite ?_ ?_
   | refine LeO.bind ?_ (fun _ => ?_)
  ·
   intro y0 y1 y2 y3 y4 y5
   unfold spilelaw19_CorrectFalls.l0
   repeat' first
   | (with_reducible exact ih0 _ _ _ _ _ _ _ _)
   | (with_reducible exact ih1 _ _ _ _)
   | (with_reducible exact ih2 _ _ _ _ _ _)
   | (with_reducible exact ih3 _ _ _ _ _ _ _ _ _ _ _)
   | (with_reducible exact correct_True.mono _ _ _ _ _ _)
   | (with_reducible exact spileref19_Few.mono _ _ _ _)
   | (with_reducible exact LeO.refl _)
   | (with_reducible exact LeO.none _)
   | (with_reducible refine LeO.ite ?_ ?_)
   | (with_reducible refine LeO.bind ?_ (fun _ => ?_))
   | exact ih0 _ _ _ _ _ _ _ _
   | exact ih1 _ _ _ _
   | exact ih2 _ _ _ _ _ _
   | exact ih3 _ _ _ _ _ _ _ _ _ _ _
   | exact correct_True.mono _ _ _ _ _ _
   | exact spileref19_Few.mono _ _ _ _
   | exact LeO.none _
   | refine LeO.ite ?_ ?_
   | refine LeO.bind ?_ (fun _ => ?_)
  ·
   intro y0 y1 y2 y3 y4 y5 y6 y7 y8 y9 y10
   unfold spilelaw19_CorrectFalls.l1
   repeat' first
   | (with_reducible exact ih0 _ _ _ _ _ _ _ _)
   | (with_reducible exact ih1 _ _ _ _)
   | (with_reducible exact ih2 _ _ _ _ _ _)
   | (with_reducible exact ih3 _ _ _ _ _ _ _ _ _ _ _)
   | (with_reducible exact correct_True.mono _ _ _ _ _ _)
   | (with_reducible exact spileref19_Few.mono _ _ _ _)
   | (with_reducible exact LeO.refl _)
   | (with_reducible exact LeO.none _)
   | (with_reducible refine LeO.ite ?_ ?_)
   | (with_reducible refine LeO.bind ?_ (fun _ => ?_))
   | exact ih0 _ _ _ _ _ _ _ _
   | exact ih1 _ _ _ _
   | exact ih2 _ _ _ _ _ _
   | exact ih3 _ _ _ _ _ _ _ _ _ _ _
   | exact correct_True.mono _ _ _ _ _ _
   | exact spileref19_Few.mono _ _ _ _
   | exact LeO.none _
   | refine LeO.ite ?_ ?_
   | refine LeO.bind ?_ (fun _ => ?_)
theorem spilelaw19_CorrectFalls.mono : ∀ a0 a1 a2 a3 a4 a5 a6 k, LeO (spilelaw19_CorrectFalls.f k a0 a1 a2 a3 a4 a5 a6) (spilelaw19_CorrectFalls.f (k + 1) a0 a1 a2 a3 a4 a5 a6) := by
 intro a0 a1 a2 a3 a4 a5 a6 k
 obtain ⟨ih0, ih1, ih2, ih3⟩ := spilelaw19_CorrectFalls.mono_l k
 unfold spilelaw19_CorrectFalls.f
 repeat' first
   | (with_reducible exact ih0 _ _ _ _ _ _ _ _)
   | (with_reducible exact ih1 _ _ _ _)
   | (with_reducible exact ih2 _ _ _ _ _ _)
   | (with_reducible exact ih3 _ _ _ _ _ _ _ _ _ _ _)
   | (with_reducible exact correct_True.mono _ _ _ _ _ _)
   | (with_reducible exact spileref19_Few.mono _ _ _ _)
   | (with_reducible exact LeO.refl _)
   | (with_reducible exact LeO.none _)
   | (with_reducible refine LeO.ite ?_ ?_)
   | (with_reducible refine LeO.bind ?_ (fun _ => ?_))
   | exact ih0 _ _ _ _ _ _ _ _
   | exact ih1 _ _ _ _
   | exact ih2 _ _ _ _ _ _
   | exact ih3 _ _ _ _ _ _ _ _ _ _ _
   | exact correct_True.mono _ _ _ _ _ _
   | exact spileref19_Few.mono _ _ _ _
   | exact LeO.none _
   | refine LeO.ite ?_ ?_
   | refine LeO.bind ?_ (fun _ => ?_)
set_option maxHeartbeats 8000000 in
set_option maxRecDepth 100000 in
theorem spilelaw19_CorrectFalls.calls (k : Nat) (A0_0 : Option Addr) (c0_0 : Nat) (l0_0 : List Int) (A0_1 : Option Addr) (c0_1 : Nat) (l0_1 : List Int) (A0_2 : Option Addr) (c0_2 : Nat) (l0_2 : List (List Int)) (a1 : Int) (a2 : Int) (a3 : Int) (a4 : Int) (r : Bool) (w : World) (hr0_0 : Kd.C (Kd.int .i64) w A0_0 l0_0.length l0_0) (hc0_0 : l0_0.length ≤ c0_0) (hr0_1 : Kd.C (Kd.int .i64) w A0_1 l0_1.length l0_1) (hc0_1 : l0_1.length ≤ c0_1) (hr0_2 : Kd.C (Kd.slice 3 (Kd.int .i64)) w A0_2 l0_2.length l0_2) (hc0_2 : l0_2.length ≤ c0_2) (hG : GI w) (h : spilelaw19_CorrectFalls.f k l0_0 l0_1 l0_2 a1 a2 a3 a4 = some r) :
  Calls Tryd.prog 4 #[.agg #[.slice A0_0 l0_0.length c0_0, .slice A0_1 l0_1.length c0_1, .slice A0_2 l0_2.length c0_2], .int .i64 a1, .int .i64 a2, .int .i64 a3, .int .i64 a4] w fun e w' => e = .returned (.bool r) ∧ Below w.heap.size w w' := by
 have hu25 := Tryd.underlying25
 have HR0_0 := Aside0.mk hr0_0
 have HC0_0 := Aside0.mk hc0_0
 clear hr0_0 hc0_0
 have HR0_1 := Aside0.mk hr0_1
 have HC0_1 := Aside0.mk hc0_1
 clear hr0_1 hc0_1
 have HR0_2 := Aside0.mk hr0_2
 have HC0_2 := Aside0.mk hc0_2
 clear hr0_2 hc0_2
 have HG := Aside0.mk hG
 clear hG
 have HB := Aside0.mk (Below.refl w.heap.size w)
 have H : ((spilelaw19_awake.f).bind fun t279 => (if t279 = true then ((spileref19_Few.f k l0_0 l0_1 l0_2).bind fun t280 => (if t280 = true then (if a3 < 0 then (spilelaw19_CorrectFalls.j0 k a1 a2 a3 a4 true l0_0 l0_1 l0_2) else (if a3 > 2000 then (spilelaw19_CorrectFalls.j0 k a1 a2 a3 a4 true l0_0 l0_1 l0_2) else (if a4 < 0 then (spilelaw19_CorrectFalls.j0 k a1 a2 a3 a4 true l0_0 l0_1 l0_2) else (spilelaw19_CorrectFalls.j0 k a1 a2 a3 a4 (decide (a4 > 20000)) l0_0 l0_1 l0_2)))) else (spilelaw19_CorrectFalls.j0 k a1 a2 a3 a4 true l0_0 l0_1 l0_2))) else (some false))) = some r := h
 clear h
 replace H := Option.bind_eq_some_iff.mp H
 obtain ⟨t279, A60, H⟩ := H
 replace H : (if t279 = true then ((spileref19_Few.f k l0_0 l0_1 l0_2).bind fun t280 => (if t280 = true then (if a3 < 0 then (spilelaw19_CorrectFalls.j0 k a1 a2 a3 a4 true l0_0 l0_1 l0_2) else (if a3 > 2000 then (spilelaw19_CorrectFalls.j0 k a1 a2 a3 a4 true l0_0 l0_1 l0_2) else (if a4 < 0 then (spilelaw19_CorrectFalls.j0 k a1 a2 a3 a4 true l0_0 l0_1 l0_2) else (spilelaw19_CorrectFalls.j0 k a1 a2 a3 a4 (decide (a4 > 20000)) l0_0 l0_1 l0_2)))) else (spilelaw19_CorrectFalls.j0 k a1 a2 a3 a4 true l0_0 l0_1 l0_2))) else (some false)) = some r := H
 have A6 := Aside0.mk A60
 clear A60
 by_cases c7 : t279 = true
 ·
  subst c7
  have H1 : ((spileref19_Few.f k l0_0 l0_1 l0_2).bind fun t280 => (if t280 = true then (if a3 < 0 then (spilelaw19_CorrectFalls.j0 k a1 a2 a3 a4 true l0_0 l0_1 l0_2) else (if a3 > 2000 then (spilelaw19_CorrectFalls.j0 k a1 a2 a3 a4 true l0_0 l0_1 l0_2) else (if a4 < 0 then (spilelaw19_CorrectFalls.j0 k a1 a2 a3 a4 true l0_0 l0_1 l0_2) else (spilelaw19_CorrectFalls.j0 k a1 a2 a3 a4 (decide (a4 > 20000)) l0_0 l0_1 l0_2)))) else (spilelaw19_CorrectFalls.j0 k a1 a2 a3 a4 true l0_0 l0_1 l0_2))) = some r := by rw [if_pos rfl] at H; exact H
  clear H
  have H := H1
  clear H1
  have HC8 := Aside0.mk H
  clear H
  go_enter Tryd.func4, Tryd.ntmps4
  go_upto_region 3 with (first | ((with_reducible refine gate_dst (N := 5) rfl ?_); (try (refine gate_guard (by rfl) ?_; dsimp only)); refine box_event ?hg (N := 5) ?hd (cs := #[.slice A0_0 l0_0.length c0_0, .slice A0_1 l0_1.length c0_1, .slice A0_2 l0_2.length c0_2]) (t := 25) ?hr ?_; (case hd => rfl); (case hg => rfl); (case hr => first | (go_simp; done) | (go_simp; rfl)); intro gb278 hg w9 hbox hb; have n0_ := Aside0.mk (below_step (by repeat (first | (with_reducible first | exact HB.out | apply below_alloc | apply pw_below_drewN | apply below_drew1) | exact HB.out)) hb); have n1_ := Aside0.mk (hbox); have n2_ := Aside0.mk ((by rw [hg]; exact (below_size (by repeat (first | (with_reducible first | exact HB.out | apply below_alloc | apply pw_below_drewN | apply below_drew1) | exact HB.out))) : w.heap.size ≤ gb278)); have n3_ := Aside0.mk ((by rw [hg]; exact (below_size (by repeat (first | (with_reducible first | exact HB.out | apply below_alloc | apply pw_below_drewN | apply below_drew1) | exact HB.out))) : w.heap.size ≤ gb278)); clear HB; have HB := n0_; have BK278 := n1_; have GW278 := n2_; have GE278 := n3_; clear n0_ n1_ n2_ n3_; clear hb hbox hg) | ((with_reducible refine gate_callee (f := 10) rfl ?_); refine goesL_ (some 23) rfl rfl Tryd.func10 (by kernel_rfl) rfl #[] rfl (by (try simp only [List.map_toArray, List.map_cons, List.map_nil]); first | done | rfl | (simp only [List.length_drop, List.length_take]; rfl)) ?_; (with_reducible refine (spilelaw19_awake.calls  true _ ?side1 A6.out).mono ?_); (case side1 => exact GI.below HG.out (by repeat (first | (with_reducible first | exact HB.out | apply below_alloc | apply pw_below_drewN | apply below_drew1 | refine below_set ?_ GE278.out) | exact HB.out))); rintro e w10 ⟨rfl, hb⟩; refine ⟨_, rfl, ?_⟩; have n0_ := Aside0.mk (blk_below (g := gb278) (o := .cells #[.slice A0_0 l0_0.length c0_0, .slice A0_1 l0_1.length c0_1, .slice A0_2 l0_2.length c0_2] 25 (0, 0)) (by (with_reducible repeat (first | refine blk_drewN ?_ _ | refine blk_drew ?_ | refine blk_alloc ?_ _)); exact BK278.out) hb); have n1_ := Aside0.mk (below_step (by repeat (first | (with_reducible first | exact HB.out | apply below_alloc | apply pw_below_drewN | apply below_drew1 | refine below_set ?_ GE278.out) | exact HB.out)) hb); clear BK278; clear HB; have BK278 := n0_; have HB := n1_; clear n0_ n1_; (try clear hb); (try clear hb2); (try clear hk); (try clear hi)))
  (try simp only [Act.put, List.setIfInBounds_toArray, List.set_cons_zero, List.set_cons_succ])
  go_cut [43] (fun v43 wc => ∃ (kq : Nat) (x43_7 : Bool), v43 = .bool x43_7 ∧ Aside0 (spilelaw19_CorrectFalls.j0 kq a1 a2 a3 a4 x43_7 l0_0 l0_1 l0_2 = some r) ∧ Aside0 (kq ≤ k) ∧ Aside0 (wc.heap[gb278]? = some (.cells #[(.slice A0_0 l0_0.length c0_0), (.slice A0_1 l0_1.length c0_1), (.slice A0_2 l0_2.length c0_2)] 25 (0, 0))) ∧ Aside0 (Below w.heap.size w wc))
  case first =>
   have H := HC8.out
   clear HC8
   replace H := Option.bind_eq_some_iff.mp H
   obtain ⟨t280, A110, H⟩ := H
   replace H : (if t280 = true then (if a3 < 0 then (spilelaw19_CorrectFalls.j0 k a1 a2 a3 a4 true l0_0 l0_1 l0_2) else (if a3 > 2000 then (spilelaw19_CorrectFalls.j0 k a1 a2 a3 a4 true l0_0 l0_1 l0_2) else (if a4 < 0 then (spilelaw19_CorrectFalls.j0 k a1 a2 a3 a4 true l0_0 l0_1 l0_2) else (spilelaw19_CorrectFalls.j0 k a1 a2 a3 a4 (decide (a4 > 20000)) l0_0 l0_1 l0_2)))) else (spilelaw19_CorrectFalls.j0 k a1 a2 a3 a4 true l0_0 l0_1 l0_2)) = some r := H
   have A11 := Aside0.mk A110
   clear A110
   by_cases c12 : t280 = true
   ·
    subst c12
    have H1 : (if a3 < 0 then (spilelaw19_CorrectFalls.j0 k a1 a2 a3 a4 true l0_0 l0_1 l0_2) else (if a3 > 2000 then (spilelaw19_CorrectFalls.j0 k a1 a2 a3 a4 true l0_0 l0_1 l0_2) else (if a4 < 0 then (spilelaw19_CorrectFalls.j0 k a1 a2 a3 a4 true l0_0 l0_1 l0_2) else (spilelaw19_CorrectFalls.j0 k a1 a2 a3 a4 (decide (a4 > 20000)) l0_0 l0_1 l0_2)))) = some r := by rw [if_pos rfl] at H; exact H
    clear H
    have H := H1
    clear H1
    by_cases c13 : a3 < 0
    ·
     rw [if_pos c13] at H
     have c13b0 : decide (a3 < 0) = true := decide_eq_true c13
     clear c13
     (first | rw [c13b0] | (simp only [i64_w, i32_w]; rw [c13b0]) | skip)
     have H' := Aside0.mk H
     clear H
     have hcz14_0 : w10.cell? ⟨gb278, 0, none⟩ = some (.slice A0_0 l0_0.length c0_0) := (blk_cell BK278.out 0).trans rfl
     have hcz14_1 : w10.cell? ⟨gb278, 1, none⟩ = some (.slice A0_1 l0_1.length c0_1) := (blk_cell BK278.out 1).trans rfl
     have hcz14_2 : w10.cell? ⟨gb278, 2, none⟩ = some (.slice A0_2 l0_2.length c0_2) := (blk_cell BK278.out 2).trans rfl
     have hfz14_0 := blk_frozen BK278.out 0
     have hfz14_1 := blk_frozen BK278.out 1
     have hfz14_2 := blk_frozen BK278.out 2
     go_wp2_with (first | ((with_reducible refine gate_callee (f := 11) rfl ?_); refine goesL_ (some 26) rfl rfl Tryd.func11 (by kernel_rfl) rfl #[.agg #[.slice A0_0 l0_0.length c0_0, .slice A0_1 l0_1.length c0_1, .slice A0_2 l0_2.length c0_2]] rfl (by (try simp only [List.map_toArray, List.map_cons, List.map_nil]); first | done | rfl | (simp only [List.length_drop, List.length_take]; rfl)) ?_; (with_reducible refine (spileref19_Few.calls k _ _ l0_0 _ _ l0_1 _ _ l0_2 true _ ?side1 ?side2 ?side3 ?side4 ?side5 ?side6 A11.out).mono ?_); (case side1 => repeat (first | exact (Kd.C_below HR0_0.out HB.out) | (with_reducible refine Kd.C_alloc ?_ _) | (with_reducible refine Kd.C_drewN ?_ _) | (with_reducible refine Kd.C_drew ?_))); (case side2 => exact HC0_0.out); (case side3 => repeat (first | exact (Kd.C_below HR0_1.out HB.out) | (with_reducible refine Kd.C_alloc ?_ _) | (with_reducible refine Kd.C_drewN ?_ _) | (with_reducible refine Kd.C_drew ?_))); (case side4 => exact HC0_1.out); (case side5 => repeat (first | exact (Kd.C_below HR0_2.out HB.out) | (with_reducible refine Kd.C_alloc ?_ _) | (with_reducible refine Kd.C_drewN ?_ _) | (with_reducible refine Kd.C_drew ?_))); (case side6 => exact HC0_2.out); rintro e w15 ⟨rfl, hb⟩; refine ⟨_, rfl, ?_⟩; have n0_ := Aside0.mk (blk_below (g := gb278) (o := .cells #[.slice A0_0 l0_0.length c0_0, .slice A0_1 l0_1.length c0_1, .slice A0_2 l0_2.length c0_2] 25 (0, 0)) (by (with_reducible repeat (first | refine blk_drewN ?_ _ | refine blk_drew ?_ | refine blk_alloc ?_ _)); exact BK278.out) hb); have n1_ := Aside0.mk (below_step (by repeat (first | (with_reducible first | exact HB.out | apply below_alloc | apply pw_below_drewN | apply below_drew1 | refine below_set ?_ GE278.out) | exact HB.out)) hb); clear BK278; clear HB; have BK278 := n0_; have HB := n1_; clear n0_ n1_; (try clear hb); (try clear hb2); (try clear hk); (try clear hi)))
     go_meet
     case rel => exact ⟨_, (true), (by first | rfl | (simp; done) | (simp [*]; done)), H', ⟨by first | omega | exact Nat.le_refl _⟩, ⟨by (with_reducible repeat (first | refine blk_drewN ?_ _ | refine blk_drew ?_ | refine blk_alloc ?_ _)); exact BK278.out⟩, ⟨by repeat (first | (with_reducible first | exact HB.out | apply below_alloc | apply pw_below_drewN | apply below_drew1 | refine below_set ?_ GE278.out) | exact HB.out)⟩⟩
    ·
     rw [if_neg c13] at H
     have c13b0 : decide (a3 < 0) = false := decide_eq_false c13
     clear c13
     (first | rw [c13b0] | (simp only [i64_w, i32_w]; rw [c13b0]) | skip)
     by_cases c16 : a3 > 2000
     ·
      rw [if_pos c16] at H
      have c16b0 : decide (2000 < a3) = true := decide_eq_true c16
      clear c16
      have H' := Aside0.mk H
      clear H
      have hcz17_0 : w10.cell? ⟨gb278, 0, none⟩ = some (.slice A0_0 l0_0.length c0_0) := (blk_cell BK278.out 0).trans rfl
      have hcz17_1 : w10.cell? ⟨gb278, 1, none⟩ = some (.slice A0_1 l0_1.length c0_1) := (blk_cell BK278.out 1).trans rfl
      have hcz17_2 : w10.cell? ⟨gb278, 2, none⟩ = some (.slice A0_2 l0_2.length c0_2) := (blk_cell BK278.out 2).trans rfl
      have hfz17_0 := blk_frozen BK278.out 0
      have hfz17_1 := blk_frozen BK278.out 1
      have hfz17_2 := blk_frozen BK278.out 2
      go_wp2_with (first | ((with_reducible refine gate_callee (f := 11) rfl ?_); refine goesL_ (some 26) rfl rfl Tryd.func11 (by kernel_rfl) rfl #[.agg #[.slice A0_0 l0_0.length c0_0, .slice A0_1 l0_1.length c0_1, .slice A0_2 l0_2.length c0_2]] rfl (by (try simp only [List.map_toArray, List.map_cons, List.map_nil]); first | done | rfl | (simp only [List.length_drop, List.length_take]; rfl)) ?_; (with_reducible refine (spileref19_Few.calls k _ _ l0_0 _ _ l0_1 _ _ l0_2 true _ ?side1 ?side2 ?side3 ?side4 ?side5 ?side6 A11.out).mono ?_); (case side1 => repeat (first | exact (Kd.C_below HR0_0.out HB.out) | (with_reducible refine Kd.C_alloc ?_ _) | (with_reducible refine Kd.C_drewN ?_ _) | (with_reducible refine Kd.C_drew ?_))); (case side2 => exact HC0_0.out); (case side3 => repeat (first | exact (Kd.C_below HR0_1.out HB.out) | (with_reducible refine Kd.C_alloc ?_ _) | (with_reducible refine Kd.C_drewN ?_ _) | (with_reducible refine Kd.C_drew ?_))); (case side4 => exact HC0_1.out); (case side5 => repeat (first | exact (Kd.C_below HR0_2.out HB.out) | (with_reducible refine Kd.C_alloc ?_ _) | (with_reducible refine Kd.C_drewN ?_ _) | (with_reducible refine Kd.C_drew ?_))); (case side6 => exact HC0_2.out); rintro e w18 ⟨rfl, hb⟩; refine ⟨_, rfl, ?_⟩; have n0_ := Aside0.mk (blk_below (g := gb278) (o := .cells #[.slice A0_0 l0_0.length c0_0, .slice A0_1 l0_1.length c0_1, .slice A0_2 l0_2.length c0_2] 25 (0, 0)) (by (with_reducible repeat (first | refine blk_drewN ?_ _ | refine blk_drew ?_ | refine blk_alloc ?_ _)); exact BK278.out) hb); have n1_ := Aside0.mk (below_step (by repeat (first | (with_reducible first | exact HB.out | apply below_alloc | apply pw_below_drewN | apply below_drew1 | refine below_set ?_ GE278.out) | exact HB.out)) hb); clear BK278; clear HB; have BK278 := n0_; have HB := n1_; clear n0_ n1_; (try clear hb); (try clear hb2); (try clear hk); (try clear hi)))
      go_meet
      case rel => exact ⟨_, (true), (by first | rfl | (simp; done) | (simp [*]; done)), H', ⟨by first | omega | exact Nat.le_refl _⟩, ⟨by (with_reducible repeat (first | refine blk_drewN ?_ _ | refine blk_drew ?_ | refine blk_alloc ?_ _)); exact BK278.out⟩, ⟨by repeat (first | (with_reducible first | exact HB.out | apply below_alloc | apply pw_below_drewN | apply below_drew1 | refine below_set ?_ GE278.out) | exact HB.out)⟩⟩
     ·
      rw [if_neg c16] at H
      have c16b0 : decide (2000 < a3) = false := decide_eq_false c16
      clear c16
      by_cases c19 : a4 < 0
      ·
       rw [if_pos c19] at H
       have c19b0 : decide (a4 < 0) = true := decide_eq_true c19
       clear c19
       have H' := Aside0.mk H
       clear H
       have hcz20_0 : w10.cell? ⟨gb278, 0, none⟩ = some (.slice A0_0 l0_0.length c0_0) := (blk_cell BK278.out 0).trans rfl
       have hcz20_1 : w10.cell? ⟨gb278, 1, none⟩ = some (.slice A0_1 l0_1.length c0_1) := (blk_cell BK278.out 1).trans rfl
       have hcz20_2 : w10.cell? ⟨gb278, 2, none⟩ = some (.slice A0_2 l0_2.length c0_2) := (blk_cell BK278.out 2).trans rfl
       have hfz20_0 := blk_frozen BK278.out 0
       have hfz20_1 := blk_frozen BK278.out 1
       have hfz20_2 := blk_frozen BK278.out 2
       go_wp2_with (first | ((with_reducible refine gate_callee (f := 11) rfl ?_); refine goesL_ (some 26) rfl rfl Tryd.func11 (by kernel_rfl) rfl #[.agg #[.slice A0_0 l0_0.length c0_0, .slice A0_1 l0_1.length c0_1, .slice A0_2 l0_2.length c0_2]] rfl (by (try simp only [List.map_toArray, List.map_cons, List.map_nil]); first | done | rfl | (simp only [List.length_drop, List.length_take]; rfl)) ?_; (with_reducible refine (spileref19_Few.calls k _ _ l0_0 _ _ l0_1 _ _ l0_2 true _ ?side1 ?side2 ?side3 ?side4 ?side5 ?side6 A11.out).mono ?_); (case side1 => repeat (first | exact (Kd.C_below HR0_0.out HB.out) | (with_reducible refine Kd.C_alloc ?_ _) | (with_reducible refine Kd.C_drewN ?_ _) | (with_reducible refine Kd.C_drew ?_))); (case side2 => exact HC0_0.out); (case side3 => repeat (first | exact (Kd.C_below HR0_1.out HB.out) | (with_reducible refine Kd.C_alloc ?_ _) | (with_reducible refine Kd.C_drewN ?_ _) | (with_reducible refine Kd.C_drew ?_))); (case side4 => exact HC0_1.out); (case side5 => repeat (first | exact (Kd.C_below HR0_2.out HB.out) | (with_reducible refine Kd.C_alloc ?_ _) | (with_reducible refine Kd.C_drewN ?_ _) | (with_reducible refine Kd.C_drew ?_))); (case side6 => exact HC0_2.out); rintro e w21 ⟨rfl, hb⟩; refine ⟨_, rfl, ?_⟩; have n0_ := Aside0.mk (blk_below (g := gb278) (o := .cells #[.slice A0_0 l0_0.length c0_0, .slice A0_1 l0_1.length c0_1, .slice A0_2 l0_2.length c0_2] 25 (0, 0)) (by (with_reducible repeat (first | refine blk_drewN ?_ _ | refine blk_drew ?_ | refine blk_alloc ?_ _)); exact BK278.out) hb); have n1_ := Aside0.mk (below_step (by repeat (first | (with_reducible first | exact HB.out | apply below_alloc | apply pw_below_drewN | apply below_drew1 | refine below_set ?_ GE278.out) | exact HB.out)) hb); clear BK278; clear HB; have BK278 := n0_; have HB := n1_; clear n0_ n1_; (try clear hb); (try clear hb2); (try clear hk); (try clear hi)))
       go_meet
       case rel => exact ⟨_, (true), (by first | rfl | (simp; done) | (simp [*]; done)), H', ⟨by first | omega | exact Nat.le_refl _⟩, ⟨by (with_reducible repeat (first | refine blk_drewN ?_ _ | refine blk_drew ?_ | refine blk_alloc ?_ _)); exact BK278.out⟩, ⟨by repeat (first | (with_reducible first | exact HB.out | apply below_alloc | apply pw_below_drewN | apply below_drew1 | refine below_set ?_ GE278.out) | exact HB.out)⟩⟩
      ·
       rw [if_neg c19] at H
       have c19b0 : decide (a4 < 0) = false := decide_eq_false c19
       clear c19
       have H' := Aside0.mk H
       clear H
       have hcz22_0 : w10.cell? ⟨gb278, 0, none⟩ = some (.slice A0_0 l0_0.length c0_0) := (blk_cell BK278.out 0).trans rfl
       have hcz22_1 : w10.cell? ⟨gb278, 1, none⟩ = some (.slice A0_1 l0_1.length c0_1) := (blk_cell BK278.out 1).trans rfl
       have hcz22_2 : w10.cell? ⟨gb278, 2, none⟩ = some (.slice A0_2 l0_2.length c0_2) := (blk_cell BK278.out 2).trans rfl
       have hfz22_0 := blk_frozen BK278.out 0
       have hfz22_1 := blk_frozen BK278.out 1
       have hfz22_2 := blk_frozen BK278.out 2
       go_wp2_with (first | ((with_reducible refine gate_callee (f := 11) rfl ?_); refine goesL_ (some 26) rfl rfl Tryd.func11 (by kernel_rfl) rfl #[.agg #[.slice A0_0 l0_0.length c0_0, .slice A0_1 l0_1.length c0_1, .slice A0_2 l0_2.length c0_2]] rfl (by (try simp only [List.map_toArray, List.map_cons, List.map_nil]); first | done | rfl | (simp only [List.length_drop, List.length_take]; rfl)) ?_; (with_reducible refine (spileref19_Few.calls k _ _ l0_0 _ _ l0_1 _ _ l0_2 true _ ?side1 ?side2 ?side3 ?side4 ?side5 ?side6 A11.out).mono ?_); (case side1 => repeat (first | exact (Kd.C_below HR0_0.out HB.out) | (with_reducible refine Kd.C_alloc ?_ _) | (with_reducible refine Kd.C_drewN ?_ _) | (with_reducible refine Kd.C_drew ?_))); (case side2 => exact HC0_0.out); (case side3 => repeat (first | exact (Kd.C_below HR0_1.out HB.out) | (with_reducible refine Kd.C_alloc ?_ _) | (with_reducible refine Kd.C_drewN ?_ _) | (with_reducible refine Kd.C_drew ?_))); (case side4 => exact HC0_1.out); (case side5 => repeat (first | exact (Kd.C_below HR0_2.out HB.out) | (with_reducible refine Kd.C_alloc ?_ _) | (with_reducible refine Kd.C_drewN ?_ _) | (with_reducible refine Kd.C_drew ?_))); (case side6 => exact HC0_2.out); rintro e w23 ⟨rfl, hb⟩; refine ⟨_, rfl, ?_⟩; have n0_ := Aside0.mk (blk_below (g := gb278) (o := .cells #[.slice A0_0 l0_0.length c0_0, .slice A0_1 l0_1.length c0_1, .slice A0_2 l0_2.length c0_2] 25 (0, 0)) (by (with_reducible repeat (first | refine blk_drewN ?_ _ | refine blk_drew ?_ | refine blk_alloc ?_ _)); exact BK278.out) hb); have n1_ := Aside0.mk (below_step (by repeat (first | (with_reducible first | exact HB.out | apply below_alloc | apply pw_below_drewN | apply below_drew1 | refine below_set ?_ GE278.out) | exact HB.out)) hb); clear BK278; clear HB; have BK278 := n0_; have HB := n1_; clear n0_ n1_; (try clear hb); (try clear hb2); (try clear hk); (try clear hi)))
       go_meet
       case rel => exact ⟨_, (decide (a4 > 20000)), (by first | rfl | (simp; done) | (simp [*]; done)), H', ⟨by first | omega | exact Nat.le_refl _⟩, ⟨by (with_reducible repeat (first | refine blk_drewN ?_ _ | refine blk_drew ?_ | refine blk_alloc ?_ _)); exact BK278.out⟩, ⟨by repeat (first | (with_reducible first | exact HB.out | apply below_alloc | apply pw_below_drewN | apply below_drew1 | refine below_set ?_ GE278.out) | exact HB.out)⟩⟩
   ·
    replace c12 := Bool.eq_false_iff.mpr c12
    subst c12
    have H1 : (spilelaw19_CorrectFalls.j0 k a1 a2 a3 a4 true l0_0 l0_1 l0_2) = some r := by rw [if_neg (show ¬ (false = true) by decide)] at H; exact H
    clear H
    have H := H1
    clear H1
    have H' := Aside0.mk H
    clear H
    have hcz24_0 : w10.cell? ⟨gb278, 0, none⟩ = some (.slice A0_0 l0_0.length c0_0) := (blk_cell BK278.out 0).trans rfl
    have hcz24_1 : w10.cell? ⟨gb278, 1, none⟩ = some (.slice A0_1 l0_1.length c0_1) := (blk_cell BK278.out 1).trans rfl
    have hcz24_2 : w10.cell? ⟨gb278, 2, none⟩ = some (.slice A0_2 l0_2.length c0_2) := (blk_cell BK278.out 2).trans rfl
    have hfz24_0 := blk_frozen BK278.out 0
    have hfz24_1 := blk_frozen BK278.out 1
    have hfz24_2 := blk_frozen BK278.out 2
    go_wp2_with (first | ((with_reducible refine gate_callee (f := 11) rfl ?_); refine goesL_ (some 26) rfl rfl Tryd.func11 (by kernel_rfl) rfl #[.agg #[.slice A0_0 l0_0.length c0_0, .slice A0_1 l0_1.length c0_1, .slice A0_2 l0_2.length c0_2]] rfl (by (try simp only [List.map_toArray, List.map_cons, List.map_nil]); first | done | rfl | (simp only [List.length_drop, List.length_take]; rfl)) ?_; (with_reducible refine (spileref19_Few.calls k _ _ l0_0 _ _ l0_1 _ _ l0_2 false _ ?side1 ?side2 ?side3 ?side4 ?side5 ?side6 A11.out).mono ?_); (case side1 => repeat (first | exact (Kd.C_below HR0_0.out HB.out) | (with_reducible refine Kd.C_alloc ?_ _) | (with_reducible refine Kd.C_drewN ?_ _) | (with_reducible refine Kd.C_drew ?_))); (case side2 => exact HC0_0.out); (case side3 => repeat (first | exact (Kd.C_below HR0_1.out HB.out) | (with_reducible refine Kd.C_alloc ?_ _) | (with_reducible refine Kd.C_drewN ?_ _) | (with_reducible refine Kd.C_drew ?_))); (case side4 => exact HC0_1.out); (case side5 => repeat (first | exact (Kd.C_below HR0_2.out HB.out) | (with_reducible refine Kd.C_alloc ?_ _) | (with_reducible refine Kd.C_drewN ?_ _) | (with_reducible refine Kd.C_drew ?_))); (case side6 => exact HC0_2.out); rintro e w25 ⟨rfl, hb⟩; refine ⟨_, rfl, ?_⟩; have n0_ := Aside0.mk (blk_below (g := gb278) (o := .cells #[.slice A0_0 l0_0.length c0_0, .slice A0_1 l0_1.length c0_1, .slice A0_2 l0_2.length c0_2] 25 (0, 0)) (by (with_reducible repeat (first | refine blk_drewN ?_ _ | refine blk_drew ?_ | refine blk_alloc ?_ _)); exact BK278.out) hb); have n1_ := Aside0.mk (below_step (by repeat (first | (with_reducible first | exact HB.out | apply below_alloc | apply pw_below_drewN | apply below_drew1 | refine below_set ?_ GE278.out) | exact HB.out)) hb); clear BK278; clear HB; have BK278 := n0_; have HB := n1_; clear n0_ n1_; (try clear hb); (try clear hb2); (try clear hk); (try clear hi)))
    go_meet
    case rel => exact ⟨_, (true), (by first | rfl | (simp; done) | (simp [*]; done)), H', ⟨by first | omega | exact Nat.le_refl _⟩, ⟨by (with_reducible repeat (first | refine blk_drewN ?_ _ | refine blk_drew ?_ | refine blk_alloc ?_ _)); exact BK278.out⟩, ⟨by repeat (first | (with_reducible first | exact HB.out | apply below_alloc | apply pw_below_drewN | apply below_drew1 | refine below_set ?_ GE278.out) | exact HB.out)⟩⟩
  case rest =>
   clear HC8
   try clear c1
   try clear p2
   try clear c4
   try clear c7
   try clear c10
   try clear c11
   try clear c12
   try clear c13
   try clear c13b0
   try clear c16
   try clear c16b0
   try clear c19
   try clear c19b0
   try clear hcz14_0
   try clear hcz14_1
   try clear hcz14_2
   try clear hcz17_0
   try clear hcz17_1
   try clear hcz17_2
   try clear hcz20_0
   try clear hcz20_1
   try clear hcz20_2
   try clear hcz22_0
   try clear hcz22_1
   try clear hcz22_2
   try clear hcz24_0
   try clear hcz24_1
   try clear hcz24_2
   try clear hfz14_0
   try clear hfz14_1
   try clear hfz14_2
   try clear hfz17_0
   try clear hfz17_1
   try clear hfz17_2
   try clear hfz20_0
   try clear hfz20_1
   try clear hfz20_2
   try clear hfz22_0
   try clear hfz22_1
   try clear hfz22_2
   try clear hfz24_0
   try clear hfz24_1
   try clear hfz24_2
   obtain ⟨kq, x43_7, rfl, HA, HJ7, BK278, HB⟩ := hcut
   cases kq with
   | zero => exact absurd HA.out (by simp [spilelaw19_CorrectFalls.j0])
   | succ kj7 =>
    have H := HA.out
    clear HA
    simp only [spilelaw19_CorrectFalls.j0] at H
    by_cases c26 : x43_7 = true
    ·
     subst c26
     have H1 : (some true) = some r := by rw [if_pos rfl] at H; exact H
     clear H
     have H := H1
     clear H1
     obtain rfl := Option.some.inj H
     go_wp2
     go_ret
     exact ⟨by first | rfl | (simp [errW_none, errW_some] <;> rfl) | (simp [*, errW_none, errW_some] <;> rfl), by repeat (first | (with_reducible first | exact HB.out | apply below_alloc | apply pw_below_drewN | apply below_drew1 | refine below_set ?_ GE278.out) | exact HB.out)⟩
    ·
     replace c26 := Bool.eq_false_iff.mpr c26
     subst c26
     have H1 : ((correct_True.f kj7 l0_0 l0_1 l0_2 a1 a2).bind fun bt281 => (if bt281.2 = 0 then ((correct_True.f kj7 l0_0 l0_1 l0_2 (wrap64 (a1 + a3)) a2).bind fun bt283 => ((correct_True.f kj7 l0_0 l0_1 l0_2 a1 (wrap64 (a2 + a4))).bind fun bt285 => (if bt283.2 = 0 then (if bt283.1 > bt281.1 then (spilelaw19_CorrectFalls.j1 kj7 true l0_0 l0_1 l0_2) else (if bt285.2 = 0 then (spilelaw19_CorrectFalls.j1 kj7 (decide (bt285.1 < bt281.1)) l0_0 l0_1 l0_2) else (spilelaw19_CorrectFalls.j1 kj7 false l0_0 l0_1 l0_2))) else (if bt285.2 = 0 then (spilelaw19_CorrectFalls.j1 kj7 (decide (bt285.1 < bt281.1)) l0_0 l0_1 l0_2) else (spilelaw19_CorrectFalls.j1 kj7 false l0_0 l0_1 l0_2))))) else (some (bt281.1 == 0)))) = some r := by rw [if_neg (show ¬ (false = true) by decide)] at H; exact H
     clear H
     have H := H1
     clear H1
     replace H := Option.bind_eq_some_iff.mp H
     obtain ⟨⟨t281, t282⟩, A270, H⟩ := H
     replace H : (if t282 = 0 then ((correct_True.f kj7 l0_0 l0_1 l0_2 (wrap64 (a1 + a3)) a2).bind fun bt283 => ((correct_True.f kj7 l0_0 l0_1 l0_2 a1 (wrap64 (a2 + a4))).bind fun bt285 => (if bt283.2 = 0 then (if bt283.1 > t281 then (spilelaw19_CorrectFalls.j1 kj7 true l0_0 l0_1 l0_2) else (if bt285.2 = 0 then (spilelaw19_CorrectFalls.j1 kj7 (decide (bt285.1 < t281)) l0_0 l0_1 l0_2) else (spilelaw19_CorrectFalls.j1 kj7 false l0_0 l0_1 l0_2))) else (if bt285.2 = 0 then (spilelaw19_CorrectFalls.j1 kj7 (decide (bt285.1 < t281)) l0_0 l0_1 l0_2) else (spilelaw19_CorrectFalls.j1 kj7 false l0_0 l0_1 l0_2))))) else (some (t281 == 0))) = some r := H
     have A27 := Aside0.mk A270
     clear A270
     by_cases c28 : t282 = 0
     ·
      rw [if_pos c28] at H
      have c28b0 : (t282 == 0) = true := beq_iff_eq.mpr c28
      have c28b1 : (t282 != 0) = false := bne_eq_false_iff_eq.mpr c28
      clear c28
      replace H := Option.bind_eq_some_iff.mp H
      obtain ⟨⟨t283, t284⟩, A290, H⟩ := H
      replace H : ((correct_True.f kj7 l0_0 l0_1 l0_2 a1 (wrap64 (a2 + a4))).bind fun bt285 => (if t284 = 0 then (if t283 > t281 then (spilelaw19_CorrectFalls.j1 kj7 true l0_0 l0_1 l0_2) else (if bt285.2 = 0 then (spilelaw19_CorrectFalls.j1 kj7 (decide (bt285.1 < t281)) l0_0 l0_1 l0_2) else (spilelaw19_CorrectFalls.j1 kj7 false l0_0 l0_1 l0_2))) else (if bt285.2 = 0 then (spilelaw19_CorrectFalls.j1 kj7 (decide (bt285.1 < t281)) l0_0 l0_1 l0_2) else (spilelaw19_CorrectFalls.j1 kj7 false l0_0 l0_1 l0_2)))) = some r := H
      have A29 := Aside0.mk A290
      clear A290
      replace H := Option.bind_eq_some_iff.mp H
      obtain ⟨⟨t285, t286⟩, A300, H⟩ := H
      replace H : (if t284 = 0 then (if t283 > t281 then (spilelaw19_CorrectFalls.j1 kj7 true l0_0 l0_1 l0_2) else (if t286 = 0 then (spilelaw19_CorrectFalls.j1 kj7 (decide (t285 < t281)) l0_0 l0_1 l0_2) else (spilelaw19_CorrectFalls.j1 kj7 false l0_0 l0_1 l0_2))) else (if t286 = 0 then (spilelaw19_CorrectFalls.j1 kj7 (decide (t285 < t281)) l0_0 l0_1 l0_2) else (spilelaw19_CorrectFalls.j1 kj7 false l0_0 l0_1 l0_2))) = some r := H
      have A30 := Aside0.mk A300
      clear A300
      have HC31 := Aside0.mk H
      clear H
      have hcz32_0 : wc.cell? ⟨gb278, 0, none⟩ = some (.slice A0_0 l0_0.length c0_0) := (blk_cell BK278.out 0).trans rfl
      have hcz32_1 : wc.cell? ⟨gb278, 1, none⟩ = some (.slice A0_1 l0_1.length c0_1) := (blk_cell BK278.out 1).trans rfl
      have hcz32_2 : wc.cell? ⟨gb278, 2, none⟩ = some (.slice A0_2 l0_2.length c0_2) := (blk_cell BK278.out 2).trans rfl
      have hfz32_0 := blk_frozen BK278.out 0
      have hfz32_1 := blk_frozen BK278.out 1
      have hfz32_2 := blk_frozen BK278.out 2
      go_upto_region 10 with (first | ((with_reducible refine gate_callee (f := 14) rfl ?_); refine goesL_ (some 48) rfl rfl Tryd.func14 (by kernel_rfl) rfl #[.agg #[.slice A0_0 l0_0.length c0_0, .slice A0_1 l0_1.length c0_1, .slice A0_2 l0_2.length c0_2], .int .i64 a1, .int .i64 a2] rfl (by (try simp only [List.map_toArray, List.map_cons, List.map_nil]); first | done | rfl | (simp only [List.length_drop, List.length_take]; rfl)) ?_; (with_reducible refine (correct_True.calls kj7 _ _ l0_0 _ _ l0_1 _ _ l0_2 a1 a2 t281 t282 _ ?side1 ?side2 ?side3 ?side4 ?side5 ?side6 A27.out).mono ?_); (case side1 => repeat (first | exact (Kd.C_below HR0_0.out HB.out) | (with_reducible refine Kd.C_alloc ?_ _) | (with_reducible refine Kd.C_drewN ?_ _) | (with_reducible refine Kd.C_drew ?_))); (case side2 => exact HC0_0.out); (case side3 => repeat (first | exact (Kd.C_below HR0_1.out HB.out) | (with_reducible refine Kd.C_alloc ?_ _) | (with_reducible refine Kd.C_drewN ?_ _) | (with_reducible refine Kd.C_drew ?_))); (case side4 => exact HC0_1.out); (case side5 => repeat (first | exact (Kd.C_below HR0_2.out HB.out) | (with_reducible refine Kd.C_alloc ?_ _) | (with_reducible refine Kd.C_drewN ?_ _) | (with_reducible refine Kd.C_drew ?_))); (case side6 => exact HC0_2.out); rintro e w33 ⟨rfl, hb⟩; refine ⟨_, rfl, ?_⟩; have n0_ := Aside0.mk (blk_below (g := gb278) (o := .cells #[.slice A0_0 l0_0.length c0_0, .slice A0_1 l0_1.length c0_1, .slice A0_2 l0_2.length c0_2] 25 (0, 0)) (by (with_reducible repeat (first | refine blk_drewN ?_ _ | refine blk_drew ?_ | refine blk_alloc ?_ _)); exact BK278.out) hb); have n1_ := Aside0.mk (below_step (by repeat (first | (with_reducible first | exact HB.out | apply below_alloc | apply pw_below_drewN | apply below_drew1 | refine below_set ?_ GE278.out) | exact HB.out)) hb); clear BK278; clear HB; have BK278 := n0_; have HB := n1_; clear n0_ n1_; (try clear hb); (try clear hb2); (try clear hk); (try clear hi); have hcz34_0 : w33.cell? ⟨gb278, 0, none⟩ = some (.slice A0_0 l0_0.length c0_0) := (blk_cell BK278.out 0).trans rfl; have hcz34_1 : w33.cell? ⟨gb278, 1, none⟩ = some (.slice A0_1 l0_1.length c0_1) := (blk_cell BK278.out 1).trans rfl; have hcz34_2 : w33.cell? ⟨gb278, 2, none⟩ = some (.slice A0_2 l0_2.length c0_2) := (blk_cell BK278.out 2).trans rfl; have hfz34_0 := blk_frozen BK278.out 0; have hfz34_1 := blk_frozen BK278.out 1; have hfz34_2 := blk_frozen BK278.out 2) | ((with_reducible refine gate_callee (f := 14) rfl ?_); refine goesL_ (some 61) rfl rfl Tryd.func14 (by kernel_rfl) rfl #[.agg #[.slice A0_0 l0_0.length c0_0, .slice A0_1 l0_1.length c0_1, .slice A0_2 l0_2.length c0_2], .int .i64 (wrap64 (a1 + a3)), .int .i64 a2] rfl (by (try simp only [List.map_toArray, List.map_cons, List.map_nil]); first | done | rfl | (simp only [List.length_drop, List.length_take]; rfl)) ?_; (with_reducible refine (correct_True.calls kj7 _ _ l0_0 _ _ l0_1 _ _ l0_2 (wrap64 (a1 + a3)) a2 t283 t284 _ ?side1 ?side2 ?side3 ?side4 ?side5 ?side6 A29.out).mono ?_); (case side1 => repeat (first | exact (Kd.C_below HR0_0.out HB.out) | (with_reducible refine Kd.C_alloc ?_ _) | (with_reducible refine Kd.C_drewN ?_ _) | (with_reducible refine Kd.C_drew ?_))); (case side2 => exact HC0_0.out); (case side3 => repeat (first | exact (Kd.C_below HR0_1.out HB.out) | (with_reducible refine Kd.C_alloc ?_ _) | (with_reducible refine Kd.C_drewN ?_ _) | (with_reducible refine Kd.C_drew ?_))); (case side4 => exact HC0_1.out); (case side5 => repeat (first | exact (Kd.C_below HR0_2.out HB.out) | (with_reducible refine Kd.C_alloc ?_ _) | (with_reducible refine Kd.C_drewN ?_ _) | (with_reducible refine Kd.C_drew ?_))); (case side6 => exact HC0_2.out); rintro e w35 ⟨rfl, hb⟩; refine ⟨_, rfl, ?_⟩; have n0_ := Aside0.mk (blk_below (g := gb278) (o := .cells #[.slice A0_0 l0_0.length c0_0, .slice A0_1 l0_1.length c0_1, .slice A0_2 l0_2.length c0_2] 25 (0, 0)) (by (with_reducible repeat (first | refine blk_drewN ?_ _ | refine blk_drew ?_ | refine blk_alloc ?_ _)); exact BK278.out) hb); have n1_ := Aside0.mk (below_step (by repeat (first | (with_reducible first | exact HB.out | apply below_alloc | apply pw_below_drewN | apply below_drew1 | refine below_set ?_ GE278.out) | exact HB.out)) hb); clear BK278; clear HB; have BK278 := n0_; have HB := n1_; clear n0_ n1_; (try clear hb); (try clear hb2); (try clear hk); (try clear hi); have hcz36_0 : w35.cell? ⟨gb278, 0, none⟩ = some (.slice A0_0 l0_0.length c0_0) := (blk_cell BK278.out 0).trans rfl; have hcz36_1 : w35.cell? ⟨gb278, 1, none⟩ = some (.slice A0_1 l0_1.length c0_1) := (blk_cell BK278.out 1).trans rfl; have hcz36_2 : w35.cell? ⟨gb278, 2, none⟩ = some (.slice A0_2 l0_2.length c0_2) := (blk_cell BK278.out 2).trans rfl; have hfz36_0 := blk_frozen BK278.out 0; have hfz36_1 := blk_frozen BK278.out 1; have hfz36_2 := blk_frozen BK278.out 2) | ((with_reducible refine gate_callee (f := 14) rfl ?_); refine goesL_ (some 70) rfl rfl Tryd.func14 (by kernel_rfl) rfl #[.agg #[.slice A0_0 l0_0.length c0_0, .slice A0_1 l0_1.length c0_1, .slice A0_2 l0_2.length c0_2], .int .i64 a1, .int .i64 (wrap64 (a2 + a4))] rfl (by (try simp only [List.map_toArray, List.map_cons, List.map_nil]); first | done | rfl | (simp only [List.length_drop, List.length_take]; rfl)) ?_; (with_reducible refine (correct_True.calls kj7 _ _ l0_0 _ _ l0_1 _ _ l0_2 a1 (wrap64 (a2 + a4)) t285 t286 _ ?side1 ?side2 ?side3 ?side4 ?side5 ?side6 A30.out).mono ?_); (case side1 => repeat (first | exact (Kd.C_below HR0_0.out HB.out) | (with_reducible refine Kd.C_alloc ?_ _) | (with_reducible refine Kd.C_drewN ?_ _) | (with_reducible refine Kd.C_drew ?_))); (case side2 => exact HC0_0.out); (case side3 => repeat (first | exact (Kd.C_below HR0_1.out HB.out) | (with_reducible refine Kd.C_alloc ?_ _) | (with_reducible refine Kd.C_drewN ?_ _) | (with_reducible refine Kd.C_drew ?_))); (case side4 => exact HC0_1.out); (case side5 => repeat (first | exact (Kd.C_below HR0_2.out HB.out) | (with_reducible refine Kd.C_alloc ?_ _) | (with_reducible refine Kd.C_drewN ?_ _) | (with_reducible refine Kd.C_drew ?_))); (case side6 => exact HC0_2.out); rintro e w37 ⟨rfl, hb⟩; refine ⟨_, rfl, ?_⟩; have n0_ := Aside0.mk (blk_below (g := gb278) (o := .cells #[.slice A0_0 l0_0.length c0_0, .slice A0_1 l0_1.length c0_1, .slice A0_2 l0_2.length c0_2] 25 (0, 0)) (by (with_reducible repeat (first | refine blk_drewN ?_ _ | refine blk_drew ?_ | refine blk_alloc ?_ _)); exact BK278.out) hb); have n1_ := Aside0.mk (below_step (by repeat (first | (with_reducible first | exact HB.out | apply below_alloc | apply pw_below_drewN | apply below_drew1 | refine below_set ?_ GE278.out) | exact HB.out)) hb); clear BK278; clear HB; have BK278 := n0_; have HB := n1_; clear n0_ n1_; (try clear hb); (try clear hb2); (try clear hk); (try clear hi)))
      (try simp only [Act.put, List.setIfInBounds_toArray, List.set_cons_zero, List.set_cons_succ])
      go_cut [88] (fun v88 wc => ∃ (kq : Nat) (x88_30 : Bool), v88 = .bool x88_30 ∧ Aside0 (spilelaw19_CorrectFalls.j1 kq x88_30 l0_0 l0_1 l0_2 = some r) ∧ Aside0 (kq ≤ kj7) ∧ Aside0 (wc.heap[gb278]? = some (.cells #[(.slice A0_0 l0_0.length c0_0), (.slice A0_1 l0_1.length c0_1), (.slice A0_2 l0_2.length c0_2)] 25 (0, 0))) ∧ Aside0 (Below w.heap.size w wc))
      case first =>
       have H := HC31.out
       clear HC31
       by_cases c38 : t284 = 0
       ·
        rw [if_pos c38] at H
        have c38b0 : (t284 == 0) = true := beq_iff_eq.mpr c38
        have c38b1 : (t284 != 0) = false := bne_eq_false_iff_eq.mpr c38
        clear c38
        (first | rw [c38b0] | (simp only [i64_w, i32_w]; rw [c38b0]) | skip)
        by_cases c39 : t283 > t281
        ·
         rw [if_pos c39] at H
         have c39b0 : decide (t281 < t283) = true := decide_eq_true c39
         clear c39
         have H' := Aside0.mk H
         clear H
         go_wp2
         go_meet
         case rel => exact ⟨_, (true), (by first | rfl | (simp; done) | (simp [*]; done)), H', ⟨by have := HJ7.out; first | omega | exact Nat.le_refl _⟩, ⟨by (with_reducible repeat (first | refine blk_drewN ?_ _ | refine blk_drew ?_ | refine blk_alloc ?_ _)); exact BK278.out⟩, ⟨by repeat (first | (with_reducible first | exact HB.out | apply below_alloc | apply pw_below_drewN | apply below_drew1 | refine below_set ?_ GE278.out) | exact HB.out)⟩⟩
        ·
         rw [if_neg c39] at H
         have c39b0 : decide (t281 < t283) = false := decide_eq_false c39
         clear c39
         by_cases c40 : t286 = 0
         ·
          rw [if_pos c40] at H
          have c40b0 : (t286 == 0) = true := beq_iff_eq.mpr c40
          have c40b1 : (t286 != 0) = false := bne_eq_false_iff_eq.mpr c40
          clear c40
          have H' := Aside0.mk H
          clear H
          go_wp2
          go_meet
          case rel => exact ⟨_, (decide (t285 < t281)), (by first | rfl | (simp; done) | (simp [*]; done)), H', ⟨by have := HJ7.out; first | omega | exact Nat.le_refl _⟩, ⟨by (with_reducible repeat (first | refine blk_drewN ?_ _ | refine blk_drew ?_ | refine blk_alloc ?_ _)); exact BK278.out⟩, ⟨by repeat (first | (with_reducible first | exact HB.out | apply below_alloc | apply pw_below_drewN | apply below_drew1 | refine below_set ?_ GE278.out) | exact HB.out)⟩⟩
         ·
          rw [if_neg c40] at H
          have c40b0 : (t286 == 0) = false := beq_eq_false_iff_ne.mpr c40
          have c40b1 : (t286 != 0) = true := bne_iff_ne.mpr c40
          have H' := Aside0.mk H
          clear H
          go_wp2
          go_meet
          case rel => exact ⟨_, (false), (by first | rfl | (simp; done) | (simp [*]; done)), H', ⟨by have := HJ7.out; first | omega | exact Nat.le_refl _⟩, ⟨by (with_reducible repeat (first | refine blk_drewN ?_ _ | refine blk_drew ?_ | refine blk_alloc ?_ _)); exact BK278.out⟩, ⟨by repeat (first | (with_reducible first | exact HB.out | apply below_alloc | apply pw_below_drewN | apply below_drew1 | refine below_set ?_ GE278.out) | exact HB.out)⟩⟩
       ·
        rw [if_neg c38] at H
        have c38b0 : (t284 == 0) = false := beq_eq_false_iff_ne.mpr c38
        have c38b1 : (t284 != 0) = true := bne_iff_ne.mpr c38
        (first | rw [c38b0] | (simp only [i64_w, i32_w]; rw [c38b0]) | skip)
        by_cases c41 : t286 = 0
        ·
         rw [if_pos c41] at H
         have c41b0 : (t286 == 0) = true := beq_iff_eq.mpr c41
         have c41b1 : (t286 != 0) = false := bne_eq_false_iff_eq.mpr c41
         clear c41
         have H' := Aside0.mk H
         clear H
         go_wp2
         go_meet
         case rel => exact ⟨_, (decide (t285 < t281)), (by first | rfl | (simp; done) | (simp [*]; done)), H', ⟨by have := HJ7.out; first | omega | exact Nat.le_refl _⟩, ⟨by (with_reducible repeat (first | refine blk_drewN ?_ _ | refine blk_drew ?_ | refine blk_alloc ?_ _)); exact BK278.out⟩, ⟨by repeat (first | (with_reducible first | exact HB.out | apply below_alloc | apply pw_below_drewN | apply below_drew1 | refine below_set ?_ GE278.out) | exact HB.out)⟩⟩
        ·
         rw [if_neg c41] at H
         have c41b0 : (t286 == 0) = false := beq_eq_false_iff_ne.mpr c41
         have c41b1 : (t286 != 0) = true := bne_iff_ne.mpr c41
         have H' := Aside0.mk H
         clear H
         go_wp2
         go_meet
         case rel => exact ⟨_, (false), (by first | rfl | (simp; done) | (simp [*]; done)), H', ⟨by have := HJ7.out; first | omega | exact Nat.le_refl _⟩, ⟨by (with_reducible repeat (first | refine blk_drewN ?_ _ | refine blk_drew ?_ | refine blk_alloc ?_ _)); exact BK278.out⟩, ⟨by repeat (first | (with_reducible first | exact HB.out | apply below_alloc | apply pw_below_drewN | apply below_drew1 | refine below_set ?_ GE278.out) | exact HB.out)⟩⟩
      case rest =>
       clear HC31
       try clear c1
       try clear c2
       try clear p2
       try clear c3
       try clear c4
       try clear p6
       try clear c7
       try clear c10
       try clear c11
       try clear c12
       try clear c13
       try clear c13b0
       try clear c14
       try clear c16
       try clear c16b0
       try clear c19
       try clear c19b0
       try clear c26
       try clear c28
       try clear c28b0
       try clear c28b1
       try clear c38
       try clear c38b0
       try clear c38b1
       try clear c39
       try clear c39b0
       try clear c40
       try clear c40b0
       try clear c40b1
       try clear c41
       try clear c41b0
       try clear c41b1
       try clear hcz14_0
       try clear hcz14_1
       try clear hcz14_2
       try clear hcz17_0
       try clear hcz17_1
       try clear hcz17_2
       try clear hcz20_0
       try clear hcz20_1
       try clear hcz20_2
       try clear hcz22_0
       try clear hcz22_1
       try clear hcz22_2
       try clear hcz24_0
       try clear hcz24_1
       try clear hcz24_2
       try clear hcz32_0
       try clear hcz32_1
       try clear hcz32_2
       try clear hcz34_0
       try clear hcz34_1
       try clear hcz34_2
       try clear hcz36_0
       try clear hcz36_1
       try clear hcz36_2
       try clear hfz14_0
       try clear hfz14_1
       try clear hfz14_2
       try clear hfz17_0
       try clear hfz17_1
       try clear hfz17_2
       try clear hfz20_0
       try clear hfz20_1
       try clear hfz20_2
       try clear hfz22_0
       try clear hfz22_1
       try clear hfz22_2
       try clear hfz24_0
       try clear hfz24_1
       try clear hfz24_2
       try clear hfz32_0
       try clear hfz32_1
       try clear hfz32_2
       try clear hfz34_0
       try clear hfz34_1
       try clear hfz34_2
       try clear hfz36_0
       try clear hfz36_1
       try clear hfz36_2
       try clear p2
       obtain ⟨kq, x88_30, rfl, HA, HJ30, BK278, HB⟩ := hcut
       cases kq with
       | zero => exact absurd HA.out (by simp [spilelaw19_CorrectFalls.j1])
       | succ kj30 =>
        have H := HA.out
        clear HA
        simp only [spilelaw19_CorrectFalls.j1] at H
        by_cases c42 : x88_30 = true
        ·
         subst c42
         have H1 : (some false) = some r := by rw [if_pos rfl] at H; exact H
         clear H
         have H := H1
         clear H1
         obtain rfl := Option.some.inj H
         go_wp2
         go_ret
         exact ⟨by first | rfl | (simp [errW_none, errW_some] <;> rfl) | (simp [*, errW_none, errW_some] <;> rfl), by repeat (first | (with_reducible first | exact HB.out | apply below_alloc | apply pw_below_drewN | apply below_drew1 | refine below_set ?_ GE278.out) | exact HB.out)⟩
        ·
         replace c42 := Bool.eq_false_iff.mpr c42
         subst c42
         have H1 : (spilelaw19_CorrectFalls.l0 kj30 l0_0 (l0_0.length : Int) 0 l0_0 l0_1 l0_2) = some r := by rw [if_neg (show ¬ (false = true) by decide)] at H; exact H
         clear H
         have H := H1
         clear H1
         have H' := Aside0.mk H
         clear H
         have hcz43_0 : wc.cell? ⟨gb278, 0, none⟩ = some (.slice A0_0 l0_0.length c0_0) := (blk_cell BK278.out 0).trans rfl
         have hcz43_1 : wc.cell? ⟨gb278, 1, none⟩ = some (.slice A0_1 l0_1.length c0_1) := (blk_cell BK278.out 1).trans rfl
         have hcz43_2 : wc.cell? ⟨gb278, 2, none⟩ = some (.slice A0_2 l0_2.length c0_2) := (blk_cell BK278.out 2).trans rfl
         have hfz43_0 := blk_frozen BK278.out 0
         have hfz43_1 := blk_frozen BK278.out 1
         have hfz43_2 := blk_frozen BK278.out 2
         go_wp2
         go_loopg [92] kj30 (fun kq v92 w' => ∃ (x92_3 : Int), v92 = .int .i64 x92_3 ∧ Aside0 (spilelaw19_CorrectFalls.l0 kq l0_0 (l0_0.length : Int) x92_3 l0_0 l0_1 l0_2 = some r) ∧ Aside0 (kq ≤ kj30) ∧ Aside0 (w'.heap[gb278]? = some (.cells #[(.slice A0_0 l0_0.length c0_0), (.slice A0_1 l0_1.length c0_1), (.slice A0_2 l0_2.length c0_2)] 25 (0, 0))) ∧ Aside0 (Below w.heap.size w w'))
         case atStart => exact ⟨(0), (by first | rfl | (simp; done) | (simp [*]; done)), H', ⟨Nat.le_refl _⟩, ⟨by (with_reducible repeat (first | refine blk_drewN ?_ _ | refine blk_drew ?_ | refine blk_alloc ?_ _)); exact BK278.out⟩, ⟨by repeat (first | (with_reducible first | exact HB.out | apply below_alloc | apply pw_below_drewN | apply below_drew1 | refine below_set ?_ GE278.out) | exact HB.out)⟩⟩
         case round =>
          clear H'
          try clear c1
          try clear c2
          try clear p2
          try clear c3
          try clear c4
          try clear p6
          try clear c7
          try clear c10
          try clear c11
          try clear c12
          try clear c13
          try clear c13b0
          try clear c14
          try clear c16
          try clear c16b0
          try clear c19
          try clear c19b0
          try clear c26
          try clear c28
          try clear c28b0
          try clear c28b1
          try clear c38
          try clear c38b0
          try clear c38b1
          try clear c39
          try clear c39b0
          try clear c40
          try clear c40b0
          try clear c40b1
          try clear c41
          try clear c41b0
          try clear c41b1
          try clear c42
          try clear hcz14_0
          try clear hcz14_1
          try clear hcz14_2
          try clear hcz17_0
          try clear hcz17_1
          try clear hcz17_2
          try clear hcz20_0
          try clear hcz20_1
          try clear hcz20_2
          try clear hcz22_0
          try clear hcz22_1
          try clear hcz22_2
          try clear hcz24_0
          try clear hcz24_1
          try clear hcz24_2
          try clear hcz32_0
          try clear hcz32_1
          try clear hcz32_2
          try clear hcz34_0
          try clear hcz34_1
          try clear hcz34_2
          try clear hcz36_0
          try clear hcz36_1
          try clear hcz36_2
          try clear hcz43_0
          try clear hcz43_1
          try clear hcz43_2
          try clear hfz14_0
          try clear hfz14_1
          try clear hfz14_2
          try clear hfz17_0
          try clear hfz17_1
          try clear hfz17_2
          try clear hfz20_0
          try clear hfz20_1
          try clear hfz20_2
          try clear hfz22_0
          try clear hfz22_1
          try clear hfz22_2
          try clear hfz24_0
          try clear hfz24_1
          try clear hfz24_2
          try clear hfz32_0
          try clear hfz32_1
          try clear hfz32_2
          try clear hfz34_0
          try clear hfz34_1
          try clear hfz34_2
          try clear hfz36_0
          try clear hfz36_1
          try clear hfz36_2
          try clear hfz43_0
          try clear hfz43_1
          try clear hfz43_2
          try clear p2
          try clear p6
          obtain ⟨x92_3, rfl, HA, HK3, BK278, HB⟩ := hrel
          cases gk with
          | zero => exact absurd HA.out (by simp [spilelaw19_CorrectFalls.l0])
          | succ k3 =>
           have H := HA.out
           clear HA
           simp only [spilelaw19_CorrectFalls.l0] at H
           by_cases c44 : x92_3 < (l0_0.length : Int)
           ·
            rw [if_pos c44] at H
            have c44b0 : decide (x92_3 < (l0_0.length : Int)) = true := decide_eq_true c44
            clear c44
            by_cases c45 : 0 ≤ x92_3
            ·
             rw [if_pos c45] at H
             have c45b0 : decide (0 ≤ x92_3) = true := decide_eq_true c45
             clear c45
             by_cases c46 : x92_3 < (l0_0.length : Int)
             ·
              rw [if_pos c46] at H
              have c46b0 : decide (x92_3 < (l0_0.length : Int)) = true := decide_eq_true c46
              clear c46
              have H' := Aside0.mk H
              clear H
              have p287 : 0 ≤ (x92_3 : Int) := of_decide_eq_true (by first | (with_reducible assumption) | assumption)
              have q287 : x92_3 < (l0_0.length : Int) := of_decide_eq_true (by first | (with_reducible assumption) | assumption)
              obtain ⟨ad287, e287, hx287_0⟩ := Kd.at_int HR0_0.out x92_3 p287 q287
              cases e287
              replace hx287_0 := (HB.out.cell (World.block_lt_of_cell? w _ hx287_0)).trans hx287_0
              replace p287 := eq_true p287
              replace q287 := eq_true q287
              have hcz47_0 : wr.cell? ⟨gb278, 0, none⟩ = some (.slice (some ad287) l0_0.length c0_0) := (blk_cell BK278.out 0).trans rfl
              have hcz47_1 : wr.cell? ⟨gb278, 1, none⟩ = some (.slice A0_1 l0_1.length c0_1) := (blk_cell BK278.out 1).trans rfl
              have hcz47_2 : wr.cell? ⟨gb278, 2, none⟩ = some (.slice A0_2 l0_2.length c0_2) := (blk_cell BK278.out 2).trans rfl
              have hfz47_0 := blk_frozen BK278.out 0
              have hfz47_1 := blk_frozen BK278.out 1
              have hfz47_2 := blk_frozen BK278.out 2
              go_wp2
              go_loopg [100] k3 (fun kq v100 w' => ∃ (x100_4 : Int), v100 = .int .i64 x100_4 ∧ Aside0 (spilelaw19_CorrectFalls.l1 kq x92_3 (rd l0_0 x92_3) l0_0 (l0_0.length : Int) x92_3 l0_1 (l0_1.length : Int) x100_4 l0_0 l0_1 l0_2 = some r) ∧ Aside0 (kq ≤ k3) ∧ Aside0 (w'.heap[gb278]? = some (.cells #[(.slice (some ad287) l0_0.length c0_0), (.slice A0_1 l0_1.length c0_1), (.slice A0_2 l0_2.length c0_2)] 25 (0, 0))) ∧ Aside0 (Below w.heap.size w w'))
              case atStart => exact ⟨(0), (by first | rfl | (simp; done) | (simp [*]; done)), H', ⟨Nat.le_refl _⟩, ⟨by (with_reducible repeat (first | refine blk_drewN ?_ _ | refine blk_drew ?_ | refine blk_alloc ?_ _)); exact BK278.out⟩, ⟨by repeat (first | (with_reducible first | exact HB.out | apply below_alloc | apply pw_below_drewN | apply below_drew1 | refine below_set ?_ GE278.out) | exact HB.out)⟩⟩
              case round =>
               clear H'
               try clear c1
               try clear c2
               try clear p2
               try clear q2
               try clear hx2
               try clear c3
               try clear c4
               try clear p6
               try clear c7
               try clear c10
               try clear c11
               try clear c12
               try clear c13
               try clear c13b0
               try clear c14
               try clear c16
               try clear c16b0
               try clear c19
               try clear c19b0
               try clear c26
               try clear c28
               try clear c28b0
               try clear c28b1
               try clear p28
               try clear q28
               try clear hx28
               try clear c38
               try clear c38b0
               try clear c38b1
               try clear c39
               try clear c39b0
               try clear c40
               try clear c40b0
               try clear c40b1
               try clear c41
               try clear c41b0
               try clear c41b1
               try clear c42
               try clear c44
               try clear c44b0
               try clear c45
               try clear c45b0
               try clear c46
               try clear c46b0
               try clear hcz14_0
               try clear hcz14_1
               try clear hcz14_2
               try clear hcz17_0
               try clear hcz17_1
               try clear hcz17_2
               try clear hcz20_0
               try clear hcz20_1
               try clear hcz20_2
               try clear hcz22_0
               try clear hcz22_1
               try clear hcz22_2
               try clear hcz24_0
               try clear hcz24_1
               try clear hcz24_2
               try clear hcz32_0
               try clear hcz32_1
               try clear hcz32_2
               try clear hcz34_0
               try clear hcz34_1
               try clear hcz34_2
               try clear hcz36_0
               try clear hcz36_1
               try clear hcz36_2
               try clear hcz43_0
               try clear hcz43_1
               try clear hcz43_2
               try clear hcz47_0
               try clear hcz47_1
               try clear hcz47_2
               try clear hfz14_0
               try clear hfz14_1
               try clear hfz14_2
               try clear hfz17_0
               try clear hfz17_1
               try clear hfz17_2
               try clear hfz20_0
               try clear hfz20_1
               try clear hfz20_2
               try clear hfz22_0
               try clear hfz22_1
               try clear hfz22_2
               try clear hfz24_0
               try clear hfz24_1
               try clear hfz24_2
               try clear hfz32_0
               try clear hfz32_1
               try clear hfz32_2
               try clear hfz34_0
               try clear hfz34_1
               try clear hfz34_2
               try clear hfz36_0
               try clear hfz36_1
               try clear hfz36_2
               try clear hfz43_0
               try clear hfz43_1
               try clear hfz43_2
               try clear hfz47_0
               try clear hfz47_1
               try clear hfz47_2
               try clear hx287_0
               try clear p2
               try clear p287
               try clear p6
               try clear q287
               obtain ⟨x100_4, rfl, HA, HK4, BK278, HB⟩ := hrel
               cases gk with
               | zero => exact absurd HA.out (by simp [spilelaw19_CorrectFalls.l1])
               | succ k4 =>
                have H := HA.out
                clear HA
                simp only [spilelaw19_CorrectFalls.l1] at H
                by_cases c48 : x100_4 < (l0_1.length : Int)
                ·
                 rw [if_pos c48] at H
                 have c48b0 : decide (x100_4 < (l0_1.length : Int)) = true := decide_eq_true c48
                 clear c48
                 by_cases c49 : 0 ≤ x100_4
                 ·
                  rw [if_pos c49] at H
                  have c49b0 : decide (0 ≤ x100_4) = true := decide_eq_true c49
                  clear c49
                  by_cases c50 : x100_4 < (l0_1.length : Int)
                  ·
                   rw [if_pos c50] at H
                   have c50b0 : decide (x100_4 < (l0_1.length : Int)) = true := decide_eq_true c50
                   clear c50
                   replace H := Option.bind_eq_some_iff.mp H
                   obtain ⟨⟨t289, t290⟩, A510, H⟩ := H
                   replace H : (if t290 = 0 then (if x92_3 ≥ (l0_2.length : Int) then (some false) else (if 0 ≤ x92_3 then (if x92_3 < (l0_2.length : Int) then (if x100_4 ≥ ((rd_L1 l0_2 x92_3).length : Int) then (some false) else (if x100_4 < ((rd_L1 l0_2 x92_3).length : Int) then (if t289 = (rd (rd_L1 l0_2 x92_3) x100_4) then (spilelaw19_CorrectFalls.l1 k4 x92_3 (rd l0_0 x92_3) l0_0 (l0_0.length : Int) x92_3 l0_1 (l0_1.length : Int) (wrap64 (x100_4 + 1)) l0_0 l0_1 l0_2) else (some false)) else (none))) else (none)) else (none))) else (some false)) = some r := H
                   have A51 := Aside0.mk A510
                   clear A510
                   by_cases c52 : t290 = 0
                   ·
                    rw [if_pos c52] at H
                    have c52b0 : (t290 == 0) = true := beq_iff_eq.mpr c52
                    have c52b1 : (t290 != 0) = false := bne_eq_false_iff_eq.mpr c52
                    clear c52
                    by_cases c53 : x92_3 ≥ (l0_2.length : Int)
                    ·
                     rw [if_pos c53] at H
                     have c53b0 : decide ((l0_2.length : Int) ≤ x92_3) = true := decide_eq_true c53
                     clear c53
                     obtain rfl := Option.some.inj H
                     have p288 : 0 ≤ (x100_4 : Int) := of_decide_eq_true (by first | (with_reducible assumption) | assumption)
                     have q288 : x100_4 < (l0_1.length : Int) := of_decide_eq_true (by first | (with_reducible assumption) | assumption)
                     obtain ⟨ad288, e288, hx288_0⟩ := Kd.at_int HR0_1.out x100_4 p288 q288
                     cases e288
                     replace hx288_0 := (HB.out.cell (World.block_lt_of_cell? w _ hx288_0)).trans hx288_0
                     replace p288 := eq_true p288
                     replace q288 := eq_true q288
                     have hcz54_0 : wr.cell? ⟨gb278, 0, none⟩ = some (.slice (some ad287) l0_0.length c0_0) := (blk_cell BK278.out 0).trans rfl
                     have hcz54_1 : wr.cell? ⟨gb278, 1, none⟩ = some (.slice (some ad288) l0_1.length c0_1) := (blk_cell BK278.out 1).trans rfl
                     have hcz54_2 : wr.cell? ⟨gb278, 2, none⟩ = some (.slice A0_2 l0_2.length c0_2) := (blk_cell BK278.out 2).trans rfl
                     have hfz54_0 := blk_frozen BK278.out 0
                     have hfz54_1 := blk_frozen BK278.out 1
                     have hfz54_2 := blk_frozen BK278.out 2
                     go_wp2_with (first | ((with_reducible refine gate_callee (f := 14) rfl ?_); refine goesL_ (some 109) rfl rfl Tryd.func14 (by kernel_rfl) rfl #[.agg #[.slice (some ad287) l0_0.length c0_0, .slice (some ad288) l0_1.length c0_1, .slice A0_2 l0_2.length c0_2], .int .i64 (rd l0_0 x92_3), .int .i64 (rd l0_1 x100_4)] rfl (by (try simp only [List.map_toArray, List.map_cons, List.map_nil]); first | done | rfl | (simp only [List.length_drop, List.length_take]; rfl)) ?_; (with_reducible refine (correct_True.calls k4 _ _ l0_0 _ _ l0_1 _ _ l0_2 (rd l0_0 x92_3) (rd l0_1 x100_4) t289 t290 _ ?side1 ?side2 ?side3 ?side4 ?side5 ?side6 A51.out).mono ?_); (case side1 => repeat (first | exact (Kd.C_below HR0_0.out HB.out) | (with_reducible refine Kd.C_alloc ?_ _) | (with_reducible refine Kd.C_drewN ?_ _) | (with_reducible refine Kd.C_drew ?_))); (case side2 => exact HC0_0.out); (case side3 => repeat (first | exact (Kd.C_below HR0_1.out HB.out) | (with_reducible refine Kd.C_alloc ?_ _) | (with_reducible refine Kd.C_drewN ?_ _) | (with_reducible refine Kd.C_drew ?_))); (case side4 => exact HC0_1.out); (case side5 => repeat (first | exact (Kd.C_below HR0_2.out HB.out) | (with_reducible refine Kd.C_alloc ?_ _) | (with_reducible refine Kd.C_drewN ?_ _) | (with_reducible refine Kd.C_drew ?_))); (case side6 => exact HC0_2.out); rintro e w55 ⟨rfl, hb⟩; refine ⟨_, rfl, ?_⟩; have n0_ := Aside0.mk (blk_below (g := gb278) (o := .cells #[.slice (some ad287) l0_0.length c0_0, .slice (some ad288) l0_1.length c0_1, .slice A0_2 l0_2.length c0_2] 25 (0, 0)) (by (with_reducible repeat (first | refine blk_drewN ?_ _ | refine blk_drew ?_ | refine blk_alloc ?_ _)); exact BK278.out) hb); have n1_ := Aside0.mk (below_step (by repeat (first | (with_reducible first | exact HB.out | apply below_alloc | apply pw_below_drewN | apply below_drew1 | refine below_set ?_ GE278.out) | exact HB.out)) hb); clear BK278; clear HB; have BK278 := n0_; have HB := n1_; clear n0_ n1_; (try clear hb); (try clear hb2); (try clear hk); (try clear hi); have hcz56_0 : w55.cell? ⟨gb278, 0, none⟩ = some (.slice (some ad287) l0_0.length c0_0) := (blk_cell BK278.out 0).trans rfl; have hcz56_1 : w55.cell? ⟨gb278, 1, none⟩ = some (.slice (some ad288) l0_1.length c0_1) := (blk_cell BK278.out 1).trans rfl; have hcz56_2 : w55.cell? ⟨gb278, 2, none⟩ = some (.slice A0_2 l0_2.length c0_2) := (blk_cell BK278.out 2).trans rfl; have hfz56_0 := blk_frozen BK278.out 0; have hfz56_1 := blk_frozen BK278.out 1; have hfz56_2 := blk_frozen BK278.out 2))
                     go_ret
                     exact ⟨by first | rfl | (simp [errW_none, errW_some] <;> rfl) | (simp [*, errW_none, errW_some] <;> rfl), by repeat (first | (with_reducible first | exact HB.out | apply below_alloc | apply pw_below_drewN | apply below_drew1 | refine below_set ?_ GE278.out) | exact HB.out)⟩
                    ·
                     rw [if_neg c53] at H
                     have c53b0 : decide ((l0_2.length : Int) ≤ x92_3) = false := decide_eq_false c53
                     clear c53
                     by_cases c57 : 0 ≤ x92_3
                     ·
                      rw [if_pos c57] at H
                      have c57b0 : decide (0 ≤ x92_3) = true := decide_eq_true c57
                      clear c57
                      by_cases c58 : x92_3 < (l0_2.length : Int)
                      ·
                       rw [if_pos c58] at H
                       have c58b0 : decide (x92_3 < (l0_2.length : Int)) = true := decide_eq_true c58
                       clear c58
                       by_cases c59 : x100_4 ≥ ((rd_L1 l0_2 x92_3).length : Int)
                       ·
                        rw [if_pos c59] at H
                        have c59b0 : decide (((rd_L1 l0_2 x92_3).length : Int) ≤ x100_4) = true := decide_eq_true c59
                        clear c59
                        obtain rfl := Option.some.inj H
                        have p288 : 0 ≤ (x100_4 : Int) := of_decide_eq_true (by first | (with_reducible assumption) | assumption)
                        have q288 : x100_4 < (l0_1.length : Int) := of_decide_eq_true (by first | (with_reducible assumption) | assumption)
                        obtain ⟨ad288, e288, hx288_0⟩ := Kd.at_int HR0_1.out x100_4 p288 q288
                        cases e288
                        replace hx288_0 := (HB.out.cell (World.block_lt_of_cell? w _ hx288_0)).trans hx288_0
                        replace p288 := eq_true p288
                        replace q288 := eq_true q288
                        have hcz60_0 : wr.cell? ⟨gb278, 0, none⟩ = some (.slice (some ad287) l0_0.length c0_0) := (blk_cell BK278.out 0).trans rfl
                        have hcz60_1 : wr.cell? ⟨gb278, 1, none⟩ = some (.slice (some ad288) l0_1.length c0_1) := (blk_cell BK278.out 1).trans rfl
                        have hcz60_2 : wr.cell? ⟨gb278, 2, none⟩ = some (.slice A0_2 l0_2.length c0_2) := (blk_cell BK278.out 2).trans rfl
                        have hfz60_0 := blk_frozen BK278.out 0
                        have hfz60_1 := blk_frozen BK278.out 1
                        have hfz60_2 := blk_frozen BK278.out 2
                        go_wp2_with (first | ((with_reducible refine gate_callee (f := 14) rfl ?_); refine goesL_ (some 109) rfl rfl Tryd.func14 (by kernel_rfl) rfl #[.agg #[.slice (some ad287) l0_0.length c0_0, .slice (some ad288) l0_1.length c0_1, .slice A0_2 l0_2.length c0_2], .int .i64 (rd l0_0 x92_3), .int .i64 (rd l0_1 x100_4)] rfl (by (try simp only [List.map_toArray, List.map_cons, List.map_nil]); first | done | rfl | (simp only [List.length_drop, List.length_take]; rfl)) ?_; (with_reducible refine (correct_True.calls k4 _ _ l0_0 _ _ l0_1 _ _ l0_2 (rd l0_0 x92_3) (rd l0_1 x100_4) t289 t290 _ ?side1 ?side2 ?side3 ?side4 ?side5 ?side6 A51.out).mono ?_); (case side1 => repeat (first | exact (Kd.C_below HR0_0.out HB.out) | (with_reducible refine Kd.C_alloc ?_ _) | (with_reducible refine Kd.C_drewN ?_ _) | (with_reducible refine Kd.C_drew ?_))); (case side2 => exact HC0_0.out); (case side3 => repeat (first | exact (Kd.C_below HR0_1.out HB.out) | (with_reducible refine Kd.C_alloc ?_ _) | (with_reducible refine Kd.C_drewN ?_ _) | (with_reducible refine Kd.C_drew ?_))); (case side4 => exact HC0_1.out); (case side5 => repeat (first | exact (Kd.C_below HR0_2.out HB.out) | (with_reducible refine Kd.C_alloc ?_ _) | (with_reducible refine Kd.C_drewN ?_ _) | (with_reducible refine Kd.C_drew ?_))); (case side6 => exact HC0_2.out); rintro e w61 ⟨rfl, hb⟩; refine ⟨_, rfl, ?_⟩; have n0_ := Aside0.mk (blk_below (g := gb278) (o := .cells #[.slice (some ad287) l0_0.length c0_0, .slice (some ad288) l0_1.length c0_1, .slice A0_2 l0_2.length c0_2] 25 (0, 0)) (by (with_reducible repeat (first | refine blk_drewN ?_ _ | refine blk_drew ?_ | refine blk_alloc ?_ _)); exact BK278.out) hb); have n1_ := Aside0.mk (below_step (by repeat (first | (with_reducible first | exact HB.out | apply below_alloc | apply pw_below_drewN | apply below_drew1 | refine below_set ?_ GE278.out) | exact HB.out)) hb); clear BK278; clear HB; have BK278 := n0_; have HB := n1_; clear n0_ n1_; (try clear hb); (try clear hb2); (try clear hk); (try clear hi); have hcz62_0 : w61.cell? ⟨gb278, 0, none⟩ = some (.slice (some ad287) l0_0.length c0_0) := (blk_cell BK278.out 0).trans rfl; have hcz62_1 : w61.cell? ⟨gb278, 1, none⟩ = some (.slice (some ad288) l0_1.length c0_1) := (blk_cell BK278.out 1).trans rfl; have hcz62_2 : w61.cell? ⟨gb278, 2, none⟩ = some (.slice A0_2 l0_2.length c0_2) := (blk_cell BK278.out 2).trans rfl; have hfz62_0 := blk_frozen BK278.out 0; have hfz62_1 := blk_frozen BK278.out 1; have hfz62_2 := blk_frozen BK278.out 2; have p291 : 0 ≤ (x92_3 : Int) := of_decide_eq_true (by first | (with_reducible assumption) | assumption); have q291 : x92_3 < (l0_2.length : Int) := of_decide_eq_true (by first | (with_reducible assumption) | assumption); obtain ⟨ad291, A291_0, c291_0, e291, hx291_0, hl291_0, hi291_0⟩ := at_L1 HR0_2.out x92_3 p291 q291; cases e291; replace hx291_0 := (HB.out.cell (World.block_lt_of_cell? w _ hx291_0)).trans hx291_0; have HR291_0 := Aside0.mk hi291_0; have HC291_0 := Aside0.mk hl291_0; clear hi291_0 hl291_0; replace p291 := eq_true p291; replace q291 := eq_true q291))
                        go_ret
                        exact ⟨by first | rfl | (simp [errW_none, errW_some] <;> rfl) | (simp [*, errW_none, errW_some] <;> rfl), by repeat (first | (with_reducible first | exact HB.out | apply below_alloc | apply pw_below_drewN | apply below_drew1 | refine below_set ?_ GE278.out) | exact HB.out)⟩
                       ·
                        rw [if_neg c59] at H
                        have c59b0 : decide (((rd_L1 l0_2 x92_3).length : Int) ≤ x100_4) = false := decide_eq_false c59
                        clear c59
                        by_cases c63 : x100_4 < ((rd_L1 l0_2 x92_3).length : Int)
                        ·
                         rw [if_pos c63] at H
                         have c63b0 : decide (x100_4 < ((rd_L1 l0_2 x92_3).length : Int)) = true := decide_eq_true c63
                         clear c63
                         by_cases c64 : t289 = (rd (rd_L1 l0_2 x92_3) x100_4)
                         ·
                          rw [if_pos c64] at H
                          have c64b0 : (t289 == (rd (rd_L1 l0_2 x92_3) x100_4)) = true := beq_iff_eq.mpr c64
                          have c64b1 : (t289 != (rd (rd_L1 l0_2 x92_3) x100_4)) = false := bne_eq_false_iff_eq.mpr c64
                          clear c64
                          have H' := Aside0.mk H
                          clear H
                          have p288 : 0 ≤ (x100_4 : Int) := of_decide_eq_true (by first | (with_reducible assumption) | assumption)
                          have q288 : x100_4 < (l0_1.length : Int) := of_decide_eq_true (by first | (with_reducible assumption) | assumption)
                          obtain ⟨ad288, e288, hx288_0⟩ := Kd.at_int HR0_1.out x100_4 p288 q288
                          cases e288
                          replace hx288_0 := (HB.out.cell (World.block_lt_of_cell? w _ hx288_0)).trans hx288_0
                          replace p288 := eq_true p288
                          replace q288 := eq_true q288
                          have hcz65_0 : wr.cell? ⟨gb278, 0, none⟩ = some (.slice (some ad287) l0_0.length c0_0) := (blk_cell BK278.out 0).trans rfl
                          have hcz65_1 : wr.cell? ⟨gb278, 1, none⟩ = some (.slice (some ad288) l0_1.length c0_1) := (blk_cell BK278.out 1).trans rfl
                          have hcz65_2 : wr.cell? ⟨gb278, 2, none⟩ = some (.slice A0_2 l0_2.length c0_2) := (blk_cell BK278.out 2).trans rfl
                          have hfz65_0 := blk_frozen BK278.out 0
                          have hfz65_1 := blk_frozen BK278.out 1
                          have hfz65_2 := blk_frozen BK278.out 2
                          go_wp2_with (first | ((with_reducible refine gate_callee (f := 14) rfl ?_); refine goesL_ (some 109) rfl rfl Tryd.func14 (by kernel_rfl) rfl #[.agg #[.slice (some ad287) l0_0.length c0_0, .slice (some ad288) l0_1.length c0_1, .slice A0_2 l0_2.length c0_2], .int .i64 (rd l0_0 x92_3), .int .i64 (rd l0_1 x100_4)] rfl (by (try simp only [List.map_toArray, List.map_cons, List.map_nil]); first | done | rfl | (simp only [List.length_drop, List.length_take]; rfl)) ?_; (with_reducible refine (correct_True.calls k4 _ _ l0_0 _ _ l0_1 _ _ l0_2 (rd l0_0 x92_3) (rd l0_1 x100_4) t289 t290 _ ?side1 ?side2 ?side3 ?side4 ?side5 ?side6 A51.out).mono ?_); (case side1 => repeat (first | exact (Kd.C_below HR0_0.out HB.out) | (with_reducible refine Kd.C_alloc ?_ _) | (with_reducible refine Kd.C_drewN ?_ _) | (with_reducible refine Kd.C_drew ?_))); (case side2 => exact HC0_0.out); (case side3 => repeat (first | exact (Kd.C_below HR0_1.out HB.out) | (with_reducible refine Kd.C_alloc ?_ _) | (with_reducible refine Kd.C_drewN ?_ _) | (with_reducible refine Kd.C_drew ?_))); (case side4 => exact HC0_1.out); (case side5 => repeat (first | exact (Kd.C_below HR0_2.out HB.out) | (with_reducible refine Kd.C_alloc ?_ _) | (with_reducible refine Kd.C_drewN ?_ _) | (with_reducible refine Kd.C_drew ?_))); (case side6 => exact HC0_2.out); rintro e w66 ⟨rfl, hb⟩; refine ⟨_, rfl, ?_⟩; have n0_ := Aside0.mk (blk_below (g := gb278) (o := .cells #[.slice (some ad287) l0_0.length c0_0, .slice (some ad288) l0_1.length c0_1, .slice A0_2 l0_2.length c0_2] 25 (0, 0)) (by (with_reducible repeat (first | refine blk_drewN ?_ _ | refine blk_drew ?_ | refine blk_alloc ?_ _)); exact BK278.out) hb); have n1_ := Aside0.mk (below_step (by repeat (first | (with_reducible first | exact HB.out | apply below_alloc | apply pw_below_drewN | apply below_drew1 | refine below_set ?_ GE278.out) | exact HB.out)) hb); clear BK278; clear HB; have BK278 := n0_; have HB := n1_; clear n0_ n1_; (try clear hb); (try clear hb2); (try clear hk); (try clear hi); have hcz67_0 : w66.cell? ⟨gb278, 0, none⟩ = some (.slice (some ad287) l0_0.length c0_0) := (blk_cell BK278.out 0).trans rfl; have hcz67_1 : w66.cell? ⟨gb278, 1, none⟩ = some (.slice (some ad288) l0_1.length c0_1) := (blk_cell BK278.out 1).trans rfl; have hcz67_2 : w66.cell? ⟨gb278, 2, none⟩ = some (.slice A0_2 l0_2.length c0_2) := (blk_cell BK278.out 2).trans rfl; have hfz67_0 := blk_frozen BK278.out 0; have hfz67_1 := blk_frozen BK278.out 1; have hfz67_2 := blk_frozen BK278.out 2; have p291 : 0 ≤ (x92_3 : Int) := of_decide_eq_true (by first | (with_reducible assumption) | assumption); have q291 : x92_3 < (l0_2.length : Int) := of_decide_eq_true (by first | (with_reducible assumption) | assumption); obtain ⟨ad291, A291_0, c291_0, e291, hx291_0, hl291_0, hi291_0⟩ := at_L1 HR0_2.out x92_3 p291 q291; cases e291; replace hx291_0 := (HB.out.cell (World.block_lt_of_cell? w _ hx291_0)).trans hx291_0; have HR291_0 := Aside0.mk hi291_0; have HC291_0 := Aside0.mk hl291_0; clear hi291_0 hl291_0; replace p291 := eq_true p291; replace q291 := eq_true q291; have p292 : 0 ≤ (x92_3 : Int) := of_decide_eq_true (by first | (with_reducible assumption) | assumption); have q292 : x92_3 < (l0_2.length : Int) := of_decide_eq_true (by first | (with_reducible assumption) | assumption); obtain ⟨ad292, A292_0, c292_0, e292, hx292_0, hl292_0, hi292_0⟩ := at_L1 HR0_2.out x92_3 p292 q292; obtain rfl : ad291 = ad292 := (by injection e292); replace hx292_0 := (HB.out.cell (World.block_lt_of_cell? w _ hx292_0)).trans hx292_0; have HR292_0 := Aside0.mk hi292_0; have HC292_0 := Aside0.mk hl292_0; clear hi292_0 hl292_0; replace p292 := eq_true p292; replace q292 := eq_true q292; have ea_ := Option.some.inj (hx291_0.symm.trans hx292_0); injection ea_ with ea_ en_ ec_; subst ea_; subst ec_; clear en_; have p293 : 0 ≤ (x100_4 : Int) := of_decide_eq_true (by first | (with_reducible assumption) | assumption); have q293 : x100_4 < ((rd_L1 l0_2 x92_3).length : Int) := of_decide_eq_true (by first | (with_reducible assumption) | assumption); obtain ⟨ad293, e293, hx293_0⟩ := Kd.at_int HR292_0.out x100_4 p293 q293; cases e293; replace hx293_0 := (HB.out.cell (World.block_lt_of_cell? w _ hx293_0)).trans hx293_0; replace p293 := eq_true p293; replace q293 := eq_true q293))
                          go_roundg k4
                          case measure => have := HJ7.out; have := HJ30.out; have := HK3.out; have := HK4.out; omega
                          case rel => exact ⟨(wrap64 (x100_4 + 1)), (by first | rfl | (simp; done) | (simp [*]; done)), H', ⟨by have := HJ7.out; have := HJ30.out; have := HK3.out; have := HK4.out; omega⟩, ⟨by (with_reducible repeat (first | refine blk_drewN ?_ _ | refine blk_drew ?_ | refine blk_alloc ?_ _)); exact BK278.out⟩, ⟨by repeat (first | (with_reducible first | exact HB.out | apply below_alloc | apply pw_below_drewN | apply below_drew1 | refine below_set ?_ GE278.out) | exact HB.out)⟩⟩
                         ·
                          rw [if_neg c64] at H
                          have c64b0 : (t289 == (rd (rd_L1 l0_2 x92_3) x100_4)) = false := beq_eq_false_iff_ne.mpr c64
                          have c64b1 : (t289 != (rd (rd_L1 l0_2 x92_3) x100_4)) = true := bne_iff_ne.mpr c64
                          obtain rfl := Option.some.inj H
                          have p288 : 0 ≤ (x100_4 : Int) := of_decide_eq_true (by first | (with_reducible assumption) | assumption)
                          have q288 : x100_4 < (l0_1.length : Int) := of_decide_eq_true (by first | (with_reducible assumption) | assumption)
                          obtain ⟨ad288, e288, hx288_0⟩ := Kd.at_int HR0_1.out x100_4 p288 q288
                          cases e288
                          replace hx288_0 := (HB.out.cell (World.block_lt_of_cell? w _ hx288_0)).trans hx288_0
                          replace p288 := eq_true p288
                          replace q288 := eq_true q288
                          have hcz68_0 : wr.cell? ⟨gb278, 0, none⟩ = some (.slice (some ad287) l0_0.length c0_0) := (blk_cell BK278.out 0).trans rfl
                          have hcz68_1 : wr.cell? ⟨gb278, 1, none⟩ = some (.slice (some ad288) l0_1.length c0_1) := (blk_cell BK278.out 1).trans rfl
                          have hcz68_2 : wr.cell? ⟨gb278, 2, none⟩ = some (.slice A0_2 l0_2.length c0_2) := (blk_cell BK278.out 2).trans rfl
                          have hfz68_0 := blk_frozen BK278.out 0
                          have hfz68_1 := blk_frozen BK278.out 1
                          have hfz68_2 := blk_frozen BK278.out 2
                          go_wp2_with (first | ((with_reducible refine gate_callee (f := 14) rfl ?_); refine goesL_ (some 109) rfl rfl Tryd.func14 (by kernel_rfl) rfl #[.agg #[.slice (some ad287) l0_0.length c0_0, .slice (some ad288) l0_1.length c0_1, .slice A0_2 l0_2.length c0_2], .int .i64 (rd l0_0 x92_3), .int .i64 (rd l0_1 x100_4)] rfl (by (try simp only [List.map_toArray, List.map_cons, List.map_nil]); first | done | rfl | (simp only [List.length_drop, List.length_take]; rfl)) ?_; (with_reducible refine (correct_True.calls k4 _ _ l0_0 _ _ l0_1 _ _ l0_2 (rd l0_0 x92_3) (rd l0_1 x100_4) t289 t290 _ ?side1 ?side2 ?side3 ?side4 ?side5 ?side6 A51.out).mono ?_); (case side1 => repeat (first | exact (Kd.C_below HR0_0.out HB.out) | (with_reducible refine Kd.C_alloc ?_ _) | (with_reducible refine Kd.C_drewN ?_ _) | (with_reducible refine Kd.C_drew ?_))); (case side2 => exact HC0_0.out); (case side3 => repeat (first | exact (Kd.C_below HR0_1.out HB.out) | (with_reducible refine Kd.C_alloc ?_ _) | (with_reducible refine Kd.C_drewN ?_ _) | (with_reducible refine Kd.C_drew ?_))); (case side4 => exact HC0_1.out); (case side5 => repeat (first | exact (Kd.C_below HR0_2.out HB.out) | (with_reducible refine Kd.C_alloc ?_ _) | (with_reducible refine Kd.C_drewN ?_ _) | (with_reducible refine Kd.C_drew ?_))); (case side6 => exact HC0_2.out); rintro e w69 ⟨rfl, hb⟩; refine ⟨_, rfl, ?_⟩; have n0_ := Aside0.mk (blk_below (g := gb278) (o := .cells #[.slice (some ad287) l0_0.length c0_0, .slice (some ad288) l0_1.length c0_1, .slice A0_2 l0_2.length c0_2] 25 (0, 0)) (by (with_reducible repeat (first | refine blk_drewN ?_ _ | refine blk_drew ?_ | refine blk_alloc ?_ _)); exact BK278.out) hb); have n1_ := Aside0.mk (below_step (by repeat (first | (with_reducible first | exact HB.out | apply below_alloc | apply pw_below_drewN | apply below_drew1 | refine below_set ?_ GE278.out) | exact HB.out)) hb); clear BK278; clear HB; have BK278 := n0_; have HB := n1_; clear n0_ n1_; (try clear hb); (try clear hb2); (try clear hk); (try clear hi); have hcz70_0 : w69.cell? ⟨gb278, 0, none⟩ = some (.slice (some ad287) l0_0.length c0_0) := (blk_cell BK278.out 0).trans rfl; have hcz70_1 : w69.cell? ⟨gb278, 1, none⟩ = some (.slice (some ad288) l0_1.length c0_1) := (blk_cell BK278.out 1).trans rfl; have hcz70_2 : w69.cell? ⟨gb278, 2, none⟩ = some (.slice A0_2 l0_2.length c0_2) := (blk_cell BK278.out 2).trans rfl; have hfz70_0 := blk_frozen BK278.out 0; have hfz70_1 := blk_frozen BK278.out 1; have hfz70_2 := blk_frozen BK278.out 2; have p291 : 0 ≤ (x92_3 : Int) := of_decide_eq_true (by first | (with_reducible assumption) | assumption); have q291 : x92_3 < (l0_2.length : Int) := of_decide_eq_true (by first | (with_reducible assumption) | assumption); obtain ⟨ad291, A291_0, c291_0, e291, hx291_0, hl291_0, hi291_0⟩ := at_L1 HR0_2.out x92_3 p291 q291; cases e291; replace hx291_0 := (HB.out.cell (World.block_lt_of_cell? w _ hx291_0)).trans hx291_0; have HR291_0 := Aside0.mk hi291_0; have HC291_0 := Aside0.mk hl291_0; clear hi291_0 hl291_0; replace p291 := eq_true p291; replace q291 := eq_true q291; have p292 : 0 ≤ (x92_3 : Int) := of_decide_eq_true (by first | (with_reducible assumption) | assumption); have q292 : x92_3 < (l0_2.length : Int) := of_decide_eq_true (by first | (with_reducible assumption) | assumption); obtain ⟨ad292, A292_0, c292_0, e292, hx292_0, hl292_0, hi292_0⟩ := at_L1 HR0_2.out x92_3 p292 q292; obtain rfl : ad291 = ad292 := (by injection e292); replace hx292_0 := (HB.out.cell (World.block_lt_of_cell? w _ hx292_0)).trans hx292_0; have HR292_0 := Aside0.mk hi292_0; have HC292_0 := Aside0.mk hl292_0; clear hi292_0 hl292_0; replace p292 := eq_true p292; replace q292 := eq_true q292; have ea_ := Option.some.inj (hx291_0.symm.trans hx292_0); injection ea_ with ea_ en_ ec_; subst ea_; subst ec_; clear en_; have p293 : 0 ≤ (x100_4 : Int) := of_decide_eq_true (by first | (with_reducible assumption) | assumption); have q293 : x100_4 < ((rd_L1 l0_2 x92_3).length : Int) := of_decide_eq_true (by first | (with_reducible assumption) | assumption); obtain ⟨ad293, e293, hx293_0⟩ := Kd.at_int HR292_0.out x100_4 p293 q293; cases e293; replace hx293_0 := (HB.out.cell (World.block_lt_of_cell? w _ hx293_0)).trans hx293_0; replace p293 := eq_true p293; replace q293 := eq_true q293))
                          go_ret
                          exact ⟨by first | rfl | (simp [errW_none, errW_some] <;> rfl) | (simp [*, errW_none, errW_some] <;> rfl), by repeat (first | (with_reducible first | exact HB.out | apply below_alloc | apply pw_below_drewN | apply below_drew1 | refine below_set ?_ GE278.out) | exact HB.out)⟩
                        ·
                         rw [if_neg c63] at H
                         exact absurd H (by simp)
                      ·
                       rw [if_neg c58] at H
                       exact absurd H (by simp)
                     ·
                      rw [if_neg c57] at H
                      exact absurd H (by simp)
                   ·
                    rw [if_neg c52] at H
                    have c52b0 : (t290 == 0) = false := beq_eq_false_iff_ne.mpr c52
                    have c52b1 : (t290 != 0) = true := bne_iff_ne.mpr c52
                    obtain rfl := Option.some.inj H
                    have p288 : 0 ≤ (x100_4 : Int) := of_decide_eq_true (by first | (with_reducible assumption) | assumption)
                    have q288 : x100_4 < (l0_1.length : Int) := of_decide_eq_true (by first | (with_reducible assumption) | assumption)
                    obtain ⟨ad288, e288, hx288_0⟩ := Kd.at_int HR0_1.out x100_4 p288 q288
                    cases e288
                    replace hx288_0 := (HB.out.cell (World.block_lt_of_cell? w _ hx288_0)).trans hx288_0
                    replace p288 := eq_true p288
                    replace q288 := eq_true q288
                    have hcz71_0 : wr.cell? ⟨gb278, 0, none⟩ = some (.slice (some ad287) l0_0.length c0_0) := (blk_cell BK278.out 0).trans rfl
                    have hcz71_1 : wr.cell? ⟨gb278, 1, none⟩ = some (.slice (some ad288) l0_1.length c0_1) := (blk_cell BK278.out 1).trans rfl
                    have hcz71_2 : wr.cell? ⟨gb278, 2, none⟩ = some (.slice A0_2 l0_2.length c0_2) := (blk_cell BK278.out 2).trans rfl
                    have hfz71_0 := blk_frozen BK278.out 0
                    have hfz71_1 := blk_frozen BK278.out 1
                    have hfz71_2 := blk_frozen BK278.out 2
                    go_wp2_with (first | ((with_reducible refine gate_callee (f := 14) rfl ?_); refine goesL_ (some 109) rfl rfl Tryd.func14 (by kernel_rfl) rfl #[.agg #[.slice (some ad287) l0_0.length c0_0, .slice (some ad288) l0_1.length c0_1, .slice A0_2 l0_2.length c0_2], .int .i64 (rd l0_0 x92_3), .int .i64 (rd l0_1 x100_4)] rfl (by (try simp only [List.map_toArray, List.map_cons, List.map_nil]); first | done | rfl | (simp only [List.length_drop, List.length_take]; rfl)) ?_; (with_reducible refine (correct_True.calls k4 _ _ l0_0 _ _ l0_1 _ _ l0_2 (rd l0_0 x92_3) (rd l0_1 x100_4) t289 t290 _ ?side1 ?side2 ?side3 ?side4 ?side5 ?side6 A51.out).mono ?_); (case side1 => repeat (first | exact (Kd.C_below HR0_0.out HB.out) | (with_reducible refine Kd.C_alloc ?_ _) | (with_reducible refine Kd.C_drewN ?_ _) | (with_reducible refine Kd.C_drew ?_))); (case side2 => exact HC0_0.out); (case side3 => repeat (first | exact (Kd.C_below HR0_1.out HB.out) | (with_reducible refine Kd.C_alloc ?_ _) | (with_reducible refine Kd.C_drewN ?_ _) | (with_reducible refine Kd.C_drew ?_))); (case side4 => exact HC0_1.out); (case side5 => repeat (first | exact (Kd.C_below HR0_2.out HB.out) | (with_reducible refine Kd.C_alloc ?_ _) | (with_reducible refine Kd.C_drewN ?_ _) | (with_reducible refine Kd.C_drew ?_))); (case side6 => exact HC0_2.out); rintro e w72 ⟨rfl, hb⟩; refine ⟨_, rfl, ?_⟩; have n0_ := Aside0.mk (blk_below (g := gb278) (o := .cells #[.slice (some ad287) l0_0.length c0_0, .slice (some ad288) l0_1.length c0_1, .slice A0_2 l0_2.length c0_2] 25 (0, 0)) (by (with_reducible repeat (first | refine blk_drewN ?_ _ | refine blk_drew ?_ | refine blk_alloc ?_ _)); exact BK278.out) hb); have n1_ := Aside0.mk (below_step (by repeat (first | (with_reducible first | exact HB.out | apply below_alloc | apply pw_below_drewN | apply below_drew1 | refine below_set ?_ GE278.out) | exact HB.out)) hb); clear BK278; clear HB; have BK278 := n0_; have HB := n1_; clear n0_ n1_; (try clear hb); (try clear hb2); (try clear hk); (try clear hi)))
                    go_ret
                    exact ⟨by first | rfl | (simp [errW_none, errW_some] <;> rfl) | (simp [*, errW_none, errW_some] <;> rfl), by repeat (first | (with_reducible first | exact HB.out | apply below_alloc | apply pw_below_drewN | apply below_drew1 | refine below_set ?_ GE278.out) | exact HB.out)⟩
                  ·
                   rw [if_neg c50] at H
                   exact absurd H (by simp)
                 ·
                  rw [if_neg c49] at H
                  exact absurd H (by simp)
                ·
                 rw [if_neg c48] at H
                 have c48b0 : decide (x100_4 < (l0_1.length : Int)) = false := decide_eq_false c48
                 clear c48
                 have H' := Aside0.mk H
                 clear H
                 go_wp2
                 go_roundg k4
                 case measure => have := HJ7.out; have := HJ30.out; have := HK3.out; have := HK4.out; omega
                 case rel => exact ⟨(wrap64 (x92_3 + 1)), (by first | rfl | (simp; done) | (simp [*]; done)), H', ⟨by have := HJ7.out; have := HJ30.out; have := HK3.out; have := HK4.out; omega⟩, ⟨by (with_reducible repeat (first | refine blk_drewN ?_ _ | refine blk_drew ?_ | refine blk_alloc ?_ _)); exact BK278.out⟩, ⟨by repeat (first | (with_reducible first | exact HB.out | apply below_alloc | apply pw_below_drewN | apply below_drew1 | refine below_set ?_ GE278.out) | exact HB.out)⟩⟩
             ·
              rw [if_neg c46] at H
              exact absurd H (by simp)
            ·
             rw [if_neg c45] at H
             exact absurd H (by simp)
           ·
            rw [if_neg c44] at H
            have c44b0 : decide (x92_3 < (l0_0.length : Int)) = false := decide_eq_false c44
            clear c44
            obtain rfl := Option.some.inj H
            go_wp2
            go_ret
            exact ⟨by first | rfl | (simp [errW_none, errW_some] <;> rfl) | (simp [*, errW_none, errW_some] <;> rfl), by repeat (first | (with_reducible first | exact HB.out | apply below_alloc | apply pw_below_drewN | apply below_drew1 | refine below_set ?_ GE278.out) | exact HB.out)⟩
     ·
      rw [if_neg c28] at H
      have c28b0 : (t282 == 0) = false := beq_eq_false_iff_ne.mpr c28
      have c28b1 : (t282 != 0) = true := bne_iff_ne.mpr c28
      obtain rfl := Option.some.inj H
      have hcz73_0 : wc.cell? ⟨gb278, 0, none⟩ = some (.slice A0_0 l0_0.length c0_0) := (blk_cell BK278.out 0).trans rfl
      have hcz73_1 : wc.cell? ⟨gb278, 1, none⟩ = some (.slice A0_1 l0_1.length c0_1) := (blk_cell BK278.out 1).trans rfl
      have hcz73_2 : wc.cell? ⟨gb278, 2, none⟩ = some (.slice A0_2 l0_2.length c0_2) := (blk_cell BK278.out 2).trans rfl
      have hfz73_0 := blk_frozen BK278.out 0
      have hfz73_1 := blk_frozen BK278.out 1
      have hfz73_2 := blk_frozen BK278.out 2
      go_wp2_with (first | ((with_reducible refine gate_callee (f := 14) rfl ?_); refine goesL_ (some 48) rfl rfl Tryd.func14 (by kernel_rfl) rfl #[.agg #[.slice A0_0 l0_0.length c0_0, .slice A0_1 l0_1.length c0_1, .slice A0_2 l0_2.length c0_2], .int .i64 a1, .int .i64 a2] rfl (by (try simp only [List.map_toArray, List.map_cons, List.map_nil]); first | done | rfl | (simp only [List.length_drop, List.length_take]; rfl)) ?_; (with_reducible refine (correct_True.calls kj7 _ _ l0_0 _ _ l0_1 _ _ l0_2 a1 a2 t281 t282 _ ?side1 ?side2 ?side3 ?side4 ?side5 ?side6 A27.out).mono ?_); (case side1 => repeat (first | exact (Kd.C_below HR0_0.out HB.out) | (with_reducible refine Kd.C_alloc ?_ _) | (with_reducible refine Kd.C_drewN ?_ _) | (with_reducible refine Kd.C_drew ?_))); (case side2 => exact HC0_0.out); (case side3 => repeat (first | exact (Kd.C_below HR0_1.out HB.out) | (with_reducible refine Kd.C_alloc ?_ _) | (with_reducible refine Kd.C_drewN ?_ _) | (with_reducible refine Kd.C_drew ?_))); (case side4 => exact HC0_1.out); (case side5 => repeat (first | exact (Kd.C_below HR0_2.out HB.out) | (with_reducible refine Kd.C_alloc ?_ _) | (with_reducible refine Kd.C_drewN ?_ _) | (with_reducible refine Kd.C_drew ?_))); (case side6 => exact HC0_2.out); rintro e w74 ⟨rfl, hb⟩; refine ⟨_, rfl, ?_⟩; have n0_ := Aside0.mk (blk_below (g := gb278) (o := .cells #[.slice A0_0 l0_0.length c0_0, .slice A0_1 l0_1.length c0_1, .slice A0_2 l0_2.length c0_2] 25 (0, 0)) (by (with_reducible repeat (first | refine blk_drewN ?_ _ | refine blk_drew ?_ | refine blk_alloc ?_ _)); exact BK278.out) hb); have n1_ := Aside0.mk (below_step (by repeat (first | (with_reducible first | exact HB.out | apply below_alloc | apply pw_below_drewN | apply below_drew1 | refine below_set ?_ GE278.out) | exact HB.out)) hb); clear BK278; clear HB; have BK278 := n0_; have HB := n1_; clear n0_ n1_; (try clear hb); (try clear hb2); (try clear hk); (try clear hi)))
      go_ret
      exact ⟨by first | rfl | (simp [errW_none, errW_some] <;> rfl) | (simp [*, errW_none, errW_some] <;> rfl), by repeat (first | (with_reducible first | exact HB.out | apply below_alloc | apply pw_below_drewN | apply below_drew1 | refine below_set ?_ GE278.out) | exact HB.out)⟩
 ·
  replace c7 := Bool.eq_false_iff.mpr c7
  subst c7
  have H1 : (some false) = some r := by rw [if_neg (show ¬ (false = true) by decide)] at H; exact H
  clear H
  have H := H1
  clear H1
  obtain rfl := Option.some.inj H
  go_enter Tryd.func4, Tryd.ntmps4
  go_wp2_with (first | ((with_reducible refine gate_dst (N := 5) rfl ?_); (try (refine gate_guard (by rfl) ?_; dsimp only)); refine box_event ?hg (N := 5) ?hd (cs := #[.slice A0_0 l0_0.length c0_0, .slice A0_1 l0_1.length c0_1, .slice A0_2 l0_2.length c0_2]) (t := 25) ?hr ?_; (case hd => rfl); (case hg => rfl); (case hr => first | (go_simp; done) | (go_simp; rfl)); intro gb278 hg w75 hbox hb; have n0_ := Aside0.mk (below_step (by repeat (first | (with_reducible first | exact HB.out | apply below_alloc | apply pw_below_drewN | apply below_drew1) | exact HB.out)) hb); have n1_ := Aside0.mk (hbox); have n2_ := Aside0.mk ((by rw [hg]; exact (below_size (by repeat (first | (with_reducible first | exact HB.out | apply below_alloc | apply pw_below_drewN | apply below_drew1) | exact HB.out))) : w.heap.size ≤ gb278)); have n3_ := Aside0.mk ((by rw [hg]; exact (below_size (by repeat (first | (with_reducible first | exact HB.out | apply below_alloc | apply pw_below_drewN | apply below_drew1) | exact HB.out))) : w.heap.size ≤ gb278)); clear HB; have HB := n0_; have BK278 := n1_; have GW278 := n2_; have GE278 := n3_; clear n0_ n1_ n2_ n3_; clear hb hbox hg) | ((with_reducible refine gate_callee (f := 10) rfl ?_); refine goesL_ (some 23) rfl rfl Tryd.func10 (by kernel_rfl) rfl #[] rfl (by (try simp only [List.map_toArray, List.map_cons, List.map_nil]); first | done | rfl | (simp only [List.length_drop, List.length_take]; rfl)) ?_; (with_reducible refine (spilelaw19_awake.calls  false _ ?side1 A6.out).mono ?_); (case side1 => exact GI.below HG.out (by repeat (first | (with_reducible first | exact HB.out | apply below_alloc | apply pw_below_drewN | apply below_drew1 | refine below_set ?_ GE278.out) | exact HB.out))); rintro e w76 ⟨rfl, hb⟩; refine ⟨_, rfl, ?_⟩; have n0_ := Aside0.mk (blk_below (g := gb278) (o := .cells #[.slice A0_0 l0_0.length c0_0, .slice A0_1 l0_1.length c0_1, .slice A0_2 l0_2.length c0_2] 25 (0, 0)) (by (with_reducible repeat (first | refine blk_drewN ?_ _ | refine blk_drew ?_ | refine blk_alloc ?_ _)); exact BK278.out) hb); have n1_ := Aside0.mk (below_step (by repeat (first | (with_reducible first | exact HB.out | apply below_alloc | apply pw_below_drewN | apply below_drew1 | refine below_set ?_ GE278.out) | exact HB.out)) hb); clear BK278; clear HB; have BK278 := n0_; have HB := n1_; clear n0_ n1_; (try clear hb); (try clear hb2); (try clear hk); (try clear hi)))
  go_ret
  exact ⟨by first | rfl | (simp [errW_none, errW_some] <;> rfl) | (simp [*, errW_none, errW_some] <;> rfl), by repeat (first | (with_reducible first | exact HB.out | apply below_alloc | apply pw_below_drewN | apply below_drew1 | refine below_set ?_ GE278.out) | exact HB.out)⟩
end Go.Proofs.YtmdfnambaedllaaDoor.Pr
namespace Go.Proofs.YtmdfnambaedllaaDoor.Pure
open Go Go.RowKit Go.Proofs.YtmdfnambaedllaaDoorW.PrintWords Go.Proofs.YtmdfnambaedllaaDoorW.PrintLast Go.Proofs.YtmdfnambaedllaaDoorW.PrintMore Go.Proofs.YtmdfnambaedllaaDoor.Pr Go.Proofs.YtmdfnambaedllaaDoor.PL
theorem round_exact {t d : Int} (h0 : 0 < d) : (2 * (d * t) + d) / (2 * d) = t := by
  have e : 2 * (d * t) + d = d + t * (2 * d) := by grind
  rw [e, Int.add_mul_ediv_right _ _ (by omega), Int.ediv_eq_zero_of_lt (by omega) (by omega)]
  omega
theorem node_in {l : List Int} (hl : Ris l) {i : Int} (h0 : 0 ≤ i) (h1 : i < (l.length : Int)) : In l (rd l i) :=
  ⟨hl.le (by omega) h0 h1, hl.le h0 (by omega) (by omega)⟩
theorem node_at {l : List Int} (hl : Ris l) (h2 : 2 ≤ l.length) {i : Int} (h0 : 0 ≤ i) (h1 : i < (l.length : Int)) : ∃ p, At l (rd l i) p ∧ (p = i ∨ p + 1 = i) := by
  by_cases e : i ≤ (l.length : Int) - 2
  · exact ⟨i, ⟨h0, e, Int.le_refl _, fun h => hl i h0 (by omega)⟩, .inl rfl⟩
  · refine ⟨i - 1, ⟨by omega, by omega, hl.le (by omega) (by omega) h1, fun h => absurd h (by omega)⟩, .inr (by omega)⟩
theorem IsStr.node {hs as_ : List Int} {ts : List (List Int)} (v : Valid hs as_ ts) {i j : Int} (i0 : 0 ≤ i) (i1 : i < (hs.length : Int)) (j0 : 0 ≤ j) (j1 : j < (as_.length : Int)) :
    IsStr hs as_ ts (rd hs i) (rd as_ j) (rd (rd_L1 ts i) j) := by
  have := v.hs2; have := v.as2; have := v.hs32; have := v.as32; have := v.rows
  obtain ⟨p, hp, ep⟩ := node_at v.hris (by omega) i0 i1
  obtain ⟨q, hq, eq⟩ := node_at v.aris (by omega) j0 j1
  refine ⟨node_in v.hris i0 i1, node_in v.aris j0 j1, p, q, hp, hq, ?_⟩
  have ih := v.hris p hp.1 (by have := hp.2.1; omega)
  have ia := v.aris q hq.1 (by have := hq.2.1; omega)
  have dpos := Int.mul_pos (show 0 < rd hs (p + 1) - rd hs p by omega) (show 0 < rd as_ (q + 1) - rd as_ q by omega)
  have r := round_exact (t := rd (rd_L1 ts i) j) dpos
  unfold tab between
  rw [← r]
  congr 1
  rcases ep with rfl | rfl <;> rcases eq with rfl | rfl <;> grind
end Go.Proofs.YtmdfnambaedllaaDoor.Pure
namespace Go.Proofs.YtmdfnambaedllaaDoor.Pure
open Go Go.RowKit Go.Proofs.YtmdfnambaedllaaDoor.Pr Go.Proofs.YtmdfnambaedllaaDoor.Opn
def correctFallsPure : Prop := ∀ (l0_0 : (List Int)) (l0_1 : (List Int)) (l0_2 : (List (List Int))) (a1 : Int) (a2 : Int) (a3 : Int) (a4 : Int), (l0_0.length ≤ maxLen ∧ ∀ x0_, x0_ ∈ l0_0 → (Lit.int .i64 x0_).wf = true) → (l0_1.length ≤ maxLen ∧ ∀ x0_, x0_ ∈ l0_1 → (Lit.int .i64 x0_).wf = true) → (l0_2.length ≤ maxLen ∧ ∀ x0_, x0_ ∈ l0_2 → (x0_.length ≤ maxLen ∧ ∀ x1_, x1_ ∈ x0_ → (Lit.int .i64 x1_).wf = true)) → (Lit.int .i64 a1).wf = true → (Lit.int .i64 a2).wf = true → (Lit.int .i64 a3).wf = true → (Lit.int .i64 a4).wf = true → ∃ k, spilelaw19_CorrectFalls.f k l0_0 l0_1 l0_2 a1 a2 a3 a4 = some true
end Go.Proofs.YtmdfnambaedllaaDoor.Pure
namespace Go.Proofs.YtmdfnambaedllaaDoor.Pure
open Go Go.RowKit Go.Proofs.YtmdfnambaedllaaDoorW.PrintWords Go.Proofs.YtmdfnambaedllaaDoorW.PrintLast Go.Proofs.YtmdfnambaedllaaDoorW.PrintMore Go.Proofs.YtmdfnambaedllaaDoor.Pr Go.Proofs.YtmdfnambaedllaaDoor.PL Go.Proofs.YtmdfnambaedllaaDoor.Opn Go.Proofs.YtmdfnambaedllaaDoor.X
theorem falls_nodes {hs as_ : List Int} {ts : List (List Int)} (v : Valid hs as_ ts) (p : Ev (fun k => correct_Check.f k hs as_ ts) 0) :
    ∀ i, 0 ≤ i → i ≤ (hs.length : Int) → Ev (fun k => spilelaw19_CorrectFalls.l0 k hs (hs.length : Int) i hs as_ ts) true := by
  have n1 := v.hs2; have n2 := v.as2; have n3 := v.hs32; have n4 := v.as32; have n5 := v.rows
  refine count_up 0 (hs.length : Int) _ (Ev.step (fun k => spilelaw19_CorrectFalls.l0.eq_2 ..) (evn (by omega) (Ev.now _))) ?_
  intro i h0 h1 ih
  have hrow := v.rect i h0 (by omega)
  refine Ev.step (fun k => spilelaw19_CorrectFalls.l0.eq_2 ..) (evp h1 (evp h0 (evp h1 ?_)))
  refine count_up 0 (as_.length : Int) (fun j => Ev (fun k => spilelaw19_CorrectFalls.l1 k i (rd hs i) hs (hs.length : Int) i as_ (as_.length : Int) j hs as_ ts) true) ?_ ?_ 0 (by omega) (by omega)
  · refine Ev.step (fun k => spilelaw19_CorrectFalls.l1.eq_2 ..) (evn (by omega) ?_)
    rw [w64 (x := i + 1) (by omega) (by omega)]
    exact ih
  · intro j j0 j1 jh
    refine Ev.step (fun k => spilelaw19_CorrectFalls.l1.eq_2 ..) (evp j1 (evp j0 (evp j1 (evb ((true_prog v p _ _).2 _ (IsStr.node v h0 h1 j0 j1)) ?_))))
    rw [w64 (x := j + 1) (by omega) (by omega)]
    exact evp rfl (evn (by omega) (evp h0 (evp (by omega) (evn (by omega) (evp (by omega) (evp rfl jh))))))
theorem CorrectFalls : correctFallsPure := by
  intro hs as_ ts a1 a2 a3 a4 ⟨hh, _⟩ ⟨ha, _⟩ ⟨ht, hr⟩ _ _ _ _
  refine Ev.rounds (r := true) ?_
  unfold spilelaw19_CorrectFalls.f
  refine evb (a := true) (evc (fun _ => rfl) rfl) (evp rfl ?_)
  obtain ⟨b, hb⟩ := few_some hs as_ ts ht
  have skip : Ev (fun k => spilelaw19_CorrectFalls.j0 k a1 a2 a3 a4 true hs as_ ts) true := Ev.step (fun k => spilelaw19_CorrectFalls.j0.eq_2 ..) (evp rfl (Ev.now _))
  refine evb hb ?_
  cases b with
  | false => exact evn (by decide) skip
  | true =>
    refine evp rfl ?_
    by_cases c1 : a3 < 0
    · exact evp c1 skip
    refine evn c1 ?_
    by_cases c2 : a3 > 2000
    · exact evp c2 skip
    refine evn c2 ?_
    by_cases c3 : a4 < 0
    · exact evp c3 skip
    refine evn c3 ?_
    by_cases c4 : a4 > 20000
    · rw [decide_eq_true c4]
      exact skip
    rw [decide_eq_false c4]
    refine Ev.step (fun k => spilelaw19_CorrectFalls.j0.eq_2 ..) (evn (by decide) ?_)
    obtain ⟨c, p, _, hc⟩ := check_both hs as_ ts hh ha ht (fun x hx => (hr x hx).1)
    by_cases c0 : c = 0
    · subst c0
      have v := hc.1 rfl
      have n1 := v.hs2; have n2 := v.as2; have n3 := v.hs32; have n4 := v.as32
      have B1 := (v.heat 0 (by omega) (by omega)).1
      have B2 := (v.heat ((hs.length : Int) - 1) (by omega) (by omega)).2
      have B3 := (v.str 0 (by omega) (by omega)).1
      have B4 := (v.str ((as_.length : Int) - 1) (by omega) (by omega)).2
      by_cases hin : In hs a1 ∧ In as_ a2
      · obtain ⟨i1, i2⟩ := hin
        obtain ⟨x, hx⟩ := IsStr.mk' v i1 i2
        have H1 := i1.1; have H2 := i1.2; have A1 := i2.1; have A2 := i2.2
        have fin : ∀ {b}, b = false → Ev (fun k => spilelaw19_CorrectFalls.j1 k b hs as_ ts) true := fun {b} hb => by
          subst hb
          exact Ev.step (fun k => spilelaw19_CorrectFalls.j1.eq_2 ..) (evn (by decide) (falls_nodes v p 0 (by omega) (by omega)))
        refine evb ((true_prog v p a1 a2).2 x hx) (evp rfl ?_)
        rw [w64 (x := a1 + a3) (by omega) (by omega), w64 (x := a2 + a4) (by omega) (by omega)]
        have second : ∀ {g : Int × Int}, ((∃ z, IsStr hs as_ ts a1 (a2 + a4) z ∧ g = (z, 0)) ∨ g = (0, 2)) → Ev (fun k => if g.2 = 0 then spilelaw19_CorrectFalls.j1 k (decide (g.1 < x)) hs as_ ts else spilelaw19_CorrectFalls.j1 k false hs as_ ts) true := fun {g} hg => by
          rcases hg with ⟨z, hz, rfl⟩ | rfl
          · have := hx.mono_a v (show a2 ≤ a2 + a4 by omega) hz
            exact evp rfl (fin (decide_eq_false (by show ¬ z < x; omega)))
          · exact evn (by decide) (fin rfl)
        have t2 : ∃ g, Ev (fun k => correct_True.f k hs as_ ts a1 (a2 + a4)) g ∧ ((∃ z, IsStr hs as_ ts a1 (a2 + a4) z ∧ g = (z, 0)) ∨ g = (0, 2)) := by
          by_cases b : In as_ (a2 + a4)
          · obtain ⟨z, hz⟩ := IsStr.mk' v i1 b
            exact ⟨_, (true_prog v p _ _).2 z hz, .inl ⟨z, hz, rfl⟩⟩
          · exact ⟨_, (true_prog v p _ _).1 (fun h => b h.2), .inr rfl⟩
        obtain ⟨g, eg, hg⟩ := t2
        by_cases b : In hs (a1 + a3)
        · obtain ⟨z, hz⟩ := IsStr.mk' v b i2
          have := hx.mono_h v (show a1 ≤ a1 + a3 by omega) hz
          exact evb ((true_prog v p _ _).2 z hz) (evb eg (evp rfl (evn (by show ¬ z > x; omega) (second hg))))
        · exact evb ((true_prog v p _ _).1 (fun h => b h.1)) (evb eg (evn (by decide) (second hg)))
      · exact evb ((true_prog v p a1 a2).1 hin) (evn (by decide) (Ev.now _))
    · exact evb (true_bad p c0 a1 a2) (evn (by decide) (Ev.now _))
end Go.Proofs.YtmdfnambaedllaaDoor.Pure
namespace Go.Proofs.YtmdfnambaedllaaDoor.correctFalls
open Go Go.ChangeShapes Go.WideShapes Go.ChangeAt Go.RowKit
open Go.ChangeMaps (open_string shut_string)
open Go.Proofs.YtmdfnambaedllaaDoorW.PrintWords Go.Proofs.YtmdfnambaedllaaDoor.O Go.Proofs.YtmdfnambaedllaaDoor.Opn Go.Proofs.YtmdfnambaedllaaDoor.Pr Go.Proofs.YtmdfnambaedllaaDoor.X
theorem own : ownKnob Tryd.prog.godebug = none := by kernel_rfl
theorem laidOut : laidOutB Tryd.prog = true := by kernel_rfl
abbrev laidL : List (String × DataW Unit) := [("math/bits.deBruijn32tab", Rows.laid_math_bits_deBruijn32tab), ("math/bits.deBruijn64tab", Rows.laid_math_bits_deBruijn64tab), ("internal/strconv.uint64pow10", Rows.laid_internal_strconv_uint64pow10)]
set_option maxRecDepth 100000 in
theorem lifted (os : Os) (started : os.Started) (H : Type) (enc : TypeId × Value → H)
    (hwit : ∀ args : Array Value, laidMetH Tryd.prog laidL ((World.doorLaid Tryd.prog 400 os).forCall (fun _ _ => 0) ⟨#[], args, []⟩).memory) :
    ReturnsInHanded {} Tryd.checked os 4 .any (fun w args => (Rows.correctFallsSpec.pre enc Tryd.prog Tryd.f4 [] false w args ∧ laidMetH Tryd.prog laidL w) ∧ sizedMet enc Tryd.prog Tryd.f4 (OpenSpec.ofChange Rows.correctFallsSpec) false w args)
      (Rows.correctFallsSpec.post enc Tryd.prog Tryd.f4 false true false false) := by
  refine returnsInHanded_of_change_and (C := Tryd.checked) (X := (fun w _ => laidMetH Tryd.prog laidL w)) (fun _ _ _ hh h => h.of_heap hh) own started (by kernel_rfl) Tryd.func4
    (ChangeSpec.witness_shaped (enc := enc) (C := Tryd.checked) (os := os) (X := (fun w _ => laidMetH Tryd.prog laidL w)) false (World.doorLaid Tryd.prog 400 os) #[.agg #[.slice none 0 0, .slice none 0 0, .slice none 0 0], .int .i64 0, .int .i64 0, .int .i64 0, .int .i64 0] 8 rfl (World.shaped_of_RefB (by kernel_rfl) (by kernel_rfl)) (by kernel_rfl) (by kernel_rfl) (by kernel_rfl) (hwit _)) ?_
  intro W base args ds gs before hval0 hW _ _ hL _
  have hval : ∀ (j : Nat) t v, Tryd.f4.params[j]? = some t → args[j]? = some v → Value.okWide Tryd.prog W .any base t v := hval0
  have hW' := hW
  obtain ⟨p, q, hA0, hV, rfl, hfz, hnd⟩ := hW
  have hA : DataW.TrodAll enc Tryd.prog W 0 (fun _ => true) true Tryd.f4.params.toList args.toList ds p := hA0
  rw [Tryd.params4] at hA hval
  obtain ⟨v0, vs0, d0, ds0, p0, q0, hargs, rfl, rfl, h0, r0⟩ := trodAll_cons hA
  obtain ⟨v1, vs1, d1, ds1, p1, q1, rfl, rfl, rfl, h1, r1⟩ := trodAll_cons r0
  obtain ⟨v2, vs2, d2, ds2, p2, q2, rfl, rfl, rfl, h2, r2⟩ := trodAll_cons r1
  obtain ⟨v3, vs3, d3, ds3, p3, q3, rfl, rfl, rfl, h3, r3⟩ := trodAll_cons r2
  obtain ⟨v4, vs4, d4, ds4, p4, q4, rfl, rfl, rfl, h4, r4⟩ := trodAll_cons r3
  obtain ⟨rfl, rfl, rfl⟩ := trodAll_nil r4
  obtain rfl : args = #[v0, v1, v2, v3, v4] := by cases args; simp_all
  obtain ⟨rfl, rfl⟩ := trodVars_none hV
  obtain ⟨cs0, rfl, _⟩ := okWide_struct Tryd.underlying25 (hval 0 25 v0 rfl rfl)
  have k0 := h0
  have lt0 : ∀ x ∈ p0, x.block < W.heap.size := by obtain ⟨m, hm⟩ := k0; exact DataW.trod_lt m _ _ _ hm
  obtain ⟨x0, K0, ok0⟩ : ∃ x, k25.K W x cs0.toList ∧ ok25 x := by
    obtain ⟨fuel, hf⟩ := h0
    exact opens25.2 _ _ _ _ _ _ _ _ _ hf
  obtain ⟨A0_0, c0_0, A0_1, c0_1, A0_2, c0_2, e0, g0_0, hr0_0, g0_1, hr0_1, g0_2, hr0_2⟩ := k25_open K0
  obtain rfl : cs0 = #[.slice A0_0 (x0.f0).length c0_0, .slice A0_1 (x0.f1).length c0_1, .slice A0_2 (x0.f2).length c0_2] := by cases cs0; simpa using e0
  obtain ⟨a1, rfl, rfl, rfl, w1⟩ := open_int Tryd.underlying3 (hval 1 3 v1 rfl rfl) h1
  obtain ⟨a2, rfl, rfl, rfl, w2⟩ := open_int Tryd.underlying3 (hval 2 3 v2 rfl rfl) h2
  obtain ⟨a3, rfl, rfl, rfl, w3⟩ := open_int Tryd.underlying3 (hval 3 3 v3 rfl rfl) h3
  obtain ⟨a4, rfl, rfl, rfl, w4⟩ := open_int Tryd.underlying3 (hval 4 3 v4 rfl rfl) h4
  clear hA0 hval0
  obtain ⟨k, hp⟩ := Pure.CorrectFalls (x0.f0) (x0.f1) (x0.f2) a1 a2 a3 a4 ok0.1 ok0.2.1 ok0.2.2 w1 w2 w3 w4
  have hG : GI W := GI.of_laid laidL (by simp [laidL]) hL
  refine (spilelaw19_CorrectFalls.calls k _ _ (x0.f0) _ _ (x0.f1) _ _ (x0.f2) a1 a2 a3 a4 true W hr0_0 g0_0 hr0_1 g0_1 hr0_2 g0_2 hG hp).mono fun e W' ⟨he, bel⟩ => ?_
  subst he
  exact ⟨_, rfl, _, _, _, [], _, [], hW', trodAll_mk1 (shut_bool Tryd.underlying4 _), (trodAll_cons_mk (Below.trod laidOut (by kernel_rfl) (of_decide_eq_true (by kernel_rfl)) k0 bel lt0) (trodAll_cons_mk (shut_int Tryd.underlying3 w1) (trodAll_cons_mk (shut_int Tryd.underlying3 w2) (trodAll_cons_mk (shut_int Tryd.underlying3 w3) (trodAll_cons_mk (shut_int Tryd.underlying3 w4) trodAll_mk0))))), rfl, bel.frame _, fun h => by cases h⟩
theorem holds (hwit : ∀ (os : Os) (args : Array Value), laidMetH Tryd.prog laidL ((World.doorLaid Tryd.prog 400 os).forCall (fun _ _ => 0) ⟨#[], args, []⟩).memory) : Rows.CorrectFallsSaid :=
  OpenClaim.holds_of_wide 4 Tryd.f4 rfl rfl rfl rfl rfl rfl rfl ⟨rfl, rfl, rfl, rfl, rfl⟩ rfl rfl rfl rfl rfl (by kernel_rfl) Tryd.func4 (by kernel_rfl)
    (of_decide_eq_true (by kernel_rfl)) (by unfold Func.isWrapper; first | (rw [if_pos (by decide +kernel)]; kernel_rfl) | (rw [if_neg (by decide +kernel)]; exact ⟨rfl, rfl⟩))
    (fun os started H enc _ => lifted os started H enc (hwit os))
theorem door_met (os : Os) (args : Array Value) : laidMetH Tryd.prog laidL ((World.doorLaid Tryd.prog 400 os).forCall (fun _ _ => 0) ⟨#[], args, []⟩).memory :=
  laidMetH_of_parts3 (fuel := 8) (laidMet_of_run' 8 (by kernel_rfl) (by kernel_rfl)) (by kernel_rfl) (by kernel_rfl)
theorem card : Rows.CorrectFallsCardSaid :=
  Claim7.holds_tied_plain_at .later [] [.data, .data, .data] true (true, "43761afd2ec77655b7605f986a4f9a4256ebde91a38a7a669bad47d42540965e") true
    (holds door_met) (fun _ h => by cases h) (by kernel_rfl) (fun _ h => by cases h) correctFalls_row_tie rfl ⟨rfl, rfl⟩ (by kernel_rfl) rfl
    (fun f fn hf hfn => by
      obtain rfl : f = 4 := Option.some.inj ((show Tryd.prog.funcNamed "spile/spilelaw19.CorrectFalls" = some 4 by kernel_rfl).symm.trans hf) |>.symm
      obtain rfl : fn = Tryd.f4 := (Option.some.inj (Tryd.func4.symm.trans hfn)).symm
      exact ⟨by kernel_rfl, fun j t ht => by
        rw [Tryd.params4] at ht
        have hm : t ∈ [25, 3, 3, 3, 3] := by simpa using Array.mem_of_getElem? ht
        have hall : ([25, 3, 3, 3, 3].all fun u => !Tryd.prog.wantsStandIn u) = true := by kernel_rfl
        exact (show Tryd.prog.wantsStandIn t = false by simpa using List.all_eq_true.1 hall t hm)⟩)
    (by kernel_rfl)
end Go.Proofs.YtmdfnambaedllaaDoor.correctFalls
namespace Go.Proofs.YtmdfnambaedllaaDoor
/-- The card, under a short name, for the claim. -/
theorem correctFalls_holds : Rows.CorrectFallsCardSaid := correctFalls.card
#print axioms correctFalls_holds
end Go.Proofs.YtmdfnambaedllaaDoor
