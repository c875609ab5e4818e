/-
The law UnitChecks returns true for every input that can be read as data, and leaves its arguments as they were: the row, and the card that ties the listed variables to the program's text.
No condition of its own beyond those that the given row prints.
-/
import Derived.HandedShaped
import Derived.Handed
import Derived.Test.YtmjglehdckgcnaaDoorCards
import Derived.Test.YtmjglehdckgcnaaDoorTie
import Derived.ProofKit
import Derived.OpenShut
import Derived.ShutString
import Derived.ChangeOld
import Derived.SizedLaws
import Derived.LaidMore
import Derived.Lay
import Derived.MakeChecks
import Derived.SevenTiedAt
import Derived.LaidSub
import Derived.LaidOnce
import Derived.Stop.Joined
import Derived.Stop.LaidErr
import Derived.Test.YtmjglehdckgcnaaDoorUnitChecksD
set_option linter.unusedVariables false
set_option linter.unusedSimpArgs false
namespace Go.Proofs.YtmjglehdckgcnaaDoor.Pr
open Go.RowKit Go.Proofs.YtmjglehdckgcnaaDoorW.PrintWords Go.Proofs.YtmjglehdckgcnaaDoorW.PrintLast Go.Proofs.YtmjglehdckgcnaaDoorW.PrintMore Go.Proofs.YtmjglehdckgcnaaDoor.X
attribute [local go_sem] max2_int min2_int max_two min_two max_three min_three max_four min_four   -- for this text's walks alone
set_option linter.unusedVariables false
set_option linter.unusedSimpArgs false
def spileref03_Check.j0 : Nat → Bool → Int → Int → Option (Int)
 | 0, _, _, _ => none
 | k + 1, x10, x179000, x179001 => if x10 = true then (some 1) else ((spileref03_in.f x179000 x179001).bind fun t179 => (if t179 = true then (some 0) else (some 2)))
def spileref03_Check.f (k : Nat) (a0_0 : Int) (a0_1 : Int) : Option (Int) := if a0_0 < 1 then (spileref03_Check.j0 k true a0_0 a0_1) else (spileref03_Check.j0 k (decide (a0_0 > 7)) a0_0 a0_1)
set_option maxHeartbeats 8000000 in
set_option maxRecDepth 100000 in
theorem spileref03_Check.calls (k : Nat) (a0_0 : Int) (a0_1 : Int) (r : Int) (w : World) (h : spileref03_Check.f k a0_0 a0_1 = some r) :
  Calls Tryd.prog 15 #[.agg #[.int .i64 a0_0, .int .i64 a0_1]] w fun e w' => e = .returned (.int .i64 r) ∧ Below w.heap.size w w' := by
 have hu23 := Tryd.underlying23
 have HB := Aside0.mk (Below.refl w.heap.size w)
 have H : (if a0_0 < 1 then (spileref03_Check.j0 k true a0_0 a0_1) else (spileref03_Check.j0 k (decide (a0_0 > 7)) a0_0 a0_1)) = some r := h
 clear h
 have HC2 := Aside0.mk H
 clear H
 go_enter Tryd.func15, Tryd.ntmps15
 go_upto_region 1 with (first | ((with_reducible refine gate_dst (N := 1) rfl ?_); refine box_event ?hg (N := 1) ?hd (cs := #[.int .i64 a0_0, .int .i64 a0_1]) (t := 23) ?hr ?_; (case hd => rfl); (case hg => rfl); (case hr => first | (go_simp; done) | (go_simp; rfl)); intro gb178 hg w3 hbox hb; have n0_ := Aside0.mk (below_step (by repeat (first | (with_reducible first | exact HB.out | apply below_alloc | apply pw_below_drewN | apply below_drew1) | exact HB.out)) hb); have n1_ := Aside0.mk (hbox); have n2_ := Aside0.mk ((by rw [hg]; exact (below_size (by repeat (first | (with_reducible first | exact HB.out | apply below_alloc | apply pw_below_drewN | apply below_drew1) | exact HB.out))) : w.heap.size ≤ gb178)); have n3_ := Aside0.mk ((by rw [hg]; exact (below_size (by repeat (first | (with_reducible first | exact HB.out | apply below_alloc | apply pw_below_drewN | apply below_drew1) | exact HB.out))) : w.heap.size ≤ gb178)); clear HB; have HB := n0_; have BK178 := n1_; have GW178 := n2_; have GE178 := n3_; clear n0_ n1_ n2_ n3_; clear hb hbox hg))
 (try simp only [Act.put, List.setIfInBounds_toArray, List.set_cons_zero, List.set_cons_succ])
 go_cut [10] (fun v10 wc => ∃ (kq : Nat) (x10_1 : Bool), v10 = .bool x10_1 ∧ Aside0 (spileref03_Check.j0 kq x10_1 a0_0 a0_1 = some r) ∧ Aside0 (kq ≤ k) ∧ Aside0 (wc.heap[gb178]? = some (.cells #[.int .i64 a0_0, .int .i64 a0_1] 23 (0, 0))) ∧ Aside0 (Below w.heap.size w wc))
 case first =>
  have H := HC2.out
  clear HC2
  by_cases c4 : a0_0 < 1
  ·
   rw [if_pos c4] at H
   have c4b0 : decide (a0_0 < 1) = true := decide_eq_true c4
   clear c4
   (first | rw [c4b0] | (simp only [i64_w, i32_w]; rw [c4b0]) | skip)
   have H' := Aside0.mk H
   clear H
   have hcz5_0 : w3.cell? ⟨gb178, 0, none⟩ = some (.int .i64 a0_0) := (blk_cell BK178.out 0).trans rfl
   have hcz5_1 : w3.cell? ⟨gb178, 1, none⟩ = some (.int .i64 a0_1) := (blk_cell BK178.out 1).trans rfl
   have hfz5_0 := blk_frozen BK178.out 0
   have hfz5_1 := blk_frozen BK178.out 1
   go_wp2
   go_meet
   case rel => exact ⟨_, (true), (by first | rfl | (simp; done) | (simp [*]; done)), H', ⟨by first | omega | exact Nat.le_refl _⟩, ⟨by (with_reducible repeat (first | refine blk_drewN ?_ _ | refine blk_drew ?_ | refine blk_alloc ?_ _)); exact BK178.out⟩, ⟨by repeat (first | (with_reducible first | exact HB.out | apply below_alloc | apply pw_below_drewN | apply below_drew1 | refine below_set ?_ GE178.out) | exact HB.out)⟩⟩
  ·
   rw [if_neg c4] at H
   have c4b0 : decide (a0_0 < 1) = false := decide_eq_false c4
   clear c4
   (first | rw [c4b0] | (simp only [i64_w, i32_w]; rw [c4b0]) | skip)
   have H' := Aside0.mk H
   clear H
   have hcz6_0 : w3.cell? ⟨gb178, 0, none⟩ = some (.int .i64 a0_0) := (blk_cell BK178.out 0).trans rfl
   have hcz6_1 : w3.cell? ⟨gb178, 1, none⟩ = some (.int .i64 a0_1) := (blk_cell BK178.out 1).trans rfl
   have hfz6_0 := blk_frozen BK178.out 0
   have hfz6_1 := blk_frozen BK178.out 1
   go_wp2
   go_meet
   case rel => exact ⟨_, (decide (a0_0 > 7)), (by first | rfl | (simp; done) | (simp [*]; done)), H', ⟨by first | omega | exact Nat.le_refl _⟩, ⟨by (with_reducible repeat (first | refine blk_drewN ?_ _ | refine blk_drew ?_ | refine blk_alloc ?_ _)); exact BK178.out⟩, ⟨by repeat (first | (with_reducible first | exact HB.out | apply below_alloc | apply pw_below_drewN | apply below_drew1 | refine below_set ?_ GE178.out) | exact HB.out)⟩⟩
 case rest =>
  clear HC2
  try clear c1
  try clear p2
  try clear c4
  try clear c4b0
  try clear hcz5_0
  try clear hcz5_1
  try clear hcz6_0
  try clear hcz6_1
  try clear hfz5_0
  try clear hfz5_1
  try clear hfz6_0
  try clear hfz6_1
  obtain ⟨kq, x10_1, rfl, HA, HJ1, BK178, HB⟩ := hcut
  cases kq with
  | zero => exact absurd HA.out (by simp [spileref03_Check.j0])
  | succ kj1 =>
   have H := HA.out
   clear HA
   simp only [spileref03_Check.j0] at H
   by_cases c7 : x10_1 = true
   ·
    subst c7
    have H1 : (some 1) = some r := by rw [if_pos rfl] at H; exact H
    clear H
    have H := H1
    clear H1
    obtain rfl := Option.some.inj H
    go_wp2
    go_ret
    exact ⟨by first | rfl | (simp [errW_none, errW_some] <;> rfl) | (simp [*, errW_none, errW_some] <;> rfl), by repeat (first | (with_reducible first | exact HB.out | apply below_alloc | apply pw_below_drewN | apply below_drew1 | refine below_set ?_ GE178.out) | exact HB.out)⟩
   ·
    replace c7 := Bool.eq_false_iff.mpr c7
    subst c7
    have H1 : ((spileref03_in.f a0_0 a0_1).bind fun t179 => (if t179 = true then (some 0) else (some 2))) = some r := by rw [if_neg (show ¬ (false = true) by decide)] at H; exact H
    clear H
    have H := H1
    clear H1
    replace H := Option.bind_eq_some_iff.mp H
    obtain ⟨t179, A80, H⟩ := H
    replace H : (if t179 = true then (some 0) else (some 2)) = some r := H
    have A8 := Aside0.mk A80
    clear A80
    by_cases c9 : t179 = true
    ·
     subst c9
     have H1 : (some 0) = some r := by rw [if_pos rfl] at H; exact H
     clear H
     have H := H1
     clear H1
     obtain rfl := Option.some.inj H
     have hcz10_0 : wc.cell? ⟨gb178, 0, none⟩ = some (.int .i64 a0_0) := (blk_cell BK178.out 0).trans rfl
     have hcz10_1 : wc.cell? ⟨gb178, 1, none⟩ = some (.int .i64 a0_1) := (blk_cell BK178.out 1).trans rfl
     have hfz10_0 := blk_frozen BK178.out 0
     have hfz10_1 := blk_frozen BK178.out 1
     go_wp2_with (first | ((with_reducible refine gate_callee (f := 30) rfl ?_); refine goesL_ (some 12) rfl rfl Tryd.func30 (by kernel_rfl) rfl #[.agg #[.int .i64 a0_0, .int .i64 a0_1]] rfl (by (try simp only [List.map_toArray, List.map_cons, List.map_nil]); first | done | rfl | (simp only [List.length_drop, List.length_take]; rfl)) ?_; (with_reducible refine (spileref03_in.calls a0_0 a0_1 true _ A8.out).mono ?_); rintro e w11 ⟨rfl, hb⟩; refine ⟨_, rfl, ?_⟩; have n0_ := Aside0.mk (blk_below (g := gb178) (o := .cells #[.int .i64 a0_0, .int .i64 a0_1] 23 (0, 0)) (by (with_reducible repeat (first | refine blk_drewN ?_ _ | refine blk_drew ?_ | refine blk_alloc ?_ _)); exact BK178.out) hb); have n1_ := Aside0.mk (below_step (by repeat (first | (with_reducible first | exact HB.out | apply below_alloc | apply pw_below_drewN | apply below_drew1 | refine below_set ?_ GE178.out) | exact HB.out)) hb); clear BK178; clear HB; have BK178 := n0_; have HB := n1_; clear n0_ n1_; (try clear hb); (try clear hb2); (try clear hk); (try clear hi)))
     go_ret
     exact ⟨by first | rfl | (simp [errW_none, errW_some] <;> rfl) | (simp [*, errW_none, errW_some] <;> rfl), by repeat (first | (with_reducible first | exact HB.out | apply below_alloc | apply pw_below_drewN | apply below_drew1 | refine below_set ?_ GE178.out) | exact HB.out)⟩
    ·
     replace c9 := Bool.eq_false_iff.mpr c9
     subst c9
     have H1 : (some 2) = some r := by rw [if_neg (show ¬ (false = true) by decide)] at H; exact H
     clear H
     have H := H1
     clear H1
     obtain rfl := Option.some.inj H
     have hcz12_0 : wc.cell? ⟨gb178, 0, none⟩ = some (.int .i64 a0_0) := (blk_cell BK178.out 0).trans rfl
     have hcz12_1 : wc.cell? ⟨gb178, 1, none⟩ = some (.int .i64 a0_1) := (blk_cell BK178.out 1).trans rfl
     have hfz12_0 := blk_frozen BK178.out 0
     have hfz12_1 := blk_frozen BK178.out 1
     go_wp2_with (first | ((with_reducible refine gate_callee (f := 30) rfl ?_); refine goesL_ (some 12) rfl rfl Tryd.func30 (by kernel_rfl) rfl #[.agg #[.int .i64 a0_0, .int .i64 a0_1]] rfl (by (try simp only [List.map_toArray, List.map_cons, List.map_nil]); first | done | rfl | (simp only [List.length_drop, List.length_take]; rfl)) ?_; (with_reducible refine (spileref03_in.calls a0_0 a0_1 false _ A8.out).mono ?_); rintro e w13 ⟨rfl, hb⟩; refine ⟨_, rfl, ?_⟩; have n0_ := Aside0.mk (blk_below (g := gb178) (o := .cells #[.int .i64 a0_0, .int .i64 a0_1] 23 (0, 0)) (by (with_reducible repeat (first | refine blk_drewN ?_ _ | refine blk_drew ?_ | refine blk_alloc ?_ _)); exact BK178.out) hb); have n1_ := Aside0.mk (below_step (by repeat (first | (with_reducible first | exact HB.out | apply below_alloc | apply pw_below_drewN | apply below_drew1 | refine below_set ?_ GE178.out) | exact HB.out)) hb); clear BK178; clear HB; have BK178 := n0_; have HB := n1_; clear n0_ n1_; (try clear hb); (try clear hb2); (try clear hk); (try clear hi)))
     go_ret
     exact ⟨by first | rfl | (simp [errW_none, errW_some] <;> rfl) | (simp [*, errW_none, errW_some] <;> rfl), by repeat (first | (with_reducible first | exact HB.out | apply below_alloc | apply pw_below_drewN | apply below_drew1 | refine below_set ?_ GE178.out) | exact HB.out)⟩
def spileref03_Best.l0 : Nat → List ByteArray → List Int → ByteArray → Int → Int → Int → Option (ByteArray × Int)
 | 0, _, _, _, _, _, _ => none
 | k + 1, x4, x5, x6, x7, x181000, x181001 => if x7 < (x4.length : Int) then (if 0 ≤ x7 then (if x7 < (x5.length : Int) then (if (rd x5 x7) ≤ (mx x181001 (wrap64 (-x181001))) then (spileref03_Best.l0 k x4 x5 (rdOf ByteArray.empty x4 x7) (wrap64 (x7 + 1)) x181000 x181001) else (spileref03_Best.l0 k x4 x5 x6 (wrap64 (x7 + 1)) x181000 x181001)) else (none)) else (none)) else (some (x6, 0))
def spileref03_Best.f (k : Nat) (a0_0 : Int) (a0_1 : Int) : Option (ByteArray × Int) := (spileref03_Check.f k a0_0 a0_1).bind fun t181 => (if t181 = 0 then ((spileref03_names.f a0_0).bind fun t182 => ((spileref03_factors.f a0_0).bind fun t185 => (if 0 < (t182.length : Int) then (spileref03_Best.l0 k t182 t185 (rdOf ByteArray.empty t182 0) 0 a0_0 a0_1) else (none)))) else (some ((⟨#[]⟩ : ByteArray), 1)))
def spileref03_Best.T3 : Bool × List (List Nat × List Nat) := (true, [([], []), ([0], [0]), ([1], [1]), ([], []), ([3], [3]), ([4, 2], [4]), ([2, 5, 0, 1, 2], [2]), ([5, 6, 0, 1, 2, 3, 4, 5, 6], [5])])
def spileref03_Best.B3 : List Nat := [0, 1, 3, 0, 8, 31, 63, 127]
theorem spileref03_Best.tab3 : rtab .any (opsOf Tryd.f13 3) = spileref03_Best.T3 := by kernel_rfl
theorem spileref03_Best.bits3 : waitsOk spileref03_Best.T3.2 spileref03_Best.B3 = true := by kernel_rfl
def spileref03_Best.T8 : Bool × List (List Nat × List Nat) := (true, [([], []), ([], []), ([0, 1], [0, 1]), ([2], [2]), ([], []), ([4], [4]), ([], []), ([6], [6]), ([7], [7]), ([5, 8], [5, 8]), ([3, 9], [3, 9])])
def spileref03_Best.B8 : List Nat := [0, 0, 3, 7, 0, 16, 0, 64, 192, 496, 1023]
theorem spileref03_Best.tab8 : rtab .any (opsOf Tryd.f13 8) = spileref03_Best.T8 := by kernel_rfl
theorem spileref03_Best.bits8 : waitsOk spileref03_Best.T8.2 spileref03_Best.B8 = true := by kernel_rfl
set_option maxHeartbeats 8000000 in
set_option maxRecDepth 100000 in
theorem spileref03_Best.calls (k : Nat) (a0_0 : Int) (a0_1 : Int) (r1 : ByteArray) (r2 : Int) (w : World) (h : spileref03_Best.f k a0_0 a0_1 = some (r1, r2)) :
  Calls Tryd.prog 13 #[.agg #[.int .i64 a0_0, .int .i64 a0_1]] w fun e w' => e = .returned (.tuple #[.string r1, .int .i64 r2]) ∧ Below w.heap.size w w' := by
 have hu23 := Tryd.underlying23
 have HB := Aside0.mk (Below.refl w.heap.size w)
 have H : ((spileref03_Check.f k a0_0 a0_1).bind fun t181 => (if t181 = 0 then ((spileref03_names.f a0_0).bind fun t182 => ((spileref03_factors.f a0_0).bind fun t185 => (if 0 < (t182.length : Int) then (spileref03_Best.l0 k t182 t185 (rdOf ByteArray.empty t182 0) 0 a0_0 a0_1) else (none)))) else (some ((⟨#[]⟩ : ByteArray), 1)))) = some (r1, r2) := h
 clear h
 replace H := Option.bind_eq_some_iff.mp H
 obtain ⟨t181, A20, H⟩ := H
 replace H : (if t181 = 0 then ((spileref03_names.f a0_0).bind fun t182 => ((spileref03_factors.f a0_0).bind fun t185 => (if 0 < (t182.length : Int) then (spileref03_Best.l0 k t182 t185 (rdOf ByteArray.empty t182 0) 0 a0_0 a0_1) else (none)))) else (some ((⟨#[]⟩ : ByteArray), 1))) = some (r1, r2) := H
 have A2 := Aside0.mk A20
 clear A20
 by_cases c3 : t181 = 0
 ·
  rw [if_pos c3] at H
  have c3b0 : (t181 == 0) = true := beq_iff_eq.mpr c3
  have c3b1 : (t181 != 0) = false := bne_eq_false_iff_eq.mpr c3
  clear c3
  replace H := Option.bind_eq_some_iff.mp H
  obtain ⟨t182, A40, H⟩ := H
  replace H : ((spileref03_factors.f a0_0).bind fun t185 => (if 0 < (t182.length : Int) then (spileref03_Best.l0 k t182 t185 (rdOf ByteArray.empty t182 0) 0 a0_0 a0_1) else (none))) = some (r1, r2) := H
  have A4 := Aside0.mk A40
  clear A40
  replace H := Option.bind_eq_some_iff.mp H
  obtain ⟨t185, A50, H⟩ := H
  replace H : (if 0 < (t182.length : Int) then (spileref03_Best.l0 k t182 t185 (rdOf ByteArray.empty t182 0) 0 a0_0 a0_1) else (none)) = some (r1, r2) := H
  have A5 := Aside0.mk A50
  clear A50
  by_cases c6 : 0 < (t182.length : Int)
  ·
   rw [if_pos c6] at H
   have c6b0 : decide (0 < (t182.length : Int)) = true := decide_eq_true c6
   have c6b1 : decide (0 < t182.length) = true := decide_eq_true (by omega)
   clear c6
   have H' := Aside0.mk H
   clear H
   go_enter Tryd.func13, Tryd.ntmps13
   try go_wp2_with (first | ((with_reducible refine gate_dst (N := 1) rfl ?_); refine box_event ?hg (N := 1) ?hd (cs := #[.int .i64 a0_0, .int .i64 a0_1]) (t := 23) ?hr ?_; (case hd => rfl); (case hg => rfl); (case hr => first | (go_simp; done) | (go_simp; rfl)); intro gb180 hg w7 hbox hb; have n0_ := Aside0.mk (below_step (by repeat (first | (with_reducible first | exact HB.out | apply below_alloc | apply pw_below_drewN | apply below_drew1) | exact HB.out)) hb); have n1_ := Aside0.mk (hbox); have n2_ := Aside0.mk ((by rw [hg]; exact (below_size (by repeat (first | (with_reducible first | exact HB.out | apply below_alloc | apply pw_below_drewN | apply below_drew1) | exact HB.out))) : w.heap.size ≤ gb180)); have n3_ := Aside0.mk ((by rw [hg]; exact (below_size (by repeat (first | (with_reducible first | exact HB.out | apply below_alloc | apply pw_below_drewN | apply below_drew1) | exact HB.out))) : w.heap.size ≤ gb180)); clear HB; have HB := n0_; have BK180 := n1_; have GW180 := n2_; have GE180 := n3_; clear n0_ n1_ n2_ n3_; clear hb hbox hg; have hcz8_0 : w7.cell? ⟨gb180, 0, none⟩ = some (.int .i64 a0_0) := (blk_cell BK180.out 0).trans rfl; have hcz8_1 : w7.cell? ⟨gb180, 1, none⟩ = some (.int .i64 a0_1) := (blk_cell BK180.out 1).trans rfl; have hfz8_0 := blk_frozen BK180.out 0; have hfz8_1 := blk_frozen BK180.out 1) | ((with_reducible refine gate_callee (f := 15) rfl ?_); refine goesL_ (some 9) rfl rfl Tryd.func15 (by kernel_rfl) rfl #[.agg #[.int .i64 a0_0, .int .i64 a0_1]] rfl (by (try simp only [List.map_toArray, List.map_cons, List.map_nil]); first | done | rfl | (simp only [List.length_drop, List.length_take]; rfl)) ?_; (with_reducible refine (spileref03_Check.calls k a0_0 a0_1 t181 _ A2.out).mono ?_); rintro e w9 ⟨rfl, hb⟩; refine ⟨_, rfl, ?_⟩; have n0_ := Aside0.mk (blk_below (g := gb180) (o := .cells #[.int .i64 a0_0, .int .i64 a0_1] 23 (0, 0)) (by (with_reducible repeat (first | refine blk_drewN ?_ _ | refine blk_drew ?_ | refine blk_alloc ?_ _)); exact BK180.out) hb); have n1_ := Aside0.mk (below_step (by repeat (first | (with_reducible first | exact HB.out | apply below_alloc | apply pw_below_drewN | apply below_drew1 | refine below_set ?_ GE180.out) | exact HB.out)) hb); clear BK180; clear HB; have BK180 := n0_; have HB := n1_; clear n0_ n1_; (try clear hb); (try clear hb2); (try clear hk); (try clear hi)))
   have n0_ := Aside0.mk (blk_drew BK180.out)
   have n1_ := Aside0.mk (below_drew1 HB.out)
   clear BK180
   clear HB
   have BK180 := n0_
   have HB := n1_
   clear n0_ n1_
   refine start_ (n := 8) (S := fun w' => w'.cell? ⟨gb180, 0, none⟩ = some (.int .i64 a0_0) ∧ w'.cell? ⟨gb180, 1, none⟩ = some (.int .i64 a0_1)) (ds := []) #[false, false, false, false, false, false, false, false] (by kernel_rfl) rfl rfl ⟨(blk_cell BK180.out 0).trans rfl, (blk_cell BK180.out 1).trans rfl⟩ (fun hHeld => ?_); refine with_tabW spileref03_Best.tab3 spileref03_Best.bits3 (fun HT_ HW_ => ?_)
   generalize w9.drew = w10 at BK180 HB hHeld ⊢
   refine pure_ (i := 0) (N := some 11) (v := ?_) (a' := ?_) #[true, false, false, false, false, false, false, false] rfl rfl (any_of HT_.out (by kernel_rfl)) (fun _ _ _ h => h) (Or.inl ⟨by rfl, ?_⟩) ?_ ?_
   rotate_left
   ·
    intro w'
    go_simp
    with_reducible rfl
   rotate_left
   ·
    simp only [Act.put, List.setIfInBounds_toArray, List.set_cons_zero, List.set_cons_succ, i64_w, i32_w]
    rfl
   refine pure_ (i := 3) (N := some 14) (v := ?_) (a' := ?_) #[true, false, false, true, false, false, false, false] rfl rfl (any_of HT_.out (by kernel_rfl)) (fun _ _ _ h => h) (Or.inl ⟨by rfl, ?_⟩) ?_ ?_
   rotate_left
   ·
    intro w'
    go_simp
    with_reducible rfl
   rotate_left
   ·
    simp only [Act.put, List.setIfInBounds_toArray, List.set_cons_zero, List.set_cons_succ, i64_w, i32_w]
    rfl
   refine take_ (i := 1) (N := some 12) (v := ?_) (a' := ?_) #[true, true, false, true, false, false, false, false] rfl rfl (take_ofW HT_.out HW_.out (by kernel_rfl)) (fun _ _ _ h => h) (Or.inl ⟨by rfl, ?_⟩) hHeld ?_ ?_
   rotate_left
   ·
    rintro w' ⟨s0, s1⟩
    go_simp
    with_reducible rfl
   rotate_left
   ·
    simp only [Act.put, List.setIfInBounds_toArray, List.set_cons_zero, List.set_cons_succ, i64_w, i32_w]
    rfl
   refine take_ (i := 4) (N := some 15) (v := ?_) (a' := ?_) #[true, true, false, true, true, false, false, false] rfl rfl (take_ofW HT_.out HW_.out (by kernel_rfl)) (fun _ _ _ h => h) (Or.inl ⟨by rfl, ?_⟩) hHeld ?_ ?_
   rotate_left
   ·
    rintro w' ⟨s0, s1⟩
    go_simp
    with_reducible rfl
   rotate_left
   ·
    simp only [Act.put, List.setIfInBounds_toArray, List.set_cons_zero, List.set_cons_succ, i64_w, i32_w]
    rfl
   refine one_ (i := 2) (N := some 13) #[true, true, true, true, true, false, false, false] rfl rfl (one_of HT_.out (by kernel_rfl)) (by decide) (fun K hK => ?_)
   refine goes_ Tryd.func27 (by kernel_rfl) rfl #[.int .i64 a0_0] (by rfl) rfl rfl (by (try simp only [List.map_toArray, List.map_cons, List.map_nil]); first | done | rfl | (simp only [List.length_drop, List.length_take]; rfl)) ?_
   with_reducible refine (spileref03_names.calls a0_0 t182 _ A4.out).mono ?_
   rintro e w11 ⟨v183, rfl, ho0, hb⟩
   refine ⟨_, rfl, ?_⟩
   have n0_ := Aside0.mk (Kd.V_lower (Kd.V_mono (ok' := fun k_ => k_ ≠ gb180) ho0 (fun k_ hk_ => (Kd.freshB (g := gb180) (o := .cells #[.int .i64 a0_0, .int .i64 a0_1] 23 (0, 0)) (by (with_reducible repeat (first | refine blk_drewN ?_ _ | refine blk_drew ?_ | refine blk_alloc ?_ _)); exact BK180.out) k_ hk_))) (below_size (by repeat (first | (with_reducible first | exact HB.out | apply below_alloc | apply pw_below_drewN | apply below_drew1 | refine below_set ?_ GE180.out) | exact HB.out))))
   have n1_ := Aside0.mk (blk_below (g := gb180) (o := .cells #[.int .i64 a0_0, .int .i64 a0_1] 23 (0, 0)) (by (with_reducible repeat (first | refine blk_drewN ?_ _ | refine blk_drew ?_ | refine blk_alloc ?_ _)); exact BK180.out) hb)
   have n2_ := Aside0.mk (below_step (by repeat (first | (with_reducible first | exact HB.out | apply below_alloc | apply pw_below_drewN | apply below_drew1 | refine below_set ?_ GE180.out) | exact HB.out)) hb)
   clear BK180
   clear HB
   have HO184 := n0_
   have BK180 := n1_
   have HB := n2_
   clear n0_ n1_ n2_
   (try clear hb)
   (try clear hb2)
   (try clear hk)
   (try clear hi)
   (try clear ho0)
   refine hK.out _ _ ⟨(blk_cell BK180.out 0).trans rfl, (blk_cell BK180.out 1).trans rfl⟩ (fun hHeld => ?_)
   clear hK K
   refine norm_ (a' := ?_) ?_ ?_
   rotate_left
   ·
    show Act.put _ (some 13) _ = _
    simp only [Act.put, List.setIfInBounds_toArray, List.set_cons_zero, List.set_cons_succ, i64_w, i32_w]
    rfl
   refine one_ (i := 5) (N := some 16) #[true, true, true, true, true, true, false, false] rfl rfl (one_of HT_.out (by kernel_rfl)) (by decide) (fun K hK => ?_)
   refine goes_ Tryd.func28 (by kernel_rfl) rfl #[.int .i64 a0_0] (by rfl) rfl rfl (by (try simp only [List.map_toArray, List.map_cons, List.map_nil]); first | done | rfl | (simp only [List.length_drop, List.length_take]; rfl)) ?_
   with_reducible refine (spileref03_factors.calls a0_0 t185 _ A5.out).mono ?_
   rintro e w12 ⟨v186, rfl, ho0, hb⟩
   refine ⟨_, rfl, ?_⟩
   have n0_ := Aside0.mk (Kd.V_below (by (with_reducible repeat (first | apply Kd.V_alloc | apply Kd.V_drewN | apply Kd.V_drew)); exact HO184.out) hb)
   have n1_ := Aside0.mk (Kd.V_lower (Kd.V_mono (ok' := fun k_ => k_ ≠ gb180) ho0 (fun k_ hk_ => (Kd.freshB (g := gb180) (o := .cells #[.int .i64 a0_0, .int .i64 a0_1] 23 (0, 0)) (by (with_reducible repeat (first | refine blk_drewN ?_ _ | refine blk_drew ?_ | refine blk_alloc ?_ _)); exact BK180.out) k_ hk_))) (below_size (by repeat (first | (with_reducible first | exact HB.out | apply below_alloc | apply pw_below_drewN | apply below_drew1 | refine below_set ?_ GE180.out) | exact HB.out))))
   have n2_ := Aside0.mk (blk_below (g := gb180) (o := .cells #[.int .i64 a0_0, .int .i64 a0_1] 23 (0, 0)) (by (with_reducible repeat (first | refine blk_drewN ?_ _ | refine blk_drew ?_ | refine blk_alloc ?_ _)); exact BK180.out) hb)
   have n3_ := Aside0.mk (below_step (by repeat (first | (with_reducible first | exact HB.out | apply below_alloc | apply pw_below_drewN | apply below_drew1 | refine below_set ?_ GE180.out) | exact HB.out)) hb)
   clear HO184
   clear BK180
   clear HB
   have HO184 := n0_
   have HO187 := n1_
   have BK180 := n2_
   have HB := n3_
   clear n0_ n1_ n2_ n3_
   (try clear hb)
   (try clear hb2)
   (try clear hk)
   (try clear hi)
   (try clear ho0)
   refine hK.out _ _ ⟨(blk_cell BK180.out 0).trans rfl, (blk_cell BK180.out 1).trans rfl⟩ (fun hHeld => ?_)
   clear hK K
   refine norm_ (a' := ?_) ?_ ?_
   rotate_left
   ·
    show Act.put _ (some 16) _ = _
    simp only [Act.put, List.setIfInBounds_toArray, List.set_cons_zero, List.set_cons_succ, i64_w, i32_w]
    rfl
   refine pure_ (i := 6) (N := some 4) (v := ?_) (a' := ?_) #[true, true, true, true, true, true, true, false] rfl rfl (any_of HT_.out (by kernel_rfl)) (fun _ _ _ h => h) (Or.inl ⟨by rfl, ?_⟩) ?_ ?_
   rotate_left
   ·
    intro w'
    go_simp
    with_reducible rfl
   rotate_left
   ·
    simp only [Act.put, List.setIfInBounds_toArray, List.set_cons_zero, List.set_cons_succ, i64_w, i32_w]
    rfl
   refine pure_ (i := 7) (N := some 5) (v := ?_) (a' := ?_) #[true, true, true, true, true, true, true, true] rfl rfl (any_of HT_.out (by kernel_rfl)) (fun _ _ _ h => h) (Or.inl ⟨by rfl, ?_⟩) ?_ ?_
   rotate_left
   ·
    intro w'
    go_simp
    with_reducible rfl
   rotate_left
   ·
    simp only [Act.put, List.setIfInBounds_toArray, List.set_cons_zero, List.set_cons_succ, i64_w, i32_w]
    rfl
   refine done_ (done_of HT_.out (by kernel_rfl)) ?_
   obtain ⟨Ao13, co13, eo13⟩ := Kd.V_slice HO184.out
   subst eo13
   have p188 : 0 ≤ (0 : Int) := (by omega)
   have q188 : 0 < (t182.length : Int) := of_decide_eq_true (by first | (with_reducible assumption) | assumption)
   obtain ⟨ad188, e188, hx188_0⟩ := Kd.at_string (Kd.V_reads' HO184.out).2.2 0 p188 q188
   cases e188
   have qi188 : (0 < t182.length) = True := eq_true (by omega)
   (try rw [show ((0 : Int)).toNat = 0 from rfl] at hx188_0)
   (try rw [Addr.add_zero'] at hx188_0)
   replace p188 := eq_true p188
   replace q188 := eq_true q188
   try go_wp2
   go_loopg [6, 7] k (fun kq v6 v7 w' => ∃ (x6_1 : ByteArray) (x7_1 : Int), v6 = .string x6_1 ∧ v7 = .int .i64 x7_1 ∧ Aside0 (spileref03_Best.l0 kq t182 t185 x6_1 x7_1 a0_0 a0_1 = some (r1, r2)) ∧ Aside0 (kq ≤ k) ∧ Aside0 (Kd.V Kd.string 9 w' w.heap.size (fun k_ => k_ ≠ gb180) (.slice (some ad188) t182.length co13) t182) ∧ Aside0 (Kd.V (Kd.int .i64) 3 w' w.heap.size (fun k_ => k_ ≠ gb180) v186 t185) ∧ Aside0 (w'.heap[gb180]? = some (.cells #[.int .i64 a0_0, .int .i64 a0_1] 23 (0, 0))) ∧ Aside0 (Below w.heap.size w w'))
   case atStart => exact ⟨(rdOf ByteArray.empty t182 0), (0), (by first | rfl | (simp; done) | (simp [*]; done)), (by first | rfl | (simp; done) | (simp [*]; done)), H', ⟨Nat.le_refl _⟩, ⟨by (with_reducible repeat (first | apply Kd.V_alloc | apply Kd.V_drewN | apply Kd.V_drew)); exact HO184.out⟩, ⟨by (with_reducible repeat (first | apply Kd.V_alloc | apply Kd.V_drewN | apply Kd.V_drew)); exact HO187.out⟩, ⟨by (with_reducible repeat (first | refine blk_drewN ?_ _ | refine blk_drew ?_ | refine blk_alloc ?_ _)); exact BK180.out⟩, ⟨by repeat (first | (with_reducible first | exact HB.out | apply below_alloc | apply pw_below_drewN | apply below_drew1 | refine below_set ?_ GE180.out) | exact HB.out)⟩⟩
   case round =>
    clear H'
    try clear c1
    try clear p1
    try clear q1
    try clear hx1
    try clear qi1
    try clear c2
    try clear p2
    try clear c3
    try clear c3b0
    try clear c3b1
    try clear c6
    try clear c6b0
    try clear c6b1
    try clear c13
    try clear hcz8_0
    try clear hcz8_1
    try clear hfz8_0
    try clear hfz8_1
    try clear hx188_0
    try clear p188
    try clear q188
    obtain ⟨x6_1, x7_1, rfl, rfl, HA, HK1, HO_4, HO_5, BK180, HB⟩ := hrel
    cases gk with
    | zero => exact absurd HA.out (by simp [spileref03_Best.l0])
    | succ k1 =>
     have H := HA.out
     clear HA
     simp only [spileref03_Best.l0] at H
     by_cases c14 : x7_1 < (t182.length : Int)
     ·
      rw [if_pos c14] at H
      have c14b0 : decide (x7_1 < (t182.length : Int)) = true := decide_eq_true c14
      clear c14
      by_cases c15 : 0 ≤ x7_1
      ·
       rw [if_pos c15] at H
       have c15b0 : decide (0 ≤ x7_1) = true := decide_eq_true c15
       clear c15
       by_cases c16 : x7_1 < (t185.length : Int)
       ·
        rw [if_pos c16] at H
        have c16b0 : decide (x7_1 < (t185.length : Int)) = true := decide_eq_true c16
        clear c16
        obtain ⟨ji17, hji17⟩ : ∃ j_ : Int, (mx a0_1 (wrap64 (-a0_1))) = j_ := ⟨_, rfl⟩
        replace H : (if (rd t185 x7_1) ≤ (ji17) then (spileref03_Best.l0 k1 t182 t185 (rdOf ByteArray.empty t182 x7_1) (wrap64 (x7_1 + 1)) a0_0 a0_1) else (spileref03_Best.l0 k1 t182 t185 x6_1 (wrap64 (x7_1 + 1)) a0_0 a0_1)) = some (r1, r2) := by first | (rw [hji17] at H; exact H) | (simp only [hji17] at H ⊢; exact H)
        have hji17_ : (if a0_1 < (wrap64 (-a0_1)) then (wrap64 (-a0_1)) else a0_1) = ji17 := hji17
        by_cases c18 : (rd t185 x7_1) ≤ (ji17)
        ·
         rw [if_pos c18] at H
         have c18b0 : decide ((rd t185 x7_1) ≤ (ji17)) = true := decide_eq_true c18
         clear c18
         have H' := Aside0.mk H
         clear H
         try go_wp2
         have n0_ := Aside0.mk (Kd.V_drew HO_4.out)
         have n1_ := Aside0.mk (Kd.V_drew HO_5.out)
         have n2_ := Aside0.mk (blk_drew BK180.out)
         have n3_ := Aside0.mk (below_drew1 HB.out)
         clear HO_4
         clear HO_5
         clear BK180
         clear HB
         have HO_4 := n0_
         have HO_5 := n1_
         have BK180 := n2_
         have HB := n3_
         clear n0_ n1_ n2_ n3_
         obtain ⟨Ao20, co20, eo20⟩ := Kd.V_slice HO_5.out
         (first | subst eo20 | (injection eo20 with f1_ f2_ f3_; have f4_ := f1_.symm; have f5_ := f3_.symm; clear f1_ f2_ f3_; subst f4_; subst f5_))
         have p189 : 0 ≤ (x7_1 : Int) := of_decide_eq_true (by first | (with_reducible assumption) | assumption)
         have q189 : x7_1 < (t185.length : Int) := of_decide_eq_true (by first | (with_reducible assumption) | assumption)
         obtain ⟨ad189, e189, hx189_0⟩ := Kd.at_int (Kd.V_reads' HO_5.out).2.2 x7_1 p189 q189
         cases e189
         replace p189 := eq_true p189
         replace q189 := eq_true q189
         refine start_ (n := 11) (S := fun w' => w'.cell? ⟨gb180, 0, none⟩ = some (.int .i64 a0_0) ∧ w'.cell? ⟨gb180, 1, none⟩ = some (.int .i64 a0_1) ∧ w'.cell? (ad189.add (x7_1).toNat) = some (.int .i64 (rd t185 x7_1))) (ds := []) #[false, false, false, false, false, false, false, false, false, false, false] (by kernel_rfl) rfl rfl ⟨(blk_cell BK180.out 0).trans rfl, (blk_cell BK180.out 1).trans rfl, hx189_0⟩ (fun hHeld => ?_); refine with_tabW spileref03_Best.tab8 spileref03_Best.bits8 (fun HT_ HW_ => ?_)
         generalize wr.drew = w19 at HO_4 HO_5 BK180 HB hx189_0 hHeld ⊢
         refine pure_ (i := 0) (N := some 26) (v := ?_) (a' := ?_) #[true, false, false, false, false, false, false, false, false, false, false] rfl rfl (any_of HT_.out (by kernel_rfl)) (fun _ _ _ h => h) (Or.inl ⟨by rfl, ?_⟩) ?_ ?_
         rotate_left
         ·
          intro w'
          go_simp
          with_reducible rfl
         rotate_left
         ·
          simp only [Act.put, List.setIfInBounds_toArray, List.set_cons_zero, List.set_cons_succ, i64_w, i32_w]
          rfl
         refine pure_ (i := 1) (N := some 27) (v := ?_) (a' := ?_) #[true, true, false, false, false, false, false, false, false, false, false] rfl rfl (any_of HT_.out (by kernel_rfl)) (fun _ _ _ h => h) (Or.inl ⟨by rfl, ?_⟩) ?_ ?_
         rotate_left
         ·
          intro w'
          go_simp
          with_reducible rfl
         rotate_left
         ·
          simp only [Act.put, List.setIfInBounds_toArray, List.set_cons_zero, List.set_cons_succ, i64_w, i32_w]
          rfl
         refine pure_ (i := 2) (N := some 28) (v := ?_) (a' := ?_) #[true, true, true, false, false, false, false, false, false, false, false] rfl rfl (any_of HT_.out (by kernel_rfl)) (fun _ _ _ h => h) (Or.inl ⟨by rfl, ?_⟩) ?_ ?_
         rotate_left
         ·
          intro w'
          go_simp
          with_reducible rfl
         rotate_left
         ·
          simp only [Act.put, List.setIfInBounds_toArray, List.set_cons_zero, List.set_cons_succ, i64_w, i32_w]
          rfl
         refine pure_ (i := 4) (N := some 30) (v := ?_) (a' := ?_) #[true, true, true, false, true, false, false, false, false, false, false] rfl rfl (any_of HT_.out (by kernel_rfl)) (fun _ _ _ h => h) (Or.inl ⟨by rfl, ?_⟩) ?_ ?_
         rotate_left
         ·
          intro w'
          go_simp
          with_reducible rfl
         rotate_left
         ·
          simp only [Act.put, List.setIfInBounds_toArray, List.set_cons_zero, List.set_cons_succ, i64_w, i32_w]
          rfl
         refine pure_ (i := 6) (N := some 32) (v := ?_) (a' := ?_) #[true, true, true, false, true, false, true, false, false, false, false] rfl rfl (any_of HT_.out (by kernel_rfl)) (fun _ _ _ h => h) (Or.inl ⟨by rfl, ?_⟩) ?_ ?_
         rotate_left
         ·
          intro w'
          go_simp
          with_reducible rfl
         rotate_left
         ·
          simp only [Act.put, List.setIfInBounds_toArray, List.set_cons_zero, List.set_cons_succ, i64_w, i32_w]
          rfl
         refine take_ (i := 3) (N := some 29) (v := ?_) (a' := ?_) #[true, true, true, true, true, false, true, false, false, false, false] rfl rfl (take_ofW HT_.out HW_.out (by kernel_rfl)) (fun _ _ _ h => h) (Or.inl ⟨by rfl, ?_⟩) hHeld ?_ ?_
         rotate_left
         ·
          rintro w' ⟨s0, s1, s2⟩
          go_simp
          with_reducible rfl
         rotate_left
         ·
          simp only [Act.put, List.setIfInBounds_toArray, List.set_cons_zero, List.set_cons_succ, i64_w, i32_w]
          rfl
         refine take_ (i := 5) (N := some 31) (v := ?_) (a' := ?_) #[true, true, true, true, true, true, true, false, false, false, false] rfl rfl (take_ofW HT_.out HW_.out (by kernel_rfl)) (fun _ _ _ h => h) (Or.inl ⟨by rfl, ?_⟩) hHeld ?_ ?_
         rotate_left
         ·
          rintro w' ⟨s0, s1, s2⟩
          go_simp
          with_reducible rfl
         rotate_left
         ·
          simp only [Act.put, List.setIfInBounds_toArray, List.set_cons_zero, List.set_cons_succ, i64_w, i32_w]
          rfl
         refine take_ (i := 7) (N := some 33) (v := ?_) (a' := ?_) #[true, true, true, true, true, true, true, true, false, false, false] rfl rfl (take_ofW HT_.out HW_.out (by kernel_rfl)) (fun _ _ _ h => h) (Or.inl ⟨by rfl, ?_⟩) hHeld ?_ ?_
         rotate_left
         ·
          rintro w' ⟨s0, s1, s2⟩
          go_simp
          with_reducible rfl
         rotate_left
         ·
          simp only [Act.put, List.setIfInBounds_toArray, List.set_cons_zero, List.set_cons_succ, i64_w, i32_w]
          rfl
         refine pure_ (i := 8) (N := some 34) (v := ?_) (a' := ?_) #[true, true, true, true, true, true, true, true, true, false, false] rfl rfl (any_of HT_.out (by kernel_rfl)) (fun _ _ _ h => h) (Or.inl ⟨by rfl, ?_⟩) ?_ ?_
         rotate_left
         ·
          intro w'
          go_simp
          with_reducible rfl
         rotate_left
         ·
          simp only [Act.put, List.setIfInBounds_toArray, List.set_cons_zero, List.set_cons_succ, i64_w, i32_w]
          rfl
         refine pure_ (i := 9) (N := some 35) (v := ?_) (a' := ?_) #[true, true, true, true, true, true, true, true, true, true, false] rfl rfl (any_of HT_.out (by kernel_rfl)) (fun _ _ _ h => h) (Or.inl ⟨by rfl, ?_⟩) ?_ ?_
         rotate_left
         ·
          intro w'
          go_simp
          with_reducible rfl
         rotate_left
         ·
          simp only [Act.put, List.setIfInBounds_toArray, List.set_cons_zero, List.set_cons_succ, i64_w, i32_w]
          rfl
         refine pure_ (i := 10) (N := some 36) (v := ?_) (a' := ?_) #[true, true, true, true, true, true, true, true, true, true, true] rfl rfl (any_of HT_.out (by kernel_rfl)) (fun _ _ _ h => h) (Or.inl ⟨by rfl, ?_⟩) ?_ ?_
         rotate_left
         ·
          intro w'
          go_simp
          with_reducible rfl
         rotate_left
         ·
          simp only [Act.put, List.setIfInBounds_toArray, List.set_cons_zero, List.set_cons_succ, i64_w, i32_w]
          rfl
         refine done_ (done_of HT_.out (by kernel_rfl)) ?_
         have p190 : 0 ≤ (x7_1 : Int) := of_decide_eq_true (by first | (with_reducible assumption) | assumption)
         have q190 : x7_1 < (t182.length : Int) := of_decide_eq_true (by first | (with_reducible assumption) | assumption)
         obtain ⟨ad190, e190, hx190_0⟩ := Kd.at_string (Kd.V_reads' HO_4.out).2.2 x7_1 p190 q190
         obtain rfl : ad188 = ad190 := (by injection e190)
         replace p190 := eq_true p190
         replace q190 := eq_true q190
         try go_wp2
         go_roundg k1
         case measure => have := HK1.out; omega
         case rel => exact ⟨(rdOf ByteArray.empty t182 x7_1), (wrap64 (x7_1 + 1)), (by first | rfl | (simp; done) | (simp [*]; done)), (by first | rfl | (simp; done) | (simp [*]; done)), H', ⟨by have := HK1.out; omega⟩, ⟨by (with_reducible repeat (first | apply Kd.V_alloc | apply Kd.V_drewN | apply Kd.V_drew)); exact HO_4.out⟩, ⟨by (with_reducible repeat (first | apply Kd.V_alloc | apply Kd.V_drewN | apply Kd.V_drew)); exact HO_5.out⟩, ⟨by (with_reducible repeat (first | refine blk_drewN ?_ _ | refine blk_drew ?_ | refine blk_alloc ?_ _)); exact BK180.out⟩, ⟨by repeat (first | (with_reducible first | exact HB.out | apply below_alloc | apply pw_below_drewN | apply below_drew1 | refine below_set ?_ GE180.out) | exact HB.out)⟩⟩
        ·
         rw [if_neg c18] at H
         have c18b0 : decide ((rd t185 x7_1) ≤ (ji17)) = false := decide_eq_false c18
         clear c18
         have H' := Aside0.mk H
         clear H
         try go_wp2
         have n0_ := Aside0.mk (Kd.V_drew HO_4.out)
         have n1_ := Aside0.mk (Kd.V_drew HO_5.out)
         have n2_ := Aside0.mk (blk_drew BK180.out)
         have n3_ := Aside0.mk (below_drew1 HB.out)
         clear HO_4
         clear HO_5
         clear BK180
         clear HB
         have HO_4 := n0_
         have HO_5 := n1_
         have BK180 := n2_
         have HB := n3_
         clear n0_ n1_ n2_ n3_
         obtain ⟨Ao22, co22, eo22⟩ := Kd.V_slice HO_5.out
         (first | subst eo22 | (injection eo22 with f1_ f2_ f3_; have f4_ := f1_.symm; have f5_ := f3_.symm; clear f1_ f2_ f3_; subst f4_; subst f5_))
         have p189 : 0 ≤ (x7_1 : Int) := of_decide_eq_true (by first | (with_reducible assumption) | assumption)
         have q189 : x7_1 < (t185.length : Int) := of_decide_eq_true (by first | (with_reducible assumption) | assumption)
         obtain ⟨ad189, e189, hx189_0⟩ := Kd.at_int (Kd.V_reads' HO_5.out).2.2 x7_1 p189 q189
         cases e189
         replace p189 := eq_true p189
         replace q189 := eq_true q189
         refine start_ (n := 11) (S := fun w' => w'.cell? ⟨gb180, 0, none⟩ = some (.int .i64 a0_0) ∧ w'.cell? ⟨gb180, 1, none⟩ = some (.int .i64 a0_1) ∧ w'.cell? (ad189.add (x7_1).toNat) = some (.int .i64 (rd t185 x7_1))) (ds := []) #[false, false, false, false, false, false, false, false, false, false, false] (by kernel_rfl) rfl rfl ⟨(blk_cell BK180.out 0).trans rfl, (blk_cell BK180.out 1).trans rfl, hx189_0⟩ (fun hHeld => ?_); refine with_tabW spileref03_Best.tab8 spileref03_Best.bits8 (fun HT_ HW_ => ?_)
         generalize wr.drew = w21 at HO_4 HO_5 BK180 HB hx189_0 hHeld ⊢
         refine pure_ (i := 0) (N := some 26) (v := ?_) (a' := ?_) #[true, false, false, false, false, false, false, false, false, false, false] rfl rfl (any_of HT_.out (by kernel_rfl)) (fun _ _ _ h => h) (Or.inl ⟨by rfl, ?_⟩) ?_ ?_
         rotate_left
         ·
          intro w'
          go_simp
          with_reducible rfl
         rotate_left
         ·
          simp only [Act.put, List.setIfInBounds_toArray, List.set_cons_zero, List.set_cons_succ, i64_w, i32_w]
          rfl
         refine pure_ (i := 1) (N := some 27) (v := ?_) (a' := ?_) #[true, true, false, false, false, false, false, false, false, false, false] rfl rfl (any_of HT_.out (by kernel_rfl)) (fun _ _ _ h => h) (Or.inl ⟨by rfl, ?_⟩) ?_ ?_
         rotate_left
         ·
          intro w'
          go_simp
          with_reducible rfl
         rotate_left
         ·
          simp only [Act.put, List.setIfInBounds_toArray, List.set_cons_zero, List.set_cons_succ, i64_w, i32_w]
          rfl
         refine pure_ (i := 2) (N := some 28) (v := ?_) (a' := ?_) #[true, true, true, false, false, false, false, false, false, false, false] rfl rfl (any_of HT_.out (by kernel_rfl)) (fun _ _ _ h => h) (Or.inl ⟨by rfl, ?_⟩) ?_ ?_
         rotate_left
         ·
          intro w'
          go_simp
          with_reducible rfl
         rotate_left
         ·
          simp only [Act.put, List.setIfInBounds_toArray, List.set_cons_zero, List.set_cons_succ, i64_w, i32_w]
          rfl
         refine pure_ (i := 4) (N := some 30) (v := ?_) (a' := ?_) #[true, true, true, false, true, false, false, false, false, false, false] rfl rfl (any_of HT_.out (by kernel_rfl)) (fun _ _ _ h => h) (Or.inl ⟨by rfl, ?_⟩) ?_ ?_
         rotate_left
         ·
          intro w'
          go_simp
          with_reducible rfl
         rotate_left
         ·
          simp only [Act.put, List.setIfInBounds_toArray, List.set_cons_zero, List.set_cons_succ, i64_w, i32_w]
          rfl
         refine pure_ (i := 6) (N := some 32) (v := ?_) (a' := ?_) #[true, true, true, false, true, false, true, false, false, false, false] rfl rfl (any_of HT_.out (by kernel_rfl)) (fun _ _ _ h => h) (Or.inl ⟨by rfl, ?_⟩) ?_ ?_
         rotate_left
         ·
          intro w'
          go_simp
          with_reducible rfl
         rotate_left
         ·
          simp only [Act.put, List.setIfInBounds_toArray, List.set_cons_zero, List.set_cons_succ, i64_w, i32_w]
          rfl
         refine take_ (i := 3) (N := some 29) (v := ?_) (a' := ?_) #[true, true, true, true, true, false, true, false, false, false, false] rfl rfl (take_ofW HT_.out HW_.out (by kernel_rfl)) (fun _ _ _ h => h) (Or.inl ⟨by rfl, ?_⟩) hHeld ?_ ?_
         rotate_left
         ·
          rintro w' ⟨s0, s1, s2⟩
          go_simp
          with_reducible rfl
         rotate_left
         ·
          simp only [Act.put, List.setIfInBounds_toArray, List.set_cons_zero, List.set_cons_succ, i64_w, i32_w]
          rfl
         refine take_ (i := 5) (N := some 31) (v := ?_) (a' := ?_) #[true, true, true, true, true, true, true, false, false, false, false] rfl rfl (take_ofW HT_.out HW_.out (by kernel_rfl)) (fun _ _ _ h => h) (Or.inl ⟨by rfl, ?_⟩) hHeld ?_ ?_
         rotate_left
         ·
          rintro w' ⟨s0, s1, s2⟩
          go_simp
          with_reducible rfl
         rotate_left
         ·
          simp only [Act.put, List.setIfInBounds_toArray, List.set_cons_zero, List.set_cons_succ, i64_w, i32_w]
          rfl
         refine take_ (i := 7) (N := some 33) (v := ?_) (a' := ?_) #[true, true, true, true, true, true, true, true, false, false, false] rfl rfl (take_ofW HT_.out HW_.out (by kernel_rfl)) (fun _ _ _ h => h) (Or.inl ⟨by rfl, ?_⟩) hHeld ?_ ?_
         rotate_left
         ·
          rintro w' ⟨s0, s1, s2⟩
          go_simp
          with_reducible rfl
         rotate_left
         ·
          simp only [Act.put, List.setIfInBounds_toArray, List.set_cons_zero, List.set_cons_succ, i64_w, i32_w]
          rfl
         refine pure_ (i := 8) (N := some 34) (v := ?_) (a' := ?_) #[true, true, true, true, true, true, true, true, true, false, false] rfl rfl (any_of HT_.out (by kernel_rfl)) (fun _ _ _ h => h) (Or.inl ⟨by rfl, ?_⟩) ?_ ?_
         rotate_left
         ·
          intro w'
          go_simp
          with_reducible rfl
         rotate_left
         ·
          simp only [Act.put, List.setIfInBounds_toArray, List.set_cons_zero, List.set_cons_succ, i64_w, i32_w]
          rfl
         refine pure_ (i := 9) (N := some 35) (v := ?_) (a' := ?_) #[true, true, true, true, true, true, true, true, true, true, false] rfl rfl (any_of HT_.out (by kernel_rfl)) (fun _ _ _ h => h) (Or.inl ⟨by rfl, ?_⟩) ?_ ?_
         rotate_left
         ·
          intro w'
          go_simp
          with_reducible rfl
         rotate_left
         ·
          simp only [Act.put, List.setIfInBounds_toArray, List.set_cons_zero, List.set_cons_succ, i64_w, i32_w]
          rfl
         refine pure_ (i := 10) (N := some 36) (v := ?_) (a' := ?_) #[true, true, true, true, true, true, true, true, true, true, true] rfl rfl (any_of HT_.out (by kernel_rfl)) (fun _ _ _ h => h) (Or.inl ⟨by rfl, ?_⟩) ?_ ?_
         rotate_left
         ·
          intro w'
          go_simp
          with_reducible rfl
         rotate_left
         ·
          simp only [Act.put, List.setIfInBounds_toArray, List.set_cons_zero, List.set_cons_succ, i64_w, i32_w]
          rfl
         refine done_ (done_of HT_.out (by kernel_rfl)) ?_
         try go_wp2
         go_roundg k1
         case measure => have := HK1.out; omega
         case rel => exact ⟨(x6_1), (wrap64 (x7_1 + 1)), (by first | rfl | (simp; done) | (simp [*]; done)), (by first | rfl | (simp; done) | (simp [*]; done)), H', ⟨by have := HK1.out; omega⟩, ⟨by (with_reducible repeat (first | apply Kd.V_alloc | apply Kd.V_drewN | apply Kd.V_drew)); exact HO_4.out⟩, ⟨by (with_reducible repeat (first | apply Kd.V_alloc | apply Kd.V_drewN | apply Kd.V_drew)); exact HO_5.out⟩, ⟨by (with_reducible repeat (first | refine blk_drewN ?_ _ | refine blk_drew ?_ | refine blk_alloc ?_ _)); exact BK180.out⟩, ⟨by repeat (first | (with_reducible first | exact HB.out | apply below_alloc | apply pw_below_drewN | apply below_drew1 | refine below_set ?_ GE180.out) | exact HB.out)⟩⟩
       ·
        rw [if_neg c16] at H
        exact absurd H (by simp)
      ·
       rw [if_neg c15] at H
       exact absurd H (by simp)
     ·
      rw [if_neg c14] at H
      have c14b0 : decide (x7_1 < (t182.length : Int)) = false := decide_eq_false c14
      clear c14
      simp only [Option.some.injEq, Prod.mk.injEq] at H
      obtain ⟨rfl, rfl⟩ := H
      go_wp2
      go_ret2
      exact ⟨by first | rfl | (simp [errW_none, errW_some] <;> rfl) | (simp [*, errW_none, errW_some] <;> rfl), by repeat (first | (with_reducible first | exact HB.out | apply below_alloc | apply pw_below_drewN | apply below_drew1 | refine below_set ?_ GE180.out) | exact HB.out)⟩
  ·
   rw [if_neg c6] at H
   exact absurd H (by simp)
 ·
  rw [if_neg c3] at H
  have c3b0 : (t181 == 0) = false := beq_eq_false_iff_ne.mpr c3
  have c3b1 : (t181 != 0) = true := bne_iff_ne.mpr c3
  simp only [Option.some.injEq, Prod.mk.injEq] at H
  obtain ⟨rfl, rfl⟩ := H
  go_enter Tryd.func13, Tryd.ntmps13
  go_wp2_with (first | ((with_reducible refine gate_dst (N := 1) rfl ?_); refine box_event ?hg (N := 1) ?hd (cs := #[.int .i64 a0_0, .int .i64 a0_1]) (t := 23) ?hr ?_; (case hd => rfl); (case hg => rfl); (case hr => first | (go_simp; done) | (go_simp; rfl)); intro gb180 hg w23 hbox hb; have n0_ := Aside0.mk (below_step (by repeat (first | (with_reducible first | exact HB.out | apply below_alloc | apply pw_below_drewN | apply below_drew1) | exact HB.out)) hb); have n1_ := Aside0.mk (hbox); have n2_ := Aside0.mk ((by rw [hg]; exact (below_size (by repeat (first | (with_reducible first | exact HB.out | apply below_alloc | apply pw_below_drewN | apply below_drew1) | exact HB.out))) : w.heap.size ≤ gb180)); have n3_ := Aside0.mk ((by rw [hg]; exact (below_size (by repeat (first | (with_reducible first | exact HB.out | apply below_alloc | apply pw_below_drewN | apply below_drew1) | exact HB.out))) : w.heap.size ≤ gb180)); clear HB; have HB := n0_; have BK180 := n1_; have GW180 := n2_; have GE180 := n3_; clear n0_ n1_ n2_ n3_; clear hb hbox hg; have hcz24_0 : w23.cell? ⟨gb180, 0, none⟩ = some (.int .i64 a0_0) := (blk_cell BK180.out 0).trans rfl; have hcz24_1 : w23.cell? ⟨gb180, 1, none⟩ = some (.int .i64 a0_1) := (blk_cell BK180.out 1).trans rfl; have hfz24_0 := blk_frozen BK180.out 0; have hfz24_1 := blk_frozen BK180.out 1) | ((with_reducible refine gate_callee (f := 15) rfl ?_); refine goesL_ (some 9) rfl rfl Tryd.func15 (by kernel_rfl) rfl #[.agg #[.int .i64 a0_0, .int .i64 a0_1]] rfl (by (try simp only [List.map_toArray, List.map_cons, List.map_nil]); first | done | rfl | (simp only [List.length_drop, List.length_take]; rfl)) ?_; (with_reducible refine (spileref03_Check.calls k a0_0 a0_1 t181 _ A2.out).mono ?_); rintro e w25 ⟨rfl, hb⟩; refine ⟨_, rfl, ?_⟩; have n0_ := Aside0.mk (blk_below (g := gb180) (o := .cells #[.int .i64 a0_0, .int .i64 a0_1] 23 (0, 0)) (by (with_reducible repeat (first | refine blk_drewN ?_ _ | refine blk_drew ?_ | refine blk_alloc ?_ _)); exact BK180.out) hb); have n1_ := Aside0.mk (below_step (by repeat (first | (with_reducible first | exact HB.out | apply below_alloc | apply pw_below_drewN | apply below_drew1 | refine below_set ?_ GE180.out) | exact HB.out)) hb); clear BK180; clear HB; have BK180 := n0_; have HB := n1_; clear n0_ n1_; (try clear hb); (try clear hb2); (try clear hk); (try clear hi)))
  go_ret2
  exact ⟨by first | rfl | (simp [errW_none, errW_some] <;> rfl) | (simp [*, errW_none, errW_some] <;> rfl), by repeat (first | (with_reducible first | exact HB.out | apply below_alloc | apply pw_below_drewN | apply below_drew1 | refine below_set ?_ GE180.out) | exact HB.out)⟩
end Go.Proofs.YtmjglehdckgcnaaDoor.Pr
namespace Go.Proofs.YtmjglehdckgcnaaDoor.Pr
open Go.RowKit Go.Proofs.YtmjglehdckgcnaaDoorW.PrintWords Go.Proofs.YtmjglehdckgcnaaDoorW.PrintLast Go.Proofs.YtmjglehdckgcnaaDoorW.PrintMore Go.Proofs.YtmjglehdckgcnaaDoor.X
attribute [local go_sem] max2_int min2_int max_two min_two max_three min_three max_four min_four   -- for this text's walks alone
set_option linter.unusedVariables false
set_option linter.unusedSimpArgs false
def spilelaw03_UnitChecks.f (k : Nat) (a0_0 : Int) (a0_1 : Int) (a1 : ByteArray) : Option (Bool) := (spilelaw03_awake.f).bind fun t192 => (if t192 = true then (if (a1.size : Int) > 100 then (some true) else ((unit_Unit.f k a1).bind fun bt193 => ((spileref03_Unit.f k a1).bind fun bt196 => ((unit_Best.f k a0_0 a0_1).bind fun bt199 => ((spileref03_Best.f k a0_0 a0_1).bind fun bt201 => (if bt193.1 = bt196.1 then (if bt193.2.1 = bt196.2.1 then (if bt193.2.2 = bt196.2.2 then (if bt199.1.toList = bt201.1.toList then (if bt199.2 = bt201.2 then ((unit_Check.f k a0_0 a0_1).bind fun t203 => ((spileref03_Check.f k a0_0 a0_1).bind fun t204 => (some (t203 == t204)))) else (some false)) else (some false)) else (some false)) else (some false)) else (some false))))))) else (some false))
def spilelaw03_UnitChecks.T9 : Bool × List (List Nat × List Nat) := (true, [([], []), ([], []), ([0, 1], [0, 1]), ([2], [2]), ([3], [3]), ([3], [3]), ([4, 5, 3], [3, 4, 5]), ([3, 6], [3, 6]), ([7, 3], [7]), ([8], [8]), ([8], [8]), ([9, 10, 8], [8, 9, 10]), ([8, 11], [8, 11]), ([12, 8], [12]), ([13], [13]), ([13], [13]), ([14, 15, 13], [13, 14, 15]), ([13, 16], [13, 16]), ([17, 13], [17]), ([18], [18]), ([18], [18]), ([19, 20, 18], [18, 19, 20]), ([18, 21], [18, 21]), ([22, 18], [22]), ([23], [23]), ([24, 23, 23], [23, 24]), ([23], [23]), ([26, 25, 23], [23, 26]), ([25, 27, 23], [23, 25, 27]), ([23, 28], [23, 28]), ([29, 27, 0, 1, 2, 3, 4, 5, 6, 7, 8, 9, 10, 11, 12, 13, 14, 15, 16, 17, 18, 19, 20, 21, 22, 23, 24, 25, 26, 27, 28, 29], [29])])
def spilelaw03_UnitChecks.B9 : List Nat := [0, 0, 3, 7, 15, 15, 63, 127, 255, 511, 511, 2047, 4095, 8191, 16383, 16383, 65535, 131071, 262143, 524287, 524287, 2097151, 4194303, 8388607, 16777215, 33554431, 16777215, 134217727, 268435455, 536870911, 1073741823]
theorem spilelaw03_UnitChecks.tab9 : rtab .any (opsOf Tryd.f3 9) = spilelaw03_UnitChecks.T9 := by kernel_rfl
theorem spilelaw03_UnitChecks.bits9 : waitsOk spilelaw03_UnitChecks.T9.2 spilelaw03_UnitChecks.B9 = true := by kernel_rfl
set_option maxHeartbeats 8000000 in
set_option maxRecDepth 100000 in
theorem spilelaw03_UnitChecks.calls (k : Nat) (a0_0 : Int) (a0_1 : Int) (a1 : ByteArray) (r : Bool) (w : World) (hG : GI w) (hr_ : r = true) (h : spilelaw03_UnitChecks.f k a0_0 a0_1 a1 = some r) :
  Calls Tryd.prog 3 #[.agg #[.int .i64 a0_0, .int .i64 a0_1], .string a1] w fun e w' => e = .returned (.bool r) ∧ Below w.heap.size w w' := by
 have hu23 := Tryd.underlying23
 have HG := Aside0.mk hG
 clear hG
 have HB := Aside0.mk (Below.refl w.heap.size w)
 have H : ((spilelaw03_awake.f).bind fun t192 => (if t192 = true then (if (a1.size : Int) > 100 then (some true) else ((unit_Unit.f k a1).bind fun bt193 => ((spileref03_Unit.f k a1).bind fun bt196 => ((unit_Best.f k a0_0 a0_1).bind fun bt199 => ((spileref03_Best.f k a0_0 a0_1).bind fun bt201 => (if bt193.1 = bt196.1 then (if bt193.2.1 = bt196.2.1 then (if bt193.2.2 = bt196.2.2 then (if bt199.1.toList = bt201.1.toList then (if bt199.2 = bt201.2 then ((unit_Check.f k a0_0 a0_1).bind fun t203 => ((spileref03_Check.f k a0_0 a0_1).bind fun t204 => (some (t203 == t204)))) else (some false)) else (some false)) else (some false)) else (some false)) else (some false))))))) else (some false))) = some r := h
 clear h
 replace H := Option.bind_eq_some_iff.mp H
 obtain ⟨t192, A30, H⟩ := H
 replace H : (if t192 = true then (if (a1.size : Int) > 100 then (some true) else ((unit_Unit.f k a1).bind fun bt193 => ((spileref03_Unit.f k a1).bind fun bt196 => ((unit_Best.f k a0_0 a0_1).bind fun bt199 => ((spileref03_Best.f k a0_0 a0_1).bind fun bt201 => (if bt193.1 = bt196.1 then (if bt193.2.1 = bt196.2.1 then (if bt193.2.2 = bt196.2.2 then (if bt199.1.toList = bt201.1.toList then (if bt199.2 = bt201.2 then ((unit_Check.f k a0_0 a0_1).bind fun t203 => ((spileref03_Check.f k a0_0 a0_1).bind fun t204 => (some (t203 == t204)))) else (some false)) else (some false)) else (some false)) else (some false)) else (some false))))))) else (some false)) = some r := H
 have A3 := Aside0.mk A30
 clear A30
 by_cases c4 : t192 = true
 ·
  subst c4
  have H1 : (if (a1.size : Int) > 100 then (some true) else ((unit_Unit.f k a1).bind fun bt193 => ((spileref03_Unit.f k a1).bind fun bt196 => ((unit_Best.f k a0_0 a0_1).bind fun bt199 => ((spileref03_Best.f k a0_0 a0_1).bind fun bt201 => (if bt193.1 = bt196.1 then (if bt193.2.1 = bt196.2.1 then (if bt193.2.2 = bt196.2.2 then (if bt199.1.toList = bt201.1.toList then (if bt199.2 = bt201.2 then ((unit_Check.f k a0_0 a0_1).bind fun t203 => ((spileref03_Check.f k a0_0 a0_1).bind fun t204 => (some (t203 == t204)))) else (some false)) else (some false)) else (some false)) else (some false)) else (some false))))))) = some r := by rw [if_pos rfl] at H; exact H
  clear H
  have H := H1
  clear H1
  by_cases c5 : (a1.size : Int) > 100
  ·
   rw [if_pos c5] at H
   have c5b0 : decide (100 < (a1.size : Int)) = true := decide_eq_true c5
   have c5b1 : decide (100 < a1.size) = true := decide_eq_true (by omega)
   clear c5
   obtain rfl := Option.some.inj H
   go_enter Tryd.func3, Tryd.ntmps3
   go_wp2_with (first | ((with_reducible refine gate_dst (N := 2) rfl ?_); refine box_event ?hg (N := 2) ?hd (cs := #[.int .i64 a0_0, .int .i64 a0_1]) (t := 23) ?hr ?_; (case hd => rfl); (case hg => rfl); (case hr => first | (go_simp; done) | (go_simp; rfl)); intro gb191 hg w6 hbox hb; have n0_ := Aside0.mk (below_step (by repeat (first | (with_reducible first | exact HB.out | apply below_alloc | apply pw_below_drewN | apply below_drew1) | exact HB.out)) hb); have n1_ := Aside0.mk (hbox); have n2_ := Aside0.mk ((by rw [hg]; exact (below_size (by repeat (first | (with_reducible first | exact HB.out | apply below_alloc | apply pw_below_drewN | apply below_drew1) | exact HB.out))) : w.heap.size ≤ gb191)); have n3_ := Aside0.mk ((by rw [hg]; exact (below_size (by repeat (first | (with_reducible first | exact HB.out | apply below_alloc | apply pw_below_drewN | apply below_drew1) | exact HB.out))) : w.heap.size ≤ gb191)); clear HB; have HB := n0_; have BK191 := n1_; have GW191 := n2_; have GE191 := n3_; clear n0_ n1_ n2_ n3_; clear hb hbox hg) | ((with_reducible refine gate_callee (f := 9) rfl ?_); refine goesL_ (some 15) rfl rfl Tryd.func9 (by kernel_rfl) rfl #[] rfl (by (try simp only [List.map_toArray, List.map_cons, List.map_nil]); first | done | rfl | (simp only [List.length_drop, List.length_take]; rfl)) ?_; (with_reducible refine (spilelaw03_awake.calls  true _ ?side1 A3.out).mono ?_); (case side1 => exact GI.below HG.out (by repeat (first | (with_reducible first | exact HB.out | apply below_alloc | apply pw_below_drewN | apply below_drew1 | refine below_set ?_ GE191.out) | exact HB.out))); rintro e w7 ⟨rfl, hb⟩; refine ⟨_, rfl, ?_⟩; have n0_ := Aside0.mk (blk_below (g := gb191) (o := .cells #[.int .i64 a0_0, .int .i64 a0_1] 23 (0, 0)) (by (with_reducible repeat (first | refine blk_drewN ?_ _ | refine blk_drew ?_ | refine blk_alloc ?_ _)); exact BK191.out) hb); have n1_ := Aside0.mk (below_step (by repeat (first | (with_reducible first | exact HB.out | apply below_alloc | apply pw_below_drewN | apply below_drew1 | refine below_set ?_ GE191.out) | exact HB.out)) hb); clear BK191; clear HB; have BK191 := n0_; have HB := n1_; clear n0_ n1_; (try clear hb); (try clear hb2); (try clear hk); (try clear hi)))
   go_ret
   exact ⟨by first | rfl | (simp [errW_none, errW_some] <;> rfl) | (simp [*, errW_none, errW_some] <;> rfl), by repeat (first | (with_reducible first | exact HB.out | apply below_alloc | apply pw_below_drewN | apply below_drew1 | refine below_set ?_ GE191.out) | exact HB.out)⟩
  ·
   rw [if_neg c5] at H
   have c5b0 : decide (100 < (a1.size : Int)) = false := decide_eq_false c5
   have c5b1 : decide (100 < a1.size) = false := decide_eq_false (by omega)
   clear c5
   replace H := Option.bind_eq_some_iff.mp H
   obtain ⟨⟨t193, t194, t195⟩, A80, H⟩ := H
   replace H : ((spileref03_Unit.f k a1).bind fun bt196 => ((unit_Best.f k a0_0 a0_1).bind fun bt199 => ((spileref03_Best.f k a0_0 a0_1).bind fun bt201 => (if t193 = bt196.1 then (if t194 = bt196.2.1 then (if t195 = bt196.2.2 then (if bt199.1.toList = bt201.1.toList then (if bt199.2 = bt201.2 then ((unit_Check.f k a0_0 a0_1).bind fun t203 => ((spileref03_Check.f k a0_0 a0_1).bind fun t204 => (some (t203 == t204)))) else (some false)) else (some false)) else (some false)) else (some false)) else (some false))))) = some r := H
   have A8 := Aside0.mk A80
   clear A80
   replace H := Option.bind_eq_some_iff.mp H
   obtain ⟨⟨t196, t197, t198⟩, A90, H⟩ := H
   replace H : ((unit_Best.f k a0_0 a0_1).bind fun bt199 => ((spileref03_Best.f k a0_0 a0_1).bind fun bt201 => (if t193 = t196 then (if t194 = t197 then (if t195 = t198 then (if bt199.1.toList = bt201.1.toList then (if bt199.2 = bt201.2 then ((unit_Check.f k a0_0 a0_1).bind fun t203 => ((spileref03_Check.f k a0_0 a0_1).bind fun t204 => (some (t203 == t204)))) else (some false)) else (some false)) else (some false)) else (some false)) else (some false)))) = some r := H
   have A9 := Aside0.mk A90
   clear A90
   replace H := Option.bind_eq_some_iff.mp H
   obtain ⟨⟨t199, t200⟩, A100, H⟩ := H
   replace H : ((spileref03_Best.f k a0_0 a0_1).bind fun bt201 => (if t193 = t196 then (if t194 = t197 then (if t195 = t198 then (if t199.toList = bt201.1.toList then (if t200 = bt201.2 then ((unit_Check.f k a0_0 a0_1).bind fun t203 => ((spileref03_Check.f k a0_0 a0_1).bind fun t204 => (some (t203 == t204)))) else (some false)) else (some false)) else (some false)) else (some false)) else (some false))) = some r := H
   have A10 := Aside0.mk A100
   clear A100
   replace H := Option.bind_eq_some_iff.mp H
   obtain ⟨⟨t201, t202⟩, A110, H⟩ := H
   replace H : (if t193 = t196 then (if t194 = t197 then (if t195 = t198 then (if t199.toList = t201.toList then (if t200 = t202 then ((unit_Check.f k a0_0 a0_1).bind fun t203 => ((spileref03_Check.f k a0_0 a0_1).bind fun t204 => (some (t203 == t204)))) else (some false)) else (some false)) else (some false)) else (some false)) else (some false)) = some r := H
   have A11 := Aside0.mk A110
   clear A110
   by_cases c12 : t193 = t196
   ·
    rw [if_pos c12] at H
    have c12b0 : (t193 == t196) = true := beq_iff_eq.mpr c12
    have c12b1 : (t193 != t196) = false := bne_eq_false_iff_eq.mpr c12
    clear c12
    by_cases c13 : t194 = t197
    ·
     rw [if_pos c13] at H
     have c13b0 : (t194 == t197) = true := beq_iff_eq.mpr c13
     have c13b1 : (t194 != t197) = false := bne_eq_false_iff_eq.mpr c13
     clear c13
     by_cases c14 : t195 = t198
     ·
      rw [if_pos c14] at H
      have c14b0 : (t195 == t198) = true := beq_iff_eq.mpr c14
      have c14b1 : (t195 != t198) = false := bne_eq_false_iff_eq.mpr c14
      clear c14
      by_cases c15 : t199.toList = t201.toList
      ·
       rw [if_pos c15] at H
       have c15b0 : (t199.toList == t201.toList) = true := beq_iff_eq.mpr c15
       have c15b1 : (t199.toList != t201.toList) = false := bne_eq_false_iff_eq.mpr c15
       clear c15
       by_cases c16 : t200 = t202
       ·
        rw [if_pos c16] at H
        have c16b0 : (t200 == t202) = true := beq_iff_eq.mpr c16
        have c16b1 : (t200 != t202) = false := bne_eq_false_iff_eq.mpr c16
        clear c16
        replace H := Option.bind_eq_some_iff.mp H
        obtain ⟨t203, A170, H⟩ := H
        replace H : ((spileref03_Check.f k a0_0 a0_1).bind fun t204 => (some (t203 == t204))) = some r := H
        have A17 := Aside0.mk A170
        clear A170
        replace H := Option.bind_eq_some_iff.mp H
        obtain ⟨t204, A180, H⟩ := H
        replace H : (some (t203 == t204)) = some r := H
        have A18 := Aside0.mk A180
        clear A180
        obtain rfl := Option.some.inj H
        go_enter Tryd.func3, Tryd.ntmps3
        try go_wp2_with (first | ((with_reducible refine gate_dst (N := 2) rfl ?_); refine box_event ?hg (N := 2) ?hd (cs := #[.int .i64 a0_0, .int .i64 a0_1]) (t := 23) ?hr ?_; (case hd => rfl); (case hg => rfl); (case hr => first | (go_simp; done) | (go_simp; rfl)); intro gb191 hg w19 hbox hb; have n0_ := Aside0.mk (below_step (by repeat (first | (with_reducible first | exact HB.out | apply below_alloc | apply pw_below_drewN | apply below_drew1) | exact HB.out)) hb); have n1_ := Aside0.mk (hbox); have n2_ := Aside0.mk ((by rw [hg]; exact (below_size (by repeat (first | (with_reducible first | exact HB.out | apply below_alloc | apply pw_below_drewN | apply below_drew1) | exact HB.out))) : w.heap.size ≤ gb191)); have n3_ := Aside0.mk ((by rw [hg]; exact (below_size (by repeat (first | (with_reducible first | exact HB.out | apply below_alloc | apply pw_below_drewN | apply below_drew1) | exact HB.out))) : w.heap.size ≤ gb191)); clear HB; have HB := n0_; have BK191 := n1_; have GW191 := n2_; have GE191 := n3_; clear n0_ n1_ n2_ n3_; clear hb hbox hg) | ((with_reducible refine gate_callee (f := 9) rfl ?_); refine goesL_ (some 15) rfl rfl Tryd.func9 (by kernel_rfl) rfl #[] rfl (by (try simp only [List.map_toArray, List.map_cons, List.map_nil]); first | done | rfl | (simp only [List.length_drop, List.length_take]; rfl)) ?_; (with_reducible refine (spilelaw03_awake.calls  true _ ?side1 A3.out).mono ?_); (case side1 => exact GI.below HG.out (by repeat (first | (with_reducible first | exact HB.out | apply below_alloc | apply pw_below_drewN | apply below_drew1 | refine below_set ?_ GE191.out) | exact HB.out))); rintro e w20 ⟨rfl, hb⟩; refine ⟨_, rfl, ?_⟩; have n0_ := Aside0.mk (blk_below (g := gb191) (o := .cells #[.int .i64 a0_0, .int .i64 a0_1] 23 (0, 0)) (by (with_reducible repeat (first | refine blk_drewN ?_ _ | refine blk_drew ?_ | refine blk_alloc ?_ _)); exact BK191.out) hb); have n1_ := Aside0.mk (below_step (by repeat (first | (with_reducible first | exact HB.out | apply below_alloc | apply pw_below_drewN | apply below_drew1 | refine below_set ?_ GE191.out) | exact HB.out)) hb); clear BK191; clear HB; have BK191 := n0_; have HB := n1_; clear n0_ n1_; (try clear hb); (try clear hb2); (try clear hk); (try clear hi)) | ((with_reducible refine gate_callee (f := 10) rfl ?_); refine goesL_ (some 22) rfl rfl Tryd.func10 (by kernel_rfl) rfl #[.string a1] rfl (by (try simp only [List.map_toArray, List.map_cons, List.map_nil]); first | done | rfl | (simp only [List.length_drop, List.length_take]; rfl)) ?_; (with_reducible refine (unit_Unit.calls k a1 t193 t194 t195 _ A8.out).mono ?_); rintro e w21 ⟨rfl, hb⟩; refine ⟨_, rfl, ?_⟩; have n0_ := Aside0.mk (blk_below (g := gb191) (o := .cells #[.int .i64 a0_0, .int .i64 a0_1] 23 (0, 0)) (by (with_reducible repeat (first | refine blk_drewN ?_ _ | refine blk_drew ?_ | refine blk_alloc ?_ _)); exact BK191.out) hb); have n1_ := Aside0.mk (below_step (by repeat (first | (with_reducible first | exact HB.out | apply below_alloc | apply pw_below_drewN | apply below_drew1 | refine below_set ?_ GE191.out) | exact HB.out)) hb); clear BK191; clear HB; have BK191 := n0_; have HB := n1_; clear n0_ n1_; (try clear hb); (try clear hb2); (try clear hk); (try clear hi)) | ((with_reducible refine gate_callee (f := 11) rfl ?_); refine goesL_ (some 28) rfl rfl Tryd.func11 (by kernel_rfl) rfl #[.string a1] rfl (by (try simp only [List.map_toArray, List.map_cons, List.map_nil]); first | done | rfl | (simp only [List.length_drop, List.length_take]; rfl)) ?_; (with_reducible refine (spileref03_Unit.calls k a1 t196 t197 t198 _ A9.out).mono ?_); rintro e w22 ⟨rfl, hb⟩; refine ⟨_, rfl, ?_⟩; have n0_ := Aside0.mk (blk_below (g := gb191) (o := .cells #[.int .i64 a0_0, .int .i64 a0_1] 23 (0, 0)) (by (with_reducible repeat (first | refine blk_drewN ?_ _ | refine blk_drew ?_ | refine blk_alloc ?_ _)); exact BK191.out) hb); have n1_ := Aside0.mk (below_step (by repeat (first | (with_reducible first | exact HB.out | apply below_alloc | apply pw_below_drewN | apply below_drew1 | refine below_set ?_ GE191.out) | exact HB.out)) hb); clear BK191; clear HB; have BK191 := n0_; have HB := n1_; clear n0_ n1_; (try clear hb); (try clear hb2); (try clear hk); (try clear hi); have hcz23_0 : w22.cell? ⟨gb191, 0, none⟩ = some (.int .i64 a0_0) := (blk_cell BK191.out 0).trans rfl; have hcz23_1 : w22.cell? ⟨gb191, 1, none⟩ = some (.int .i64 a0_1) := (blk_cell BK191.out 1).trans rfl; have hfz23_0 := blk_frozen BK191.out 0; have hfz23_1 := blk_frozen BK191.out 1) | ((with_reducible refine gate_callee (f := 12) rfl ?_); refine goesL_ (some 34) rfl rfl Tryd.func12 (by kernel_rfl) rfl #[.agg #[.int .i64 a0_0, .int .i64 a0_1]] rfl (by (try simp only [List.map_toArray, List.map_cons, List.map_nil]); first | done | rfl | (simp only [List.length_drop, List.length_take]; rfl)) ?_; (with_reducible refine (unit_Best.calls k a0_0 a0_1 t199 t200 _ A10.out).mono ?_); rintro e w24 ⟨rfl, hb⟩; refine ⟨_, rfl, ?_⟩; have n0_ := Aside0.mk (blk_below (g := gb191) (o := .cells #[.int .i64 a0_0, .int .i64 a0_1] 23 (0, 0)) (by (with_reducible repeat (first | refine blk_drewN ?_ _ | refine blk_drew ?_ | refine blk_alloc ?_ _)); exact BK191.out) hb); have n1_ := Aside0.mk (below_step (by repeat (first | (with_reducible first | exact HB.out | apply below_alloc | apply pw_below_drewN | apply below_drew1 | refine below_set ?_ GE191.out) | exact HB.out)) hb); clear BK191; clear HB; have BK191 := n0_; have HB := n1_; clear n0_ n1_; (try clear hb); (try clear hb2); (try clear hk); (try clear hi); have hcz25_0 : w24.cell? ⟨gb191, 0, none⟩ = some (.int .i64 a0_0) := (blk_cell BK191.out 0).trans rfl; have hcz25_1 : w24.cell? ⟨gb191, 1, none⟩ = some (.int .i64 a0_1) := (blk_cell BK191.out 1).trans rfl; have hfz25_0 := blk_frozen BK191.out 0; have hfz25_1 := blk_frozen BK191.out 1) | ((with_reducible refine gate_callee (f := 13) rfl ?_); refine goesL_ (some 39) rfl rfl Tryd.func13 (by kernel_rfl) rfl #[.agg #[.int .i64 a0_0, .int .i64 a0_1]] rfl (by (try simp only [List.map_toArray, List.map_cons, List.map_nil]); first | done | rfl | (simp only [List.length_drop, List.length_take]; rfl)) ?_; (with_reducible refine (spileref03_Best.calls k a0_0 a0_1 t201 t202 _ A11.out).mono ?_); rintro e w26 ⟨rfl, hb⟩; refine ⟨_, rfl, ?_⟩; have n0_ := Aside0.mk (blk_below (g := gb191) (o := .cells #[.int .i64 a0_0, .int .i64 a0_1] 23 (0, 0)) (by (with_reducible repeat (first | refine blk_drewN ?_ _ | refine blk_drew ?_ | refine blk_alloc ?_ _)); exact BK191.out) hb); have n1_ := Aside0.mk (below_step (by repeat (first | (with_reducible first | exact HB.out | apply below_alloc | apply pw_below_drewN | apply below_drew1 | refine below_set ?_ GE191.out) | exact HB.out)) hb); clear BK191; clear HB; have BK191 := n0_; have HB := n1_; clear n0_ n1_; (try clear hb); (try clear hb2); (try clear hk); (try clear hi)))
        have n0_ := Aside0.mk (blk_drew BK191.out)
        have n1_ := Aside0.mk (below_drew1 HB.out)
        clear BK191
        clear HB
        have BK191 := n0_
        have HB := n1_
        clear n0_ n1_
        refine start_ (n := 31) (S := fun w' => w'.cell? ⟨gb191, 0, none⟩ = some (.int .i64 a0_0) ∧ w'.cell? ⟨gb191, 1, none⟩ = some (.int .i64 a0_1)) (ds := []) #[false, false, false, false, false, false, false, false, false, false, false, false, false, false, false, false, false, false, false, false, false, false, false, false, false, false, false, false, false, false, false] (by kernel_rfl) rfl rfl ⟨(blk_cell BK191.out 0).trans rfl, (blk_cell BK191.out 1).trans rfl⟩ (fun hHeld => ?_); refine with_tabW spilelaw03_UnitChecks.tab9 spilelaw03_UnitChecks.bits9 (fun HT_ HW_ => ?_)
        generalize w26.drew = w27 at BK191 HB hHeld ⊢
        refine pure_ (i := 0) (N := some 42) (v := ?_) (a' := ?_) #[true, false, false, false, false, false, false, false, false, false, false, false, false, false, false, false, false, false, false, false, false, false, false, false, false, false, false, false, false, false, false] rfl rfl (any_of HT_.out (by kernel_rfl)) (fun _ _ _ h => h) (Or.inl ⟨by rfl, ?_⟩) ?_ ?_
        rotate_left
        ·
         intro w'
         go_simp
         with_reducible rfl
        rotate_left
        ·
         simp only [Act.put, List.setIfInBounds_toArray, List.set_cons_zero, List.set_cons_succ, i64_w, i32_w]
         rfl
        refine pure_ (i := 1) (N := some 43) (v := ?_) (a' := ?_) #[true, true, false, false, false, false, false, false, false, false, false, false, false, false, false, false, false, false, false, false, false, false, false, false, false, false, false, false, false, false, false] rfl rfl (any_of HT_.out (by kernel_rfl)) (fun _ _ _ h => h) (Or.inl ⟨by rfl, ?_⟩) ?_ ?_
        rotate_left
        ·
         intro w'
         go_simp
         with_reducible rfl
        rotate_left
        ·
         simp only [Act.put, List.setIfInBounds_toArray, List.set_cons_zero, List.set_cons_succ, i64_w, i32_w]
         rfl
        refine pure_ (i := 2) (N := some 44) (v := ?_) (a' := ?_) #[true, true, true, false, false, false, false, false, false, false, false, false, false, false, false, false, false, false, false, false, false, false, false, false, false, false, false, false, false, false, false] rfl rfl (any_of HT_.out (by kernel_rfl)) (fun _ _ _ h => h) (Or.inl ⟨by rfl, ?_⟩) ?_ ?_
        rotate_left
        ·
         intro w'
         go_simp
         with_reducible rfl
        rotate_left
        ·
         simp only [Act.put, List.setIfInBounds_toArray, List.set_cons_zero, List.set_cons_succ, i64_w, i32_w]
         rfl
        refine pure_ (i := 3) (N := some 45) (v := ?_) (a' := ?_) #[true, true, true, true, false, false, false, false, false, false, false, false, false, false, false, false, false, false, false, false, false, false, false, false, false, false, false, false, false, false, false] rfl rfl (any_of HT_.out (by kernel_rfl)) (fun _ _ _ h => h) (Or.inl ⟨by rfl, ?_⟩) ?_ ?_
        rotate_left
        ·
         intro w'
         go_simp
         with_reducible rfl
        rotate_left
        ·
         simp only [Act.put, List.setIfInBounds_toArray, List.set_cons_zero, List.set_cons_succ, i64_w, i32_w]
         rfl
        refine pure_ (i := 4) (N := some 46) (v := ?_) (a' := ?_) #[true, true, true, true, true, false, false, false, false, false, false, false, false, false, false, false, false, false, false, false, false, false, false, false, false, false, false, false, false, false, false] rfl rfl (any_of HT_.out (by kernel_rfl)) (fun _ _ _ h => h) (Or.inl ⟨by rfl, ?_⟩) ?_ ?_
        rotate_left
        ·
         intro w'
         go_simp
         with_reducible rfl
        rotate_left
        ·
         simp only [Act.put, List.setIfInBounds_toArray, List.set_cons_zero, List.set_cons_succ, i64_w, i32_w]
         rfl
        refine pure_ (i := 5) (N := some 47) (v := ?_) (a' := ?_) #[true, true, true, true, true, true, false, false, false, false, false, false, false, false, false, false, false, false, false, false, false, false, false, false, false, false, false, false, false, false, false] rfl rfl (any_of HT_.out (by kernel_rfl)) (fun _ _ _ h => h) (Or.inl ⟨by rfl, ?_⟩) ?_ ?_
        rotate_left
        ·
         intro w'
         go_simp
         with_reducible rfl
        rotate_left
        ·
         simp only [Act.put, List.setIfInBounds_toArray, List.set_cons_zero, List.set_cons_succ, i64_w, i32_w]
         rfl
        refine pure_ (i := 6) (N := some 48) (v := ?_) (a' := ?_) #[true, true, true, true, true, true, true, false, false, false, false, false, false, false, false, false, false, false, false, false, false, false, false, false, false, false, false, false, false, false, false] rfl rfl (any_of HT_.out (by kernel_rfl)) (fun _ _ _ h => h) (Or.inl ⟨by rfl, ?_⟩) ?_ ?_
        rotate_left
        ·
         intro w'
         go_simp
         with_reducible rfl
        rotate_left
        ·
         simp only [Act.put, List.setIfInBounds_toArray, List.set_cons_zero, List.set_cons_succ, i64_w, i32_w]
         rfl
        refine pure_ (i := 7) (N := some 49) (v := ?_) (a' := ?_) #[true, true, true, true, true, true, true, true, false, false, false, false, false, false, false, false, false, false, false, false, false, false, false, false, false, false, false, false, false, false, false] rfl rfl (any_of HT_.out (by kernel_rfl)) (fun _ _ _ h => h) (Or.inl ⟨by rfl, ?_⟩) ?_ ?_
        rotate_left
        ·
         intro w'
         go_simp
         with_reducible rfl
        rotate_left
        ·
         simp only [Act.put, List.setIfInBounds_toArray, List.set_cons_zero, List.set_cons_succ, i64_w, i32_w]
         rfl
        refine pure_ (i := 8) (N := some 50) (v := ?_) (a' := ?_) #[true, true, true, true, true, true, true, true, true, false, false, false, false, false, false, false, false, false, false, false, false, false, false, false, false, false, false, false, false, false, false] rfl rfl (any_of HT_.out (by kernel_rfl)) (fun _ _ _ h => h) (Or.inl ⟨by rfl, ?_⟩) ?_ ?_
        rotate_left
        ·
         intro w'
         go_simp
         with_reducible rfl
        rotate_left
        ·
         simp only [Act.put, List.setIfInBounds_toArray, List.set_cons_zero, List.set_cons_succ, i64_w, i32_w]
         rfl
        refine pure_ (i := 9) (N := some 51) (v := ?_) (a' := ?_) #[true, true, true, true, true, true, true, true, true, true, false, false, false, false, false, false, false, false, false, false, false, false, false, false, false, false, false, false, false, false, false] rfl rfl (any_of HT_.out (by kernel_rfl)) (fun _ _ _ h => h) (Or.inl ⟨by rfl, ?_⟩) ?_ ?_
        rotate_left
        ·
         intro w'
         go_simp
         with_reducible rfl
        rotate_left
        ·
         simp only [Act.put, List.setIfInBounds_toArray, List.set_cons_zero, List.set_cons_succ, i64_w, i32_w]
         rfl
        refine pure_ (i := 10) (N := some 52) (v := ?_) (a' := ?_) #[true, true, true, true, true, true, true, true, true, true, true, false, false, false, false, false, false, false, false, false, false, false, false, false, false, false, false, false, false, false, false] rfl rfl (any_of HT_.out (by kernel_rfl)) (fun _ _ _ h => h) (Or.inl ⟨by rfl, ?_⟩) ?_ ?_
        rotate_left
        ·
         intro w'
         go_simp
         with_reducible rfl
        rotate_left
        ·
         simp only [Act.put, List.setIfInBounds_toArray, List.set_cons_zero, List.set_cons_succ, i64_w, i32_w]
         rfl
        refine pure_ (i := 11) (N := some 53) (v := ?_) (a' := ?_) #[true, true, true, true, true, true, true, true, true, true, true, true, false, false, false, false, false, false, false, false, false, false, false, false, false, false, false, false, false, false, false] rfl rfl (any_of HT_.out (by kernel_rfl)) (fun _ _ _ h => h) (Or.inl ⟨by rfl, ?_⟩) ?_ ?_
        rotate_left
        ·
         intro w'
         go_simp
         with_reducible rfl
        rotate_left
        ·
         simp only [Act.put, List.setIfInBounds_toArray, List.set_cons_zero, List.set_cons_succ, i64_w, i32_w]
         rfl
        refine pure_ (i := 12) (N := some 54) (v := ?_) (a' := ?_) #[true, true, true, true, true, true, true, true, true, true, true, true, true, false, false, false, false, false, false, false, false, false, false, false, false, false, false, false, false, false, false] rfl rfl (any_of HT_.out (by kernel_rfl)) (fun _ _ _ h => h) (Or.inl ⟨by rfl, ?_⟩) ?_ ?_
        rotate_left
        ·
         intro w'
         go_simp
         with_reducible rfl
        rotate_left
        ·
         simp only [Act.put, List.setIfInBounds_toArray, List.set_cons_zero, List.set_cons_succ, i64_w, i32_w]
         rfl
        refine pure_ (i := 13) (N := some 55) (v := ?_) (a' := ?_) #[true, true, true, true, true, true, true, true, true, true, true, true, true, true, false, false, false, false, false, false, false, false, false, false, false, false, false, false, false, false, false] rfl rfl (any_of HT_.out (by kernel_rfl)) (fun _ _ _ h => h) (Or.inl ⟨by rfl, ?_⟩) ?_ ?_
        rotate_left
        ·
         intro w'
         go_simp
         with_reducible rfl
        rotate_left
        ·
         simp only [Act.put, List.setIfInBounds_toArray, List.set_cons_zero, List.set_cons_succ, i64_w, i32_w]
         rfl
        refine pure_ (i := 14) (N := some 56) (v := ?_) (a' := ?_) #[true, true, true, true, true, true, true, true, true, true, true, true, true, true, true, false, false, false, false, false, false, false, false, false, false, false, false, false, false, false, false] rfl rfl (any_of HT_.out (by kernel_rfl)) (fun _ _ _ h => h) (Or.inl ⟨by rfl, ?_⟩) ?_ ?_
        rotate_left
        ·
         intro w'
         go_simp
         with_reducible rfl
        rotate_left
        ·
         simp only [Act.put, List.setIfInBounds_toArray, List.set_cons_zero, List.set_cons_succ, i64_w, i32_w]
         rfl
        refine pure_ (i := 15) (N := some 57) (v := ?_) (a' := ?_) #[true, true, true, true, true, true, true, true, true, true, true, true, true, true, true, true, false, false, false, false, false, false, false, false, false, false, false, false, false, false, false] rfl rfl (any_of HT_.out (by kernel_rfl)) (fun _ _ _ h => h) (Or.inl ⟨by rfl, ?_⟩) ?_ ?_
        rotate_left
        ·
         intro w'
         go_simp
         with_reducible rfl
        rotate_left
        ·
         simp only [Act.put, List.setIfInBounds_toArray, List.set_cons_zero, List.set_cons_succ, i64_w, i32_w]
         rfl
        refine pure_ (i := 16) (N := some 58) (v := ?_) (a' := ?_) #[true, true, true, true, true, true, true, true, true, true, true, true, true, true, true, true, true, false, false, false, false, false, false, false, false, false, false, false, false, false, false] rfl rfl (any_of HT_.out (by kernel_rfl)) (fun _ _ _ h => h) (Or.inl ⟨by rfl, ?_⟩) ?_ ?_
        rotate_left
        ·
         intro w'
         go_simp
         with_reducible rfl
        rotate_left
        ·
         simp only [Act.put, List.setIfInBounds_toArray, List.set_cons_zero, List.set_cons_succ, i64_w, i32_w]
         rfl
        refine pure_ (i := 17) (N := some 59) (v := ?_) (a' := ?_) #[true, true, true, true, true, true, true, true, true, true, true, true, true, true, true, true, true, true, false, false, false, false, false, false, false, false, false, false, false, false, false] rfl rfl (any_of HT_.out (by kernel_rfl)) (fun _ _ _ h => h) (Or.inl ⟨by rfl, ?_⟩) ?_ ?_
        rotate_left
        ·
         intro w'
         go_simp
         with_reducible rfl
        rotate_left
        ·
         simp only [Act.put, List.setIfInBounds_toArray, List.set_cons_zero, List.set_cons_succ, i64_w, i32_w]
         rfl
        refine pure_ (i := 18) (N := some 60) (v := ?_) (a' := ?_) #[true, true, true, true, true, true, true, true, true, true, true, true, true, true, true, true, true, true, true, false, false, false, false, false, false, false, false, false, false, false, false] rfl rfl (any_of HT_.out (by kernel_rfl)) (fun _ _ _ h => h) (Or.inl ⟨by rfl, ?_⟩) ?_ ?_
        rotate_left
        ·
         intro w'
         go_simp
         with_reducible rfl
        rotate_left
        ·
         simp only [Act.put, List.setIfInBounds_toArray, List.set_cons_zero, List.set_cons_succ, i64_w, i32_w]
         rfl
        refine pure_ (i := 19) (N := some 61) (v := ?_) (a' := ?_) #[true, true, true, true, true, true, true, true, true, true, true, true, true, true, true, true, true, true, true, true, false, false, false, false, false, false, false, false, false, false, false] rfl rfl (any_of HT_.out (by kernel_rfl)) (fun _ _ _ h => h) (Or.inl ⟨by rfl, ?_⟩) ?_ ?_
        rotate_left
        ·
         intro w'
         go_simp
         with_reducible rfl
        rotate_left
        ·
         simp only [Act.put, List.setIfInBounds_toArray, List.set_cons_zero, List.set_cons_succ, i64_w, i32_w]
         rfl
        refine pure_ (i := 20) (N := some 62) (v := ?_) (a' := ?_) #[true, true, true, true, true, true, true, true, true, true, true, true, true, true, true, true, true, true, true, true, true, false, false, false, false, false, false, false, false, false, false] rfl rfl (any_of HT_.out (by kernel_rfl)) (fun _ _ _ h => h) (Or.inl ⟨by rfl, ?_⟩) ?_ ?_
        rotate_left
        ·
         intro w'
         go_simp
         with_reducible rfl
        rotate_left
        ·
         simp only [Act.put, List.setIfInBounds_toArray, List.set_cons_zero, List.set_cons_succ, i64_w, i32_w]
         rfl
        refine pure_ (i := 21) (N := some 63) (v := ?_) (a' := ?_) #[true, true, true, true, true, true, true, true, true, true, true, true, true, true, true, true, true, true, true, true, true, true, false, false, false, false, false, false, false, false, false] rfl rfl (any_of HT_.out (by kernel_rfl)) (fun _ _ _ h => h) (Or.inl ⟨by rfl, ?_⟩) ?_ ?_
        rotate_left
        ·
         intro w'
         go_simp
         with_reducible rfl
        rotate_left
        ·
         simp only [Act.put, List.setIfInBounds_toArray, List.set_cons_zero, List.set_cons_succ, i64_w, i32_w]
         rfl
        refine pure_ (i := 22) (N := some 64) (v := ?_) (a' := ?_) #[true, true, true, true, true, true, true, true, true, true, true, true, true, true, true, true, true, true, true, true, true, true, true, false, false, false, false, false, false, false, false] rfl rfl (any_of HT_.out (by kernel_rfl)) (fun _ _ _ h => h) (Or.inl ⟨by rfl, ?_⟩) ?_ ?_
        rotate_left
        ·
         intro w'
         go_simp
         with_reducible rfl
        rotate_left
        ·
         simp only [Act.put, List.setIfInBounds_toArray, List.set_cons_zero, List.set_cons_succ, i64_w, i32_w]
         rfl
        refine pure_ (i := 23) (N := some 65) (v := ?_) (a' := ?_) #[true, true, true, true, true, true, true, true, true, true, true, true, true, true, true, true, true, true, true, true, true, true, true, true, false, false, false, false, false, false, false] rfl rfl (any_of HT_.out (by kernel_rfl)) (fun _ _ _ h => h) (Or.inl ⟨by rfl, ?_⟩) ?_ ?_
        rotate_left
        ·
         intro w'
         go_simp
         with_reducible rfl
        rotate_left
        ·
         simp only [Act.put, List.setIfInBounds_toArray, List.set_cons_zero, List.set_cons_succ, i64_w, i32_w]
         rfl
        refine take_ (i := 24) (N := some 66) (v := ?_) (a' := ?_) #[true, true, true, true, true, true, true, true, true, true, true, true, true, true, true, true, true, true, true, true, true, true, true, true, true, false, false, false, false, false, false] rfl rfl (take_ofW HT_.out HW_.out (by kernel_rfl)) (fun _ _ _ h => h) (Or.inl ⟨by rfl, ?_⟩) hHeld ?_ ?_
        rotate_left
        ·
         rintro w' ⟨s0, s1⟩
         go_simp
         with_reducible rfl
        rotate_left
        ·
         simp only [Act.put, List.setIfInBounds_toArray, List.set_cons_zero, List.set_cons_succ, i64_w, i32_w]
         rfl
        refine take_ (i := 26) (N := some 68) (v := ?_) (a' := ?_) #[true, true, true, true, true, true, true, true, true, true, true, true, true, true, true, true, true, true, true, true, true, true, true, true, true, false, true, false, false, false, false] rfl rfl (take_ofW HT_.out HW_.out (by kernel_rfl)) (fun _ _ _ h => h) (Or.inl ⟨by rfl, ?_⟩) hHeld ?_ ?_
        rotate_left
        ·
         rintro w' ⟨s0, s1⟩
         go_simp
         with_reducible rfl
        rotate_left
        ·
         simp only [Act.put, List.setIfInBounds_toArray, List.set_cons_zero, List.set_cons_succ, i64_w, i32_w]
         rfl
        refine one_ (i := 25) (N := some 67) #[true, true, true, true, true, true, true, true, true, true, true, true, true, true, true, true, true, true, true, true, true, true, true, true, true, true, true, false, false, false, false] rfl rfl (one_of HT_.out (by kernel_rfl)) (by decide) (fun K hK => ?_)
        refine goes_ Tryd.func14 (by kernel_rfl) rfl #[.agg #[.int .i64 a0_0, .int .i64 a0_1]] (by rfl) rfl rfl (by (try simp only [List.map_toArray, List.map_cons, List.map_nil]); first | done | rfl | (simp only [List.length_drop, List.length_take]; rfl)) ?_
        with_reducible refine (unit_Check.calls k a0_0 a0_1 t203 _ A17.out).mono ?_
        rintro e w28 ⟨rfl, hb⟩
        refine ⟨_, rfl, ?_⟩
        have n0_ := Aside0.mk (blk_below (g := gb191) (o := .cells #[.int .i64 a0_0, .int .i64 a0_1] 23 (0, 0)) (by (with_reducible repeat (first | refine blk_drewN ?_ _ | refine blk_drew ?_ | refine blk_alloc ?_ _)); exact BK191.out) hb)
        have n1_ := Aside0.mk (below_step (by repeat (first | (with_reducible first | exact HB.out | apply below_alloc | apply pw_below_drewN | apply below_drew1 | refine below_set ?_ GE191.out) | exact HB.out)) hb)
        clear BK191
        clear HB
        have BK191 := n0_
        have HB := n1_
        clear n0_ n1_
        (try clear hb)
        (try clear hb2)
        (try clear hk)
        (try clear hi)
        refine hK.out _ _ ⟨(blk_cell BK191.out 0).trans rfl, (blk_cell BK191.out 1).trans rfl⟩ (fun hHeld => ?_)
        clear hK K
        refine norm_ (a' := ?_) ?_ ?_
        rotate_left
        ·
         show Act.put _ (some 67) _ = _
         simp only [Act.put, List.setIfInBounds_toArray, List.set_cons_zero, List.set_cons_succ, i64_w, i32_w]
         rfl
        refine one_ (i := 27) (N := some 69) #[true, true, true, true, true, true, true, true, true, true, true, true, true, true, true, true, true, true, true, true, true, true, true, true, true, true, true, true, false, false, false] rfl rfl (one_of HT_.out (by kernel_rfl)) (by decide) (fun K hK => ?_)
        refine goes_ Tryd.func15 (by kernel_rfl) rfl #[.agg #[.int .i64 a0_0, .int .i64 a0_1]] (by rfl) rfl rfl (by (try simp only [List.map_toArray, List.map_cons, List.map_nil]); first | done | rfl | (simp only [List.length_drop, List.length_take]; rfl)) ?_
        with_reducible refine (spileref03_Check.calls k a0_0 a0_1 t204 _ A18.out).mono ?_
        rintro e w29 ⟨rfl, hb⟩
        refine ⟨_, rfl, ?_⟩
        have n0_ := Aside0.mk (blk_below (g := gb191) (o := .cells #[.int .i64 a0_0, .int .i64 a0_1] 23 (0, 0)) (by (with_reducible repeat (first | refine blk_drewN ?_ _ | refine blk_drew ?_ | refine blk_alloc ?_ _)); exact BK191.out) hb)
        have n1_ := Aside0.mk (below_step (by repeat (first | (with_reducible first | exact HB.out | apply below_alloc | apply pw_below_drewN | apply below_drew1 | refine below_set ?_ GE191.out) | exact HB.out)) hb)
        clear BK191
        clear HB
        have BK191 := n0_
        have HB := n1_
        clear n0_ n1_
        (try clear hb)
        (try clear hb2)
        (try clear hk)
        (try clear hi)
        refine hK.out _ _ ⟨(blk_cell BK191.out 0).trans rfl, (blk_cell BK191.out 1).trans rfl⟩ (fun hHeld => ?_)
        clear hK K
        refine norm_ (a' := ?_) ?_ ?_
        rotate_left
        ·
         show Act.put _ (some 69) _ = _
         simp only [Act.put, List.setIfInBounds_toArray, List.set_cons_zero, List.set_cons_succ, i64_w, i32_w]
         rfl
        refine pure_ (i := 28) (N := some 70) (v := ?_) (a' := ?_) #[true, true, true, true, true, true, true, true, true, true, true, true, true, true, true, true, true, true, true, true, true, true, true, true, true, true, true, true, true, false, false] rfl rfl (any_of HT_.out (by kernel_rfl)) (fun _ _ _ h => h) (Or.inl ⟨by rfl, ?_⟩) ?_ ?_
        rotate_left
        ·
         intro w'
         go_simp
         with_reducible rfl
        rotate_left
        ·
         simp only [Act.put, List.setIfInBounds_toArray, List.set_cons_zero, List.set_cons_succ, i64_w, i32_w]
         rfl
        refine pure_ (i := 29) (N := some 71) (v := ?_) (a' := ?_) #[true, true, true, true, true, true, true, true, true, true, true, true, true, true, true, true, true, true, true, true, true, true, true, true, true, true, true, true, true, true, false] rfl rfl (any_of HT_.out (by kernel_rfl)) (fun _ _ _ h => h) (Or.inl ⟨by rfl, ?_⟩) ?_ ?_
        rotate_left
        ·
         intro w'
         go_simp
         with_reducible rfl
        rotate_left
        ·
         simp only [Act.put, List.setIfInBounds_toArray, List.set_cons_zero, List.set_cons_succ, i64_w, i32_w]
         rfl
        refine pure_ (i := 30) (N := some 4) (v := ?_) (a' := ?_) #[true, true, true, true, true, true, true, true, true, true, true, true, true, true, true, true, true, true, true, true, true, true, true, true, true, true, true, true, true, true, true] rfl rfl (any_of HT_.out (by kernel_rfl)) (fun _ _ _ h => h) (Or.inl ⟨by rfl, ?_⟩) ?_ ?_
        rotate_left
        ·
         intro w'
         go_simp
         with_reducible rfl
        rotate_left
        ·
         simp only [Act.put, List.setIfInBounds_toArray, List.set_cons_zero, List.set_cons_succ, i64_w, i32_w]
         rfl
        refine done_ (done_of HT_.out (by kernel_rfl)) ?_
        try go_wp2
        go_ret
        exact ⟨by first | rfl | (simp [errW_none, errW_some] <;> rfl) | (simp [*, errW_none, errW_some] <;> rfl), by repeat (first | (with_reducible first | exact HB.out | apply below_alloc | apply pw_below_drewN | apply below_drew1 | refine below_set ?_ GE191.out) | exact HB.out)⟩
       ·
        rw [if_neg c16] at H
        have c16b0 : (t200 == t202) = false := beq_eq_false_iff_ne.mpr c16
        have c16b1 : (t200 != t202) = true := bne_iff_ne.mpr c16
        subst hr_
        exact absurd H (by simp)
      ·
       rw [if_neg c15] at H
       have c15b0 : (t199.toList == t201.toList) = false := beq_eq_false_iff_ne.mpr c15
       have c15b1 : (t199.toList != t201.toList) = true := bne_iff_ne.mpr c15
       subst hr_
       exact absurd H (by simp)
     ·
      rw [if_neg c14] at H
      have c14b0 : (t195 == t198) = false := beq_eq_false_iff_ne.mpr c14
      have c14b1 : (t195 != t198) = true := bne_iff_ne.mpr c14
      subst hr_
      exact absurd H (by simp)
    ·
     rw [if_neg c13] at H
     have c13b0 : (t194 == t197) = false := beq_eq_false_iff_ne.mpr c13
     have c13b1 : (t194 != t197) = true := bne_iff_ne.mpr c13
     subst hr_
     exact absurd H (by simp)
   ·
    rw [if_neg c12] at H
    have c12b0 : (t193 == t196) = false := beq_eq_false_iff_ne.mpr c12
    have c12b1 : (t193 != t196) = true := bne_iff_ne.mpr c12
    subst hr_
    exact absurd H (by simp)
 ·
  replace c4 := Bool.eq_false_iff.mpr c4
  subst c4
  have H1 : (some false) = some r := by rw [if_neg (show ¬ (false = true) by decide)] at H; exact H
  clear H
  have H := H1
  clear H1
  subst hr_
  exact absurd H (by simp)
def stringslite_HasSuffix.f (a0 : ByteArray) (a1 : ByteArray) : Option (Bool) := if (a0.size : Int) ≥ (a1.size : Int) then (if 0 ≤ (wrap64 ((a0.size : Int) - (a1.size : Int))) then (if (wrap64 ((a0.size : Int) - (a1.size : Int))) ≤ (a0.size : Int) then (some ((a0.extract ((wrap64 ((a0.size : Int) - (a1.size : Int))) : Int).toNat a0.size).toList == a1.toList)) else (none)) else (none)) else (some false)
def strings_HasSuffix.f (a0 : ByteArray) (a1 : ByteArray) : Option (Bool) := (stringslite_HasSuffix.f a0 a1).bind fun t208 => (some t208)
end Go.Proofs.YtmjglehdckgcnaaDoor.Pr
namespace Go.Proofs.YtmjglehdckgcnaaDoor.Opn
open Go Go.RowKit Go.Proofs.YtmjglehdckgcnaaDoorW.PrintWords Go.Proofs.YtmjglehdckgcnaaDoor.O Go.Proofs.YtmjglehdckgcnaaDoor.Pr
theorem opens3 : Opens Tryd.prog 3 (Kd.int .i64) (fun x => (Lit.int .i64 x).wf = true) := opens_int Tryd.underlying3 (by kernel_rfl)
def ok23 (x : S23) : Prop := (Lit.int .i64 x.f0).wf = true ∧ (Lit.int .i64 x.f1).wf = true
theorem opens23 : Opens Tryd.prog 23 k23 ok23 :=
  ⟨by kernel_rfl, fun H enc w base sp held fuel cs x h => by
    obtain ⟨xs, n, _, _, hl, hx, hf⟩ := DataW.trod_struct Tryd.underlying23 h
    have hc_ : Tryd.prog.cellsOf 23 = 2 := by kernel_rfl
    rw [hc_] at hl
    obtain ⟨c0, c1, rfl⟩ : ∃ c0 c1, cs = [c0, c1] := by
      clear h hf hx
      rcases cs with _ | ⟨c0, _ | ⟨c1, _ | ⟨_, _⟩⟩⟩
      all_goals first | exact ⟨_, _, rfl⟩ | (simp at hl)
    obtain ⟨y0, hy0⟩ : ∃ y, xs[0]? = some y := ⟨xs[0]'(by rw [hx]; decide), List.getElem?_eq_getElem _⟩
    have e0 : DataW.trod enc Tryd.prog w base sp held n 3 ((List.drop 0 [c0, c1]).take (Tryd.prog.cellsOf 3)) = xs[0]? := hf 0 _ rfl
    rw [hy0, show Tryd.prog.cellsOf 3 = 1 from by kernel_rfl] at e0
    obtain ⟨v0, K0, o0⟩ := opens3.2 H enc w base sp held n _ _ e0
    replace K0 : (Kd.int .i64).K w v0 [c0] := K0
    obtain ⟨y1, hy1⟩ : ∃ y, xs[1]? = some y := ⟨xs[1]'(by rw [hx]; decide), List.getElem?_eq_getElem _⟩
    have e1 : DataW.trod enc Tryd.prog w base sp held n 3 ((List.drop 1 [c0, c1]).take (Tryd.prog.cellsOf 3)) = xs[1]? := hf 1 _ rfl
    rw [hy1, show Tryd.prog.cellsOf 3 = 1 from by kernel_rfl] at e1
    obtain ⟨v1, K1, o1⟩ := opens3.2 H enc w base sp held n _ _ e1
    replace K1 : (Kd.int .i64).K w v1 [c1] := K1
    obtain rfl : c0 = _ := List.singleton_inj.1 K0
    obtain rfl : c1 = _ := List.singleton_inj.1 K1
    refine ⟨⟨v0, v1⟩, ?_, o0, o1⟩
    exact k23_mk w ⟨v0, v1⟩ ⟩
end Go.Proofs.YtmjglehdckgcnaaDoor.Opn
namespace Go.Proofs.YtmjglehdckgcnaaDoor.Pure
open Go Go.RowKit Go.Proofs.YtmjglehdckgcnaaDoor.Pr Go.Proofs.YtmjglehdckgcnaaDoor.Opn
def unitChecksPure : Prop := ∀ (a0_0 : Int) (a0_1 : Int) (a1 : ByteArray), (Lit.int .i64 a0_0).wf = true → (Lit.int .i64 a0_1).wf = true → a1.size ≤ maxLen → ∃ k, spilelaw03_UnitChecks.f k a0_0 a0_1 a1 = some true
end Go.Proofs.YtmjglehdckgcnaaDoor.Pure
namespace Go.Proofs.YtmjglehdckgcnaaDoor.SQ
def lowK (k : Int) : Int := if k = 5 then -400 else 0
def highK (k : Int) : Int := if k = 1 then 1073741824 else if k = 2 then 10000 else if k = 3 then 10737418240000 else if k = 4 then 128849018880000 else if k = 5 then 600 else if k = 6 then 100000 else if k = 7 then 1125899906842624 else 0
def errQ (q : Int × Int) : Int := if q.1 < 1 ∨ 7 < q.1 then 1 else if q.2 < lowK q.1 ∨ highK q.1 < q.2 then 2 else 0
theorem errQ_zero (q : Int × Int) : errQ q = 0 ↔ (1 ≤ q.1 ∧ q.1 ≤ 7) ∧ lowK q.1 ≤ q.2 ∧ q.2 ≤ highK q.1 := by
  unfold errQ
  split
  · constructor
    · intro h; omega
    · intro h; omega
  · split
    · constructor
      · intro h; omega
      · intro h; omega
    · constructor
      · intro _; omega
      · intro _; rfl
end Go.Proofs.YtmjglehdckgcnaaDoor.SQ
namespace Go.Proofs.YtmjglehdckgcnaaDoor.Pr
open Go Go.RowKit Go.Lib Go.Proofs.YtmjglehdckgcnaaDoorW.PrintWords Go.Proofs.YtmjglehdckgcnaaDoorW.PrintLast Go.Proofs.YtmjglehdckgcnaaDoorW.PrintMore Go.Proofs.YtmjglehdckgcnaaDoor.X Go.Proofs.YtmjglehdckgcnaaDoor.TX Go.Proofs.YtmjglehdckgcnaaDoor.PL Go.Proofs.YtmjglehdckgcnaaDoor.SQ
theorem seven {K : Int} (h : 1 ≤ K ∧ K ≤ 7) : K = 1 ∨ K = 2 ∨ K = 3 ∨ K = 4 ∨ K = 5 ∨ K = 6 ∨ K = 7 := by omega
theorem limits_eq {K : Int} (h : 1 ≤ K ∧ K ≤ 7) : unit_limits.f K = some (lowK K, highK K) := by
  rcases seven h with rfl | rfl | rfl | rfl | rfl | rfl | rfl <;> decide
theorem check_ev (K a : Int) : Ev (fun k => unit_Check.f k K a) (errQ (K, a)) := by
  unfold unit_Check.f
  by_cases h1 : K < 1
  · refine evp h1 ?_
    refine Ev.step (fun k => unit_Check.j0.eq_2 ..) ?_
    refine evp rfl (evr ?_)
    unfold errQ
    rw [if_pos (Or.inl h1)]
  · refine evn h1 ?_
    refine Ev.step (fun k => unit_Check.j0.eq_2 ..) ?_
    by_cases h7 : K > 7
    · refine evp (decide_eq_true h7) (evr ?_)
      unfold errQ
      rw [if_pos (Or.inr h7)]
    · refine evn (by simpa using h7) ?_
      refine evb (evc (fun _ => limits_eq ⟨by omega, by omega⟩) rfl) ?_
      have e : errQ (K, a) = if a < lowK K ∨ highK K < a then 2 else 0 := by
        unfold errQ
        exact if_neg (by show ¬ (K < 1 ∨ 7 < K); omega)
      rw [e]
      show Ev (fun n => if a < lowK K then some 2 else if a > highK K then some 2 else some 0) (if a < lowK K ∨ highK K < a then 2 else 0)
      by_cases c1 : a < lowK K
      · exact evp c1 (evr (if_pos (Or.inl c1)).symm)
      · refine evn c1 ?_
        by_cases c2 : a > highK K
        · exact evp c2 (evr (if_pos (Or.inr c2)).symm)
        · exact evn c2 (evr (if_neg (by omega)).symm)
theorem err_bounds {K a : Int} (h : errQ (K, a) = 0) : (1 ≤ K ∧ K ≤ 7) ∧ -1000 ≤ a ∧ a ≤ 1125899906842624 := by
  obtain ⟨h1, h2, h3⟩ := (errQ_zero (K, a)).1 h
  have h1 : 1 ≤ K ∧ K ≤ 7 := h1
  have h2 : lowK K ≤ a := h2
  have h3 : a ≤ highK K := h3
  refine ⟨h1, ?_, ?_⟩
  · have : -1000 ≤ lowK K := by unfold lowK; split <;> omega
    omega
  · have : highK K ≤ 1125899906842624 := by rcases seven h1 with rfl | rfl | rfl | rfl | rfl | rfl | rfl <;> decide
    omega
theorem ev_from {α : Type} {g : Nat → Option α} {r : α} (n : Nat) (h : ∀ k, n ≤ k → g k = some r) : Ev g r := ⟨n, h⟩
def unitR (s : ByteArray) : Int × Int × Int := match unitAt s.data.toList with
  | none => (0, 0, 4)
  | some p => (p.1, ((10 ^ p.2.toNat : Nat) : Int), 0)
theorem unit_ev {s : ByteArray} (hs : s.size ≤ 1000) : Ev (fun k => unit_Unit.f k s) (unitR s) :=
  ev_from 12 fun k hk => by
    unfold unit_Unit.f unitR
    rw [if_pos ⟨hk, hs⟩]
    cases unitAt s.data.toList <;> rfl
def bestR (K a : Int) : ByteArray × Int := if errQ (K, a) = 0 then (⟨(bestL K (mx a (wrap64 (-a)))).toArray⟩, 0) else (⟨#[]⟩, 1)
theorem best_ev (K a : Int) : Ev (fun k => unit_Best.f k K a) (bestR K a) := by
  unfold unit_Best.f bestR
  refine evb (check_ev K a) ?_
  by_cases c : errQ (K, a) = 0
  · rw [if_pos c]
    refine evp c ?_
    exact ev_from 12 fun k hk => by rw [if_pos ⟨(err_bounds c).1, hk⟩]
  · rw [if_neg c]
    exact evn c (evr rfl)
def printR (K a : Int) (s : ByteArray) : ByteArray × Int := if errQ (K, a) = 0 then (match unitAt s.data.toList with
  | none => (⟨#[]⟩, 4)
  | some p => if p.1 = K then (textB a p.2 s, 0) else (⟨#[]⟩, 10)) else (⟨#[]⟩, 1)
def parse2R (kd : Int) (z : Nat) (neg : Bool) (wl pl : List UInt8) : Int × Int × Int :=
  if z < pl.length then (0, 0, 2) else if 18 < (trimLeftS (wl ++ (pl ++ List.replicate (z - pl.length) 48)) [48]).length then (0, 0, 2)
  else if errQ (kd, signed neg (valT z wl pl)) = 0 then (kd, signed neg (valT z wl pl), 0) else (0, 0, errQ (kd, signed neg (valT z wl pl)))
def parseR (s : ByteArray) : Int × Int × Int :=
  if (s.size : Int) > 64 then (0, 0, 8) else match unitAt (cut1 32 s.data.toList).2.1 with
  | none => (0, 0, 3)
  | some p => match numT (cut1 32 s.data.toList).1 with
    | none => (0, 0, 3)
    | some q => parse2R p.1 p.2.toNat q.1 q.2.1 q.2.2
/-- What is read, if it is read. -/
theorem parse_ok {s : ByteArray} {K a : Int} (h : parseR s = (K, a, 0)) : ∃ z neg wl pl, ¬ (s.size : Int) > 64 ∧ unitAt (cut1 32 s.data.toList).2.1 = some (K, z) ∧ 0 ≤ z ∧ z ≤ 8 ∧ numT (cut1 32 s.data.toList).1 = some (neg, wl, pl)
    ∧ pl.length ≤ z.toNat ∧ a = signed neg (valT z.toNat wl pl) ∧ errQ (K, a) = 0 := by
  unfold parseR at h
  split at h
  · cases h
  · rename_i c
    cases hu : unitAt (cut1 32 s.data.toList).2.1 with
    | none => rw [hu] at h; cases h
    | some p =>
      obtain ⟨kd, z⟩ := p
      rw [hu] at h
      cases hq : numT (cut1 32 s.data.toList).1 with
      | none => rw [hq] at h; cases h
      | some q =>
        obtain ⟨neg, wl, pl⟩ := q
        rw [hq] at h
        have h : parse2R kd z.toNat neg wl pl = (K, a, 0) := h
        have hsm := unit_small hu
        unfold parse2R at h
        split at h
        · cases h
        · rename_i c1
          split at h
          · cases h
          · split at h
            · rename_i c3
              simp only [Prod.mk.injEq] at h
              obtain ⟨rfl, rfl, -⟩ := h
              exact ⟨z, neg, wl, pl, c, rfl, hsm.2.1, hsm.2.2, rfl, by omega, rfl, c3⟩
            · rename_i c3
              simp only [Prod.mk.injEq] at h
              exact absurd h.2.2 c3
theorem cut_flag {s : List UInt8} {p : Int × Int} (h : unitAt (cut1 32 s).2.1 = some p) : (cut1 32 s).2.2 = true := by
  cases c : (cut1 32 s).2.2 with
  | true => rfl
  | false => exact absurd (cut1_no 32 s c).2 (unitAt_ne h)
/-- A number that is read with a sign is not 0. -/
theorem num_neg {s wl pl : List UInt8} {z : Nat} (h : numT s = some (true, wl, pl)) (hp : pl.length ≤ z) : valT z wl pl ≠ 0 := by
  intro e
  have h1 := decT_numT h hp
  rw [e] at h1
  have h2 : s = [45, 48] := by
    rw [← h1]
    unfold decT
    rw [Nat.zero_div, Nat.zero_mod, rest_zero, digits_small (by decide)]
    decide
  have h3 : numT [45, 48] = none := by decide
  rw [h2, h3] at h
  cases h
theorem signed_abs (neg : Bool) (n : Nat) : (signed neg n).natAbs = n := by
  unfold signed
  split <;> omega
theorem signed_neg {neg : Bool} {n : Nat} (h : neg = true → n ≠ 0) : decide (signed neg n < 0) = neg := by
  unfold signed
  cases neg with
  | true =>
    have := h rfl
    rw [if_pos rfl]
    exact decide_eq_true (by omega)
  | false =>
    rw [if_neg (by simp)]
    exact decide_eq_false (by omega)
/-- What is read is printed as it was. -/
theorem again {s : ByteArray} {K a : Int} (h : parseR s = (K, a, 0)) : (cut1 32 s.data.toList).2.2 = true ∧ printR K a ⟨(cut1 32 s.data.toList).2.1.toArray⟩ = (s, 0) ∧ errQ (K, a) = 0 := by
  obtain ⟨z, neg, wl, pl, hs, hu, h0, h8, hq, hpz, rfl, he⟩ := parse_ok h
  have hf := cut_flag hu
  refine ⟨hf, ?_, he⟩
  unfold printR
  rw [if_pos he]
  show (match unitAt (cut1 32 s.data.toList).2.1 with | none => _ | some p => _) = _
  rw [hu]
  show (if K = K then (textB (signed neg (valT z.toNat wl pl)) z ⟨(cut1 32 s.data.toList).2.1.toArray⟩, (0 : Int)) else (⟨#[]⟩, 10)) = _
  rw [if_pos rfl]
  refine Prod.ext ?_ rfl
  apply bytes_ext
  show decT (decide (signed neg (valT z.toNat wl pl) < 0)) z.toNat (signed neg (valT z.toNat wl pl)).natAbs ++ 32 :: (cut1 32 s.data.toList).2.1 = s.data.toList
  rw [signed_abs, signed_neg (fun e => by subst e; exact num_neg hq hpz), decT_numT hq hpz]
  exact (cut1_sum 32 s.data.toList hf).symm
end Go.Proofs.YtmjglehdckgcnaaDoor.Pr
namespace Go.Proofs.YtmjglehdckgcnaaDoor.Pr
open Go Go.RowKit Go.Lib Go.Proofs.YtmjglehdckgcnaaDoorW.PrintWords Go.Proofs.YtmjglehdckgcnaaDoorW.PrintLast Go.Proofs.YtmjglehdckgcnaaDoorW.PrintMore Go.Proofs.YtmjglehdckgcnaaDoor.X Go.Proofs.YtmjglehdckgcnaaDoor.TX Go.Proofs.YtmjglehdckgcnaaDoor.PL Go.Proofs.YtmjglehdckgcnaaDoor.SQ
theorem unitR_at {s : ByteArray} {kd z : Int} (h : unitAt s.data.toList = some (kd, z)) : unitR s = (kd, ((10 ^ z.toNat : Nat) : Int), 0) := by
  unfold unitR
  rw [h]
def pw (z : Int) : Int := ((10 ^ z.toNat : Nat) : Int)
end Go.Proofs.YtmjglehdckgcnaaDoor.Pr
namespace Go.Proofs.YtmjglehdckgcnaaDoor.Pr
open Go Go.RowKit Go.Lib Go.Proofs.YtmjglehdckgcnaaDoorW.PrintWords Go.Proofs.YtmjglehdckgcnaaDoorW.PrintLast Go.Proofs.YtmjglehdckgcnaaDoorW.PrintMore Go.Proofs.YtmjglehdckgcnaaDoor.X Go.Proofs.YtmjglehdckgcnaaDoor.TX Go.Proofs.YtmjglehdckgcnaaDoor.PL Go.Proofs.YtmjglehdckgcnaaDoor.SQ
theorem in_eq {K : Int} (a : Int) (h : 1 ≤ K ∧ K ≤ 7) : spileref03_in.f K a = some (decide (lowK K ≤ a ∧ a ≤ highK K)) := by
  have g : ∀ (c : Prop) [Decidable c] (m : Int), (if c then some (decide (a ≤ m)) else some false : Option Bool) = some (decide (c ∧ a ≤ m)) := by
    intro c _ m
    by_cases q : c
    · rw [if_pos q]; simp [q]
    · rw [if_neg q]; simp [q]
  rcases seven h with rfl | rfl | rfl | rfl | rfl | rfl | rfl
  · have e : spileref03_in.f 1 a = if a ≥ 0 then some (decide (a ≤ 1073741824)) else some false := by kernel_rfl
    exact (e.trans (g (a ≥ 0) 1073741824)).trans rfl
  · have e : spileref03_in.f 2 a = if a ≥ 0 then some (decide (a ≤ 10000)) else some false := by kernel_rfl
    exact (e.trans (g (a ≥ 0) 10000)).trans rfl
  · have e : spileref03_in.f 3 a = if a ≥ 0 then some (decide (a ≤ 10737418240000)) else some false := by kernel_rfl
    exact (e.trans (g (a ≥ 0) 10737418240000)).trans rfl
  · have e : spileref03_in.f 4 a = if a ≥ 0 then some (decide (a ≤ 128849018880000)) else some false := by kernel_rfl
    exact (e.trans (g (a ≥ 0) 128849018880000)).trans rfl
  · have e : spileref03_in.f 5 a = if a ≥ (-400) then some (decide (a ≤ 600)) else some false := by kernel_rfl
    exact (e.trans (g (a ≥ (-400)) 600)).trans rfl
  · have e : spileref03_in.f 6 a = if a ≥ 0 then some (decide (a ≤ 100000)) else some false := by kernel_rfl
    exact (e.trans (g (a ≥ 0) 100000)).trans rfl
  · have e : spileref03_in.f 7 a = if a ≥ 0 then some (decide (a ≤ 1125899906842624)) else some false := by kernel_rfl
    exact (e.trans (g (a ≥ 0) 1125899906842624)).trans rfl
theorem rcheck_ev (K a : Int) : Ev (fun k => spileref03_Check.f k K a) (errQ (K, a)) := by
  unfold spileref03_Check.f
  by_cases h1 : K < 1
  · refine evp h1 ?_
    refine Ev.step (fun k => spileref03_Check.j0.eq_2 ..) ?_
    refine evp rfl (evr ?_)
    unfold errQ
    rw [if_pos (Or.inl h1)]
  · refine evn h1 ?_
    refine Ev.step (fun k => spileref03_Check.j0.eq_2 ..) ?_
    by_cases h7 : K > 7
    · refine evp (decide_eq_true h7) (evr ?_)
      unfold errQ
      rw [if_pos (Or.inr h7)]
    · refine evn (by simpa using h7) ?_
      refine evb (evc (fun _ => in_eq a ⟨by omega, by omega⟩) rfl) ?_
      have e : errQ (K, a) = if a < lowK K ∨ highK K < a then 2 else 0 := by
        unfold errQ
        exact if_neg (by show ¬ (K < 1 ∨ 7 < K); omega)
      rw [e]
      by_cases c1 : lowK K ≤ a ∧ a ≤ highK K
      · exact evp (decide_eq_true c1) (evr (if_neg (by omega)).symm)
      · exact evn (by simpa using c1) (evr (if_pos (by omega)).symm)
def bs (e : List UInt8 × (Int × Int)) : ByteArray := ⟨e.1.toArray⟩
theorem names_eq {K : Int} (h : 1 ≤ K ∧ K ≤ 7) : spileref03_names.f K = some ((kindL K).map bs) := by
  rcases seven h with rfl | rfl | rfl | rfl | rfl | rfl | rfl <;> kernel_rfl
theorem factors_eq {K : Int} (h : 1 ≤ K ∧ K ≤ 7) : spileref03_factors.f K = some ((kindL K).map fun e => pw e.2.2) := by
  rcases seven h with rfl | rfl | rfl | rfl | rfl | rfl | rfl <;> kernel_rfl
theorem kind_len (K : Int) : (kindL K).length ≤ 15 := List.length_filter_le _ _
theorem bs_at {L : List (List UInt8 × (Int × Int))} {i : Nat} (h : i < L.length) : rdOf ByteArray.empty (L.map bs) (i : Int) = bs L[i] := by
  unfold rdOf
  rw [Int.toNat_natCast, List.getD_eq_getElem?_getD, List.getElem?_eq_getElem (by rw [List.length_map]; exact h), List.getElem_map]
  rfl
theorem pw_at {L : List (List UInt8 × (Int × Int))} {i : Nat} (h : i < L.length) : rd (L.map fun e => pw e.2.2) (i : Int) = pw L[i].2.2 := by
  unfold rd
  rw [Int.toNat_natCast, List.getD_eq_getElem?_getD, List.getElem?_eq_getElem (by rw [List.length_map]; exact h), List.getElem_map]
  rfl
theorem bs_eq {e : List UInt8 × (Int × Int)} {s : ByteArray} : (bs e).toList = s.toList ↔ e.1 = s.data.toList := by
  rw [ByteArray.toList_eq, ByteArray.toList_eq]
  exact Iff.rfl
theorem kind_unit {K : Int} (hK : 1 ≤ K ∧ K ≤ 7) : ∀ e, e ∈ kindL K → unitAt e.1 = some (K, e.2.2) := by
  have hmem : K ∈ ([1, 2, 3, 4, 5, 6, 7] : List Int) := by
    obtain ⟨h1, h2⟩ := hK
    simp only [List.mem_cons, List.not_mem_nil, or_false]
    omega
  exact (kind_at K hmem).1
theorem l1_hit {K z : Int} (hK : 1 ≤ K ∧ K ≤ 7) {s : ByteArray} (hu : unitAt s.data.toList = some (K, z)) : ∀ (d i : Nat), i + d = (kindL K).length → (s.data.toList, (K, z)) ∈ (kindL K).drop i → Ev (fun k => spileref03_Unit.l1 k s K ((kindL K).map bs) (i : Int)) (K, pw z, 0)
  | 0, i, hi, hm => by
    rw [List.drop_of_length_le (by omega)] at hm
    cases hm
  | d + 1, i, hi, hm => by
    have hl := kind_len K
    have hil : i < (kindL K).length := by omega
    have h := kind_unit hK _ (List.getElem_mem hil)
    refine Ev.step (fun k => spileref03_Unit.l1.eq_2 ..) ?_
    refine evp (by rw [List.length_map]; omega) (evp (by omega) ?_)
    rw [bs_at hil]
    by_cases c : (kindL K)[i].1 = s.data.toList
    · refine evp (bs_eq.2 c) ?_
      refine evb (evc (fun _ => factors_eq hK) rfl) ?_
      refine evp (by rw [List.length_map]; omega) (evr ?_)
      rw [pw_at hil]
      rw [c, hu] at h
      rw [← congrArg Prod.snd (Option.some.inj h)]
    · refine evn (fun q => c (bs_eq.1 q)) ?_
      rw [w64 (by omega) (by omega), show ((i : Int) + 1) = ((i + 1 : Nat) : Int) by omega]
      refine l1_hit hK hu d (i + 1) (by omega) ?_
      rw [List.drop_eq_getElem_cons hil] at hm
      rcases List.mem_cons.1 hm with q | q
      · exact absurd (by rw [← q]) c
      · exact q
theorem l1_miss {K : Int} {r : Int × Int × Int} (hK : 1 ≤ K ∧ K ≤ 7) {s : ByteArray} (hu : ∀ z, unitAt s.data.toList ≠ some (K, z)) (hr : Ev (fun k => spileref03_Unit.l0 k s (K + 1)) r) : ∀ (d i : Nat), i + d = (kindL K).length → Ev (fun k => spileref03_Unit.l1 k s K ((kindL K).map bs) (i : Int)) r
  | 0, i, hi => by
    refine Ev.step (fun k => spileref03_Unit.l1.eq_2 ..) ?_
    refine evn (by rw [List.length_map]; omega) ?_
    rw [w64 (by omega) (by omega)]
    exact hr
  | d + 1, i, hi => by
    have hl := kind_len K
    have hil : i < (kindL K).length := by omega
    have h := kind_unit hK _ (List.getElem_mem hil)
    refine Ev.step (fun k => spileref03_Unit.l1.eq_2 ..) ?_
    refine evp (by rw [List.length_map]; omega) (evp (by omega) ?_)
    rw [bs_at hil]
    refine evn (fun q => hu _ (by rw [← bs_eq.1 q]; exact h)) ?_
    rw [w64 (by omega) (by omega), show ((i : Int) + 1) = ((i + 1 : Nat) : Int) by omega]
    exact l1_miss hK hu hr d (i + 1) (by omega)
theorem runit_from (s : ByteArray) : ∀ (d : Nat) (K : Int), 1 ≤ K → K + d = 8 → (∀ p, unitAt s.data.toList = some p → K ≤ p.1) → Ev (fun k => spileref03_Unit.l0 k s K) (unitR s)
  | 0, K, h1, hd, hp => by
    refine Ev.step (fun k => spileref03_Unit.l0.eq_2 ..) ?_
    refine evn (by omega) (evr ?_)
    unfold unitR
    cases hu : unitAt s.data.toList with
    | none => rfl
    | some p =>
      have := hp p hu
      have := (unit_small hu).1.2
      omega
  | d + 1, K, h1, hd, hp => by
    have hK : 1 ≤ K ∧ K ≤ 7 := ⟨h1, by omega⟩
    refine Ev.step (fun k => spileref03_Unit.l0.eq_2 ..) ?_
    refine evp hK.2 ?_
    refine evb (evc (fun _ => names_eq hK) rfl) ?_
    by_cases c : ∃ z, unitAt s.data.toList = some (K, z)
    · obtain ⟨z, hz⟩ := c
      rw [unitR_at hz]
      exact l1_hit hK hz (kindL K).length 0 (by omega) (by rw [List.drop_zero]; exact kind_mem hz)
    · refine l1_miss hK (fun z q => c ⟨z, q⟩) ?_ (kindL K).length 0 (by omega)
      refine runit_from s d (K + 1) (by omega) (by omega) ?_
      intro p hq
      have := hp p hq
      have : p.1 ≠ K := fun e => c ⟨p.2, by rw [hq, ← e]⟩
      omega
theorem runit_ev (s : ByteArray) : Ev (fun k => spileref03_Unit.f k s) (unitR s) :=
  runit_from s 7 1 (by omega) (by omega) fun p hp => (unit_small hp).1.1
theorem rbest_loop {K a : Int} : ∀ (d i : Nat) (b : ByteArray), i + d = (kindL K).length → Ev (fun k => spileref03_Best.l0 k ((kindL K).map bs) ((kindL K).map fun e => pw e.2.2) b (i : Int) K a) ((⟨(bestIn (mx a (wrap64 (-a))) b.data.toList ((kindL K).drop i)).toArray⟩ : ByteArray), 0)
  | 0, i, b, hi => by
    refine Ev.step (fun k => spileref03_Best.l0.eq_2 ..) ?_
    rw [List.drop_of_length_le (by omega)]
    exact evn (by rw [List.length_map]; omega) (evr rfl)
  | d + 1, i, b, hi => by
    have hl := kind_len K
    have hil : i < (kindL K).length := by omega
    refine Ev.step (fun k => spileref03_Best.l0.eq_2 ..) ?_
    refine evp (by rw [List.length_map]; omega) (evp (by omega) (evp (by rw [List.length_map]; omega) ?_))
    rw [bs_at hil, pw_at hil, w64 (x := (i : Int) + 1) (by omega) (by omega), show ((i : Int) + 1) = ((i + 1 : Nat) : Int) by omega, List.drop_eq_getElem_cons hil]
    unfold bestIn
    by_cases c : pw (kindL K)[i].2.2 ≤ mx a (wrap64 (-a))
    · rw [if_pos (show ((10 ^ (kindL K)[i].2.2.toNat : Nat) : Int) ≤ mx a (wrap64 (-a)) from c)]
      exact evp c (rbest_loop d (i + 1) (bs (kindL K)[i]) (by omega))
    · rw [if_neg (show ¬ ((10 ^ (kindL K)[i].2.2.toNat : Nat) : Int) ≤ mx a (wrap64 (-a)) from c)]
      exact evn c (rbest_loop d (i + 1) b (by omega))
theorem rbest_ev (K a : Int) : Ev (fun k => spileref03_Best.f k K a) (bestR K a) := by
  unfold spileref03_Best.f bestR
  refine evb (rcheck_ev K a) ?_
  by_cases c : errQ (K, a) = 0
  · rw [if_pos c]
    have hK := (err_bounds c).1
    refine evp c ?_
    refine evb (evc (fun _ => names_eq hK) rfl) ?_
    refine evb (evc (fun _ => factors_eq hK) rfl) ?_
    have hmem : K ∈ ([1, 2, 3, 4, 5, 6, 7] : List Int) := by
      obtain ⟨h1, h2⟩ := hK
      simp only [List.mem_cons, List.not_mem_nil, or_false]
      omega
    have hne : 0 < (kindL K).length := by
      rcases Nat.eq_zero_or_pos (kindL K).length with q | q
      · exact absurd (List.eq_nil_of_length_eq_zero q) (kind_at K hmem).2.2
      · exact q
    refine evp (by rw [List.length_map]; omega) ?_
    have e : rdOf ByteArray.empty ((kindL K).map bs) 0 = bs (kindL K)[0] := bs_at hne
    rw [e]
    have h := rbest_loop (K := K) (a := a) (kindL K).length 0 (bs (kindL K)[0]) (by omega)
    have e2 : bestL K (mx a (wrap64 (-a))) = bestIn (mx a (wrap64 (-a))) (bs (kindL K)[0]).data.toList ((kindL K).drop 0) := by
      unfold bestL
      rw [List.drop_zero, List.head?_eq_getElem?, List.getElem?_eq_getElem hne]
      rfl
    rw [e2]
    exact h
  · rw [if_neg c]
    exact evn c (evr rfl)
end Go.Proofs.YtmjglehdckgcnaaDoor.Pr
namespace Go.Proofs.YtmjglehdckgcnaaDoor.Pure
open Go Go.RowKit Go.Lib Go.Proofs.YtmjglehdckgcnaaDoorW.PrintWords Go.Proofs.YtmjglehdckgcnaaDoorW.PrintLast Go.Proofs.YtmjglehdckgcnaaDoorW.PrintMore Go.Proofs.YtmjglehdckgcnaaDoor.X Go.Proofs.YtmjglehdckgcnaaDoor.Pr Go.Proofs.YtmjglehdckgcnaaDoor.TX Go.Proofs.YtmjglehdckgcnaaDoor.PL Go.Proofs.YtmjglehdckgcnaaDoor.SQ
theorem UnitChecks : unitChecksPure := by
  intro K a s hK ha hs
  refine Ev.rounds (?_ : Ev (fun k => spilelaw03_UnitChecks.f k K a s) true)
  unfold spilelaw03_UnitChecks.f
  refine evb (evc (fun _ => rfl) rfl : Ev (fun _ => spilelaw03_awake.f) true) ?_
  refine evp rfl ?_
  by_cases c : (s.size : Int) > 100
  · exact evp c (evr rfl)
  · refine evn c ?_
    refine evb (unit_ev (by omega)) ?_
    refine evb (runit_ev s) ?_
    refine evb (best_ev K a) ?_
    refine evb (rbest_ev K a) ?_
    refine evp rfl (evp rfl (evp rfl (evp rfl (evp rfl ?_))))
    refine evb (check_ev K a) ?_
    refine evb (rcheck_ev K a) (evr ?_)
    exact beq_iff_eq.2 rfl
end Go.Proofs.YtmjglehdckgcnaaDoor.Pure
namespace Go.Proofs.YtmjglehdckgcnaaDoor.X
open Go
variable {H : Type} {enc : TypeId × Value → H}
theorem wrap_shaped {a : Assume} {C : Checked} {os : Os} {f : FuncId} {fn : Func} {s : ChangeSpec} {conds : List PathCond} {apart fresh handsOn again : Bool} {X : World → Array Value → Prop}
    (hX : ∀ (w w' : World) (args : Array Value), w.heap = w'.heap → X w args → X w' args)
    (own : ownKnob C.prog.godebug = none) (started : os.Started) (noInit : C.prog.inits.idxOf? f = none) (hfn : C.prog.funcs[f]? = some fn)
    (witness : ∃ (w : World) (tape : Tape) (i : Input), w.os = os ∧ (w.forCall tape i).Shaped C.prog ∧ i.vars = [] ∧ Input.okWide C.prog (w.forCall tape i) .any w.heap.size f i ∧
      ((s.pre enc C.prog fn conds apart (w.forCall tape i).memory i.args ∧ X (w.forCall tape i).memory i.args) ∧ sizedMet enc C.prog fn (OpenSpec.ofChange s) apart (w.forCall tape i).memory i.args) ∧ a.holds C.prog (lone (Frame.enter C.prog f i.args .normal) [] (w.forCall tape i)))
    (walk : ∀ (W : World) (base : Nat) (args : Array Value) (ds gs : List (DataW H)) (before : List MemPlace),
      (∀ (j : Nat) t v, fn.params[j]? = some t → args[j]? = some v → Value.okWide C.prog W .any base t v) →
      DataW.Whole enc C.prog fn.params.toList s.vars apart W args.toList ds gs before → X W args → W.ShapedOpen C.prog →
      Calls C.prog f args W fun e W' => ∃ v, e = .returned v ∧ s.post enc C.prog fn apart fresh handsOn again W args v W') :
    ReturnsInHanded a C os f .any (fun w args => (s.pre enc C.prog fn conds apart w args ∧ X w args) ∧ sizedMet enc C.prog fn (OpenSpec.ofChange s) apart w args) (s.post enc C.prog fn apart fresh handsOn again) := by
  refine returnsInHanded_of_calls own started noInit witness ?_
  intro w tape i _ hsh _ hok hpre _
  obtain ⟨_, _, _, fn', hfn', _, _, _, _, hval⟩ := hok
  obtain rfl : fn' = fn := Option.some.inj (hfn'.symm.trans hfn)
  obtain ⟨⟨⟨ds, gs, before, hw, _⟩, hx⟩, _⟩ := hpre
  refine (walk (w.forCall tape i) w.heap.size i.args ds gs before hval (DataW.Whole.of_heap (w' := w.forCall tape i) (by rfl) hw) (hX _ _ _ (by rfl) hx) hsh).mono fun e W' ⟨v, he, hp⟩ => ?_
  subst he
  exact ChangeSpec.post_blind hp
end Go.Proofs.YtmjglehdckgcnaaDoor.X
namespace Go.Proofs.YtmjglehdckgcnaaDoor.unitChecks
open Go Go.ChangeShapes Go.WideShapes Go.ChangeAt Go.RowKit
open Go.ChangeMaps (open_string shut_string)
open Go.Proofs.YtmjglehdckgcnaaDoorW.PrintWords Go.Proofs.YtmjglehdckgcnaaDoor.O Go.Proofs.YtmjglehdckgcnaaDoor.Opn Go.Proofs.YtmjglehdckgcnaaDoor.Pr Go.Proofs.YtmjglehdckgcnaaDoor.X
theorem own : ownKnob Tryd.prog.godebug = none := by kernel_rfl
theorem laidOut : laidOutB Tryd.prog = true := by kernel_rfl
abbrev laidL : List (String × DataW Unit) := [("math/bits.deBruijn32tab", Rows.laid_math_bits_deBruijn32tab), ("math/bits.deBruijn64tab", Rows.laid_math_bits_deBruijn64tab), ("internal/strconv.uint64pow10", Rows.laid_internal_strconv_uint64pow10), ("unicode/utf8.acceptRanges", Rows.laid_unicode_utf8_acceptRanges), ("strconv.ErrRange", Rows.laid_strconv_ErrRange), ("strconv.ErrSyntax", Rows.laid_strconv_ErrSyntax), ("unicode/utf8.first", Rows.laid_unicode_utf8_first)]
set_option maxRecDepth 100000 in
theorem lifted (os : Os) (started : os.Started) (H : Type) (enc : TypeId × Value → H) :
    ReturnsInHanded {} Tryd.checked os 3 .any (fun w args => (Rows.unitChecksSpec.pre enc Tryd.prog Tryd.f3 [] false w args ∧ laidMetH Tryd.prog laidL w) ∧ sizedMet enc Tryd.prog Tryd.f3 (OpenSpec.ofChange Rows.unitChecksSpec) false w args)
      (Rows.unitChecksSpec.post enc Tryd.prog Tryd.f3 false true false false) := by
  refine wrap_shaped (C := Tryd.checked) (X := (fun w _ => laidMetH Tryd.prog laidL w)) (fun _ _ _ hh h => h.of_heap hh) own started (by kernel_rfl) Tryd.func3
    (ChangeSpec.witness_shaped (enc := enc) (C := Tryd.checked) (os := os) (X := (fun w _ => laidMetH Tryd.prog laidL w)) false (World.laidAll Tryd.prog os laidL) #[.agg #[.int .i64 0, .int .i64 0], .string ByteArray.empty] 8 (World.laidAll_os _ _ _) (World.shaped_of_ZipB (by kernel_rfl) (by kernel_rfl)) (by kernel_rfl) (by kernel_rfl) (by kernel_rfl) (by rw [MakeChecks.laidMetH_plain _ _ _ (by kernel_rfl)]; exact laidMet_laidAll _ (by kernel_rfl) (by kernel_rfl))) ?_
  intro W base args ds gs before hval0 hW hL hsh
  have hval : ∀ (j : Nat) t v, Tryd.f3.params[j]? = some t → args[j]? = some v → Value.okWide Tryd.prog W .any base t v := hval0
  have hW' := hW
  obtain ⟨p, q, hA0, hV, rfl, hfz, hnd⟩ := hW
  have hA : DataW.TrodAll enc Tryd.prog W 0 (fun _ => true) true Tryd.f3.params.toList args.toList ds p := hA0
  rw [Tryd.params3] at hA hval
  obtain ⟨v0, vs0, d0, ds0, p0, q0, hargs, rfl, rfl, h0, r0⟩ := trodAll_cons hA
  obtain ⟨v1, vs1, d1, ds1, p1, q1, rfl, rfl, rfl, h1, r1⟩ := trodAll_cons r0
  obtain ⟨rfl, rfl, rfl⟩ := trodAll_nil r1
  obtain rfl : args = #[v0, v1] := by cases args; simp_all
  obtain ⟨rfl, rfl⟩ := trodVars_none hV
  obtain ⟨cs0, rfl, _⟩ := okWide_struct Tryd.underlying23 (hval 0 23 v0 rfl rfl)
  have k0 := h0
  have lt0 : ∀ x ∈ p0, x.block < W.heap.size := by obtain ⟨m, hm⟩ := k0; exact DataW.trod_lt m _ _ _ hm
  obtain ⟨x0, K0, ok0⟩ : ∃ x, k23.K W x cs0.toList ∧ ok23 x := by
    obtain ⟨fuel, hf⟩ := h0
    exact opens23.2 _ _ _ _ _ _ _ _ _ hf
  have e0 := k23_open K0
  obtain rfl : cs0 = #[.int .i64 (x0.f0), .int .i64 (x0.f1)] := by cases cs0; simpa using e0
  obtain ⟨a1, rfl, rfl, rfl, y1⟩ := open_string Tryd.underlying9 (hval 1 9 v1 rfl rfl) h1
  clear hA0 hval0
  obtain ⟨k, hp⟩ := Pure.UnitChecks (x0.f0) (x0.f1) a1 ok0.1 ok0.2 y1
  have hG : GI W := GI.of_laid laidL (by simp [laidL]) (by simp [laidL]) (by simp [laidL]) hL hsh
  refine (spilelaw03_UnitChecks.calls k (x0.f0) (x0.f1) a1 true W  hG rfl hp).mono fun e W' ⟨he, bel⟩ => ?_
  subst he
  exact ⟨_, rfl, _, _, _, [], _, [], hW', trodAll_mk1 (shut_bool Tryd.underlying4 _), (trodAll_cons_mk (Below.trod laidOut (by kernel_rfl) (of_decide_eq_true (by kernel_rfl)) k0 bel lt0) (trodAll_cons_mk (shut_string Tryd.underlying9 y1) trodAll_mk0)), rfl, bel.frame _, fun h => by cases h⟩
theorem holds : Rows.UnitChecksSaid :=
  OpenClaim.holds_of_wide 3 Tryd.f3 rfl rfl rfl rfl rfl rfl rfl ⟨rfl, rfl, rfl, rfl, rfl⟩ rfl rfl rfl rfl rfl (by kernel_rfl) Tryd.func3 (by kernel_rfl)
    (of_decide_eq_true (by kernel_rfl)) (by unfold Func.isWrapper; first | (rw [if_pos (by decide +kernel)]; kernel_rfl) | (rw [if_neg (by decide +kernel)]; exact ⟨rfl, rfl⟩))
    (fun os started H enc _ => lifted os started H enc)
theorem card : Rows.UnitChecksCardSaid :=
  Claim7.holds_tied_plain_at .later [] [.data, .data, .data, .data, .sentinel, .sentinel, .pinned] true (true, "276fe12706730ef75e144c1b8015c43b64ad7a3e181f65b1d21f8f3c42191b50") true
    holds (fun _ h => by cases h) (by kernel_rfl) (fun _ h => by cases h) unitChecks_row_tie rfl ⟨rfl, rfl⟩ (by kernel_rfl) rfl
    (fun f fn hf hfn => by
      obtain rfl : f = 3 := Option.some.inj ((show Tryd.prog.funcNamed "spile/spilelaw03.UnitChecks" = some 3 by kernel_rfl).symm.trans hf) |>.symm
      obtain rfl : fn = Tryd.f3 := (Option.some.inj (Tryd.func3.symm.trans hfn)).symm
      exact ⟨by kernel_rfl, fun j t ht => by
        rw [Tryd.params3] at ht
        have hm : t ∈ [23, 9] := by simpa using Array.mem_of_getElem? ht
        have hall : ([23, 9].all fun u => !Tryd.prog.wantsStandIn u) = true := by kernel_rfl
        exact (show Tryd.prog.wantsStandIn t = false by simpa using List.all_eq_true.1 hall t hm)⟩)
    (by kernel_rfl)
end Go.Proofs.YtmjglehdckgcnaaDoor.unitChecks
namespace Go.Proofs.YtmjglehdckgcnaaDoor
/-- The card, under a short name, for the claim. -/
theorem unitChecks_holds : Rows.UnitChecksCardSaid := unitChecks.card
#print axioms unitChecks_holds
end Go.Proofs.YtmjglehdckgcnaaDoor
