/-
The law UnitSums returns true for every input that can be read as data, and leaves its arguments as they were: the row, and the card that ties the listed variables to the program's text.
No condition of its own beyond those that the given row prints.
-/
import Derived.HandedShaped
import Derived.Handed
import Derived.Test.YtmjglehdckgcnaaDoorCards
import Derived.Test.YtmjglehdckgcnaaDoorTie
import Derived.ProofKit
import Derived.OpenShut
import Derived.ShutString
import Derived.ChangeOld
import Derived.SizedLaws
import Derived.LaidMore
import Derived.Lay
import Derived.MakeChecks
import Derived.SevenTiedAt
import Derived.LaidSub
import Derived.LaidOnce
import Derived.Stop.Joined
import Derived.Stop.LaidErr
import Derived.Test.YtmjglehdckgcnaaDoorUnitSumsD
set_option linter.unusedVariables false
set_option linter.unusedSimpArgs false
namespace Go.Proofs.YtmjglehdckgcnaaDoor.Pr
open Go.RowKit Go.Proofs.YtmjglehdckgcnaaDoorW.PrintWords Go.Proofs.YtmjglehdckgcnaaDoorW.PrintLast Go.Proofs.YtmjglehdckgcnaaDoorW.PrintMore Go.Proofs.YtmjglehdckgcnaaDoor.X
attribute [local go_sem] max2_int min2_int max_two min_two max_three min_three max_four min_four   -- for this text's walks alone
set_option linter.unusedVariables false
set_option linter.unusedSimpArgs false
mutual
def spileref03_Sum.l0 : Nat → List (S23) → Int → Option (Int × Int × Int)
 | 0, _, _ => none
 | k + 1, x0, x4 => if x4 < (x0.length : Int) then (if 0 ≤ x4 then ((spileref03_Check.f k ((rd_T23 x0 x4).f0) ((rd_T23 x0 x4).f1)).bind fun t253 => (if t253 = 0 then (spileref03_Sum.l0 k x0 (wrap64 (x4 + 1))) else (some (0, 0, 1)))) else (none)) else (if 0 < (x0.length : Int) then (spileref03_Sum.l1 k x0 0 ((rd_T23 x0 0).f0) 0) else (none))
def spileref03_Sum.l1 : Nat → List (S23) → Int → Int → Int → Option (Int × Int × Int)
 | 0, _, _, _, _ => none
 | k + 1, x0, x6, x256000, x256001 => if x6 < (x0.length : Int) then (if 0 ≤ x6 then (if ((rd_T23 x0 x6).f0) = x256000 then (spileref03_Sum.l1 k x0 (wrap64 (x6 + 1)) x256000 x256001) else (some (0, 0, 10))) else (none)) else (spileref03_Sum.l2 k x0 0 x256000 x256001)
def spileref03_Sum.l2 : Nat → List (S23) → Int → Int → Int → Option (Int × Int × Int)
 | 0, _, _, _, _ => none
 | k + 1, x0, x7, x256000, x256001 => if x7 < (x0.length : Int) then (if 0 ≤ x7 then ((spileref03_in.f x256000 (wrap64 (x256001 + ((rd_T23 x0 x7).f1)))).bind fun t258 => (if t258 = true then (spileref03_Sum.l2 k x0 (wrap64 (x7 + 1)) x256000 (wrap64 (x256001 + ((rd_T23 x0 x7).f1)))) else (some (0, 0, 15)))) else (none)) else (some (x256000, x256001, 0))
end
def spileref03_Sum.f (k : Nat) (l0 : List (S23)) : Option (Int × Int × Int) := if (l0.length : Int) > 64 then (some (0, 0, 8)) else (if (l0.length : Int) = 0 then (some (0, 0, 9)) else (spileref03_Sum.l0 k l0 0))
def spileref03_Sum.T14 : Bool × List (List Nat × List Nat) := (true, [([], []), ([], []), ([0, 1], [0, 1]), ([2], [2]), ([3], [3]), ([], []), ([5], [5]), ([4, 6], [4, 6])])
def spileref03_Sum.B14 : List Nat := [0, 0, 3, 7, 15, 0, 32, 127]
theorem spileref03_Sum.tab14 : rtab .any (opsOf Tryd.f23 14) = spileref03_Sum.T14 := by kernel_rfl
theorem spileref03_Sum.bits14 : waitsOk spileref03_Sum.T14.2 spileref03_Sum.B14 = true := by kernel_rfl
def spileref03_Sum.T19 : Bool × List (List Nat × List Nat) := (true, [([], []), ([0], [0]), ([], []), ([], []), ([2, 3], [2, 3]), ([4], [4]), ([5], [5]), ([1, 6], [1, 6]), ([0, 1, 2, 3, 4, 5, 6, 7], []), ([8, 7, 0, 1, 2, 3, 4, 5, 6, 7], [7, 8])])
def spileref03_Sum.B19 : List Nat := [0, 1, 0, 0, 12, 28, 60, 127, 255, 511]
theorem spileref03_Sum.tab19 : rtab .any (opsOf Tryd.f23 19) = spileref03_Sum.T19 := by kernel_rfl
theorem spileref03_Sum.bits19 : waitsOk spileref03_Sum.T19.2 spileref03_Sum.B19 = true := by kernel_rfl
set_option maxHeartbeats 8000000 in
set_option maxRecDepth 100000 in
theorem spileref03_Sum.calls (k : Nat) (A0 : Option Addr) (c0 : Nat) (l0 : List (S23)) (r1 : Int) (r2 : Int) (r3 : Int) (w : World) (hr0 : Kd.C k23 w A0 l0.length l0) (hc0 : l0.length ≤ c0) (h : spileref03_Sum.f k l0 = some (r1, r2, r3)) :
  Calls Tryd.prog 23 #[.slice A0 l0.length c0] w fun e w' => e = .returned (.tuple #[.agg #[.int .i64 r1, .int .i64 r2], .int .i64 r3]) ∧ Below w.heap.size w w' := by
 have hu23 := Tryd.underlying23
 have HR0 := Aside0.mk hr0
 have HC0 := Aside0.mk hc0
 clear hr0 hc0
 have HB := Aside0.mk (Below.refl w.heap.size w)
 have H : (if (l0.length : Int) > 64 then (some (0, 0, 8)) else (if (l0.length : Int) = 0 then (some (0, 0, 9)) else (spileref03_Sum.l0 k l0 0))) = some (r1, r2, r3) := h
 clear h
 by_cases c2 : (l0.length : Int) > 64
 ·
  rw [if_pos c2] at H
  have c2b0 : decide (64 < (l0.length : Int)) = true := decide_eq_true c2
  have c2b1 : decide (64 < l0.length) = true := decide_eq_true (by omega)
  clear c2
  simp only [Option.some.injEq, Prod.mk.injEq] at H
  obtain ⟨rfl, rfl, rfl⟩ := H
  go_enter Tryd.func23, Tryd.ntmps23
  go_wp2_with (first | ((with_reducible refine gate_dst (N := 2) rfl ?_); refine box_event ?hg (N := 2) ?hd (cs := #[.int .i64 0, .int .i64 0]) (t := 23) ?hr ?_; (case hd => rfl); (case hg => rfl); (case hr => first | (go_simp; done) | (go_simp; rfl)); intro gb251 hg w3 hbox hb; have n0_ := Aside0.mk (below_step (by repeat (first | (with_reducible first | exact HB.out | apply below_alloc | apply pw_below_drewN | apply below_drew1) | exact HB.out)) hb); have n1_ := Aside0.mk (hbox); have n2_ := Aside0.mk ((by rw [hg]; exact (below_size (by repeat (first | (with_reducible first | exact HB.out | apply below_alloc | apply pw_below_drewN | apply below_drew1) | exact HB.out))) : w.heap.size ≤ gb251)); have n3_ := Aside0.mk ((by rw [hg]; exact (below_size (by repeat (first | (with_reducible first | exact HB.out | apply below_alloc | apply pw_below_drewN | apply below_drew1) | exact HB.out))) : w.heap.size ≤ gb251)); clear HB; have HB := n0_; have BK251 := n1_; have GW251 := n2_; have GE251 := n3_; clear n0_ n1_ n2_ n3_; clear hb hbox hg; have hcz4_0 : w3.cell? ⟨gb251, 0, none⟩ = some (.int .i64 0) := (blk_cell BK251.out 0).trans rfl; have hcz4_1 : w3.cell? ⟨gb251, 1, none⟩ = some (.int .i64 0) := (blk_cell BK251.out 1).trans rfl; have hfz4_0 := blk_frozen BK251.out 0; have hfz4_1 := blk_frozen BK251.out 1))
  refine bodyPost_ret (results_ct rfl _ _ gb251 23 #[.int .i64 0, .int .i64 0] (0, 0) _ rfl (by (with_reducible repeat (first | refine blk_drewN ?_ _ | refine blk_drew ?_ | refine blk_alloc ?_ _)); refine blk_put (cs := #[.int .i64 0, .int .i64 0]) ?_ 1 _ rfl; (with_reducible repeat (first | refine blk_drewN ?_ _ | refine blk_drew ?_ | refine blk_alloc ?_ _)); refine blk_put (cs := #[.int .i64 0, .int .i64 0]) ?_ 0 _ rfl; (with_reducible repeat (first | refine blk_drewN ?_ _ | refine blk_drew ?_ | refine blk_alloc ?_ _)); exact BK251.out) Tryd.underlying23 rfl (by kernel_rfl)) rfl ?_
  exact ⟨by first | rfl | (simp [errW_none, errW_some] <;> rfl) | (simp [*, errW_none, errW_some] <;> rfl), by repeat (first | (with_reducible first | exact HB.out | apply below_alloc | apply pw_below_drewN | apply below_drew1 | refine below_set ?_ GE251.out) | exact HB.out)⟩
 ·
  rw [if_neg c2] at H
  have c2b0 : decide (64 < (l0.length : Int)) = false := decide_eq_false c2
  have c2b1 : decide (64 < l0.length) = false := decide_eq_false (by omega)
  clear c2
  by_cases c5 : (l0.length : Int) = 0
  ·
   rw [if_pos c5] at H
   have c5b0 : ((l0.length : Int) == 0) = true := beq_iff_eq.mpr c5
   have c5b1 : ((l0.length : Int) != 0) = false := bne_eq_false_iff_eq.mpr c5
   clear c5
   simp only [Option.some.injEq, Prod.mk.injEq] at H
   obtain ⟨rfl, rfl, rfl⟩ := H
   go_enter Tryd.func23, Tryd.ntmps23
   go_wp2_with (first | ((with_reducible refine gate_dst (N := 2) rfl ?_); refine box_event ?hg (N := 2) ?hd (cs := #[.int .i64 0, .int .i64 0]) (t := 23) ?hr ?_; (case hd => rfl); (case hg => rfl); (case hr => first | (go_simp; done) | (go_simp; rfl)); intro gb251 hg w6 hbox hb; have n0_ := Aside0.mk (below_step (by repeat (first | (with_reducible first | exact HB.out | apply below_alloc | apply pw_below_drewN | apply below_drew1) | exact HB.out)) hb); have n1_ := Aside0.mk (hbox); have n2_ := Aside0.mk ((by rw [hg]; exact (below_size (by repeat (first | (with_reducible first | exact HB.out | apply below_alloc | apply pw_below_drewN | apply below_drew1) | exact HB.out))) : w.heap.size ≤ gb251)); have n3_ := Aside0.mk ((by rw [hg]; exact (below_size (by repeat (first | (with_reducible first | exact HB.out | apply below_alloc | apply pw_below_drewN | apply below_drew1) | exact HB.out))) : w.heap.size ≤ gb251)); clear HB; have HB := n0_; have BK251 := n1_; have GW251 := n2_; have GE251 := n3_; clear n0_ n1_ n2_ n3_; clear hb hbox hg; have hcz7_0 : w6.cell? ⟨gb251, 0, none⟩ = some (.int .i64 0) := (blk_cell BK251.out 0).trans rfl; have hcz7_1 : w6.cell? ⟨gb251, 1, none⟩ = some (.int .i64 0) := (blk_cell BK251.out 1).trans rfl; have hfz7_0 := blk_frozen BK251.out 0; have hfz7_1 := blk_frozen BK251.out 1))
   refine bodyPost_ret (results_ct rfl _ _ gb251 23 #[.int .i64 0, .int .i64 0] (0, 0) _ rfl (by (with_reducible repeat (first | refine blk_drewN ?_ _ | refine blk_drew ?_ | refine blk_alloc ?_ _)); refine blk_put (cs := #[.int .i64 0, .int .i64 0]) ?_ 1 _ rfl; (with_reducible repeat (first | refine blk_drewN ?_ _ | refine blk_drew ?_ | refine blk_alloc ?_ _)); refine blk_put (cs := #[.int .i64 0, .int .i64 0]) ?_ 0 _ rfl; (with_reducible repeat (first | refine blk_drewN ?_ _ | refine blk_drew ?_ | refine blk_alloc ?_ _)); exact BK251.out) Tryd.underlying23 rfl (by kernel_rfl)) rfl ?_
   exact ⟨by first | rfl | (simp [errW_none, errW_some] <;> rfl) | (simp [*, errW_none, errW_some] <;> rfl), by repeat (first | (with_reducible first | exact HB.out | apply below_alloc | apply pw_below_drewN | apply below_drew1 | refine below_set ?_ GE251.out) | exact HB.out)⟩
  ·
   rw [if_neg c5] at H
   have c5b0 : ((l0.length : Int) == 0) = false := beq_eq_false_iff_ne.mpr c5
   have c5b1 : ((l0.length : Int) != 0) = true := bne_iff_ne.mpr c5
   have c5b2 : ¬ (l0 = []) := fun h_ => c5 (by rw [h_]; rfl)
   have H' := Aside0.mk H
   clear H
   go_enter Tryd.func23, Tryd.ntmps23
   go_wp2_with (first | ((with_reducible refine gate_dst (N := 2) rfl ?_); refine box_event ?hg (N := 2) ?hd (cs := #[.int .i64 0, .int .i64 0]) (t := 23) ?hr ?_; (case hd => rfl); (case hg => rfl); (case hr => first | (go_simp; done) | (go_simp; rfl)); intro gb251 hg w8 hbox hb; have n0_ := Aside0.mk (below_step (by repeat (first | (with_reducible first | exact HB.out | apply below_alloc | apply pw_below_drewN | apply below_drew1) | exact HB.out)) hb); have n1_ := Aside0.mk (hbox); have n2_ := Aside0.mk ((by rw [hg]; exact (below_size (by repeat (first | (with_reducible first | exact HB.out | apply below_alloc | apply pw_below_drewN | apply below_drew1) | exact HB.out))) : w.heap.size ≤ gb251)); have n3_ := Aside0.mk ((by rw [hg]; exact (below_size (by repeat (first | (with_reducible first | exact HB.out | apply below_alloc | apply pw_below_drewN | apply below_drew1) | exact HB.out))) : w.heap.size ≤ gb251)); clear HB; have HB := n0_; have BK251 := n1_; have GW251 := n2_; have GE251 := n3_; clear n0_ n1_ n2_ n3_; clear hb hbox hg))
   go_loopg [4] k (fun kq v4 w' => ∃ (x4_1 : Int) (x252000_1 : Int) (x252001_1 : Int), v4 = .int .i64 x4_1 ∧ Aside0 (spileref03_Sum.l0 kq l0 x4_1 = some (r1, r2, r3)) ∧ Aside0 (kq ≤ k) ∧ Aside0 (w'.heap[gb251]? = some (.cells #[.int .i64 x252000_1, .int .i64 x252001_1] 23 (0, 0))) ∧ Aside0 (Below w.heap.size w w'))
   case atStart => exact ⟨(0), (0), (0), (by first | rfl | (simp; done) | (simp [*]; done)), H', ⟨Nat.le_refl _⟩, ⟨by (with_reducible repeat (first | refine blk_drewN ?_ _ | refine blk_drew ?_ | refine blk_alloc ?_ _)); exact BK251.out⟩, ⟨by repeat (first | (with_reducible first | exact HB.out | apply below_alloc | apply pw_below_drewN | apply below_drew1 | refine below_set ?_ GE251.out) | exact HB.out)⟩⟩
   case round =>
    clear H'
    try clear c2
    try clear c2b0
    try clear c2b1
    try clear p2
    try clear c5
    try clear c5b0
    try clear c5b1
    try clear c5b2
    try clear hcz4_0
    try clear hcz4_1
    try clear hcz7_0
    try clear hcz7_1
    try clear hfz4_0
    try clear hfz4_1
    try clear hfz7_0
    try clear hfz7_1
    obtain ⟨x4_1, x252000_1, x252001_1, rfl, HA, HK1, BK251, HB⟩ := hrel
    cases gk with
    | zero => exact absurd HA.out (by simp [spileref03_Sum.l0])
    | succ k1 =>
     have H := HA.out
     clear HA
     simp only [spileref03_Sum.l0] at H
     by_cases c9 : x4_1 < (l0.length : Int)
     ·
      rw [if_pos c9] at H
      have c9b0 : decide (x4_1 < (l0.length : Int)) = true := decide_eq_true c9
      clear c9
      by_cases c10 : 0 ≤ x4_1
      ·
       rw [if_pos c10] at H
       have c10b0 : decide (0 ≤ x4_1) = true := decide_eq_true c10
       clear c10
       replace H := Option.bind_eq_some_iff.mp H
       obtain ⟨t253, A110, H⟩ := H
       replace H : (if t253 = 0 then (spileref03_Sum.l0 k1 l0 (wrap64 (x4_1 + 1))) else (some (0, 0, 1))) = some (r1, r2, r3) := H
       have A11 := Aside0.mk A110
       clear A110
       by_cases c12 : t253 = 0
       ·
        rw [if_pos c12] at H
        have c12b0 : (t253 == 0) = true := beq_iff_eq.mpr c12
        have c12b1 : (t253 != 0) = false := bne_eq_false_iff_eq.mpr c12
        clear c12
        have H' := Aside0.mk H
        clear H
        have p252 : 0 ≤ (x4_1 : Int) := of_decide_eq_true (by first | (with_reducible assumption) | assumption)
        have q252 : x4_1 < (l0.length : Int) := of_decide_eq_true (by first | (with_reducible assumption) | assumption)
        obtain ⟨ad252, e252, hx252_0, hx252_1⟩ := at_T23 HR0.out x4_1 p252 q252
        cases e252
        replace hx252_0 := (HB.out.cell (World.block_lt_of_cell? w _ hx252_0)).trans hx252_0
        replace hx252_1 := (HB.out.cell (World.block_lt_of_cell? w _ hx252_1)).trans hx252_1
        replace p252 := eq_true p252
        replace q252 := eq_true q252
        go_wp2_with (first | ((with_reducible refine gate_callee (f := 15) rfl ?_); refine goesL_ (some 26) rfl rfl Tryd.func15 (by kernel_rfl) rfl #[.agg #[.int .i64 ((rd_T23 l0 x4_1).f0), .int .i64 ((rd_T23 l0 x4_1).f1)]] rfl (by (try simp only [List.map_toArray, List.map_cons, List.map_nil]); first | done | rfl | (simp only [List.length_drop, List.length_take]; rfl)) ?_; (with_reducible refine (spileref03_Check.calls k1 ((rd_T23 l0 x4_1).f0) ((rd_T23 l0 x4_1).f1) t253 _ A11.out).mono ?_); rintro e w13 ⟨rfl, hb⟩; refine ⟨_, rfl, ?_⟩; have n0_ := Aside0.mk (blk_below (g := gb251) (o := .cells #[.int .i64 x252000_1, .int .i64 x252001_1] 23 (0, 0)) (by (with_reducible repeat (first | refine blk_drewN ?_ _ | refine blk_drew ?_ | refine blk_alloc ?_ _)); exact BK251.out) hb); have n1_ := Aside0.mk (below_step (by repeat (first | (with_reducible first | exact HB.out | apply below_alloc | apply pw_below_drewN | apply below_drew1 | refine below_set ?_ GE251.out) | exact HB.out)) hb); clear BK251; clear HB; have BK251 := n0_; have HB := n1_; clear n0_ n1_; (try clear hb); (try clear hb2); (try clear hk); (try clear hi)))
        go_roundg k1
        case measure => have := HK1.out; omega
        case rel => exact ⟨(wrap64 (x4_1 + 1)), (x252000_1), (x252001_1), (by first | rfl | (simp; done) | (simp [*]; done)), H', ⟨by have := HK1.out; omega⟩, ⟨by (with_reducible repeat (first | refine blk_drewN ?_ _ | refine blk_drew ?_ | refine blk_alloc ?_ _)); exact BK251.out⟩, ⟨by repeat (first | (with_reducible first | exact HB.out | apply below_alloc | apply pw_below_drewN | apply below_drew1 | refine below_set ?_ GE251.out) | exact HB.out)⟩⟩
       ·
        rw [if_neg c12] at H
        have c12b0 : (t253 == 0) = false := beq_eq_false_iff_ne.mpr c12
        have c12b1 : (t253 != 0) = true := bne_iff_ne.mpr c12
        simp only [Option.some.injEq, Prod.mk.injEq] at H
        obtain ⟨rfl, rfl, rfl⟩ := H
        have p252 : 0 ≤ (x4_1 : Int) := of_decide_eq_true (by first | (with_reducible assumption) | assumption)
        have q252 : x4_1 < (l0.length : Int) := of_decide_eq_true (by first | (with_reducible assumption) | assumption)
        obtain ⟨ad252, e252, hx252_0, hx252_1⟩ := at_T23 HR0.out x4_1 p252 q252
        cases e252
        replace hx252_0 := (HB.out.cell (World.block_lt_of_cell? w _ hx252_0)).trans hx252_0
        replace hx252_1 := (HB.out.cell (World.block_lt_of_cell? w _ hx252_1)).trans hx252_1
        replace p252 := eq_true p252
        replace q252 := eq_true q252
        go_wp2_with (first | ((with_reducible refine gate_callee (f := 15) rfl ?_); refine goesL_ (some 26) rfl rfl Tryd.func15 (by kernel_rfl) rfl #[.agg #[.int .i64 ((rd_T23 l0 x4_1).f0), .int .i64 ((rd_T23 l0 x4_1).f1)]] rfl (by (try simp only [List.map_toArray, List.map_cons, List.map_nil]); first | done | rfl | (simp only [List.length_drop, List.length_take]; rfl)) ?_; (with_reducible refine (spileref03_Check.calls k1 ((rd_T23 l0 x4_1).f0) ((rd_T23 l0 x4_1).f1) t253 _ A11.out).mono ?_); rintro e w14 ⟨rfl, hb⟩; refine ⟨_, rfl, ?_⟩; have n0_ := Aside0.mk (blk_below (g := gb251) (o := .cells #[.int .i64 x252000_1, .int .i64 x252001_1] 23 (0, 0)) (by (with_reducible repeat (first | refine blk_drewN ?_ _ | refine blk_drew ?_ | refine blk_alloc ?_ _)); exact BK251.out) hb); have n1_ := Aside0.mk (below_step (by repeat (first | (with_reducible first | exact HB.out | apply below_alloc | apply pw_below_drewN | apply below_drew1 | refine below_set ?_ GE251.out) | exact HB.out)) hb); clear BK251; clear HB; have BK251 := n0_; have HB := n1_; clear n0_ n1_; (try clear hb); (try clear hb2); (try clear hk); (try clear hi); have hcz15_0 : w14.cell? ⟨gb251, 0, none⟩ = some (.int .i64 x252000_1) := (blk_cell BK251.out 0).trans rfl; have hcz15_1 : w14.cell? ⟨gb251, 1, none⟩ = some (.int .i64 x252001_1) := (blk_cell BK251.out 1).trans rfl; have hfz15_0 := blk_frozen BK251.out 0; have hfz15_1 := blk_frozen BK251.out 1))
        refine bodyPost_ret (results_ct rfl _ _ gb251 23 #[.int .i64 0, .int .i64 0] (0, 0) _ rfl (by (with_reducible repeat (first | refine blk_drewN ?_ _ | refine blk_drew ?_ | refine blk_alloc ?_ _)); refine blk_put (cs := #[.int .i64 0, .int .i64 x252001_1]) ?_ 1 _ rfl; (with_reducible repeat (first | refine blk_drewN ?_ _ | refine blk_drew ?_ | refine blk_alloc ?_ _)); refine blk_put (cs := #[.int .i64 x252000_1, .int .i64 x252001_1]) ?_ 0 _ rfl; (with_reducible repeat (first | refine blk_drewN ?_ _ | refine blk_drew ?_ | refine blk_alloc ?_ _)); exact BK251.out) Tryd.underlying23 rfl (by kernel_rfl)) rfl ?_
        exact ⟨by first | rfl | (simp [errW_none, errW_some] <;> rfl) | (simp [*, errW_none, errW_some] <;> rfl), by repeat (first | (with_reducible first | exact HB.out | apply below_alloc | apply pw_below_drewN | apply below_drew1 | refine below_set ?_ GE251.out) | exact HB.out)⟩
      ·
       rw [if_neg c10] at H
       exact absurd H (by simp)
     ·
      rw [if_neg c9] at H
      have c9b0 : decide (x4_1 < (l0.length : Int)) = false := decide_eq_false c9
      clear c9
      by_cases c16 : 0 < (l0.length : Int)
      ·
       rw [if_pos c16] at H
       have c16b0 : decide (0 < (l0.length : Int)) = true := decide_eq_true c16
       have c16b1 : decide (0 < l0.length) = true := decide_eq_true (by omega)
       clear c16
       have H' := Aside0.mk H
       clear H
       have p254 : 0 ≤ (0 : Int) := (by omega)
       have q254 : 0 < (l0.length : Int) := of_decide_eq_true (by first | (with_reducible assumption) | assumption)
       obtain ⟨ad254, e254, hx254_0, hx254_1⟩ := at_T23 HR0.out 0 p254 q254
       cases e254
       have qi254 : (0 < l0.length) = True := eq_true (by omega)
       (try rw [show ((0 : Int)).toNat = 0 from rfl] at hx254_0)
       (try rw [show 0 * 2 = 0 from rfl] at hx254_0)
       (try rw [Addr.add_zero'] at hx254_0)
       (try rw [show ((0 : Int)).toNat = 0 from rfl] at hx254_1)
       (try rw [show 0 * 2 = 0 from rfl] at hx254_1)
       (try rw [Addr.add_zero'] at hx254_1)
       replace hx254_0 := (HB.out.cell (World.block_lt_of_cell? w _ hx254_0)).trans hx254_0
       replace hx254_1 := (HB.out.cell (World.block_lt_of_cell? w _ hx254_1)).trans hx254_1
       replace p254 := eq_true p254
       replace q254 := eq_true q254
       go_wp2_with (first | ((with_reducible refine gate_dst (N := 5) rfl ?_); refine box_event ?hg (N := 5) ?hd (cs := #[.int .i64 0, .int .i64 0]) (t := 23) ?hr ?_; (case hd => rfl); (case hg => rfl); (case hr => first | (go_simp; done) | (go_simp; rfl)); intro gb255 hg w17 hbox hb; have n0_ := Aside0.mk (blk_below (g := gb251) (o := .cells #[.int .i64 x252000_1, .int .i64 x252001_1] 23 (0, 0)) (by (with_reducible repeat (first | refine blk_drewN ?_ _ | refine blk_drew ?_ | refine blk_alloc ?_ _)); exact BK251.out) hb); have n1_ := Aside0.mk (below_step (by repeat (first | (with_reducible first | exact HB.out | apply below_alloc | apply pw_below_drewN | apply below_drew1 | refine below_set ?_ GE251.out) | exact HB.out)) hb); have n2_ := Aside0.mk (hbox); have n3_ := Aside0.mk ((by rw [hg]; exact (below_size (by repeat (first | (with_reducible first | exact HB.out | apply below_alloc | apply pw_below_drewN | apply below_drew1 | refine below_set ?_ GE251.out) | exact HB.out))) : w.heap.size ≤ gb255)); have n4_ := Aside0.mk ((by rw [hg]; exact (below_size (by repeat (first | (with_reducible first | exact HB.out | apply below_alloc | apply pw_below_drewN | apply below_drew1 | refine below_set ?_ GE251.out) | exact HB.out))) : w.heap.size ≤ gb255)); have n5_ := Aside0.mk ((by rw [hg]; exact Nat.ne_of_lt (blk_lt (g := gb251) (o := .cells #[.int .i64 x252000_1, .int .i64 x252001_1] 23 (0, 0)) (by (with_reducible repeat (first | refine blk_drewN ?_ _ | refine blk_drew ?_ | refine blk_alloc ?_ _)); exact BK251.out)) : gb251 ≠ gb255)); have n6_ := Aside0.mk ((by rw [hg]; exact Nat.ne_of_gt (blk_lt (g := gb251) (o := .cells #[.int .i64 x252000_1, .int .i64 x252001_1] 23 (0, 0)) (by (with_reducible repeat (first | refine blk_drewN ?_ _ | refine blk_drew ?_ | refine blk_alloc ?_ _)); exact BK251.out)) : gb255 ≠ gb251)); clear BK251; clear HB; have BK251 := n0_; have HB := n1_; have BK255 := n2_; have GW255 := n3_; have GE255 := n4_; have NB251_255 := n5_; have NB255_251 := n6_; clear n0_ n1_ n2_ n3_ n4_ n5_ n6_; clear hb hbox hg; have hnb18 := NB255_251.out; have hnc18 := NB251_255.out; have hcz19_0 : w17.cell? ⟨gb255, 0, none⟩ = some (.int .i64 0) := (blk_cell BK255.out 0).trans rfl; have hcz19_1 : w17.cell? ⟨gb255, 1, none⟩ = some (.int .i64 0) := (blk_cell BK255.out 1).trans rfl; have hfz19_0 := blk_frozen BK255.out 0; have hfz19_1 := blk_frozen BK255.out 1))
       go_loopg [6] k1 (fun kq v6 w' => ∃ (x6_2 : Int) (x252000_2 : Int) (x252001_2 : Int), v6 = .int .i64 x6_2 ∧ Aside0 (spileref03_Sum.l1 kq l0 x6_2 ((rd_T23 l0 0).f0) 0 = some (r1, r2, r3)) ∧ Aside0 (kq ≤ k1) ∧ Aside0 (w'.heap[gb251]? = some (.cells #[.int .i64 x252000_2, .int .i64 x252001_2] 23 (0, 0))) ∧ Aside0 (w'.heap[gb255]? = some (.cells #[.int .i64 ((rd_T23 l0 0).f0), .int .i64 0] 23 (0, 0))) ∧ Aside0 (Below w.heap.size w w'))
       case atStart => exact ⟨(0), (x252000_1), (x252001_1), (by first | rfl | (simp; done) | (simp [*]; done)), H', ⟨Nat.le_refl _⟩, ⟨by (with_reducible repeat (first | refine blk_drewN ?_ _ | refine blk_drew ?_ | refine blk_alloc ?_ _)); refine blk_far ?_ NB251_255.out _; (with_reducible repeat (first | refine blk_drewN ?_ _ | refine blk_drew ?_ | refine blk_alloc ?_ _)); refine blk_far ?_ NB251_255.out _; (with_reducible repeat (first | refine blk_drewN ?_ _ | refine blk_drew ?_ | refine blk_alloc ?_ _)); exact BK251.out⟩, ⟨by (with_reducible repeat (first | refine blk_drewN ?_ _ | refine blk_drew ?_ | refine blk_alloc ?_ _)); refine blk_put (cs := #[.int .i64 ((rd_T23 l0 0).f0), .int .i64 0]) ?_ 1 _ rfl; (with_reducible repeat (first | refine blk_drewN ?_ _ | refine blk_drew ?_ | refine blk_alloc ?_ _)); refine blk_put (cs := #[.int .i64 0, .int .i64 0]) ?_ 0 _ rfl; (with_reducible repeat (first | refine blk_drewN ?_ _ | refine blk_drew ?_ | refine blk_alloc ?_ _)); exact BK255.out⟩, ⟨by repeat (first | (with_reducible first | exact HB.out | apply below_alloc | apply pw_below_drewN | apply below_drew1 | refine below_set ?_ GE251.out | refine below_set ?_ GE255.out) | exact HB.out)⟩⟩
       case round =>
        clear H'
        try clear c1
        try clear c2
        try clear c2b0
        try clear c2b1
        try clear p2
        try clear q2
        try clear hx2
        try clear qi2
        try clear c5
        try clear c5b0
        try clear c5b1
        try clear c5b2
        try clear p6
        try clear c9
        try clear c9b0
        try clear c10
        try clear c10b0
        try clear c12
        try clear c12b0
        try clear c12b1
        try clear c15
        try clear c16
        try clear c16b0
        try clear c16b1
        try clear c18
        try clear hcz15_0
        try clear hcz15_1
        try clear hcz19_0
        try clear hcz19_1
        try clear hcz4_0
        try clear hcz4_1
        try clear hcz7_0
        try clear hcz7_1
        try clear hfz15_0
        try clear hfz15_1
        try clear hfz19_0
        try clear hfz19_1
        try clear hfz4_0
        try clear hfz4_1
        try clear hfz7_0
        try clear hfz7_1
        try clear hx252_0
        try clear hx252_1
        try clear hx254_0
        try clear hx254_1
        try clear p2
        try clear p252
        try clear p254
        try clear q252
        try clear q254
        obtain ⟨x6_2, x252000_2, x252001_2, rfl, HA, HK2, BK251, BK255, HB⟩ := hrel
        cases gk with
        | zero => exact absurd HA.out (by simp [spileref03_Sum.l1])
        | succ k2 =>
         have H := HA.out
         clear HA
         simp only [spileref03_Sum.l1] at H
         by_cases c20 : x6_2 < (l0.length : Int)
         ·
          rw [if_pos c20] at H
          have c20b0 : decide (x6_2 < (l0.length : Int)) = true := decide_eq_true c20
          clear c20
          by_cases c21 : 0 ≤ x6_2
          ·
           rw [if_pos c21] at H
           have c21b0 : decide (0 ≤ x6_2) = true := decide_eq_true c21
           clear c21
           by_cases c22 : ((rd_T23 l0 x6_2).f0) = ((rd_T23 l0 0).f0)
           ·
            rw [if_pos c22] at H
            have c22b0 : (((rd_T23 l0 x6_2).f0) == ((rd_T23 l0 0).f0)) = true := beq_iff_eq.mpr c22
            have c22b1 : (((rd_T23 l0 x6_2).f0) != ((rd_T23 l0 0).f0)) = false := bne_eq_false_iff_eq.mpr c22
            clear c22
            have H' := Aside0.mk H
            clear H
            try go_wp2
            have n0_ := Aside0.mk (blk_drew BK251.out)
            have n1_ := Aside0.mk (blk_drew BK255.out)
            have n2_ := Aside0.mk (below_drew1 HB.out)
            clear BK251
            clear BK255
            clear HB
            have BK251 := n0_
            have BK255 := n1_
            have HB := n2_
            clear n0_ n1_ n2_
            have p256 : 0 ≤ (x6_2 : Int) := of_decide_eq_true (by first | (with_reducible assumption) | assumption)
            have q256 : x6_2 < (l0.length : Int) := of_decide_eq_true (by first | (with_reducible assumption) | assumption)
            obtain ⟨ad256, e256, hx256_0, hx256_1⟩ := at_T23 HR0.out x6_2 p256 q256
            have hw256_1 := hx256_1
            have hw256_0 := hx256_0
            obtain rfl : ad254 = ad256 := (by injection e256)
            replace hx256_0 := (HB.out.cell (World.block_lt_of_cell? w _ hx256_0)).trans hx256_0
            replace hx256_1 := (HB.out.cell (World.block_lt_of_cell? w _ hx256_1)).trans hx256_1
            replace p256 := eq_true p256
            replace q256 := eq_true q256
            refine start_ (n := 8) (S := fun w' => w'.cell? ⟨gb255, 0, none⟩ = some (.int .i64 ((rd_T23 l0 0).f0)) ∧ w'.cell? ⟨gb255, 1, none⟩ = some (.int .i64 0) ∧ w'.cell? (ad254.add ((x6_2).toNat * 2)) = some (.int .i64 ((rd_T23 l0 x6_2).f0)) ∧ w'.cell? ⟨(ad254.add ((x6_2).toNat * 2)).block, (ad254.add ((x6_2).toNat * 2)).off + 1, none⟩ = some (.int .i64 ((rd_T23 l0 x6_2).f1))) (ds := []) #[false, false, false, false, false, false, false, false] (by kernel_rfl) rfl rfl ⟨(blk_cell BK255.out 0).trans rfl, (blk_cell BK255.out 1).trans rfl, ((HB.out.cell (World.block_lt_of_cell? w _ hw256_0)).trans hw256_0), ((HB.out.cell (World.block_lt_of_cell? w _ hw256_1)).trans hw256_1)⟩ (fun hHeld => ?_); refine with_tabW spileref03_Sum.tab14 spileref03_Sum.bits14 (fun HT_ HW_ => ?_)
            generalize wr.drew = w23 at BK251 BK255 HB hx256_0 hx256_1 hHeld ⊢
            refine pure_ (i := 0) (N := some 40) (v := ?_) (a' := ?_) #[true, false, false, false, false, false, false, false] rfl rfl (any_of HT_.out (by kernel_rfl)) (fun _ _ _ h => h) (Or.inl ⟨by rfl, ?_⟩) ?_ ?_
            rotate_left
            ·
             intro w'
             go_simp
             with_reducible rfl
            rotate_left
            ·
             simp only [Act.put, List.setIfInBounds_toArray, List.set_cons_zero, List.set_cons_succ, i64_w, i32_w]
             rfl
            refine pure_ (i := 1) (N := some 41) (v := ?_) (a' := ?_) #[true, true, false, false, false, false, false, false] rfl rfl (any_of HT_.out (by kernel_rfl)) (fun _ _ _ h => h) (Or.inl ⟨by rfl, ?_⟩) ?_ ?_
            rotate_left
            ·
             intro w'
             go_simp
             with_reducible rfl
            rotate_left
            ·
             simp only [Act.put, List.setIfInBounds_toArray, List.set_cons_zero, List.set_cons_succ, i64_w, i32_w]
             rfl
            refine pure_ (i := 2) (N := some 42) (v := ?_) (a' := ?_) #[true, true, true, false, false, false, false, false] rfl rfl (any_of HT_.out (by kernel_rfl)) (fun _ _ _ h => h) (Or.inl ⟨by rfl, ?_⟩) ?_ ?_
            rotate_left
            ·
             intro w'
             go_simp
             with_reducible rfl
            rotate_left
            ·
             simp only [Act.put, List.setIfInBounds_toArray, List.set_cons_zero, List.set_cons_succ, i64_w, i32_w]
             rfl
            refine pure_ (i := 3) (N := some 43) (v := ?_) (a' := ?_) #[true, true, true, true, false, false, false, false] rfl rfl (any_of HT_.out (by kernel_rfl)) (fun _ _ _ h => h) (Or.inl ⟨by rfl, ?_⟩) ?_ ?_
            rotate_left
            ·
             intro w'
             go_simp
             with_reducible rfl
            rotate_left
            ·
             simp only [Act.put, List.setIfInBounds_toArray, List.set_cons_zero, List.set_cons_succ, i64_w, i32_w]
             rfl
            refine pure_ (i := 5) (N := some 45) (v := ?_) (a' := ?_) #[true, true, true, true, false, true, false, false] rfl rfl (any_of HT_.out (by kernel_rfl)) (fun _ _ _ h => h) (Or.inl ⟨by rfl, ?_⟩) ?_ ?_
            rotate_left
            ·
             intro w'
             go_simp
             with_reducible rfl
            rotate_left
            ·
             simp only [Act.put, List.setIfInBounds_toArray, List.set_cons_zero, List.set_cons_succ, i64_w, i32_w]
             rfl
            refine take_ (i := 4) (N := some 44) (v := ?_) (a' := ?_) #[true, true, true, true, true, true, false, false] rfl rfl (take_ofW HT_.out HW_.out (by kernel_rfl)) (fun _ _ _ h => h) (Or.inl ⟨by rfl, ?_⟩) hHeld ?_ ?_
            rotate_left
            ·
             rintro w' ⟨s0, s1, s2, s3⟩
             go_simp
             with_reducible rfl
            rotate_left
            ·
             simp only [Act.put, List.setIfInBounds_toArray, List.set_cons_zero, List.set_cons_succ, i64_w, i32_w]
             rfl
            refine take_ (i := 6) (N := some 46) (v := ?_) (a' := ?_) #[true, true, true, true, true, true, true, false] rfl rfl (take_ofW HT_.out HW_.out (by kernel_rfl)) (fun _ _ _ h => h) (Or.inl ⟨by rfl, ?_⟩) hHeld ?_ ?_
            rotate_left
            ·
             rintro w' ⟨s0, s1, s2, s3⟩
             go_simp
             with_reducible rfl
            rotate_left
            ·
             simp only [Act.put, List.setIfInBounds_toArray, List.set_cons_zero, List.set_cons_succ, i64_w, i32_w]
             rfl
            refine pure_ (i := 7) (N := some 47) (v := ?_) (a' := ?_) #[true, true, true, true, true, true, true, true] rfl rfl (any_of HT_.out (by kernel_rfl)) (fun _ _ _ h => h) (Or.inl ⟨by rfl, ?_⟩) ?_ ?_
            rotate_left
            ·
             intro w'
             go_simp
             with_reducible rfl
            rotate_left
            ·
             simp only [Act.put, List.setIfInBounds_toArray, List.set_cons_zero, List.set_cons_succ, i64_w, i32_w]
             rfl
            refine done_ (done_of HT_.out (by kernel_rfl)) ?_
            try go_wp2
            go_roundg k2
            case measure => have := HK1.out; have := HK2.out; omega
            case rel => exact ⟨(wrap64 (x6_2 + 1)), (x252000_2), (x252001_2), (by first | rfl | (simp; done) | (simp [*]; done)), H', ⟨by have := HK1.out; have := HK2.out; omega⟩, ⟨by (with_reducible repeat (first | refine blk_drewN ?_ _ | refine blk_drew ?_ | refine blk_alloc ?_ _)); exact BK251.out⟩, ⟨by (with_reducible repeat (first | refine blk_drewN ?_ _ | refine blk_drew ?_ | refine blk_alloc ?_ _)); exact BK255.out⟩, ⟨by repeat (first | (with_reducible first | exact HB.out | apply below_alloc | apply pw_below_drewN | apply below_drew1 | refine below_set ?_ GE251.out | refine below_set ?_ GE255.out) | exact HB.out)⟩⟩
           ·
            rw [if_neg c22] at H
            have c22b0 : (((rd_T23 l0 x6_2).f0) == ((rd_T23 l0 0).f0)) = false := beq_eq_false_iff_ne.mpr c22
            have c22b1 : (((rd_T23 l0 x6_2).f0) != ((rd_T23 l0 0).f0)) = true := bne_iff_ne.mpr c22
            simp only [Option.some.injEq, Prod.mk.injEq] at H
            obtain ⟨rfl, rfl, rfl⟩ := H
            try go_wp2
            have n0_ := Aside0.mk (blk_drew BK251.out)
            have n1_ := Aside0.mk (blk_drew BK255.out)
            have n2_ := Aside0.mk (below_drew1 HB.out)
            clear BK251
            clear BK255
            clear HB
            have BK251 := n0_
            have BK255 := n1_
            have HB := n2_
            clear n0_ n1_ n2_
            have p256 : 0 ≤ (x6_2 : Int) := of_decide_eq_true (by first | (with_reducible assumption) | assumption)
            have q256 : x6_2 < (l0.length : Int) := of_decide_eq_true (by first | (with_reducible assumption) | assumption)
            obtain ⟨ad256, e256, hx256_0, hx256_1⟩ := at_T23 HR0.out x6_2 p256 q256
            have hw256_1 := hx256_1
            have hw256_0 := hx256_0
            obtain rfl : ad254 = ad256 := (by injection e256)
            replace hx256_0 := (HB.out.cell (World.block_lt_of_cell? w _ hx256_0)).trans hx256_0
            replace hx256_1 := (HB.out.cell (World.block_lt_of_cell? w _ hx256_1)).trans hx256_1
            replace p256 := eq_true p256
            replace q256 := eq_true q256
            refine start_ (n := 8) (S := fun w' => w'.cell? ⟨gb255, 0, none⟩ = some (.int .i64 ((rd_T23 l0 0).f0)) ∧ w'.cell? ⟨gb255, 1, none⟩ = some (.int .i64 0) ∧ w'.cell? (ad254.add ((x6_2).toNat * 2)) = some (.int .i64 ((rd_T23 l0 x6_2).f0)) ∧ w'.cell? ⟨(ad254.add ((x6_2).toNat * 2)).block, (ad254.add ((x6_2).toNat * 2)).off + 1, none⟩ = some (.int .i64 ((rd_T23 l0 x6_2).f1))) (ds := []) #[false, false, false, false, false, false, false, false] (by kernel_rfl) rfl rfl ⟨(blk_cell BK255.out 0).trans rfl, (blk_cell BK255.out 1).trans rfl, ((HB.out.cell (World.block_lt_of_cell? w _ hw256_0)).trans hw256_0), ((HB.out.cell (World.block_lt_of_cell? w _ hw256_1)).trans hw256_1)⟩ (fun hHeld => ?_); refine with_tabW spileref03_Sum.tab14 spileref03_Sum.bits14 (fun HT_ HW_ => ?_)
            generalize wr.drew = w24 at BK251 BK255 HB hx256_0 hx256_1 hHeld ⊢
            refine pure_ (i := 0) (N := some 40) (v := ?_) (a' := ?_) #[true, false, false, false, false, false, false, false] rfl rfl (any_of HT_.out (by kernel_rfl)) (fun _ _ _ h => h) (Or.inl ⟨by rfl, ?_⟩) ?_ ?_
            rotate_left
            ·
             intro w'
             go_simp
             with_reducible rfl
            rotate_left
            ·
             simp only [Act.put, List.setIfInBounds_toArray, List.set_cons_zero, List.set_cons_succ, i64_w, i32_w]
             rfl
            refine pure_ (i := 1) (N := some 41) (v := ?_) (a' := ?_) #[true, true, false, false, false, false, false, false] rfl rfl (any_of HT_.out (by kernel_rfl)) (fun _ _ _ h => h) (Or.inl ⟨by rfl, ?_⟩) ?_ ?_
            rotate_left
            ·
             intro w'
             go_simp
             with_reducible rfl
            rotate_left
            ·
             simp only [Act.put, List.setIfInBounds_toArray, List.set_cons_zero, List.set_cons_succ, i64_w, i32_w]
             rfl
            refine pure_ (i := 2) (N := some 42) (v := ?_) (a' := ?_) #[true, true, true, false, false, false, false, false] rfl rfl (any_of HT_.out (by kernel_rfl)) (fun _ _ _ h => h) (Or.inl ⟨by rfl, ?_⟩) ?_ ?_
            rotate_left
            ·
             intro w'
             go_simp
             with_reducible rfl
            rotate_left
            ·
             simp only [Act.put, List.setIfInBounds_toArray, List.set_cons_zero, List.set_cons_succ, i64_w, i32_w]
             rfl
            refine pure_ (i := 3) (N := some 43) (v := ?_) (a' := ?_) #[true, true, true, true, false, false, false, false] rfl rfl (any_of HT_.out (by kernel_rfl)) (fun _ _ _ h => h) (Or.inl ⟨by rfl, ?_⟩) ?_ ?_
            rotate_left
            ·
             intro w'
             go_simp
             with_reducible rfl
            rotate_left
            ·
             simp only [Act.put, List.setIfInBounds_toArray, List.set_cons_zero, List.set_cons_succ, i64_w, i32_w]
             rfl
            refine pure_ (i := 5) (N := some 45) (v := ?_) (a' := ?_) #[true, true, true, true, false, true, false, false] rfl rfl (any_of HT_.out (by kernel_rfl)) (fun _ _ _ h => h) (Or.inl ⟨by rfl, ?_⟩) ?_ ?_
            rotate_left
            ·
             intro w'
             go_simp
             with_reducible rfl
            rotate_left
            ·
             simp only [Act.put, List.setIfInBounds_toArray, List.set_cons_zero, List.set_cons_succ, i64_w, i32_w]
             rfl
            refine take_ (i := 4) (N := some 44) (v := ?_) (a' := ?_) #[true, true, true, true, true, true, false, false] rfl rfl (take_ofW HT_.out HW_.out (by kernel_rfl)) (fun _ _ _ h => h) (Or.inl ⟨by rfl, ?_⟩) hHeld ?_ ?_
            rotate_left
            ·
             rintro w' ⟨s0, s1, s2, s3⟩
             go_simp
             with_reducible rfl
            rotate_left
            ·
             simp only [Act.put, List.setIfInBounds_toArray, List.set_cons_zero, List.set_cons_succ, i64_w, i32_w]
             rfl
            refine take_ (i := 6) (N := some 46) (v := ?_) (a' := ?_) #[true, true, true, true, true, true, true, false] rfl rfl (take_ofW HT_.out HW_.out (by kernel_rfl)) (fun _ _ _ h => h) (Or.inl ⟨by rfl, ?_⟩) hHeld ?_ ?_
            rotate_left
            ·
             rintro w' ⟨s0, s1, s2, s3⟩
             go_simp
             with_reducible rfl
            rotate_left
            ·
             simp only [Act.put, List.setIfInBounds_toArray, List.set_cons_zero, List.set_cons_succ, i64_w, i32_w]
             rfl
            refine pure_ (i := 7) (N := some 47) (v := ?_) (a' := ?_) #[true, true, true, true, true, true, true, true] rfl rfl (any_of HT_.out (by kernel_rfl)) (fun _ _ _ h => h) (Or.inl ⟨by rfl, ?_⟩) ?_ ?_
            rotate_left
            ·
             intro w'
             go_simp
             with_reducible rfl
            rotate_left
            ·
             simp only [Act.put, List.setIfInBounds_toArray, List.set_cons_zero, List.set_cons_succ, i64_w, i32_w]
             rfl
            refine done_ (done_of HT_.out (by kernel_rfl)) ?_
            have hnb25 := NB251_255.out
            have hnc25 := NB255_251.out
            have hcz26_0 : w24.cell? ⟨gb251, 0, none⟩ = some (.int .i64 x252000_2) := (blk_cell BK251.out 0).trans rfl
            have hcz26_1 : w24.cell? ⟨gb251, 1, none⟩ = some (.int .i64 x252001_2) := (blk_cell BK251.out 1).trans rfl
            have hfz26_0 := blk_frozen BK251.out 0
            have hfz26_1 := blk_frozen BK251.out 1
            try go_wp2
            refine bodyPost_ret (results_ct rfl _ _ gb251 23 #[.int .i64 0, .int .i64 0] (0, 0) _ rfl (by (with_reducible repeat (first | refine blk_drewN ?_ _ | refine blk_drew ?_ | refine blk_alloc ?_ _)); refine blk_put (cs := #[.int .i64 0, .int .i64 x252001_2]) ?_ 1 _ rfl; (with_reducible repeat (first | refine blk_drewN ?_ _ | refine blk_drew ?_ | refine blk_alloc ?_ _)); refine blk_put (cs := #[.int .i64 x252000_2, .int .i64 x252001_2]) ?_ 0 _ rfl; (with_reducible repeat (first | refine blk_drewN ?_ _ | refine blk_drew ?_ | refine blk_alloc ?_ _)); exact BK251.out) Tryd.underlying23 rfl (by kernel_rfl)) rfl ?_
            exact ⟨by first | rfl | (simp [errW_none, errW_some] <;> rfl) | (simp [*, errW_none, errW_some] <;> rfl), by repeat (first | (with_reducible first | exact HB.out | apply below_alloc | apply pw_below_drewN | apply below_drew1 | refine below_set ?_ GE251.out | refine below_set ?_ GE255.out) | exact HB.out)⟩
          ·
           rw [if_neg c21] at H
           exact absurd H (by simp)
         ·
          rw [if_neg c20] at H
          have c20b0 : decide (x6_2 < (l0.length : Int)) = false := decide_eq_false c20
          clear c20
          have H' := Aside0.mk H
          clear H
          go_wp2
          go_loopg [7] k2 (fun kq v7 w' => ∃ (x7_3 : Int) (x252000_3 : Int) (x252001_3 : Int) (x256001_3 : Int), v7 = .int .i64 x7_3 ∧ Aside0 (spileref03_Sum.l2 kq l0 x7_3 ((rd_T23 l0 0).f0) x256001_3 = some (r1, r2, r3)) ∧ Aside0 (kq ≤ k2) ∧ Aside0 (w'.heap[gb251]? = some (.cells #[.int .i64 x252000_3, .int .i64 x252001_3] 23 (0, 0))) ∧ Aside0 (w'.heap[gb255]? = some (.cells #[.int .i64 ((rd_T23 l0 0).f0), .int .i64 x256001_3] 23 (0, 0))) ∧ Aside0 (Below w.heap.size w w'))
          case atStart => exact ⟨(0), (x252000_2), (x252001_2), (0), (by first | rfl | (simp; done) | (simp [*]; done)), H', ⟨Nat.le_refl _⟩, ⟨by (with_reducible repeat (first | refine blk_drewN ?_ _ | refine blk_drew ?_ | refine blk_alloc ?_ _)); exact BK251.out⟩, ⟨by (with_reducible repeat (first | refine blk_drewN ?_ _ | refine blk_drew ?_ | refine blk_alloc ?_ _)); exact BK255.out⟩, ⟨by repeat (first | (with_reducible first | exact HB.out | apply below_alloc | apply pw_below_drewN | apply below_drew1 | refine below_set ?_ GE251.out | refine below_set ?_ GE255.out) | exact HB.out)⟩⟩
          case round =>
           clear H'
           try clear c1
           try clear c2
           try clear c2b0
           try clear c2b1
           try clear p2
           try clear q2
           try clear hx2
           try clear qi2
           try clear c5
           try clear c5b0
           try clear c5b1
           try clear c5b2
           try clear p6
           try clear c9
           try clear c9b0
           try clear c10
           try clear c10b0
           try clear c12
           try clear c12b0
           try clear c12b1
           try clear c15
           try clear c16
           try clear c16b0
           try clear c16b1
           try clear c18
           try clear c20
           try clear c20b0
           try clear c21
           try clear c21b0
           try clear c22
           try clear c22b0
           try clear c22b1
           try clear c23
           try clear c25
           try clear p25
           try clear q25
           try clear hx25
           try clear qi25
           try clear hcz15_0
           try clear hcz15_1
           try clear hcz19_0
           try clear hcz19_1
           try clear hcz26_0
           try clear hcz26_1
           try clear hcz4_0
           try clear hcz4_1
           try clear hcz7_0
           try clear hcz7_1
           try clear hfz15_0
           try clear hfz15_1
           try clear hfz19_0
           try clear hfz19_1
           try clear hfz26_0
           try clear hfz26_1
           try clear hfz4_0
           try clear hfz4_1
           try clear hfz7_0
           try clear hfz7_1
           try clear hx252_0
           try clear hx252_1
           try clear hx254_0
           try clear hx254_1
           try clear hx256_0
           try clear hx256_1
           try clear p2
           try clear p252
           try clear p254
           try clear p256
           try clear p6
           try clear q2
           try clear q252
           try clear q254
           try clear q256
           obtain ⟨x7_3, x252000_3, x252001_3, x256001_3, rfl, HA, HK3, BK251, BK255, HB⟩ := hrel
           cases gk with
           | zero => exact absurd HA.out (by simp [spileref03_Sum.l2])
           | succ k3 =>
            have H := HA.out
            clear HA
            simp only [spileref03_Sum.l2] at H
            by_cases c27 : x7_3 < (l0.length : Int)
            ·
             rw [if_pos c27] at H
             have c27b0 : decide (x7_3 < (l0.length : Int)) = true := decide_eq_true c27
             clear c27
             by_cases c28 : 0 ≤ x7_3
             ·
              rw [if_pos c28] at H
              have c28b0 : decide (0 ≤ x7_3) = true := decide_eq_true c28
              clear c28
              replace H := Option.bind_eq_some_iff.mp H
              obtain ⟨t258, A290, H⟩ := H
              replace H : (if t258 = true then (spileref03_Sum.l2 k3 l0 (wrap64 (x7_3 + 1)) ((rd_T23 l0 0).f0) (wrap64 (x256001_3 + ((rd_T23 l0 x7_3).f1)))) else (some (0, 0, 15))) = some (r1, r2, r3) := H
              have A29 := Aside0.mk A290
              clear A290
              by_cases c30 : t258 = true
              ·
               subst c30
               have H1 : (spileref03_Sum.l2 k3 l0 (wrap64 (x7_3 + 1)) ((rd_T23 l0 0).f0) (wrap64 (x256001_3 + ((rd_T23 l0 x7_3).f1)))) = some (r1, r2, r3) := by rw [if_pos rfl] at H; exact H
               clear H
               have H := H1
               clear H1
               have H' := Aside0.mk H
               clear H
               try go_wp2
               have n0_ := Aside0.mk (blk_drew BK251.out)
               have n1_ := Aside0.mk (blk_drew BK255.out)
               have n2_ := Aside0.mk (below_drew1 HB.out)
               clear BK251
               clear BK255
               clear HB
               have BK251 := n0_
               have BK255 := n1_
               have HB := n2_
               clear n0_ n1_ n2_
               have p257 : 0 ≤ (x7_3 : Int) := of_decide_eq_true (by first | (with_reducible assumption) | assumption)
               have q257 : x7_3 < (l0.length : Int) := of_decide_eq_true (by first | (with_reducible assumption) | assumption)
               obtain ⟨ad257, e257, hx257_0, hx257_1⟩ := at_T23 HR0.out x7_3 p257 q257
               have hw257_1 := hx257_1
               have hw257_0 := hx257_0
               obtain rfl : ad254 = ad257 := (by injection e257)
               replace hx257_0 := (HB.out.cell (World.block_lt_of_cell? w _ hx257_0)).trans hx257_0
               replace hx257_1 := (HB.out.cell (World.block_lt_of_cell? w _ hx257_1)).trans hx257_1
               replace p257 := eq_true p257
               replace q257 := eq_true q257
               refine start_ (n := 10) (S := fun w' => w'.cell? ⟨gb255, 0, none⟩ = some (.int .i64 ((rd_T23 l0 0).f0)) ∧ w'.cell? ⟨gb255, 1, none⟩ = some (.int .i64 x256001_3) ∧ w'.cell? (ad254.add ((x7_3).toNat * 2)) = some (.int .i64 ((rd_T23 l0 x7_3).f0)) ∧ w'.cell? ⟨(ad254.add ((x7_3).toNat * 2)).block, (ad254.add ((x7_3).toNat * 2)).off + 1, none⟩ = some (.int .i64 ((rd_T23 l0 x7_3).f1))) (ds := [9]) #[false, false, false, false, false, false, false, false, false, false] (by kernel_rfl) rfl rfl ⟨(blk_cell BK255.out 0).trans rfl, (blk_cell BK255.out 1).trans rfl, ((HB.out.cell (World.block_lt_of_cell? w _ hw257_0)).trans hw257_0), ((HB.out.cell (World.block_lt_of_cell? w _ hw257_1)).trans hw257_1)⟩ (fun hHeld => ?_); refine with_tabW spileref03_Sum.tab19 spileref03_Sum.bits19 (fun HT_ HW_ => ?_)
               generalize wr.drew = w31 at BK251 BK255 HB hx257_0 hx257_1 hHeld ⊢
               refine pure_ (i := 0) (N := some 55) (v := ?_) (a' := ?_) #[true, false, false, false, false, false, false, false, false, false] rfl rfl (any_of HT_.out (by kernel_rfl)) (fun _ _ _ h => h) (Or.inl ⟨by rfl, ?_⟩) ?_ ?_
               rotate_left
               ·
                intro w'
                go_simp
                with_reducible rfl
               rotate_left
               ·
                simp only [Act.put, List.setIfInBounds_toArray, List.set_cons_zero, List.set_cons_succ, i64_w, i32_w]
                rfl
               refine pure_ (i := 2) (N := some 57) (v := ?_) (a' := ?_) #[true, false, true, false, false, false, false, false, false, false] rfl rfl (any_of HT_.out (by kernel_rfl)) (fun _ _ _ h => h) (Or.inl ⟨by rfl, ?_⟩) ?_ ?_
               rotate_left
               ·
                intro w'
                go_simp
                with_reducible rfl
               rotate_left
               ·
                simp only [Act.put, List.setIfInBounds_toArray, List.set_cons_zero, List.set_cons_succ, i64_w, i32_w]
                rfl
               refine pure_ (i := 3) (N := some 58) (v := ?_) (a' := ?_) #[true, false, true, true, false, false, false, false, false, false] rfl rfl (any_of HT_.out (by kernel_rfl)) (fun _ _ _ h => h) (Or.inl ⟨by rfl, ?_⟩) ?_ ?_
               rotate_left
               ·
                intro w'
                go_simp
                with_reducible rfl
               rotate_left
               ·
                simp only [Act.put, List.setIfInBounds_toArray, List.set_cons_zero, List.set_cons_succ, i64_w, i32_w]
                rfl
               refine pure_ (i := 4) (N := some 59) (v := ?_) (a' := ?_) #[true, false, true, true, true, false, false, false, false, false] rfl rfl (any_of HT_.out (by kernel_rfl)) (fun _ _ _ h => h) (Or.inl ⟨by rfl, ?_⟩) ?_ ?_
               rotate_left
               ·
                intro w'
                go_simp
                with_reducible rfl
               rotate_left
               ·
                simp only [Act.put, List.setIfInBounds_toArray, List.set_cons_zero, List.set_cons_succ, i64_w, i32_w]
                rfl
               refine pure_ (i := 5) (N := some 60) (v := ?_) (a' := ?_) #[true, false, true, true, true, true, false, false, false, false] rfl rfl (any_of HT_.out (by kernel_rfl)) (fun _ _ _ h => h) (Or.inl ⟨by rfl, ?_⟩) ?_ ?_
               rotate_left
               ·
                intro w'
                go_simp
                with_reducible rfl
               rotate_left
               ·
                simp only [Act.put, List.setIfInBounds_toArray, List.set_cons_zero, List.set_cons_succ, i64_w, i32_w]
                rfl
               refine take_ (i := 1) (N := some 56) (v := ?_) (a' := ?_) #[true, true, true, true, true, true, false, false, false, false] rfl rfl (take_ofW HT_.out HW_.out (by kernel_rfl)) (fun _ _ _ h => h) (Or.inl ⟨by rfl, ?_⟩) hHeld ?_ ?_
               rotate_left
               ·
                rintro w' ⟨s0, s1, s2, s3⟩
                go_simp
                with_reducible rfl
               rotate_left
               ·
                simp only [Act.put, List.setIfInBounds_toArray, List.set_cons_zero, List.set_cons_succ, i64_w, i32_w]
                rfl
               refine take_ (i := 6) (N := some 61) (v := ?_) (a' := ?_) #[true, true, true, true, true, true, true, false, false, false] rfl rfl (take_ofW HT_.out HW_.out (by kernel_rfl)) (fun _ _ _ h => h) (Or.inl ⟨by rfl, ?_⟩) hHeld ?_ ?_
               rotate_left
               ·
                rintro w' ⟨s0, s1, s2, s3⟩
                go_simp
                with_reducible rfl
               rotate_left
               ·
                simp only [Act.put, List.setIfInBounds_toArray, List.set_cons_zero, List.set_cons_succ, i64_w, i32_w]
                rfl
               refine pure_ (i := 7) (N := some 62) (v := ?_) (a' := ?_) #[true, true, true, true, true, true, true, true, false, false] rfl rfl (any_of HT_.out (by kernel_rfl)) (fun _ _ _ h => h) (Or.inl ⟨by rfl, ?_⟩) ?_ ?_
               rotate_left
               ·
                intro w'
                go_simp
                with_reducible rfl
               rotate_left
               ·
                simp only [Act.put, List.setIfInBounds_toArray, List.set_cons_zero, List.set_cons_succ, i64_w, i32_w]
                rfl
               refine pure_ (i := 8) (N := some 63) (v := ?_) (a' := ?_) #[true, true, true, true, true, true, true, true, true, false] rfl rfl (any_of HT_.out (by kernel_rfl)) (fun _ _ _ h => h) (Or.inl ⟨by rfl, ?_⟩) ?_ ?_
               rotate_left
               ·
                intro w'
                go_simp
                with_reducible rfl
               rotate_left
               ·
                simp only [Act.put, List.setIfInBounds_toArray, List.set_cons_zero, List.set_cons_succ, i64_w, i32_w]
                rfl
               refine last_ (i := 9) (N := none) #[true, true, true, true, true, true, true, true, true, true] rfl rfl (one_of HT_.out (by kernel_rfl)) (by decide) (fun K hK => ?_)
               have hs32 : w31.cell? ⟨gb255, 1, none⟩ = some (.int .i64 x256001_3) := (blk_cell BK255.out 1).trans rfl
               have hfs32 := blk_frozen BK255.out 1
               have hns32_0 := NB251_255.out
               have hms32_0 := NB255_251.out
               refine skip_ (w1 := ?_) (by rfl) rfl ?_ ?_
               rotate_left
               ·
                go_simp
                rfl
               refine hK.out _ _ ?_
               clear hK K
               refine done_ (done_of HT_.out (by kernel_rfl)) ?_
               have hnb33 := NB255_251.out
               have hnc33 := NB251_255.out
               have hcz34_0 : w31.cell? ⟨gb255, 0, none⟩ = some (.int .i64 ((rd_T23 l0 0).f0)) := (blk_cell BK255.out 0).trans rfl
               have hcz34_1 : w31.cell? ⟨gb255, 1, none⟩ = some (.int .i64 x256001_3) := (blk_cell BK255.out 1).trans rfl
               have hfz34_0 := blk_frozen BK255.out 0
               have hfz34_1 := blk_frozen BK255.out 1
               try go_wp2_with (first | ((with_reducible refine gate_callee (f := 30) rfl ?_); refine goesL_ (some 65) rfl rfl Tryd.func30 (by kernel_rfl) rfl #[.agg #[.int .i64 ((rd_T23 l0 0).f0), .int .i64 (wrap64 (x256001_3 + ((rd_T23 l0 x7_3).f1)))]] rfl (by (try simp only [List.map_toArray, List.map_cons, List.map_nil]); first | done | rfl | (simp only [List.length_drop, List.length_take]; rfl)) ?_; (with_reducible refine (spileref03_in.calls ((rd_T23 l0 0).f0) (wrap64 (x256001_3 + ((rd_T23 l0 x7_3).f1))) true _ A29.out).mono ?_); rintro e w35 ⟨rfl, hb⟩; refine ⟨_, rfl, ?_⟩; have n0_ := Aside0.mk (blk_below (g := gb251) (o := .cells #[.int .i64 x252000_3, .int .i64 x252001_3] 23 (0, 0)) (by (with_reducible repeat (first | refine blk_drewN ?_ _ | refine blk_drew ?_ | refine blk_alloc ?_ _)); refine blk_far ?_ NB251_255.out _; (with_reducible repeat (first | refine blk_drewN ?_ _ | refine blk_drew ?_ | refine blk_alloc ?_ _)); exact BK251.out) hb); have n1_ := Aside0.mk (blk_below (g := gb255) (o := .cells #[.int .i64 ((rd_T23 l0 0).f0), .int .i64 (wrap64 (x256001_3 + ((rd_T23 l0 x7_3).f1)))] 23 (0, 0)) (by (with_reducible repeat (first | refine blk_drewN ?_ _ | refine blk_drew ?_ | refine blk_alloc ?_ _)); refine blk_put (cs := #[.int .i64 ((rd_T23 l0 0).f0), .int .i64 x256001_3]) ?_ 1 _ rfl; (with_reducible repeat (first | refine blk_drewN ?_ _ | refine blk_drew ?_ | refine blk_alloc ?_ _)); exact BK255.out) hb); have n2_ := Aside0.mk (below_step (by repeat (first | (with_reducible first | exact HB.out | apply below_alloc | apply pw_below_drewN | apply below_drew1 | refine below_set ?_ GE251.out | refine below_set ?_ GE255.out) | exact HB.out)) hb); clear BK251; clear BK255; clear HB; have BK251 := n0_; have BK255 := n1_; have HB := n2_; clear n0_ n1_ n2_; (try clear hb); (try clear hb2); (try clear hk); (try clear hi)))
               go_roundg k3
               case measure => have := HK1.out; have := HK2.out; have := HK3.out; omega
               case rel => exact ⟨(wrap64 (x7_3 + 1)), (x252000_3), (x252001_3), (wrap64 (x256001_3 + ((rd_T23 l0 x7_3).f1))), (by first | rfl | (simp; done) | (simp [*]; done)), H', ⟨by have := HK1.out; have := HK2.out; have := HK3.out; omega⟩, ⟨by (with_reducible repeat (first | refine blk_drewN ?_ _ | refine blk_drew ?_ | refine blk_alloc ?_ _)); exact BK251.out⟩, ⟨by (with_reducible repeat (first | refine blk_drewN ?_ _ | refine blk_drew ?_ | refine blk_alloc ?_ _)); exact BK255.out⟩, ⟨by repeat (first | (with_reducible first | exact HB.out | apply below_alloc | apply pw_below_drewN | apply below_drew1 | refine below_set ?_ GE251.out | refine below_set ?_ GE255.out) | exact HB.out)⟩⟩
              ·
               replace c30 := Bool.eq_false_iff.mpr c30
               subst c30
               have H1 : (some (0, 0, 15)) = some (r1, r2, r3) := by rw [if_neg (show ¬ (false = true) by decide)] at H; exact H
               clear H
               have H := H1
               clear H1
               simp only [Option.some.injEq, Prod.mk.injEq] at H
               obtain ⟨rfl, rfl, rfl⟩ := H
               try go_wp2
               have n0_ := Aside0.mk (blk_drew BK251.out)
               have n1_ := Aside0.mk (blk_drew BK255.out)
               have n2_ := Aside0.mk (below_drew1 HB.out)
               clear BK251
               clear BK255
               clear HB
               have BK251 := n0_
               have BK255 := n1_
               have HB := n2_
               clear n0_ n1_ n2_
               have p257 : 0 ≤ (x7_3 : Int) := of_decide_eq_true (by first | (with_reducible assumption) | assumption)
               have q257 : x7_3 < (l0.length : Int) := of_decide_eq_true (by first | (with_reducible assumption) | assumption)
               obtain ⟨ad257, e257, hx257_0, hx257_1⟩ := at_T23 HR0.out x7_3 p257 q257
               have hw257_1 := hx257_1
               have hw257_0 := hx257_0
               obtain rfl : ad254 = ad257 := (by injection e257)
               replace hx257_0 := (HB.out.cell (World.block_lt_of_cell? w _ hx257_0)).trans hx257_0
               replace hx257_1 := (HB.out.cell (World.block_lt_of_cell? w _ hx257_1)).trans hx257_1
               replace p257 := eq_true p257
               replace q257 := eq_true q257
               refine start_ (n := 10) (S := fun w' => w'.cell? ⟨gb255, 0, none⟩ = some (.int .i64 ((rd_T23 l0 0).f0)) ∧ w'.cell? ⟨gb255, 1, none⟩ = some (.int .i64 x256001_3) ∧ w'.cell? (ad254.add ((x7_3).toNat * 2)) = some (.int .i64 ((rd_T23 l0 x7_3).f0)) ∧ w'.cell? ⟨(ad254.add ((x7_3).toNat * 2)).block, (ad254.add ((x7_3).toNat * 2)).off + 1, none⟩ = some (.int .i64 ((rd_T23 l0 x7_3).f1))) (ds := [9]) #[false, false, false, false, false, false, false, false, false, false] (by kernel_rfl) rfl rfl ⟨(blk_cell BK255.out 0).trans rfl, (blk_cell BK255.out 1).trans rfl, ((HB.out.cell (World.block_lt_of_cell? w _ hw257_0)).trans hw257_0), ((HB.out.cell (World.block_lt_of_cell? w _ hw257_1)).trans hw257_1)⟩ (fun hHeld => ?_); refine with_tabW spileref03_Sum.tab19 spileref03_Sum.bits19 (fun HT_ HW_ => ?_)
               generalize wr.drew = w36 at BK251 BK255 HB hx257_0 hx257_1 hHeld ⊢
               refine pure_ (i := 0) (N := some 55) (v := ?_) (a' := ?_) #[true, false, false, false, false, false, false, false, false, false] rfl rfl (any_of HT_.out (by kernel_rfl)) (fun _ _ _ h => h) (Or.inl ⟨by rfl, ?_⟩) ?_ ?_
               rotate_left
               ·
                intro w'
                go_simp
                with_reducible rfl
               rotate_left
               ·
                simp only [Act.put, List.setIfInBounds_toArray, List.set_cons_zero, List.set_cons_succ, i64_w, i32_w]
                rfl
               refine pure_ (i := 2) (N := some 57) (v := ?_) (a' := ?_) #[true, false, true, false, false, false, false, false, false, false] rfl rfl (any_of HT_.out (by kernel_rfl)) (fun _ _ _ h => h) (Or.inl ⟨by rfl, ?_⟩) ?_ ?_
               rotate_left
               ·
                intro w'
                go_simp
                with_reducible rfl
               rotate_left
               ·
                simp only [Act.put, List.setIfInBounds_toArray, List.set_cons_zero, List.set_cons_succ, i64_w, i32_w]
                rfl
               refine pure_ (i := 3) (N := some 58) (v := ?_) (a' := ?_) #[true, false, true, true, false, false, false, false, false, false] rfl rfl (any_of HT_.out (by kernel_rfl)) (fun _ _ _ h => h) (Or.inl ⟨by rfl, ?_⟩) ?_ ?_
               rotate_left
               ·
                intro w'
                go_simp
                with_reducible rfl
               rotate_left
               ·
                simp only [Act.put, List.setIfInBounds_toArray, List.set_cons_zero, List.set_cons_succ, i64_w, i32_w]
                rfl
               refine pure_ (i := 4) (N := some 59) (v := ?_) (a' := ?_) #[true, false, true, true, true, false, false, false, false, false] rfl rfl (any_of HT_.out (by kernel_rfl)) (fun _ _ _ h => h) (Or.inl ⟨by rfl, ?_⟩) ?_ ?_
               rotate_left
               ·
                intro w'
                go_simp
                with_reducible rfl
               rotate_left
               ·
                simp only [Act.put, List.setIfInBounds_toArray, List.set_cons_zero, List.set_cons_succ, i64_w, i32_w]
                rfl
               refine pure_ (i := 5) (N := some 60) (v := ?_) (a' := ?_) #[true, false, true, true, true, true, false, false, false, false] rfl rfl (any_of HT_.out (by kernel_rfl)) (fun _ _ _ h => h) (Or.inl ⟨by rfl, ?_⟩) ?_ ?_
               rotate_left
               ·
                intro w'
                go_simp
                with_reducible rfl
               rotate_left
               ·
                simp only [Act.put, List.setIfInBounds_toArray, List.set_cons_zero, List.set_cons_succ, i64_w, i32_w]
                rfl
               refine take_ (i := 1) (N := some 56) (v := ?_) (a' := ?_) #[true, true, true, true, true, true, false, false, false, false] rfl rfl (take_ofW HT_.out HW_.out (by kernel_rfl)) (fun _ _ _ h => h) (Or.inl ⟨by rfl, ?_⟩) hHeld ?_ ?_
               rotate_left
               ·
                rintro w' ⟨s0, s1, s2, s3⟩
                go_simp
                with_reducible rfl
               rotate_left
               ·
                simp only [Act.put, List.setIfInBounds_toArray, List.set_cons_zero, List.set_cons_succ, i64_w, i32_w]
                rfl
               refine take_ (i := 6) (N := some 61) (v := ?_) (a' := ?_) #[true, true, true, true, true, true, true, false, false, false] rfl rfl (take_ofW HT_.out HW_.out (by kernel_rfl)) (fun _ _ _ h => h) (Or.inl ⟨by rfl, ?_⟩) hHeld ?_ ?_
               rotate_left
               ·
                rintro w' ⟨s0, s1, s2, s3⟩
                go_simp
                with_reducible rfl
               rotate_left
               ·
                simp only [Act.put, List.setIfInBounds_toArray, List.set_cons_zero, List.set_cons_succ, i64_w, i32_w]
                rfl
               refine pure_ (i := 7) (N := some 62) (v := ?_) (a' := ?_) #[true, true, true, true, true, true, true, true, false, false] rfl rfl (any_of HT_.out (by kernel_rfl)) (fun _ _ _ h => h) (Or.inl ⟨by rfl, ?_⟩) ?_ ?_
               rotate_left
               ·
                intro w'
                go_simp
                with_reducible rfl
               rotate_left
               ·
                simp only [Act.put, List.setIfInBounds_toArray, List.set_cons_zero, List.set_cons_succ, i64_w, i32_w]
                rfl
               refine pure_ (i := 8) (N := some 63) (v := ?_) (a' := ?_) #[true, true, true, true, true, true, true, true, true, false] rfl rfl (any_of HT_.out (by kernel_rfl)) (fun _ _ _ h => h) (Or.inl ⟨by rfl, ?_⟩) ?_ ?_
               rotate_left
               ·
                intro w'
                go_simp
                with_reducible rfl
               rotate_left
               ·
                simp only [Act.put, List.setIfInBounds_toArray, List.set_cons_zero, List.set_cons_succ, i64_w, i32_w]
                rfl
               refine last_ (i := 9) (N := none) #[true, true, true, true, true, true, true, true, true, true] rfl rfl (one_of HT_.out (by kernel_rfl)) (by decide) (fun K hK => ?_)
               have hs37 : w36.cell? ⟨gb255, 1, none⟩ = some (.int .i64 x256001_3) := (blk_cell BK255.out 1).trans rfl
               have hfs37 := blk_frozen BK255.out 1
               have hns37_0 := NB251_255.out
               have hms37_0 := NB255_251.out
               refine skip_ (w1 := ?_) (by rfl) rfl ?_ ?_
               rotate_left
               ·
                go_simp
                rfl
               refine hK.out _ _ ?_
               clear hK K
               refine done_ (done_of HT_.out (by kernel_rfl)) ?_
               have hnb38 := NB255_251.out
               have hnc38 := NB251_255.out
               have hcz39_0 : w36.cell? ⟨gb255, 0, none⟩ = some (.int .i64 ((rd_T23 l0 0).f0)) := (blk_cell BK255.out 0).trans rfl
               have hcz39_1 : w36.cell? ⟨gb255, 1, none⟩ = some (.int .i64 x256001_3) := (blk_cell BK255.out 1).trans rfl
               have hfz39_0 := blk_frozen BK255.out 0
               have hfz39_1 := blk_frozen BK255.out 1
               try go_wp2_with (first | ((with_reducible refine gate_callee (f := 30) rfl ?_); refine goesL_ (some 65) rfl rfl Tryd.func30 (by kernel_rfl) rfl #[.agg #[.int .i64 ((rd_T23 l0 0).f0), .int .i64 (wrap64 (x256001_3 + ((rd_T23 l0 x7_3).f1)))]] rfl (by (try simp only [List.map_toArray, List.map_cons, List.map_nil]); first | done | rfl | (simp only [List.length_drop, List.length_take]; rfl)) ?_; (with_reducible refine (spileref03_in.calls ((rd_T23 l0 0).f0) (wrap64 (x256001_3 + ((rd_T23 l0 x7_3).f1))) false _ A29.out).mono ?_); rintro e w40 ⟨rfl, hb⟩; refine ⟨_, rfl, ?_⟩; have n0_ := Aside0.mk (blk_below (g := gb251) (o := .cells #[.int .i64 x252000_3, .int .i64 x252001_3] 23 (0, 0)) (by (with_reducible repeat (first | refine blk_drewN ?_ _ | refine blk_drew ?_ | refine blk_alloc ?_ _)); refine blk_far ?_ NB251_255.out _; (with_reducible repeat (first | refine blk_drewN ?_ _ | refine blk_drew ?_ | refine blk_alloc ?_ _)); exact BK251.out) hb); have n1_ := Aside0.mk (blk_below (g := gb255) (o := .cells #[.int .i64 ((rd_T23 l0 0).f0), .int .i64 (wrap64 (x256001_3 + ((rd_T23 l0 x7_3).f1)))] 23 (0, 0)) (by (with_reducible repeat (first | refine blk_drewN ?_ _ | refine blk_drew ?_ | refine blk_alloc ?_ _)); refine blk_put (cs := #[.int .i64 ((rd_T23 l0 0).f0), .int .i64 x256001_3]) ?_ 1 _ rfl; (with_reducible repeat (first | refine blk_drewN ?_ _ | refine blk_drew ?_ | refine blk_alloc ?_ _)); exact BK255.out) hb); have n2_ := Aside0.mk (below_step (by repeat (first | (with_reducible first | exact HB.out | apply below_alloc | apply pw_below_drewN | apply below_drew1 | refine below_set ?_ GE251.out | refine below_set ?_ GE255.out) | exact HB.out)) hb); clear BK251; clear BK255; clear HB; have BK251 := n0_; have BK255 := n1_; have HB := n2_; clear n0_ n1_ n2_; (try clear hb); (try clear hb2); (try clear hk); (try clear hi); have hcz41_0 : w40.cell? ⟨gb251, 0, none⟩ = some (.int .i64 x252000_3) := (blk_cell BK251.out 0).trans rfl; have hcz41_1 : w40.cell? ⟨gb251, 1, none⟩ = some (.int .i64 x252001_3) := (blk_cell BK251.out 1).trans rfl; have hfz41_0 := blk_frozen BK251.out 0; have hfz41_1 := blk_frozen BK251.out 1))
               refine bodyPost_ret (results_ct rfl _ _ gb251 23 #[.int .i64 0, .int .i64 0] (0, 0) _ rfl (by (with_reducible repeat (first | refine blk_drewN ?_ _ | refine blk_drew ?_ | refine blk_alloc ?_ _)); refine blk_put (cs := #[.int .i64 0, .int .i64 x252001_3]) ?_ 1 _ rfl; (with_reducible repeat (first | refine blk_drewN ?_ _ | refine blk_drew ?_ | refine blk_alloc ?_ _)); refine blk_put (cs := #[.int .i64 x252000_3, .int .i64 x252001_3]) ?_ 0 _ rfl; (with_reducible repeat (first | refine blk_drewN ?_ _ | refine blk_drew ?_ | refine blk_alloc ?_ _)); exact BK251.out) Tryd.underlying23 rfl (by kernel_rfl)) rfl ?_
               exact ⟨by first | rfl | (simp [errW_none, errW_some] <;> rfl) | (simp [*, errW_none, errW_some] <;> rfl), by repeat (first | (with_reducible first | exact HB.out | apply below_alloc | apply pw_below_drewN | apply below_drew1 | refine below_set ?_ GE251.out | refine below_set ?_ GE255.out) | exact HB.out)⟩
             ·
              rw [if_neg c28] at H
              exact absurd H (by simp)
            ·
             rw [if_neg c27] at H
             have c27b0 : decide (x7_3 < (l0.length : Int)) = false := decide_eq_false c27
             clear c27
             simp only [Option.some.injEq, Prod.mk.injEq] at H
             obtain ⟨rfl, rfl, rfl⟩ := H
             have hnb42 := NB255_251.out
             have hnc42 := NB251_255.out
             have hcz43_0 : wr.cell? ⟨gb255, 0, none⟩ = some (.int .i64 ((rd_T23 l0 0).f0)) := (blk_cell BK255.out 0).trans rfl
             have hcz43_1 : wr.cell? ⟨gb255, 1, none⟩ = some (.int .i64 x256001_3) := (blk_cell BK255.out 1).trans rfl
             have hfz43_0 := blk_frozen BK255.out 0
             have hfz43_1 := blk_frozen BK255.out 1
             have hcz44_0 : wr.cell? ⟨gb251, 0, none⟩ = some (.int .i64 x252000_3) := (blk_cell BK251.out 0).trans rfl
             have hcz44_1 : wr.cell? ⟨gb251, 1, none⟩ = some (.int .i64 x252001_3) := (blk_cell BK251.out 1).trans rfl
             have hfz44_0 := blk_frozen BK251.out 0
             have hfz44_1 := blk_frozen BK251.out 1
             go_wp2
             refine bodyPost_ret (results_ct rfl _ _ gb251 23 #[.int .i64 ((rd_T23 l0 0).f0), .int .i64 x256001_3] (0, 0) _ rfl (by (with_reducible repeat (first | refine blk_drewN ?_ _ | refine blk_drew ?_ | refine blk_alloc ?_ _)); refine blk_put (cs := #[.int .i64 ((rd_T23 l0 0).f0), .int .i64 x252001_3]) ?_ 1 _ rfl; (with_reducible repeat (first | refine blk_drewN ?_ _ | refine blk_drew ?_ | refine blk_alloc ?_ _)); refine blk_put (cs := #[.int .i64 x252000_3, .int .i64 x252001_3]) ?_ 0 _ rfl; (with_reducible repeat (first | refine blk_drewN ?_ _ | refine blk_drew ?_ | refine blk_alloc ?_ _)); exact BK251.out) Tryd.underlying23 rfl (by kernel_rfl)) rfl ?_
             exact ⟨by first | rfl | (simp [errW_none, errW_some] <;> rfl) | (simp [*, errW_none, errW_some] <;> rfl), by repeat (first | (with_reducible first | exact HB.out | apply below_alloc | apply pw_below_drewN | apply below_drew1 | refine below_set ?_ GE251.out | refine below_set ?_ GE255.out) | exact HB.out)⟩
      ·
       rw [if_neg c16] at H
       exact absurd H (by simp)
end Go.Proofs.YtmjglehdckgcnaaDoor.Pr
namespace Go.Proofs.YtmjglehdckgcnaaDoor.Pr
open Go.RowKit Go.Proofs.YtmjglehdckgcnaaDoorW.PrintWords Go.Proofs.YtmjglehdckgcnaaDoorW.PrintLast Go.Proofs.YtmjglehdckgcnaaDoorW.PrintMore Go.Proofs.YtmjglehdckgcnaaDoor.X
attribute [local go_sem] max2_int min2_int max_two min_two max_three min_three max_four min_four   -- for this text's walks alone
set_option linter.unusedVariables false
set_option linter.unusedSimpArgs false
attribute [local go_sem high] eqA23
def spilelaw03_UnitSums.f (k : Nat) (l0 : List (S23)) : Option (Bool) := (spilelaw03_awake.f).bind fun t259 => (if t259 = true then (if (l0.length : Int) > 65 then (some true) else ((slices_Clone23.f l0).bind fun t260 => ((unit_Sum.f k t260).bind fun bt263 => ((spileref03_Sum.f k l0).bind fun bt267 => (if (bt263.1 == bt267.1 && (bt263.2.1 == bt267.2.1)) = true then (some (bt263.2.2 == bt267.2.2)) else (some false)))))) else (some false))
set_option maxHeartbeats 8000000 in
set_option maxRecDepth 100000 in
theorem spilelaw03_UnitSums.calls (k : Nat) (A0 : Option Addr) (c0 : Nat) (l0 : List (S23)) (r : Bool) (w : World) (hr0 : Kd.C k23 w A0 l0.length l0) (hc0 : l0.length ≤ c0) (hG : GI w) (hr_ : r = true) (h : spilelaw03_UnitSums.f k l0 = some r) :
  Calls Tryd.prog 7 #[.slice A0 l0.length c0] w fun e w' => e = .returned (.bool r) ∧ Below w.heap.size w w' := by
 have hu23 := Tryd.underlying23
 have HR0 := Aside0.mk hr0
 have HC0 := Aside0.mk hc0
 clear hr0 hc0
 have HG := Aside0.mk hG
 clear hG
 have HB := Aside0.mk (Below.refl w.heap.size w)
 have H : ((spilelaw03_awake.f).bind fun t259 => (if t259 = true then (if (l0.length : Int) > 65 then (some true) else ((slices_Clone23.f l0).bind fun t260 => ((unit_Sum.f k t260).bind fun bt263 => ((spileref03_Sum.f k l0).bind fun bt267 => (if (bt263.1 == bt267.1 && (bt263.2.1 == bt267.2.1)) = true then (some (bt263.2.2 == bt267.2.2)) else (some false)))))) else (some false))) = some r := h
 clear h
 replace H := Option.bind_eq_some_iff.mp H
 obtain ⟨t259, A20, H⟩ := H
 replace H : (if t259 = true then (if (l0.length : Int) > 65 then (some true) else ((slices_Clone23.f l0).bind fun t260 => ((unit_Sum.f k t260).bind fun bt263 => ((spileref03_Sum.f k l0).bind fun bt267 => (if (bt263.1 == bt267.1 && (bt263.2.1 == bt267.2.1)) = true then (some (bt263.2.2 == bt267.2.2)) else (some false)))))) else (some false)) = some r := H
 have A2 := Aside0.mk A20
 clear A20
 by_cases c3 : t259 = true
 ·
  subst c3
  have H1 : (if (l0.length : Int) > 65 then (some true) else ((slices_Clone23.f l0).bind fun t260 => ((unit_Sum.f k t260).bind fun bt263 => ((spileref03_Sum.f k l0).bind fun bt267 => (if (bt263.1 == bt267.1 && (bt263.2.1 == bt267.2.1)) = true then (some (bt263.2.2 == bt267.2.2)) else (some false)))))) = some r := by rw [if_pos rfl] at H; exact H
  clear H
  have H := H1
  clear H1
  by_cases c4 : (l0.length : Int) > 65
  ·
   rw [if_pos c4] at H
   have c4b0 : decide (65 < (l0.length : Int)) = true := decide_eq_true c4
   have c4b1 : decide (65 < l0.length) = true := decide_eq_true (by omega)
   clear c4
   obtain rfl := Option.some.inj H
   go_enter Tryd.func7, Tryd.ntmps7
   go_wp2_with (first | ((with_reducible refine gate_callee (f := 9) rfl ?_); refine goesL_ (some 7) rfl rfl Tryd.func9 (by kernel_rfl) rfl #[] rfl (by (try simp only [List.map_toArray, List.map_cons, List.map_nil]); first | done | rfl | (simp only [List.length_drop, List.length_take]; rfl)) ?_; (with_reducible refine (spilelaw03_awake.calls  true _ ?side1 A2.out).mono ?_); (case side1 => exact GI.below HG.out (by repeat (first | (with_reducible first | exact HB.out | apply below_alloc | apply pw_below_drewN | apply below_drew1) | exact HB.out))); rintro e w5 ⟨rfl, hb⟩; refine ⟨_, rfl, ?_⟩; have n0_ := Aside0.mk (below_step (by repeat (first | (with_reducible first | exact HB.out | apply below_alloc | apply pw_below_drewN | apply below_drew1) | exact HB.out)) hb); clear HB; have HB := n0_; clear n0_; (try clear hb); (try clear hb2); (try clear hk); (try clear hi)))
   go_ret
   exact ⟨by first | rfl | (simp [errW_none, errW_some] <;> rfl) | (simp [*, errW_none, errW_some] <;> rfl), by repeat (first | (with_reducible first | exact HB.out | apply below_alloc | apply pw_below_drewN | apply below_drew1) | exact HB.out)⟩
  ·
   rw [if_neg c4] at H
   have c4b0 : decide (65 < (l0.length : Int)) = false := decide_eq_false c4
   have c4b1 : decide (65 < l0.length) = false := decide_eq_false (by omega)
   clear c4
   replace H := Option.bind_eq_some_iff.mp H
   obtain ⟨t260, A60, H⟩ := H
   replace H : ((unit_Sum.f k t260).bind fun bt263 => ((spileref03_Sum.f k l0).bind fun bt267 => (if (bt263.1 == bt267.1 && (bt263.2.1 == bt267.2.1)) = true then (some (bt263.2.2 == bt267.2.2)) else (some false)))) = some r := H
   have A6 := Aside0.mk A60
   clear A60
   replace H := Option.bind_eq_some_iff.mp H
   obtain ⟨⟨t263, t264, t265⟩, A70, H⟩ := H
   replace H : ((spileref03_Sum.f k l0).bind fun bt267 => (if (t263 == bt267.1 && (t264 == bt267.2.1)) = true then (some (t265 == bt267.2.2)) else (some false))) = some r := H
   have A7 := Aside0.mk A70
   clear A70
   replace H := Option.bind_eq_some_iff.mp H
   obtain ⟨⟨t267, t268, t269⟩, A80, H⟩ := H
   replace H : (if (t263 == t267 && (t264 == t268)) = true then (some (t265 == t269)) else (some false)) = some r := H
   have A8 := Aside0.mk A80
   clear A80
   by_cases c9 : (t263 == t267 && (t264 == t268)) = true
   ·
    rw [if_pos c9] at H
    have c9b0 : (t263 == t267 && (t264 == t268)) = true := c9
    (try (have c9b1 : decide (t263 = t267 && (t264 == t268)) = true := by simpa using c9))
    (try (have c9b2 : (t263 == t267 && (t264 == t268)) = true := by simpa using c9))
    clear c9
    obtain rfl := Option.some.inj H
    go_enter Tryd.func7, Tryd.ntmps7
    go_wp2_with (first | ((with_reducible refine gate_callee (f := 9) rfl ?_); refine goesL_ (some 7) rfl rfl Tryd.func9 (by kernel_rfl) rfl #[] rfl (by (try simp only [List.map_toArray, List.map_cons, List.map_nil]); first | done | rfl | (simp only [List.length_drop, List.length_take]; rfl)) ?_; (with_reducible refine (spilelaw03_awake.calls  true _ ?side1 A2.out).mono ?_); (case side1 => exact GI.below HG.out (by repeat (first | (with_reducible first | exact HB.out | apply below_alloc | apply pw_below_drewN | apply below_drew1) | exact HB.out))); rintro e w10 ⟨rfl, hb⟩; refine ⟨_, rfl, ?_⟩; have n0_ := Aside0.mk (below_step (by repeat (first | (with_reducible first | exact HB.out | apply below_alloc | apply pw_below_drewN | apply below_drew1) | exact HB.out)) hb); clear HB; have HB := n0_; clear n0_; (try clear hb); (try clear hb2); (try clear hk); (try clear hi)) | ((with_reducible refine gate_callee (f := 22) rfl ?_); refine goesL_ (some 14) rfl rfl Tryd.func22 (by kernel_rfl) rfl #[.slice A0 l0.length c0] rfl (by (try simp only [List.map_toArray, List.map_cons, List.map_nil]); first | done | rfl | (simp only [List.length_drop, List.length_take]; rfl)) ?_; (with_reducible refine (slices_Clone23.calls _ _ l0 t260 _ ?side1 ?side2 A6.out).mono ?_); (case side1 => repeat (first | exact (Kd.C_below HR0.out HB.out) | (with_reducible refine Kd.C_alloc ?_ _) | (with_reducible refine Kd.C_drewN ?_ _) | (with_reducible refine Kd.C_drew ?_))); (case side2 => exact HC0.out); rintro e w11 ⟨v261, rfl, ho0, hb⟩; refine ⟨_, rfl, ?_⟩; have n0_ := Aside0.mk (Kd.R_lower ho0 (below_size (by repeat (first | (with_reducible first | exact HB.out | apply below_alloc | apply pw_below_drewN | apply below_drew1) | exact HB.out)))); have n1_ := Aside0.mk (below_step (by repeat (first | (with_reducible first | exact HB.out | apply below_alloc | apply pw_below_drewN | apply below_drew1) | exact HB.out)) hb); clear HB; have HO262 := n0_; have HB := n1_; clear n0_ n1_; (try clear hb); (try clear hb2); (try clear hk); (try clear hi); (try clear ho0); obtain ⟨Ao12, co12, eo12⟩ := Kd.R_slice HO262.out; subst eo12) | ((with_reducible refine gate_callee (f := 21) rfl ?_); refine goesL_ (some 15) rfl rfl Tryd.func21 (by kernel_rfl) rfl #[.slice Ao12 t260.length co12] rfl (by (try simp only [List.map_toArray, List.map_cons, List.map_nil]); first | done | rfl | (simp only [List.length_drop, List.length_take]; rfl)) ?_; (with_reducible refine (unit_Sum.calls k _ _ t260 t263 t264 t265 _ ?side1 ?side2 A7.out).mono ?_); (case side1 => repeat (first | exact (Kd.R_reads' HO262.out).2.2 | (with_reducible refine Kd.C_alloc ?_ _) | (with_reducible refine Kd.C_drewN ?_ _) | (with_reducible refine Kd.C_drew ?_))); (case side2 => exact (Kd.R_reads' HO262.out).2.1); rintro e w13 ⟨rfl, hb⟩; refine ⟨_, rfl, ?_⟩; have n0_ := Aside0.mk (Kd.R_below (by (with_reducible repeat (first | apply Kd.R_alloc | apply Kd.R_drewN | apply Kd.R_drew)); exact HO262.out) hb); have n1_ := Aside0.mk (below_step (by repeat (first | (with_reducible first | exact HB.out | apply below_alloc | apply pw_below_drewN | apply below_drew1) | exact HB.out)) hb); clear HO262; clear HB; have HO262 := n0_; have HB := n1_; clear n0_ n1_; (try clear hb); (try clear hb2); (try clear hk); (try clear hi)) | ((with_reducible refine gate_dst (N := 3) rfl ?_); refine box_event ?hg (N := 3) ?hd (cs := #[.int .i64 0, .int .i64 0]) (t := 23) ?hr ?_; (case hd => rfl); (case hg => rfl); (case hr => first | (go_simp; done) | (go_simp; rfl)); intro gb266 hg w14 hbox hb; have n0_ := Aside0.mk (Kd.R_below (Kd.R_elderB (by (with_reducible repeat (first | apply Kd.R_alloc | apply Kd.R_drewN | apply Kd.R_drew)); exact HO262.out) gb266 (Nat.le_of_eq hg.symm)) hb); have n1_ := Aside0.mk (below_step (by repeat (first | (with_reducible first | exact HB.out | apply below_alloc | apply pw_below_drewN | apply below_drew1) | exact HB.out)) hb); have n2_ := Aside0.mk (hbox); have n3_ := Aside0.mk ((by rw [hg]; exact (below_size (by repeat (first | (with_reducible first | exact HB.out | apply below_alloc | apply pw_below_drewN | apply below_drew1) | exact HB.out))) : w.heap.size ≤ gb266)); have n4_ := Aside0.mk ((by rw [hg]; exact (below_size (by repeat (first | (with_reducible first | exact HB.out | apply below_alloc | apply pw_below_drewN | apply below_drew1) | exact HB.out))) : w.heap.size ≤ gb266)); clear HO262; clear HB; have HO262 := n0_; have HB := n1_; have BK266 := n2_; have GW266 := n3_; have GE266 := n4_; clear n0_ n1_ n2_ n3_ n4_; clear hb hbox hg; have hcz15_0 : w14.cell? ⟨gb266, 0, none⟩ = some (.int .i64 0) := (blk_cell BK266.out 0).trans rfl; have hcz15_1 : w14.cell? ⟨gb266, 1, none⟩ = some (.int .i64 0) := (blk_cell BK266.out 1).trans rfl; have hfz15_0 := blk_frozen BK266.out 0; have hfz15_1 := blk_frozen BK266.out 1) | ((with_reducible refine gate_callee (f := 23) rfl ?_); refine goesL_ (some 20) rfl rfl Tryd.func23 (by kernel_rfl) rfl #[.slice A0 l0.length c0] rfl (by (try simp only [List.map_toArray, List.map_cons, List.map_nil]); first | done | rfl | (simp only [List.length_drop, List.length_take]; rfl)) ?_; (with_reducible refine (spileref03_Sum.calls k _ _ l0 t267 t268 t269 _ ?side1 ?side2 A8.out).mono ?_); (case side1 => exact Kd.C_below HR0.out (by repeat (first | (with_reducible first | exact HB.out | apply below_alloc | apply pw_below_drewN | apply below_drew1 | refine below_set ?_ GE266.out) | exact HB.out))); (case side2 => exact HC0.out); rintro e w16 ⟨rfl, hb⟩; refine ⟨_, rfl, ?_⟩; have n0_ := Aside0.mk (Kd.R_below (by (with_reducible repeat (first | apply Kd.R_alloc | apply Kd.R_drewN | apply Kd.R_drew)); exact (Kd.R_mono (Kd.R_far (p := ⟨gb266, 1, none⟩) (Kd.R_far (p := ⟨gb266, 0, none⟩) (Kd.R_mono HO262.out (fun k_ hk => (⟨hk, hk.2⟩ : _ ∧ k_ ≠ gb266))) (fun _ hk => hk.2) (.int .i64 t263)) (fun _ hk => hk.2) (.int .i64 t264)) (fun _ h_ => h_.1))) hb); have n1_ := Aside0.mk (blk_below (g := gb266) (o := .cells #[.int .i64 t263, .int .i64 t264] 23 (0, 0)) (by (with_reducible repeat (first | refine blk_drewN ?_ _ | refine blk_drew ?_ | refine blk_alloc ?_ _)); refine blk_put (cs := #[.int .i64 t263, .int .i64 0]) ?_ 1 _ rfl; (with_reducible repeat (first | refine blk_drewN ?_ _ | refine blk_drew ?_ | refine blk_alloc ?_ _)); refine blk_put (cs := #[.int .i64 0, .int .i64 0]) ?_ 0 _ rfl; (with_reducible repeat (first | refine blk_drewN ?_ _ | refine blk_drew ?_ | refine blk_alloc ?_ _)); exact BK266.out) hb); have n2_ := Aside0.mk (below_step (by repeat (first | (with_reducible first | exact HB.out | apply below_alloc | apply pw_below_drewN | apply below_drew1 | refine below_set ?_ GE266.out) | exact HB.out)) hb); clear HO262; clear BK266; clear HB; have HO262 := n0_; have BK266 := n1_; have HB := n2_; clear n0_ n1_ n2_; (try clear hb); (try clear hb2); (try clear hk); (try clear hi)) | ((with_reducible refine gate_dst (N := 5) rfl ?_); refine box_event ?hg (N := 5) ?hd (cs := #[.int .i64 0, .int .i64 0]) (t := 23) ?hr ?_; (case hd => rfl); (case hg => rfl); (case hr => first | (go_simp; done) | (go_simp; rfl)); intro gb270 hg w17 hbox hb; have n0_ := Aside0.mk (Kd.R_below (Kd.R_elderB (by (with_reducible repeat (first | apply Kd.R_alloc | apply Kd.R_drewN | apply Kd.R_drew)); exact HO262.out) gb270 (Nat.le_of_eq hg.symm)) hb); have n1_ := Aside0.mk (blk_below (g := gb266) (o := .cells #[.int .i64 t263, .int .i64 t264] 23 (0, 0)) (by (with_reducible repeat (first | refine blk_drewN ?_ _ | refine blk_drew ?_ | refine blk_alloc ?_ _)); exact BK266.out) hb); have n2_ := Aside0.mk (below_step (by repeat (first | (with_reducible first | exact HB.out | apply below_alloc | apply pw_below_drewN | apply below_drew1 | refine below_set ?_ GE266.out) | exact HB.out)) hb); have n3_ := Aside0.mk (hbox); have n4_ := Aside0.mk ((by rw [hg]; exact (below_size (by repeat (first | (with_reducible first | exact HB.out | apply below_alloc | apply pw_below_drewN | apply below_drew1 | refine below_set ?_ GE266.out) | exact HB.out))) : w.heap.size ≤ gb270)); have n5_ := Aside0.mk ((by rw [hg]; exact (below_size (by repeat (first | (with_reducible first | exact HB.out | apply below_alloc | apply pw_below_drewN | apply below_drew1 | refine below_set ?_ GE266.out) | exact HB.out))) : w.heap.size ≤ gb270)); have n6_ := Aside0.mk ((by rw [hg]; exact Nat.ne_of_lt (blk_lt (g := gb266) (o := .cells #[.int .i64 t263, .int .i64 t264] 23 (0, 0)) (by (with_reducible repeat (first | refine blk_drewN ?_ _ | refine blk_drew ?_ | refine blk_alloc ?_ _)); exact BK266.out)) : gb266 ≠ gb270)); have n7_ := Aside0.mk ((by rw [hg]; exact Nat.ne_of_gt (blk_lt (g := gb266) (o := .cells #[.int .i64 t263, .int .i64 t264] 23 (0, 0)) (by (with_reducible repeat (first | refine blk_drewN ?_ _ | refine blk_drew ?_ | refine blk_alloc ?_ _)); exact BK266.out)) : gb270 ≠ gb266)); clear HO262; clear BK266; clear HB; have HO262 := n0_; have BK266 := n1_; have HB := n2_; have BK270 := n3_; have GW270 := n4_; have GE270 := n5_; have NB266_270 := n6_; have NB270_266 := n7_; clear n0_ n1_ n2_ n3_ n4_ n5_ n6_ n7_; clear hb hbox hg; have hnb18 := NB270_266.out; have hnc18 := NB266_270.out; have hcz19_0 : w17.cell? ⟨gb270, 0, none⟩ = some (.int .i64 0) := (blk_cell BK270.out 0).trans rfl; have hcz19_1 : w17.cell? ⟨gb270, 1, none⟩ = some (.int .i64 0) := (blk_cell BK270.out 1).trans rfl; have hfz19_0 := blk_frozen BK270.out 0; have hfz19_1 := blk_frozen BK270.out 1; have hcz20_0 : w17.cell? ⟨gb266, 0, none⟩ = some (.int .i64 t263) := (blk_cell BK266.out 0).trans rfl; have hcz20_1 : w17.cell? ⟨gb266, 1, none⟩ = some (.int .i64 t264) := (blk_cell BK266.out 1).trans rfl; have hfz20_0 := blk_frozen BK266.out 0; have hfz20_1 := blk_frozen BK266.out 1))
    go_ret
    exact ⟨by first | rfl | (simp [errW_none, errW_some] <;> rfl) | (simp [*, errW_none, errW_some] <;> rfl), by repeat (first | (with_reducible first | exact HB.out | apply below_alloc | apply pw_below_drewN | apply below_drew1 | refine below_set ?_ GE266.out | refine below_set ?_ GE270.out) | exact HB.out)⟩
   ·
    rw [if_neg c9] at H
    have c9b0 : (t263 == t267 && (t264 == t268)) = false := by simpa using c9
    (try (have c9b1 : decide (t263 = t267 && (t264 == t268)) = false := by simpa using c9))
    (try (have c9b2 : (t263 == t267 && (t264 == t268)) = false := by simpa using c9))
    (try (have c9b3 : ¬ (t263 = t267 && (t264 == t268)) := by simpa using c9))
    clear c9
    subst hr_
    exact absurd H (by simp)
 ·
  replace c3 := Bool.eq_false_iff.mpr c3
  subst c3
  have H1 : (some false) = some r := by rw [if_neg (show ¬ (false = true) by decide)] at H; exact H
  clear H
  have H := H1
  clear H1
  subst hr_
  exact absurd H (by simp)
end Go.Proofs.YtmjglehdckgcnaaDoor.Pr
namespace Go.Proofs.YtmjglehdckgcnaaDoor.Opn
open Go Go.RowKit Go.Proofs.YtmjglehdckgcnaaDoorW.PrintWords Go.Proofs.YtmjglehdckgcnaaDoor.O Go.Proofs.YtmjglehdckgcnaaDoor.Pr
theorem opens3 : Opens Tryd.prog 3 (Kd.int .i64) (fun x => (Lit.int .i64 x).wf = true) := opens_int Tryd.underlying3 (by kernel_rfl)
def ok23 (x : S23) : Prop := (Lit.int .i64 x.f0).wf = true ∧ (Lit.int .i64 x.f1).wf = true
theorem opens23 : Opens Tryd.prog 23 k23 ok23 :=
  ⟨by kernel_rfl, fun H enc w base sp held fuel cs x h => by
    obtain ⟨xs, n, _, _, hl, hx, hf⟩ := DataW.trod_struct Tryd.underlying23 h
    have hc_ : Tryd.prog.cellsOf 23 = 2 := by kernel_rfl
    rw [hc_] at hl
    obtain ⟨c0, c1, rfl⟩ : ∃ c0 c1, cs = [c0, c1] := by
      clear h hf hx
      rcases cs with _ | ⟨c0, _ | ⟨c1, _ | ⟨_, _⟩⟩⟩
      all_goals first | exact ⟨_, _, rfl⟩ | (simp at hl)
    obtain ⟨y0, hy0⟩ : ∃ y, xs[0]? = some y := ⟨xs[0]'(by rw [hx]; decide), List.getElem?_eq_getElem _⟩
    have e0 : DataW.trod enc Tryd.prog w base sp held n 3 ((List.drop 0 [c0, c1]).take (Tryd.prog.cellsOf 3)) = xs[0]? := hf 0 _ rfl
    rw [hy0, show Tryd.prog.cellsOf 3 = 1 from by kernel_rfl] at e0
    obtain ⟨v0, K0, o0⟩ := opens3.2 H enc w base sp held n _ _ e0
    replace K0 : (Kd.int .i64).K w v0 [c0] := K0
    obtain ⟨y1, hy1⟩ : ∃ y, xs[1]? = some y := ⟨xs[1]'(by rw [hx]; decide), List.getElem?_eq_getElem _⟩
    have e1 : DataW.trod enc Tryd.prog w base sp held n 3 ((List.drop 1 [c0, c1]).take (Tryd.prog.cellsOf 3)) = xs[1]? := hf 1 _ rfl
    rw [hy1, show Tryd.prog.cellsOf 3 = 1 from by kernel_rfl] at e1
    obtain ⟨v1, K1, o1⟩ := opens3.2 H enc w base sp held n _ _ e1
    replace K1 : (Kd.int .i64).K w v1 [c1] := K1
    obtain rfl : c0 = _ := List.singleton_inj.1 K0
    obtain rfl : c1 = _ := List.singleton_inj.1 K1
    refine ⟨⟨v0, v1⟩, ?_, o0, o1⟩
    exact k23_mk w ⟨v0, v1⟩ ⟩
theorem opens42 : Opens Tryd.prog 42 (Kd.slice 23 k23) (fun x => (x.length ≤ maxLen ∧ ∀ x0_, x0_ ∈ x → ok23 x0_)) := opens_slice (P := Tryd.prog) (t := 42) (e := 23) Tryd.underlying42 (by kernel_rfl) opens23
end Go.Proofs.YtmjglehdckgcnaaDoor.Opn
namespace Go.Proofs.YtmjglehdckgcnaaDoor.Pure
open Go Go.RowKit Go.Proofs.YtmjglehdckgcnaaDoor.Pr Go.Proofs.YtmjglehdckgcnaaDoor.Opn
def unitSumsPure : Prop := ∀ (l0 : (List S23)), (l0.length ≤ maxLen ∧ ∀ x0_, x0_ ∈ l0 → ok23 x0_) → ∃ k, spilelaw03_UnitSums.f k l0 = some true
end Go.Proofs.YtmjglehdckgcnaaDoor.Pure
namespace Go.Proofs.YtmjglehdckgcnaaDoor.SQ
def lowK (k : Int) : Int := if k = 5 then -400 else 0
def highK (k : Int) : Int := if k = 1 then 1073741824 else if k = 2 then 10000 else if k = 3 then 10737418240000 else if k = 4 then 128849018880000 else if k = 5 then 600 else if k = 6 then 100000 else if k = 7 then 1125899906842624 else 0
def errQ (q : Int × Int) : Int := if q.1 < 1 ∨ 7 < q.1 then 1 else if q.2 < lowK q.1 ∨ highK q.1 < q.2 then 2 else 0
theorem errQ_zero (q : Int × Int) : errQ q = 0 ↔ (1 ≤ q.1 ∧ q.1 ≤ 7) ∧ lowK q.1 ≤ q.2 ∧ q.2 ≤ highK q.1 := by
  unfold errQ
  split
  · constructor
    · intro h; omega
    · intro h; omega
  · split
    · constructor
      · intro h; omega
      · intro h; omega
    · constructor
      · intro _; omega
      · intro _; rfl
/-- All sums of the first ones are in a range. -/
def goS (lo hi : Int) : Int → List Int → Option Int
  | s, [] => some s
  | s, x :: r => if lo ≤ s + x ∧ s + x ≤ hi then goS lo hi (s + x) r else none
/-- The sum of quantities: kind, amount, error. -/
def sumQ : List (Int × Int) → (Int × Int) × Int
  | [] => ((0, 0), 9)
  | q :: r => if 64 < (q :: r).length then ((0, 0), 8) else if (q :: r).any (fun x => decide (errQ x ≠ 0)) = true then ((0, 0), 1) else if (q :: r).any (fun x => decide (x.1 ≠ q.1)) = true then ((0, 0), 10)
    else match goS (lowK q.1) (highK q.1) 0 ((q :: r).map Prod.snd) with
      | some v => ((q.1, v), 0)
      | none => ((0, 0), 15)
theorem sumQ_cons (q : Int × Int) (r : List (Int × Int)) : sumQ (q :: r) = if 64 < (q :: r).length then (((0, 0), 8) : (Int × Int) × Int) else if (q :: r).any (fun x => decide (errQ x ≠ 0)) = true then ((0, 0), 1) else if (q :: r).any (fun x => decide (x.1 ≠ q.1)) = true then ((0, 0), 10)
    else match goS (lowK q.1) (highK q.1) 0 ((q :: r).map Prod.snd) with
      | some v => ((q.1, v), 0)
      | none => ((0, 0), 15) := rfl
def fineQ (l : List (Int × Int)) (k : Int) : Prop := l ≠ [] ∧ l.length ≤ 64 ∧ (∀ x, x ∈ l → errQ x = 0) ∧ ∀ x, x ∈ l → x.1 = k
end Go.Proofs.YtmjglehdckgcnaaDoor.SQ
namespace Go.Proofs.YtmjglehdckgcnaaDoor.Pr
open Go Go.RowKit Go.Lib Go.Proofs.YtmjglehdckgcnaaDoorW.PrintWords Go.Proofs.YtmjglehdckgcnaaDoorW.PrintLast Go.Proofs.YtmjglehdckgcnaaDoorW.PrintMore Go.Proofs.YtmjglehdckgcnaaDoor.X Go.Proofs.YtmjglehdckgcnaaDoor.TX Go.Proofs.YtmjglehdckgcnaaDoor.PL Go.Proofs.YtmjglehdckgcnaaDoor.SQ
theorem seven {K : Int} (h : 1 ≤ K ∧ K ≤ 7) : K = 1 ∨ K = 2 ∨ K = 3 ∨ K = 4 ∨ K = 5 ∨ K = 6 ∨ K = 7 := by omega
theorem limits_eq {K : Int} (h : 1 ≤ K ∧ K ≤ 7) : unit_limits.f K = some (lowK K, highK K) := by
  rcases seven h with rfl | rfl | rfl | rfl | rfl | rfl | rfl <;> decide
theorem check_ev (K a : Int) : Ev (fun k => unit_Check.f k K a) (errQ (K, a)) := by
  unfold unit_Check.f
  by_cases h1 : K < 1
  · refine evp h1 ?_
    refine Ev.step (fun k => unit_Check.j0.eq_2 ..) ?_
    refine evp rfl (evr ?_)
    unfold errQ
    rw [if_pos (Or.inl h1)]
  · refine evn h1 ?_
    refine Ev.step (fun k => unit_Check.j0.eq_2 ..) ?_
    by_cases h7 : K > 7
    · refine evp (decide_eq_true h7) (evr ?_)
      unfold errQ
      rw [if_pos (Or.inr h7)]
    · refine evn (by simpa using h7) ?_
      refine evb (evc (fun _ => limits_eq ⟨by omega, by omega⟩) rfl) ?_
      have e : errQ (K, a) = if a < lowK K ∨ highK K < a then 2 else 0 := by
        unfold errQ
        exact if_neg (by show ¬ (K < 1 ∨ 7 < K); omega)
      rw [e]
      show Ev (fun n => if a < lowK K then some 2 else if a > highK K then some 2 else some 0) (if a < lowK K ∨ highK K < a then 2 else 0)
      by_cases c1 : a < lowK K
      · exact evp c1 (evr (if_pos (Or.inl c1)).symm)
      · refine evn c1 ?_
        by_cases c2 : a > highK K
        · exact evp c2 (evr (if_pos (Or.inr c2)).symm)
        · exact evn c2 (evr (if_neg (by omega)).symm)
theorem err_bounds {K a : Int} (h : errQ (K, a) = 0) : (1 ≤ K ∧ K ≤ 7) ∧ -1000 ≤ a ∧ a ≤ 1125899906842624 := by
  obtain ⟨h1, h2, h3⟩ := (errQ_zero (K, a)).1 h
  have h1 : 1 ≤ K ∧ K ≤ 7 := h1
  have h2 : lowK K ≤ a := h2
  have h3 : a ≤ highK K := h3
  refine ⟨h1, ?_, ?_⟩
  · have : -1000 ≤ lowK K := by unfold lowK; split <;> omega
    omega
  · have : highK K ≤ 1125899906842624 := by rcases seven h1 with rfl | rfl | rfl | rfl | rfl | rfl | rfl <;> decide
    omega
def printR (K a : Int) (s : ByteArray) : ByteArray × Int := if errQ (K, a) = 0 then (match unitAt s.data.toList with
  | none => (⟨#[]⟩, 4)
  | some p => if p.1 = K then (textB a p.2 s, 0) else (⟨#[]⟩, 10)) else (⟨#[]⟩, 1)
def parse2R (kd : Int) (z : Nat) (neg : Bool) (wl pl : List UInt8) : Int × Int × Int :=
  if z < pl.length then (0, 0, 2) else if 18 < (trimLeftS (wl ++ (pl ++ List.replicate (z - pl.length) 48)) [48]).length then (0, 0, 2)
  else if errQ (kd, signed neg (valT z wl pl)) = 0 then (kd, signed neg (valT z wl pl), 0) else (0, 0, errQ (kd, signed neg (valT z wl pl)))
def parseR (s : ByteArray) : Int × Int × Int :=
  if (s.size : Int) > 64 then (0, 0, 8) else match unitAt (cut1 32 s.data.toList).2.1 with
  | none => (0, 0, 3)
  | some p => match numT (cut1 32 s.data.toList).1 with
    | none => (0, 0, 3)
    | some q => parse2R p.1 p.2.toNat q.1 q.2.1 q.2.2
/-- What is read, if it is read. -/
theorem parse_ok {s : ByteArray} {K a : Int} (h : parseR s = (K, a, 0)) : ∃ z neg wl pl, ¬ (s.size : Int) > 64 ∧ unitAt (cut1 32 s.data.toList).2.1 = some (K, z) ∧ 0 ≤ z ∧ z ≤ 8 ∧ numT (cut1 32 s.data.toList).1 = some (neg, wl, pl)
    ∧ pl.length ≤ z.toNat ∧ a = signed neg (valT z.toNat wl pl) ∧ errQ (K, a) = 0 := by
  unfold parseR at h
  split at h
  · cases h
  · rename_i c
    cases hu : unitAt (cut1 32 s.data.toList).2.1 with
    | none => rw [hu] at h; cases h
    | some p =>
      obtain ⟨kd, z⟩ := p
      rw [hu] at h
      cases hq : numT (cut1 32 s.data.toList).1 with
      | none => rw [hq] at h; cases h
      | some q =>
        obtain ⟨neg, wl, pl⟩ := q
        rw [hq] at h
        have h : parse2R kd z.toNat neg wl pl = (K, a, 0) := h
        have hsm := unit_small hu
        unfold parse2R at h
        split at h
        · cases h
        · rename_i c1
          split at h
          · cases h
          · split at h
            · rename_i c3
              simp only [Prod.mk.injEq] at h
              obtain ⟨rfl, rfl, -⟩ := h
              exact ⟨z, neg, wl, pl, c, rfl, hsm.2.1, hsm.2.2, rfl, by omega, rfl, c3⟩
            · rename_i c3
              simp only [Prod.mk.injEq] at h
              exact absurd h.2.2 c3
theorem cut_flag {s : List UInt8} {p : Int × Int} (h : unitAt (cut1 32 s).2.1 = some p) : (cut1 32 s).2.2 = true := by
  cases c : (cut1 32 s).2.2 with
  | true => rfl
  | false => exact absurd (cut1_no 32 s c).2 (unitAt_ne h)
/-- A number that is read with a sign is not 0. -/
theorem num_neg {s wl pl : List UInt8} {z : Nat} (h : numT s = some (true, wl, pl)) (hp : pl.length ≤ z) : valT z wl pl ≠ 0 := by
  intro e
  have h1 := decT_numT h hp
  rw [e] at h1
  have h2 : s = [45, 48] := by
    rw [← h1]
    unfold decT
    rw [Nat.zero_div, Nat.zero_mod, rest_zero, digits_small (by decide)]
    decide
  have h3 : numT [45, 48] = none := by decide
  rw [h2, h3] at h
  cases h
theorem signed_abs (neg : Bool) (n : Nat) : (signed neg n).natAbs = n := by
  unfold signed
  split <;> omega
theorem signed_neg {neg : Bool} {n : Nat} (h : neg = true → n ≠ 0) : decide (signed neg n < 0) = neg := by
  unfold signed
  cases neg with
  | true =>
    have := h rfl
    rw [if_pos rfl]
    exact decide_eq_true (by omega)
  | false =>
    rw [if_neg (by simp)]
    exact decide_eq_false (by omega)
/-- What is read is printed as it was. -/
theorem again {s : ByteArray} {K a : Int} (h : parseR s = (K, a, 0)) : (cut1 32 s.data.toList).2.2 = true ∧ printR K a ⟨(cut1 32 s.data.toList).2.1.toArray⟩ = (s, 0) ∧ errQ (K, a) = 0 := by
  obtain ⟨z, neg, wl, pl, hs, hu, h0, h8, hq, hpz, rfl, he⟩ := parse_ok h
  have hf := cut_flag hu
  refine ⟨hf, ?_, he⟩
  unfold printR
  rw [if_pos he]
  show (match unitAt (cut1 32 s.data.toList).2.1 with | none => _ | some p => _) = _
  rw [hu]
  show (if K = K then (textB (signed neg (valT z.toNat wl pl)) z ⟨(cut1 32 s.data.toList).2.1.toArray⟩, (0 : Int)) else (⟨#[]⟩, 10)) = _
  rw [if_pos rfl]
  refine Prod.ext ?_ rfl
  apply bytes_ext
  show decT (decide (signed neg (valT z.toNat wl pl) < 0)) z.toNat (signed neg (valT z.toNat wl pl)).natAbs ++ 32 :: (cut1 32 s.data.toList).2.1 = s.data.toList
  rw [signed_abs, signed_neg (fun e => by subst e; exact num_neg hq hpz), decT_numT hq hpz]
  exact (cut1_sum 32 s.data.toList hf).symm
end Go.Proofs.YtmjglehdckgcnaaDoor.Pr
namespace Go.Proofs.YtmjglehdckgcnaaDoor.Pr
open Go Go.RowKit Go.Lib Go.Proofs.YtmjglehdckgcnaaDoorW.PrintWords Go.Proofs.YtmjglehdckgcnaaDoorW.PrintLast Go.Proofs.YtmjglehdckgcnaaDoorW.PrintMore Go.Proofs.YtmjglehdckgcnaaDoor.X Go.Proofs.YtmjglehdckgcnaaDoor.TX Go.Proofs.YtmjglehdckgcnaaDoor.PL Go.Proofs.YtmjglehdckgcnaaDoor.SQ
theorem in_eq {K : Int} (a : Int) (h : 1 ≤ K ∧ K ≤ 7) : spileref03_in.f K a = some (decide (lowK K ≤ a ∧ a ≤ highK K)) := by
  have g : ∀ (c : Prop) [Decidable c] (m : Int), (if c then some (decide (a ≤ m)) else some false : Option Bool) = some (decide (c ∧ a ≤ m)) := by
    intro c _ m
    by_cases q : c
    · rw [if_pos q]; simp [q]
    · rw [if_neg q]; simp [q]
  rcases seven h with rfl | rfl | rfl | rfl | rfl | rfl | rfl
  · have e : spileref03_in.f 1 a = if a ≥ 0 then some (decide (a ≤ 1073741824)) else some false := by kernel_rfl
    exact (e.trans (g (a ≥ 0) 1073741824)).trans rfl
  · have e : spileref03_in.f 2 a = if a ≥ 0 then some (decide (a ≤ 10000)) else some false := by kernel_rfl
    exact (e.trans (g (a ≥ 0) 10000)).trans rfl
  · have e : spileref03_in.f 3 a = if a ≥ 0 then some (decide (a ≤ 10737418240000)) else some false := by kernel_rfl
    exact (e.trans (g (a ≥ 0) 10737418240000)).trans rfl
  · have e : spileref03_in.f 4 a = if a ≥ 0 then some (decide (a ≤ 128849018880000)) else some false := by kernel_rfl
    exact (e.trans (g (a ≥ 0) 128849018880000)).trans rfl
  · have e : spileref03_in.f 5 a = if a ≥ (-400) then some (decide (a ≤ 600)) else some false := by kernel_rfl
    exact (e.trans (g (a ≥ (-400)) 600)).trans rfl
  · have e : spileref03_in.f 6 a = if a ≥ 0 then some (decide (a ≤ 100000)) else some false := by kernel_rfl
    exact (e.trans (g (a ≥ 0) 100000)).trans rfl
  · have e : spileref03_in.f 7 a = if a ≥ 0 then some (decide (a ≤ 1125899906842624)) else some false := by kernel_rfl
    exact (e.trans (g (a ≥ 0) 1125899906842624)).trans rfl
theorem rcheck_ev (K a : Int) : Ev (fun k => spileref03_Check.f k K a) (errQ (K, a)) := by
  unfold spileref03_Check.f
  by_cases h1 : K < 1
  · refine evp h1 ?_
    refine Ev.step (fun k => spileref03_Check.j0.eq_2 ..) ?_
    refine evp rfl (evr ?_)
    unfold errQ
    rw [if_pos (Or.inl h1)]
  · refine evn h1 ?_
    refine Ev.step (fun k => spileref03_Check.j0.eq_2 ..) ?_
    by_cases h7 : K > 7
    · refine evp (decide_eq_true h7) (evr ?_)
      unfold errQ
      rw [if_pos (Or.inr h7)]
    · refine evn (by simpa using h7) ?_
      refine evb (evc (fun _ => in_eq a ⟨by omega, by omega⟩) rfl) ?_
      have e : errQ (K, a) = if a < lowK K ∨ highK K < a then 2 else 0 := by
        unfold errQ
        exact if_neg (by show ¬ (K < 1 ∨ 7 < K); omega)
      rw [e]
      by_cases c1 : lowK K ≤ a ∧ a ≤ highK K
      · exact evp (decide_eq_true c1) (evr (if_neg (by omega)).symm)
      · exact evn (by simpa using c1) (evr (if_pos (by omega)).symm)
end Go.Proofs.YtmjglehdckgcnaaDoor.Pr
namespace Go.Proofs.YtmjglehdckgcnaaDoor.Pr
open Go Go.RowKit Go.Lib Go.Proofs.YtmjglehdckgcnaaDoorW.PrintWords Go.Proofs.YtmjglehdckgcnaaDoorW.PrintLast Go.Proofs.YtmjglehdckgcnaaDoorW.PrintMore Go.Proofs.YtmjglehdckgcnaaDoor.X Go.Proofs.YtmjglehdckgcnaaDoor.TX Go.Proofs.YtmjglehdckgcnaaDoor.PL Go.Proofs.YtmjglehdckgcnaaDoor.SQ
def q2 (x : S23) : Int × Int := (x.f0, x.f1)
def qs (l : List S23) : List (Int × Int) := l.map q2
theorem rd_at {l : List S23} {i : Nat} (h : i < l.length) : rd_T23 l (i : Int) = l[i] := by
  unfold rd_T23
  rw [Int.toNat_natCast, List.getD_eq_getElem?_getD, List.getElem?_eq_getElem h]
  rfl
theorem rd_int {l : List S23} {i : Int} (h0 : 0 ≤ i) (h : i < (l.length : Int)) : ∃ n : Nat, ∃ hn : n < l.length, i = (n : Int) ∧ rd_T23 l i = l[n] := by
  have hn : i.toNat < l.length := by omega
  refine ⟨i.toNat, hn, by omega, ?_⟩
  have e := rd_at hn
  rw [show ((i.toNat : Nat) : Int) = i by omega] at e
  exact e
theorem any_index {l : List S23} {P : S23 → Prop} [DecidablePred P] {r : Int} (h : (0 ≤ r ∧ 0 ≤ r ∧ r < (l.length : Int) ∧ P (rd_T23 l r) ∧ ∀ j, 0 ≤ j → j < r → ¬ P (rd_T23 l j)) ∨ (r = -1 ∧ ∀ j, 0 ≤ j → j < (l.length : Int) → ¬ P (rd_T23 l j))) :
    decide (r ≥ 0) = l.any fun x => decide (P x) := by
  rcases h with ⟨h0, _, h1, h2, _⟩ | ⟨h0, h1⟩
  · obtain ⟨n, hn, e, e2⟩ := rd_int h0 h1
    rw [e2] at h2
    rw [decide_eq_true (show r ≥ 0 from h0)]
    exact (List.any_eq_true.2 ⟨_, List.getElem_mem hn, decide_eq_true h2⟩).symm
  · subst h0
    cases q : l.any fun x => decide (P x) with
    | false => rfl
    | true =>
      obtain ⟨x, hx, hp⟩ := List.any_eq_true.1 q
      obtain ⟨n, hn, e⟩ := List.getElem_of_mem hx
      have := h1 (n : Int) (by omega) (by omega)
      rw [rd_at hn, e] at this
      exact absurd (of_decide_eq_true hp) this
theorem bad_ev {l : List S23} (hl : l.length ≤ 64) : Ev (fun k => api_Quantity_39_at_40.f k l) (l.any fun x => decide (errQ (q2 x) ≠ 0)) := by
  have hi := fun a b c => index_ev (l.length : Int) (fun i => errQ (q2 (rd_T23 l i)) ≠ 0) (fun i k => api_Quantity_61_at_40.l0 k l (l.length : Int) i) a b c 0 (by omega) (by omega)
  obtain ⟨r, r1, r2⟩ := hi
    (by
      refine Ev.step (fun k => api_Quantity_61_at_40.l0.eq_2 ..) ?_
      exact evn (by omega) (evr rfl))
    (by
      intro i h0 h1 hq
      refine Ev.step (fun k => api_Quantity_61_at_40.l0.eq_2 ..) ?_
      refine evp h1 (evp h0 (evp h1 ?_))
      refine evb (a := true) ?_ (evp rfl (evr rfl))
      unfold unit_Sum_1.f
      refine evb (check_ev _ _) (evr ?_)
      exact bne_iff_ne.2 hq)
    (by
      intro i h0 h1 hq r hr
      refine Ev.step (fun k => api_Quantity_61_at_40.l0.eq_2 ..) ?_
      refine evp h1 (evp h0 (evp h1 ?_))
      refine evb (a := false) ?_ (evn (by decide) ?_)
      · unfold unit_Sum_1.f
        refine evb (check_ev _ _) (evr ?_)
        exact bne_eq_false_iff_eq.2 (Classical.byContradiction hq)
      · rw [w64 (by omega) (by omega)]
        exact hr)
  unfold api_Quantity_39_at_40.f
  refine evb (show Ev (fun k => api_Quantity_61_at_40.f k l) r from r1) (evr ?_)
  exact any_index (P := fun x => errQ (q2 x) ≠ 0) r2
theorem mixed_ev {l : List S23} (hl : l.length ≤ 64) (hne : 0 < l.length) : Ev (fun k => api_Quantity_39_at_41.f k l l) (l.any fun x => decide (x.f0 ≠ (rd_T23 l 0).f0)) := by
  have hi := fun a b c => index_ev (l.length : Int) (fun i => (rd_T23 l i).f0 ≠ (rd_T23 l 0).f0) (fun i k => api_Quantity_61_at_41.l0 k l (l.length : Int) i l) a b c 0 (by omega) (by omega)
  obtain ⟨r, r1, r2⟩ := hi
    (by
      refine Ev.step (fun k => api_Quantity_61_at_41.l0.eq_2 ..) ?_
      exact evn (by omega) (evr rfl))
    (by
      intro i h0 h1 hq
      refine Ev.step (fun k => api_Quantity_61_at_41.l0.eq_2 ..) ?_
      refine evp h1 (evp h0 (evp h1 ?_))
      refine evb (a := true) ?_ (evp rfl (evr rfl))
      unfold unit_Sum_2.f
      refine evp (by omega) (evr ?_)
      exact bne_iff_ne.2 hq)
    (by
      intro i h0 h1 hq r hr
      refine Ev.step (fun k => api_Quantity_61_at_41.l0.eq_2 ..) ?_
      refine evp h1 (evp h0 (evp h1 ?_))
      refine evb (a := false) ?_ (evn (by decide) ?_)
      · unfold unit_Sum_2.f
        refine evp (by omega) (evr ?_)
        exact bne_eq_false_iff_eq.2 (Classical.byContradiction hq)
      · rw [w64 (by omega) (by omega)]
        exact hr)
  unfold api_Quantity_39_at_41.f
  refine evb (show Ev (fun k => api_Quantity_61_at_41.f k l l) r from r1) (evr ?_)
  exact any_index (P := fun x => x.f0 ≠ (rd_T23 l 0).f0) r2
def outS (K : Int) : Option Int → Int × Int × Int
  | some v => (K, v, 0)
  | none => (0, 0, 15)
theorem qs_drop {l : List S23} {i : Nat} (h : i < l.length) : ((qs l).drop i).map Prod.snd = l[i].f1 :: ((qs l).drop (i + 1)).map Prod.snd := by
  unfold qs
  rw [← List.map_drop, ← List.map_drop, List.drop_eq_getElem_cons h]
  rfl
theorem err_in {K a : Int} (hK : 1 ≤ K ∧ K ≤ 7) : errQ (K, a) = 0 ↔ lowK K ≤ a ∧ a ≤ highK K := by
  rw [errQ_zero]
  exact ⟨fun h => h.2, fun h => ⟨hK, h⟩⟩
theorem low_high {K : Int} (hK : 1 ≤ K ∧ K ≤ 7) : -400 ≤ lowK K ∧ lowK K ≤ 0 ∧ 0 ≤ highK K ∧ highK K ≤ 1125899906842624 := by
  rcases seven hK with rfl | rfl | rfl | rfl | rfl | rfl | rfl <;> decide
theorem sum_loop {l : List S23} {K : Int} (hl : l.length ≤ 64) (hf : fineQ (qs l) K) (hK : 1 ≤ K ∧ K ≤ 7) : ∀ (d i : Nat) (s : Int), 1 ≤ i → i + d = l.length → lowK K ≤ s → s ≤ highK K →
    Ev (fun k => unit_Sum.l0 k l (l.length : Int) (i : Int) K s) (outS K (goS (lowK K) (highK K) s (((qs l).drop i).map Prod.snd)))
  | 0, i, s, h1, hi, hs0, hs1 => by
    refine Ev.step (fun k => unit_Sum.l0.eq_2 ..) ?_
    rw [List.drop_of_length_le (by unfold qs; rw [List.length_map]; omega)]
    exact evn (by omega) (evr rfl)
  | d + 1, i, s, h1, hi, hs0, hs1 => by
    have hil : i < l.length := by omega
    have hb := low_high hK
    have hm : q2 l[i] ∈ qs l := List.mem_map_of_mem (List.getElem_mem hil)
    have hx := err_bounds (hf.2.2.1 _ hm)
    have hx2 : -1000 ≤ l[i].f1 := hx.2.1
    have hx3 : l[i].f1 ≤ 1125899906842624 := hx.2.2
    refine Ev.step (fun k => unit_Sum.l0.eq_2 ..) ?_
    refine evp (by omega) (evp (by omega) (evp (by omega) (evp (by omega) ?_)))
    rw [rd_at hil, w64 (x := s + l[i].f1) (by omega) (by omega), w64 (x := (i : Int) + 1) (by omega) (by omega), show ((i : Int) + 1) = ((i + 1 : Nat) : Int) by omega, qs_drop hil]
    refine evb (check_ev _ _) ?_
    unfold goS
    by_cases c : errQ (K, s + l[i].f1) = 0
    · have c2 := (err_in hK).1 c
      rw [if_pos c2]
      exact evp c (sum_loop hl hf hK d (i + 1) (s + l[i].f1) (by omega) (by omega) c2.1 c2.2)
    · rw [if_neg (fun q => c ((err_in hK).2 q))]
      exact evn c (evr rfl)
def trip (x : (Int × Int) × Int) : Int × Int × Int := (x.1.1, x.1.2, x.2)
theorem any_qs {l : List S23} (P : Int × Int → Bool) : (l.any fun x => P (q2 x)) = (qs l).any P := by
  unfold qs
  rw [List.any_map]
  rfl
theorem sum_ev (l : List S23) : Ev (fun k => unit_Sum.f k l) (trip (sumQ (qs l))) := by
  have hlen : (qs l).length = l.length := by unfold qs; rw [List.length_map]
  unfold unit_Sum.f
  cases hl : l with
  | nil => exact evn (by simp) (evp (by simp) (evr rfl))
  | cons x r =>
    rw [← hl]
    have hq : qs l = q2 x :: qs r := by rw [hl]; rfl
    have h0 : 0 < l.length := by rw [hl]; simp
    have e0 : rd_T23 l 0 = x := by
      have := rd_at h0
      rw [show ((0 : Nat) : Int) = 0 from rfl] at this
      rw [this]
      simp [hl]
    rw [hq, sumQ_cons, ← hq, hlen]
    by_cases c1 : 64 < l.length
    · rw [if_pos c1]
      exact evp (by omega) (evr rfl)
    · rw [if_neg c1]
      refine evn (by omega) (evn (by omega) ?_)
      refine evb (bad_ev (by omega)) ?_
      rw [any_qs fun x => decide (errQ x ≠ 0)]
      by_cases c2 : ((qs l).any fun x => decide (errQ x ≠ 0)) = true
      · rw [if_pos c2]
        exact evp c2 (evr rfl)
      · rw [if_neg c2]
        refine evn c2 ?_
        refine evb (mixed_ev (by omega) h0) ?_
        rw [e0, show (l.any fun y => decide (y.f0 ≠ x.f0)) = (qs l).any (fun y => decide (y.1 ≠ (q2 x).1)) from any_qs fun y => decide (y.1 ≠ x.f0)]
        by_cases c3 : ((qs l).any fun y => decide (y.1 ≠ (q2 x).1)) = true
        · rw [if_pos c3]
          exact evp c3 (evr rfl)
        · rw [if_neg c3]
          refine evn c3 (evp (by omega) ?_)
          have hf : fineQ (qs l) x.f0 := by
            refine ⟨by rw [hq]; simp, by rw [hlen]; omega, fun y hy => ?_, fun y hy => ?_⟩
            · rcases Int.decEq (errQ y) 0 with e | e
              · exact absurd (List.any_eq_true.2 ⟨y, hy, decide_eq_true e⟩) c2
              · exact e
            · rcases Int.decEq y.1 x.f0 with e | e
              · exact absurd (List.any_eq_true.2 ⟨y, hy, decide_eq_true e⟩) c3
              · exact e
          have hx := hf.2.2.1 (q2 x) (by rw [hq]; exact List.mem_cons_self)
          have hK : 1 ≤ x.f0 ∧ x.f0 ≤ 7 := (err_bounds hx).1
          have hx2 := (err_in hK).1 hx
          have hb := low_high hK
          have ex : l[0] = x := by simp [hl]
          show Ev (fun k => unit_Sum.l0 k l (l.length : Int) 0 x.f0 0) (trip (match goS (lowK x.f0) (highK x.f0) 0 ((qs l).map Prod.snd) with | some v => ((x.f0, v), 0) | none => ((0, 0), 15)))
          have e1 : trip (match goS (lowK x.f0) (highK x.f0) 0 ((qs l).map Prod.snd) with | some v => ((x.f0, v), 0) | none => ((0, 0), 15)) = outS x.f0 (goS (lowK x.f0) (highK x.f0) 0 ((qs l).map Prod.snd)) := by
            cases goS (lowK x.f0) (highK x.f0) 0 ((qs l).map Prod.snd) <;> rfl
          rw [e1]
          have e2 : (qs l).map Prod.snd = x.f1 :: ((qs l).drop 1).map Prod.snd := by
            have := qs_drop h0
            rw [List.drop_zero] at this
            rw [this, ex]
          rw [e2]
          unfold goS
          rw [if_pos (by rw [Int.zero_add]; exact hx2), Int.zero_add]
          refine Ev.step (fun k => unit_Sum.l0.eq_2 ..) ?_
          refine evp (by omega) (evp (by omega) (evp (by omega) (evn (by omega) ?_)))
          rw [e0, Int.zero_add x.f1, w64 (x := x.f1) (by omega) (by omega), show wrap64 (0 + 1) = ((1 : Nat) : Int) from w64 (by omega) (by omega)]
          exact sum_loop (by omega) hf hK (l.length - 1) 1 x.f1 (by omega) (by omega) hx2.1 hx2.2
theorem drop_end {l : List S23} {i : Nat} (h : l.length ≤ i) : (qs l).drop i = [] := List.drop_of_length_le (by unfold qs; rw [List.length_map]; exact h)
theorem r2_loop {l : List S23} {K : Int} (hl : l.length ≤ 64) (hf : fineQ (qs l) K) (hK : 1 ≤ K ∧ K ≤ 7) : ∀ (d i : Nat) (s : Int), i + d = l.length → lowK K ≤ s → s ≤ highK K →
    Ev (fun k => spileref03_Sum.l2 k l (i : Int) K s) (outS K (goS (lowK K) (highK K) s (((qs l).drop i).map Prod.snd)))
  | 0, i, s, hi, hs0, hs1 => by
    refine Ev.step (fun k => spileref03_Sum.l2.eq_2 ..) ?_
    rw [drop_end (by omega)]
    exact evn (by omega) (evr rfl)
  | d + 1, i, s, hi, hs0, hs1 => by
    have hil : i < l.length := by omega
    have hb := low_high hK
    have hm : q2 l[i] ∈ qs l := List.mem_map_of_mem (List.getElem_mem hil)
    have hx := err_bounds (hf.2.2.1 _ hm)
    have hx2 : -1000 ≤ l[i].f1 := hx.2.1
    have hx3 : l[i].f1 ≤ 1125899906842624 := hx.2.2
    refine Ev.step (fun k => spileref03_Sum.l2.eq_2 ..) ?_
    refine evp (by omega) (evp (by omega) ?_)
    rw [rd_at hil, w64 (x := s + l[i].f1) (by omega) (by omega), w64 (x := (i : Int) + 1) (by omega) (by omega), show ((i : Int) + 1) = ((i + 1 : Nat) : Int) by omega, qs_drop hil]
    refine evb (evc (fun _ => in_eq _ hK) rfl) ?_
    unfold goS
    by_cases c2 : lowK K ≤ s + l[i].f1 ∧ s + l[i].f1 ≤ highK K
    · rw [if_pos c2]
      exact evp (decide_eq_true c2) (r2_loop hl hf hK d (i + 1) (s + l[i].f1) (by omega) c2.1 c2.2)
    · rw [if_neg c2]
      exact evn (by simpa using c2) (evr rfl)
theorem r1_loop {l : List S23} {K : Int} (hl : l.length ≤ 64) {R : Int × Int × Int} (hR : (((qs l).any fun y => decide (y.1 ≠ K)) ≠ true) → Ev (fun k => spileref03_Sum.l2 k l 0 K 0) R) : ∀ (d i : Nat), i + d = l.length → (∀ j, (hj : j < l.length) → j < i → l[j].f0 = K) →
    Ev (fun k => spileref03_Sum.l1 k l (i : Int) K 0) (if ((qs l).any fun y => decide (y.1 ≠ K)) = true then (0, 0, 10) else R)
  | 0, i, hi, hb => by
    have hno : ((qs l).any fun y => decide (y.1 ≠ K)) ≠ true := by
      intro q
      obtain ⟨y, hy, e⟩ := List.any_eq_true.1 q
      obtain ⟨x, hx, rfl⟩ := List.mem_map.1 hy
      obtain ⟨n, hn, rfl⟩ := List.getElem_of_mem hx
      exact of_decide_eq_true e (hb n hn (by omega))
    rw [if_neg hno]
    refine Ev.step (fun k => spileref03_Sum.l1.eq_2 ..) ?_
    exact evn (by omega) (hR hno)
  | d + 1, i, hi, hb => by
    have hil : i < l.length := by omega
    refine Ev.step (fun k => spileref03_Sum.l1.eq_2 ..) ?_
    refine evp (by omega) (evp (by omega) ?_)
    rw [rd_at hil]
    by_cases c : l[i].f0 = K
    · refine evp c ?_
      rw [w64 (x := (i : Int) + 1) (by omega) (by omega), show ((i : Int) + 1) = ((i + 1 : Nat) : Int) by omega]
      refine r1_loop hl hR d (i + 1) (by omega) fun j hj hji => ?_
      by_cases e : j = i
      · subst e; exact c
      · exact hb j hj (by omega)
    · refine evn c (evr ?_)
      exact (if_pos (List.any_eq_true.2 ⟨q2 l[i], List.mem_map_of_mem (List.getElem_mem hil), decide_eq_true c⟩)).symm
theorem r0_loop {l : List S23} (hl : l.length ≤ 64) (h0 : 0 < l.length) {R : Int × Int × Int} (hR : (((qs l).any fun y => decide (errQ y ≠ 0)) ≠ true) → Ev (fun k => spileref03_Sum.l1 k l 0 (rd_T23 l 0).f0 0) R) : ∀ (d i : Nat), i + d = l.length → (∀ j, (hj : j < l.length) → j < i → errQ (q2 l[j]) = 0) →
    Ev (fun k => spileref03_Sum.l0 k l (i : Int)) (if ((qs l).any fun y => decide (errQ y ≠ 0)) = true then (0, 0, 1) else R)
  | 0, i, hi, hb => by
    have hno : ((qs l).any fun y => decide (errQ y ≠ 0)) ≠ true := by
      intro q
      obtain ⟨y, hy, e⟩ := List.any_eq_true.1 q
      obtain ⟨x, hx, rfl⟩ := List.mem_map.1 hy
      obtain ⟨n, hn, rfl⟩ := List.getElem_of_mem hx
      exact of_decide_eq_true e (hb n hn (by omega))
    rw [if_neg hno]
    refine Ev.step (fun k => spileref03_Sum.l0.eq_2 ..) ?_
    exact evn (by omega) (evp (by omega) (hR hno))
  | d + 1, i, hi, hb => by
    have hil : i < l.length := by omega
    refine Ev.step (fun k => spileref03_Sum.l0.eq_2 ..) ?_
    refine evp (by omega) (evp (by omega) ?_)
    rw [rd_at hil]
    refine evb (rcheck_ev _ _) ?_
    by_cases c : errQ (q2 l[i]) = 0
    · refine evp c ?_
      rw [w64 (x := (i : Int) + 1) (by omega) (by omega), show ((i : Int) + 1) = ((i + 1 : Nat) : Int) by omega]
      refine r0_loop hl h0 hR d (i + 1) (by omega) fun j hj hji => ?_
      by_cases e : j = i
      · subst e; exact c
      · exact hb j hj (by omega)
    · refine evn c (evr ?_)
      exact (if_pos (List.any_eq_true.2 ⟨q2 l[i], List.mem_map_of_mem (List.getElem_mem hil), decide_eq_true c⟩)).symm
theorem rsum_ev (l : List S23) : Ev (fun k => spileref03_Sum.f k l) (trip (sumQ (qs l))) := by
  have hlen : (qs l).length = l.length := by unfold qs; rw [List.length_map]
  unfold spileref03_Sum.f
  cases hl : l with
  | nil => exact evn (by simp) (evp (by simp) (evr rfl))
  | cons x r =>
    rw [← hl]
    have hq : qs l = q2 x :: qs r := by rw [hl]; rfl
    have h0 : 0 < l.length := by rw [hl]; simp
    have e0 : rd_T23 l 0 = x := by
      have := rd_at h0
      rw [show ((0 : Nat) : Int) = 0 from rfl] at this
      rw [this]
      simp [hl]
    rw [hq, sumQ_cons, ← hq, hlen]
    by_cases c1 : 64 < l.length
    · rw [if_pos c1]
      exact evp (by omega) (evr rfl)
    · rw [if_neg c1]
      refine evn (by omega) (evn (by omega) ?_)
      have h1 := r0_loop (l := l) (R := if ((qs l).any fun y => decide (y.1 ≠ x.f0)) = true then (0, 0, 10) else outS x.f0 (goS (lowK x.f0) (highK x.f0) 0 ((qs l).map Prod.snd))) (by omega) h0 (fun c2 => by
        rw [e0]
        refine r1_loop (by omega) (fun c3 => ?_) l.length 0 (by omega) (fun j _ hj => absurd hj (by omega))
        have hf : fineQ (qs l) x.f0 := by
          refine ⟨by rw [hq]; simp, by rw [hlen]; omega, fun y hy => ?_, fun y hy => ?_⟩
          · rcases Int.decEq (errQ y) 0 with e | e
            · exact absurd (List.any_eq_true.2 ⟨y, hy, decide_eq_true e⟩) c2
            · exact e
          · rcases Int.decEq y.1 x.f0 with e | e
            · exact absurd (List.any_eq_true.2 ⟨y, hy, decide_eq_true e⟩) c3
            · exact e
        have hx := hf.2.2.1 (q2 x) (by rw [hq]; exact List.mem_cons_self)
        have hK : 1 ≤ x.f0 ∧ x.f0 ≤ 7 := (err_bounds hx).1
        have hb := low_high hK
        have h2 := r2_loop (l := l) (by omega) hf hK l.length 0 0 (by omega) hb.2.1 hb.2.2.1
        rw [List.drop_zero] at h2
        exact h2) l.length 0 (by omega) (fun j _ hj => absurd hj (by omega))
      have e3 : trip (if ((qs l).any fun x => decide (errQ x ≠ 0)) = true then (((0, 0), 1) : (Int × Int) × Int) else if ((qs l).any fun y => decide (y.1 ≠ (q2 x).1)) = true then ((0, 0), 10) else match goS (lowK (q2 x).1) (highK (q2 x).1) 0 ((qs l).map Prod.snd) with | some v => (((q2 x).1, v), 0) | none => ((0, 0), 15))
          = if ((qs l).any fun y => decide (errQ y ≠ 0)) = true then (0, 0, 1) else if ((qs l).any fun y => decide (y.1 ≠ x.f0)) = true then (0, 0, 10) else outS x.f0 (goS (lowK x.f0) (highK x.f0) 0 ((qs l).map Prod.snd)) := by
        split
        · rfl
        · show trip (if ((qs l).any fun y => decide (y.1 ≠ x.f0)) = true then _ else _) = _
          split
          · rfl
          · show trip (match goS (lowK x.f0) (highK x.f0) 0 ((qs l).map Prod.snd) with | some v => ((x.f0, v), 0) | none => ((0, 0), 15)) = _
            cases goS (lowK x.f0) (highK x.f0) 0 ((qs l).map Prod.snd) <;> rfl
      rw [← e3] at h1
      exact h1
end Go.Proofs.YtmjglehdckgcnaaDoor.Pr
namespace Go.Proofs.YtmjglehdckgcnaaDoor.Pure
open Go Go.RowKit Go.Lib Go.Proofs.YtmjglehdckgcnaaDoorW.PrintWords Go.Proofs.YtmjglehdckgcnaaDoorW.PrintLast Go.Proofs.YtmjglehdckgcnaaDoorW.PrintMore Go.Proofs.YtmjglehdckgcnaaDoor.X Go.Proofs.YtmjglehdckgcnaaDoor.Pr Go.Proofs.YtmjglehdckgcnaaDoor.TX Go.Proofs.YtmjglehdckgcnaaDoor.PL Go.Proofs.YtmjglehdckgcnaaDoor.SQ
theorem UnitSums : unitSumsPure := by
  intro l hl
  refine Ev.rounds (?_ : Ev (fun k => spilelaw03_UnitSums.f k l) true)
  unfold spilelaw03_UnitSums.f
  refine evb (evc (fun _ => rfl) rfl : Ev (fun _ => spilelaw03_awake.f) true) ?_
  refine evp rfl ?_
  by_cases c : (l.length : Int) > 65
  · exact evp c (evr rfl)
  · refine evn c ?_
    have hc : slices_Clone23.f l = some l := by
      unfold slices_Clone23.f
      rw [if_pos (by omega)]
    refine evb (evc (fun _ => hc) rfl) ?_
    refine evb (sum_ev l) ?_
    refine evb (rsum_ev l) ?_
    refine evp (by simp) (evr ?_)
    simp
end Go.Proofs.YtmjglehdckgcnaaDoor.Pure
namespace Go.Proofs.YtmjglehdckgcnaaDoor.X
open Go
variable {H : Type} {enc : TypeId × Value → H}
theorem wrap_shaped {a : Assume} {C : Checked} {os : Os} {f : FuncId} {fn : Func} {s : ChangeSpec} {conds : List PathCond} {apart fresh handsOn again : Bool} {X : World → Array Value → Prop}
    (hX : ∀ (w w' : World) (args : Array Value), w.heap = w'.heap → X w args → X w' args)
    (own : ownKnob C.prog.godebug = none) (started : os.Started) (noInit : C.prog.inits.idxOf? f = none) (hfn : C.prog.funcs[f]? = some fn)
    (witness : ∃ (w : World) (tape : Tape) (i : Input), w.os = os ∧ (w.forCall tape i).Shaped C.prog ∧ i.vars = [] ∧ Input.okWide C.prog (w.forCall tape i) .any w.heap.size f i ∧
      ((s.pre enc C.prog fn conds apart (w.forCall tape i).memory i.args ∧ X (w.forCall tape i).memory i.args) ∧ sizedMet enc C.prog fn (OpenSpec.ofChange s) apart (w.forCall tape i).memory i.args) ∧ a.holds C.prog (lone (Frame.enter C.prog f i.args .normal) [] (w.forCall tape i)))
    (walk : ∀ (W : World) (base : Nat) (args : Array Value) (ds gs : List (DataW H)) (before : List MemPlace),
      (∀ (j : Nat) t v, fn.params[j]? = some t → args[j]? = some v → Value.okWide C.prog W .any base t v) →
      DataW.Whole enc C.prog fn.params.toList s.vars apart W args.toList ds gs before → X W args → W.ShapedOpen C.prog →
      Calls C.prog f args W fun e W' => ∃ v, e = .returned v ∧ s.post enc C.prog fn apart fresh handsOn again W args v W') :
    ReturnsInHanded a C os f .any (fun w args => (s.pre enc C.prog fn conds apart w args ∧ X w args) ∧ sizedMet enc C.prog fn (OpenSpec.ofChange s) apart w args) (s.post enc C.prog fn apart fresh handsOn again) := by
  refine returnsInHanded_of_calls own started noInit witness ?_
  intro w tape i _ hsh _ hok hpre _
  obtain ⟨_, _, _, fn', hfn', _, _, _, _, hval⟩ := hok
  obtain rfl : fn' = fn := Option.some.inj (hfn'.symm.trans hfn)
  obtain ⟨⟨⟨ds, gs, before, hw, _⟩, hx⟩, _⟩ := hpre
  refine (walk (w.forCall tape i) w.heap.size i.args ds gs before hval (DataW.Whole.of_heap (w' := w.forCall tape i) (by rfl) hw) (hX _ _ _ (by rfl) hx) hsh).mono fun e W' ⟨v, he, hp⟩ => ?_
  subst he
  exact ChangeSpec.post_blind hp
end Go.Proofs.YtmjglehdckgcnaaDoor.X
namespace Go.Proofs.YtmjglehdckgcnaaDoor.unitSums
open Go Go.ChangeShapes Go.WideShapes Go.ChangeAt Go.RowKit
open Go.ChangeMaps (open_string shut_string)
open Go.Proofs.YtmjglehdckgcnaaDoorW.PrintWords Go.Proofs.YtmjglehdckgcnaaDoor.O Go.Proofs.YtmjglehdckgcnaaDoor.Opn Go.Proofs.YtmjglehdckgcnaaDoor.Pr Go.Proofs.YtmjglehdckgcnaaDoor.X
theorem own : ownKnob Tryd.prog.godebug = none := by kernel_rfl
theorem laidOut : laidOutB Tryd.prog = true := by kernel_rfl
abbrev laidL : List (String × DataW Unit) := [("math/bits.deBruijn32tab", Rows.laid_math_bits_deBruijn32tab), ("math/bits.deBruijn64tab", Rows.laid_math_bits_deBruijn64tab), ("internal/strconv.uint64pow10", Rows.laid_internal_strconv_uint64pow10), ("unicode/utf8.acceptRanges", Rows.laid_unicode_utf8_acceptRanges), ("strconv.ErrRange", Rows.laid_strconv_ErrRange), ("strconv.ErrSyntax", Rows.laid_strconv_ErrSyntax), ("unicode/utf8.first", Rows.laid_unicode_utf8_first)]
set_option maxRecDepth 100000 in
theorem lifted (os : Os) (started : os.Started) (H : Type) (enc : TypeId × Value → H) :
    ReturnsInHanded {} Tryd.checked os 7 .any (fun w args => (Rows.unitSumsSpec.pre enc Tryd.prog Tryd.f7 [] false w args ∧ laidMetH Tryd.prog laidL w) ∧ sizedMet enc Tryd.prog Tryd.f7 (OpenSpec.ofChange Rows.unitSumsSpec) false w args)
      (Rows.unitSumsSpec.post enc Tryd.prog Tryd.f7 false true false false) := by
  refine wrap_shaped (C := Tryd.checked) (X := (fun w _ => laidMetH Tryd.prog laidL w)) (fun _ _ _ hh h => h.of_heap hh) own started (by kernel_rfl) Tryd.func7
    (ChangeSpec.witness_shaped (enc := enc) (C := Tryd.checked) (os := os) (X := (fun w _ => laidMetH Tryd.prog laidL w)) false (World.laidAll Tryd.prog os laidL) #[.slice none 0 0] 8 (World.laidAll_os _ _ _) (World.shaped_of_ZipB (by kernel_rfl) (by kernel_rfl)) (by kernel_rfl) (by kernel_rfl) (by kernel_rfl) (by rw [MakeChecks.laidMetH_plain _ _ _ (by kernel_rfl)]; exact laidMet_laidAll _ (by kernel_rfl) (by kernel_rfl))) ?_
  intro W base args ds gs before hval0 hW hL hsh
  have hval : ∀ (j : Nat) t v, Tryd.f7.params[j]? = some t → args[j]? = some v → Value.okWide Tryd.prog W .any base t v := hval0
  have hW' := hW
  obtain ⟨p, q, hA0, hV, rfl, hfz, hnd⟩ := hW
  have hA : DataW.TrodAll enc Tryd.prog W 0 (fun _ => true) true Tryd.f7.params.toList args.toList ds p := hA0
  rw [Tryd.params7] at hA hval
  obtain ⟨v0, vs0, d0, ds0, p0, q0, hargs, rfl, rfl, h0, r0⟩ := trodAll_cons hA
  obtain ⟨rfl, rfl, rfl⟩ := trodAll_nil r0
  obtain rfl : args = #[v0] := by cases args; simp_all
  obtain ⟨rfl, rfl⟩ := trodVars_none hV
  obtain ⟨a0_, len0_, cap0_, rfl⟩ := okWide_slice Tryd.underlying42 (hval 0 42 v0 rfl rfl)
  have k0 := h0
  have lt0 : ∀ x ∈ p0, x.block < W.heap.size := by obtain ⟨m, hm⟩ := k0; exact DataW.trod_lt m _ _ _ hm
  obtain ⟨l0, K0, ok0⟩ : ∃ x, (Kd.slice 23 k23).K W x [.slice a0_ len0_ cap0_] ∧ (x.length ≤ maxLen ∧ ∀ x0_, x0_ ∈ x → ok23 x0_) := by
    obtain ⟨fuel, hf⟩ := h0
    exact opens42.2 _ _ _ _ _ _ _ _ _ hf
  obtain ⟨A0, c0, e0, g0, hr0⟩ := K0
  simp only [List.cons.injEq, Value.slice.injEq, and_true] at e0
  obtain ⟨rfl, rfl, rfl⟩ := e0
  clear hA0 hval0
  obtain ⟨k, hp⟩ := Pure.UnitSums l0 ok0
  have hG : GI W := GI.of_laid laidL (by simp [laidL]) (by simp [laidL]) (by simp [laidL]) hL hsh
  refine (spilelaw03_UnitSums.calls k _ _ l0 true W hr0 g0 hG rfl hp).mono fun e W' ⟨he, bel⟩ => ?_
  subst he
  exact ⟨_, rfl, _, _, _, [], _, [], hW', trodAll_mk1 (shut_bool Tryd.underlying4 _), (trodAll_cons_mk (Below.trod laidOut (by kernel_rfl) (of_decide_eq_true (by kernel_rfl)) k0 bel lt0) trodAll_mk0), rfl, bel.frame _, fun h => by cases h⟩
theorem holds : Rows.UnitSumsSaid :=
  OpenClaim.holds_of_wide 7 Tryd.f7 rfl rfl rfl rfl rfl rfl rfl ⟨rfl, rfl, rfl, rfl, rfl⟩ rfl rfl rfl rfl rfl (by kernel_rfl) Tryd.func7 (by kernel_rfl)
    (of_decide_eq_true (by kernel_rfl)) (by unfold Func.isWrapper; first | (rw [if_pos (by decide +kernel)]; kernel_rfl) | (rw [if_neg (by decide +kernel)]; exact ⟨rfl, rfl⟩))
    (fun os started H enc _ => lifted os started H enc)
theorem card : Rows.UnitSumsCardSaid :=
  Claim7.holds_tied_plain_at .later [] [.data, .data, .data, .data, .sentinel, .sentinel, .pinned] true (true, "276fe12706730ef75e144c1b8015c43b64ad7a3e181f65b1d21f8f3c42191b50") true
    holds (fun _ h => by cases h) (by kernel_rfl) (fun _ h => by cases h) unitSums_row_tie rfl ⟨rfl, rfl⟩ (by kernel_rfl) rfl
    (fun f fn hf hfn => by
      obtain rfl : f = 7 := Option.some.inj ((show Tryd.prog.funcNamed "spile/spilelaw03.UnitSums" = some 7 by kernel_rfl).symm.trans hf) |>.symm
      obtain rfl : fn = Tryd.f7 := (Option.some.inj (Tryd.func7.symm.trans hfn)).symm
      exact ⟨by kernel_rfl, fun j t ht => by
        rw [Tryd.params7] at ht
        have hm : t ∈ [42] := by simpa using Array.mem_of_getElem? ht
        have hall : ([42].all fun u => !Tryd.prog.wantsStandIn u) = true := by kernel_rfl
        exact (show Tryd.prog.wantsStandIn t = false by simpa using List.all_eq_true.1 hall t hm)⟩)
    (by kernel_rfl)
end Go.Proofs.YtmjglehdckgcnaaDoor.unitSums
namespace Go.Proofs.YtmjglehdckgcnaaDoor
/-- The card, under a short name, for the claim. -/
theorem unitSums_holds : Rows.UnitSumsCardSaid := unitSums.card
#print axioms unitSums_holds
end Go.Proofs.YtmjglehdckgcnaaDoor
